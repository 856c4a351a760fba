/- From a call of the abstract memory to the machine's call, for arguments without addresses. -/
import Derived.Test.YtfghglacfjncmaaWAbsL
namespace Go.Proofs.Ytfghglacfjncmaa
set_option linter.unusedVariables false
set_option linter.unusedSimpArgs false
open Go.RowKit

abbrev AllTrue : AEnd → AH → Prop := fun e _ => e = .ret (.bool true)
def AH0 : AH := ⟨0, fun _ => none, fun _ => none⟩
def mu0 : Mu := fun _ => none
theorem rel0 (w : World) : Rel w.heap.size w mu0 AH0 w :=
  ⟨Below.refl _ _, Nat.le_refl _, fun i p h => by simp [mu0] at h, fun i o h => by simp [AH0] at h, fun i j o o' p q _ h => by simp [AH0] at h, fun i x h => by simp [AH0] at h⟩
theorem calls_of {P : Program} {f : FuncId} {args : List Value} {cargs : Array Value} {H : AH} {μ : Mu} {w : World} (hr : Rel w.heap.size w μ H w) (ha : LR μ args cargs) (h : ACall P f args H AllTrue) :
    Calls P f cargs w fun e w' => e = .returned (.bool true) ∧ Below w.heap.size w w' := by
  refine (h w.heap.size w μ w cargs hr ha).mono ?_
  rintro e w' ⟨e', H', μ', rfl, h2, h3, h4⟩
  cases e with
  | returned v => cases h4; exact ⟨rfl, h3.below⟩
  | panicked ch => exact h4.elim
  | outgrown => exact h4.elim
end Go.Proofs.Ytfghglacfjncmaa
