/- From a call of the abstract memory to the machine's call, for arguments without addresses. -/
import Derived.Test.YtfghglacfjncmaaWAbsL
namespace Go.Proofs.Ytfghglacfjncmaa
set_option linter.unusedVariables false
set_option linter.unusedSimpArgs false
open Go.RowKit

abbrev AllTrue : AEnd → AH → Prop := fun e _ => e = .ret (.bool true)
def AH0 : AH := ⟨0, fun _ => none, fun _ => none⟩
def mu0 : Mu := fun _ => none
theorem rel0 (w : World) : Rel w.heap.size w mu0 AH0 w :=
  ⟨Below.refl _ _, Nat.le_refl _, fun i p h => by simp [mu0] at h, fun i o h => by simp [AH0] at h, fun i j o o' p q _ h => by simp [AH0] at h, fun i x h => by simp [AH0] at h⟩
theorem lr_plain {μ : Mu} (l : List Value) (h : (l.all plainV) = true) : LR μ l l.toArray :=
  ⟨by simp, fun j v hj => ⟨v, by simpa using hj, VR.plain (List.all_eq_true.1 h v (List.mem_of_getElem? hj))⟩⟩
theorem calls_of {P : Program} {f : FuncId} {args : List Value} {cargs : Array Value} {H : AH} {μ : Mu} {w : World} (hr : Rel w.heap.size w μ H w) (ha : LR μ args cargs) (h : ACall P f args H AllTrue) :
    Calls P f cargs w fun e w' => e = .returned (.bool true) ∧ Below w.heap.size w w' := by
  refine (h w.heap.size w μ w cargs hr ha).mono ?_
  rintro e w' ⟨e', H', μ', rfl, h2, h3, h4⟩
  cases e with
  | returned v => cases h4; exact ⟨rfl, h3.below⟩
  | panicked ch => exact h4.elim
  | outgrown => exact h4.elim
theorem calls_plain {P : Program} {f : FuncId} {args : List Value} (w : World) (hp : (args.all plainV) = true) (h : ACall P f args AH0 AllTrue) :
    Calls P f args.toArray w fun e w' => e = .returned (.bool true) ∧ Below w.heap.size w w' :=
  calls_of (rel0 w) (lr_plain args hp) h

theorem wf_u32 {n : Int} (h : (Lit.int .u32 n).wf = true) : ∃ b : BitVec 32, n = b.toNat := by
  have h' : 0 ≤ n ∧ n ≤ 4294967295 := by simpa [Lit.wf, IntKind.min, IntKind.max, IntKind.signed, IntKind.bits] using h
  refine ⟨BitVec.ofNat 32 n.toNat, ?_⟩
  rw [BitVec.toNat_ofNat]
  omega
theorem wf_u64 {n : Int} (h : (Lit.int .u64 n).wf = true) : ∃ b : BitVec 64, n = b.toNat := by
  have h' : 0 ≤ n ∧ n ≤ 18446744073709551615 := by simpa [Lit.wf, IntKind.min, IntKind.max, IntKind.signed, IntKind.bits] using h
  refine ⟨BitVec.ofNat 64 n.toNat, ?_⟩
  rw [BitVec.toNat_ofNat]
  omega
theorem wf_i64 {n : Int} (h : (Lit.int .i64 n).wf = true) : -9223372036854775808 ≤ n ∧ n ≤ 9223372036854775807 := by
  simpa [Lit.wf, IntKind.min, IntKind.max, IntKind.signed, IntKind.bits] using h
end Go.Proofs.Ytfghglacfjncmaa
