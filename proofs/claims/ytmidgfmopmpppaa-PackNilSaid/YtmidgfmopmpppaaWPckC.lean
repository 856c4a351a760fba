/- A reader that is none: what each call tells, and the statement. -/
import Derived.Test.YtmidgfmopmpppaaWPckB
import Derived.Test.YtmidgfmopmpppaaWGenN
import Derived.Test.YtmidgfmopmpppaaWAbsR
namespace Go.Proofs.Ytmidgfmopmpppaa
set_option linter.unusedVariables false
set_option linter.unusedSimpArgs false
open Go.RowKit

section
variable {H : AH} {R : AEnd → AH → Prop}
theorem rnumber_nil (h : R (.ret (.int .i64 0)) H) : ACall Try.prog 29 [.pointer none] H R := by
  apply f29_call
  unfold f29_B
  refine wCall_of (rcount_nil (opI_at ?_))
  exact h
theorem byte_nil (h : R (.ret (.int .i64 0)) H) : ACall Try.prog 37 [.pointer none] H R := by
  apply f37_call
  unfold f37_B
  exact wCall_of (off_nil (opB_at (wIf_t rfl h)))
theorem small_nil (m : Int) (h : R (.ret (.int .i64 0)) H) : ACall Try.prog 36 [.pointer none, .int .i64 m] H R := by
  apply f36_call
  unfold f36_B
  exact wCall_of (off_nil (opB_at (wIf_t rfl h)))
theorem rtext_nil (m : Int) (h : R (.ret (.string ⟨#[]⟩)) H) : ACall Try.prog 30 [.pointer none, .int .i64 m] H R := by
  apply f30_call
  unfold f30_B
  exact wCall_of (off_nil (opB_at (wIf_t rfl h)))
theorem rtruth_nil (h : R (.ret (.bool false)) H) : ACall Try.prog 34 [.pointer none] H R := by
  apply f34_call
  unfold f34_B
  refine wCall_of (off_nil (opB_at (wIf_f rfl ?_)))
  rw [f34_J0_eq]
  unfold f34_J0_B
  refine wIf_f rfl ?_
  rw [f34_J1_eq]
  unfold f34_J1_B
  exact wCall_of (byte_nil (opI_at h))
theorem end_nil (h : R (.ret (.int .i64 1)) H) : ACall Try.prog 35 [.pointer none] H R := by
  apply f35_call
  unfold f35_B
  refine wCall_of (bad_nil (opI_at (wIf_nt (by omega) ?_)))
  rw [f35_J0_eq]
  unfold f35_J0_B
  exact wIf_t rfl h
set_option maxRecDepth 20000 in
theorem packNil_law (H : AH) : ACall Try.prog 13 [] H AllTrue := by
  apply f13_call
  unfold f13_B
  refine wCall_of (pawake_call (fun H1 _ => opB_at (wIf_f rfl ?_)))
  refine wCall_of (pawake_call (fun H2 _ => opB_at (wIf_t rfl ?_)))
  refine wCall_of (rcount_nil (opI_at (wIf_dt rfl ?_)))
  refine wCall_of (rnumber_nil (opI_at (wIf_dt rfl ?_)))
  refine wCall_of (rtruth_nil (opB_at (wIf_t rfl ?_)))
  refine wCall_of (rtext_nil _ (opS_at (wIf_dt rfl ?_)))
  refine wCall_of (small_nil _ (opI_at (wIf_dt rfl ?_)))
  refine wCall_of (byte_nil (opI_at (wIf_dt rfl ?_)))
  refine wCall_of (bad_nil (opI_at (wIf_dt rfl ?_)))
  refine wCall_of (end_nil (opI_at (wIf_dt rfl ?_)))
  refine wCall_of (left_nil (opI_at ?_))
  rfl
theorem packNil_walk (w : World) : Calls Try.prog 13 #[] w fun e w' => e = .returned (.bool true) ∧ Below w.heap.size w w' :=
  calls_plain w (by rfl) (packNil_law AH0)
end
end Go.Proofs.Ytmidgfmopmpppaa
