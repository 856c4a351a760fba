/- The statement of a reader that is none. -/
import Derived.Test.YtmidgfmopmpppaaVPackS
import Derived.Test.YtmidgfmopmpppaaVGenE
import Derived.Test.YtmidgfmopmpppaaVAbsR
namespace Go.Proofs.Ytmidgfmopmpppaa
set_option linter.unusedVariables false
set_option linter.unusedSimpArgs false
open Go.RowKit

theorem packNil_law (H : AH) : ACall Try.prog 13 [] H AllTrue := by
  apply f13_call
  unfold f13_B
  refine aCall_of (by kernel_rfl) (pawake_call _ _ fun H1 _ => ?_)
  dsimp only
  rw [un_not, Bool.not_true, aIf_false]
  refine aCall_of (by kernel_rfl) (pawake_call _ _ fun H2 _ => ?_)
  dsimp only
  rw [aIf_true]
  refine aCall_of (by kernel_rfl) (rcount_nil _ _ ?_)
  dsimp only
  rw [bi_eql, dec_self, aIf_true]
  refine aCall_of (by kernel_rfl) (rnumber_nil _ _ ?_)
  dsimp only
  rw [bi_eql, dec_self, aIf_true]
  refine aCall_of (by kernel_rfl) (rtruth_nil _ _ ?_)
  dsimp only
  rw [un_not, Bool.not_false, aIf_true]
  refine aCall_of (by kernel_rfl) (rtext_nil _ _ _ ?_)
  dsimp only
  rw [bs_eql, dec_self, aIf_true]
  refine aCall_of (by kernel_rfl) (small_nil _ _ _ ?_)
  dsimp only
  rw [bi_eql, dec_self, aIf_true]
  refine aCall_of (by kernel_rfl) (byte_nil _ _ ?_)
  dsimp only
  rw [bi_eql, dec_self, aIf_true]
  refine aCall_of (by kernel_rfl) (bad_nil _ _ ?_)
  dsimp only
  rw [bi_eql, dec_self, aIf_true]
  refine aCall_of (by kernel_rfl) (end_nil _ _ ?_)
  dsimp only
  rw [bi_eql, dec_self, aIf_true]
  refine aCall_of (by kernel_rfl) (left_nil _ _ ?_)
  dsimp only
  rw [bi_eql, dec_self]

theorem packNil_walk (w : World) : Calls Try.prog 13 #[] w fun e w' => e = .returned (.bool true) ∧ Below w.heap.size w w' :=
  calls_plain w (by rfl) (packNil_law AH0)
end Go.Proofs.Ytmidgfmopmpppaa
