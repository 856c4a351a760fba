/- Heads out of bytes: the document's walk. -/
import Derived.Test.YtnjhcnefgeodcaaDoorWFrmM
namespace Go.Proofs.YtnjhcnefgeodcaaDoor
set_option linter.unusedVariables false
set_option linter.unusedSimpArgs false
open Go.RowKit
attribute [local irreducible] num secsN nval crcSum ofL Lib.trimB be headL sumL putH hsecL

section
variable {H : AH} {R : AEnd → AH → Prop}
set_option maxRecDepth 20000 in
set_option maxHeartbeats 1000000 in
theorem rgeth_call (s : ByteArray) (hs : s.size ≤ 140737488355328) (h : ∀ H', Fr [] H H' → R (.ret (.tuple #[.agg (hvC (getH s).1).toArray, .bool (getH s).2])) H') : ACall Tryd.prog 17 [.string s] H R := by
  apply f17_call
  unfold f17_B
  have hz : getH s = (zeroH, false) → ∀ H', Fr [] H H' → R (.ret (.tuple #[.agg #[.int .u32 0, .int .u32 0, .int .u32 0, .int .u64 0], .bool false])) H' := fun he => by rw [he] at h; exact h
  have hv : getH s = (hOf s, true) → ∀ H', Fr [] H H' → R (.ret (.tuple #[.agg #[.int .u32 ((num s 5 9 : Nat) : Int), .int .u32 ((num s 9 13 : Nat) : Int), .int .u32 ((num s 13 17 : Nat) : Int), .int .u64 ((num s 17 25 : Nat) : Int)], .bool true])) H' := fun he => by rw [he] at h; exact h
  clear h
  refine wNew_at ?_
  have st : Sg H H.next [] (H.push (.row zhC 0)) := ⟨Has.new _ _, Nat.le_refl _, (Fr.refl [] H).push _, fun q hq => by cases hq⟩
  generalize H.push (.row zhC 0) = H1 at st ⊢
  generalize H.next = o at st ⊢
  refine wIf_n (fun c1 => ?_) (fun c1 => ?_)
  · exact sz_out st.1 rfl st.2.1 st.2.2.1 (hz (getH_size s (by omega)))
  · have g1 : s.size = 64 := by omega
    refine wSlS_at (by omega) (by omega) (by omega) (wSlS_at (by omega) (by omega) (by omega) (wSlS_at (by omega) (by omega) (by omega) (wSlS_at (by omega) (by omega) (by omega) ?_)))
    have y1 : nval (s.extract (Int.toNat 5) (Int.toNat 9)).data.toList = num s 5 9 := num_def s 5 9
    have y2 : nval (s.extract (Int.toNat 9) (Int.toNat 13)).data.toList = num s 9 13 := num_def s 9 13
    have y3 : nval (s.extract (Int.toNat 13) (Int.toNat 17)).data.toList = num s 13 17 := num_def s 13 17
    have y4 : nval (s.extract (Int.toNat 17) (Int.toNat 25)).data.toList = num s 17 25 := num_def s 17 25
    have z1 : (s.extract (Int.toNat 5) (Int.toNat 9)).size ≤ 8 := by rw [ByteArray.size_extract]; omega
    have z2 : (s.extract (Int.toNat 9) (Int.toNat 13)).size ≤ 8 := by rw [ByteArray.size_extract]; omega
    have z3 : (s.extract (Int.toNat 13) (Int.toNat 17)).size ≤ 8 := by rw [ByteArray.size_extract]; omega
    have z4 : (s.extract (Int.toNat 17) (Int.toNat 25)).size ≤ 8 := by rw [ByteArray.size_extract]; omega
    have n1 := num32 s 5 9 (by omega)
    have n2 := num32 s 9 13 (by omega)
    have n3 := num32 s 13 17 (by omega)
    have hfit := hOf_fits s
    have hpO : okH (hOf s) → putH (hOf s) = (ofL (hsecL (hOf s)), 0) := fun ok => by unfold putH; rw [if_pos ok]
    have hpN : ¬ okH (hOf s) → putH (hOf s) = (⟨#[]⟩, 2) := fun ok => by unfold putH; rw [if_neg ok]
    have hN : ¬ okH (hOf s) → getH s = (zeroH, false) := fun ok => by
      by_cases hb : hBad s
      · exact getH_bad s g1 hb
      · exact getH_not s g1 hb ok
    have hbi := bad_iff s g1
    repeat' (first
      | (with_reducible refine And.intro ?_ ?_)
      | ((with_reducible refine sg_val (by assumption) ?zza (fun _ _ => ?_)); (case zza => assumption))
      | (with_reducible refine sg_new (by assumption) (fun _ _ _ => ?_))
      | (rw [y1, y2, y3, y4, n1, n2, n3]; with_reducible refine sg_st (by assumption) (fun _ _ => ?_)))
    all_goals
      rename_i H4 sz
      obtain ⟨x1, x2, x3, x4, x5, x6⟩ := sz
      rw [f17_J0_eq]
      unfold f17_J0_B
      refine ldh_at x4 (wCall_of (rputh_call (hOf s) hfit (fun H5 f5 => opT_at rfl (opS_at (opI_at ?_)))))
      have x1 := x1.fr f5 (by simp)
      have x4 := x4.fr f5 (by simp)
      have x3 := x3.trans f5
      by_cases ok : okH (hOf s)
      · rw [hpO ok]
        refine wIf_n (fun c2 => absurd rfl c2) (fun c2 => ?_)
        rw [f17_J1_eq]
        unfold f17_J1_B
        refine wIf_n (fun c3 => ?_) (fun c3 => ?_)
        · exact wPt_at (sz_out x1 rfl x2 x3 (hz (getH_bad s g1 (Decidable.byContradiction fun e => c3 (hbi.2 e)))))
        · rw [f17_J2_eq]
          unfold f17_J2_B
          exact ldh_at x4 (wPt_at (sz_out x1 rfl x2 x3 (hv (getH_good s g1 (hbi.1 c3) ok))))
      · rw [hpN ok]
        refine wIf_n (fun c2 => ?_) (fun c2 => absurd (show (2 : Int) = 0 from c2) (by omega))
        rw [f17_J1_eq]
        unfold f17_J1_B
        exact wIf_t rfl (wPt_at (sz_out x1 rfl x2 x3 (hz (hN ok))))
end
end Go.Proofs.YtnjhcnefgeodcaaDoor
