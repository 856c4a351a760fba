/- The statements on checksums, each as what the call comes to. -/
import Derived.Test.YtmidgfmopmpppaaCrcW
import Derived.Test.YtmidgfmopmpppaaAbsR
namespace Go.Proofs.Ytmidgfmopmpppaa
set_option linter.unusedVariables false
set_option linter.unusedSimpArgs false
open Go.RowKit

theorem crcSums_law (s : ByteArray) (hs : s.size ≤ 140737488351232) (H : AH) : ACall Try.prog 3 [str s] H AllTrue := by
  apply f3_call
  unfold f3_B
  refine aCall_of (by kernel_rfl) (awake_call _ _ fun H1 => ?_)
  simp only [str, aUn, Bool.not_true, aIf_true, aIf_false, aBuiltin, aLen, und9, true_and, bi_gtr, aIf_dec]
  by_cases hl : (s.size : Int) > 20000
  · rw [if_pos hl]
    exact aCall_of (by kernel_rfl) (awake_call _ _ fun H2 => rfl)
  · rw [if_neg hl]
    refine aCall_of (by kernel_rfl) (awake_call _ _ fun H2 => ?_)
    refine aCall_of (by kernel_rfl) (sum_call s (by omega) _ _ (aCall_of (by kernel_rfl) (refSum_call s (by omega) _ _ ?_)))
    simp only [eq_u32, decide_true]

theorem crcMoves_law (a b : BitVec 32) (n : Int) (hn : n ≤ 9223372036854775807) (H : AH) : ACall Try.prog 4 [u32 a, u32 b, i64 n] H AllTrue := by
  apply f4_call
  unfold f4_B
  refine aCall_of (by kernel_rfl) (awake_call _ _ fun H1 => ?_)
  simp only [aUn, Bool.not_true, aIf_true, aIf_false, i64, bi_gtr, aIf_dec]
  by_cases hl : n > 20000
  · rw [if_pos hl]
    exact aCall_of (by kernel_rfl) (awake_call _ _ fun H2 => rfl)
  · rw [if_neg hl]
    refine aCall_of (by kernel_rfl) (awake_call _ _ fun H2 => ?_)
    refine aCall_of (by kernel_rfl) (join_call a b n hn _ _ (aCall_of (by kernel_rfl) (refJoin_call a b n hn _ _ ?_)))
    simp only [eq_u32, decide_true]

theorem crcJoins_law (s t : ByteArray) (hs : s.size ≤ 140737488351232) (ht : t.size ≤ 140737488351232) (H : AH) : ACall Try.prog 5 [str s, str t] H AllTrue := by
  apply f5_call
  unfold f5_B
  refine aCall_of (by kernel_rfl) (awake_call _ _ fun H1 => ?_)
  simp only [str, aUn, Bool.not_true, aIf_true, aIf_false, aBuiltin, aLen, und9, true_and, bi_gtr, aIf_dec]
  by_cases hl : (s.size : Int) > 20000
  · rw [if_pos hl]
    exact aCall_of (by kernel_rfl) (awake_call _ _ fun H2 => rfl)
  · rw [if_neg hl]
    by_cases hl2 : (t.size : Int) > 20000
    · rw [if_pos hl2]
      exact aCall_of (by kernel_rfl) (awake_call _ _ fun H2 => rfl)
    · rw [if_neg hl2]
      refine aCall_of (by kernel_rfl) (awake_call _ _ fun H2 => ?_)
      refine aCall_of (by kernel_rfl) (sum_call s (by omega) _ _ (aCall_of (by kernel_rfl) (sum_call t (by omega) _ _ ?_)))
      refine aCall_of (by kernel_rfl) (join_call _ _ _ (by omega) _ _ ?_)
      dsimp only
      rw [bs_add s t (by omega)]
      refine aCall_of (by kernel_rfl) (sum_call (s ++ t) (by rw [ByteArray.size_append]; omega) _ _ ?_)
      simp only [eq_u32, sum_join, decide_true]

theorem and_mask (n : Int) (c : Nat) (hc : c < 9223372036854775808) {t : TypeId} : ∃ m : Nat, m ≤ c ∧ ∀ K : Value → Prop, aBin Try.prog .and t (.int .i64 n) (.int .i64 c) K = K (.int .i64 m) := by
  refine ⟨(BitVec.ofInt 64 n &&& BitVec.ofInt 64 (c : Int)).toNat, ?_, fun K => ?_⟩
  · rw [BitVec.toNat_and]
    refine Nat.le_trans Nat.and_le_right ?_
    rw [BitVec.ofInt_natCast, BitVec.toNat_ofNat]
    exact Nat.mod_le _ _
  · show (IntKind.i64 = IntKind.i64 ∧ K (.int .i64 (IntKind.i64.wrap ((BitVec.ofInt 64 n &&& BitVec.ofInt 64 (c : Int)).toNat : Int)))) = _
    have hle : (BitVec.ofInt 64 n &&& BitVec.ofInt 64 (c : Int)).toNat ≤ c := by
      rw [BitVec.toNat_and]
      refine Nat.le_trans Nat.and_le_right ?_
      rw [BitVec.ofInt_natCast, BitVec.toNat_ofNat]
      exact Nat.mod_le _ _
    rw [wrap_i64 _ (by omega) (by omega)]
    simp

theorem crcFar_law (a : BitVec 32) (m n : Int) (H : AH) : ACall Try.prog 6 [u32 a, i64 m, i64 n] H AllTrue := by
  apply f6_call
  unfold f6_B
  refine aCall_of (by kernel_rfl) (awake_call _ _ fun H1 => ?_)
  simp only [aUn, Bool.not_true, aIf_true, aIf_false, i64]
  obtain ⟨m', hm, hm2⟩ := and_mask m 2305843009213693951 (by omega) (t := 3)
  obtain ⟨n', hn, hn2⟩ := and_mask n 2305843009213693951 (by omega) (t := 3)
  have c0 : Value.int .u32 0 = u32 0#32 := rfl
  rw [c0]
  refine (hm2 _).mpr ((hn2 _).mpr ?_)
  refine aCall_of (by kernel_rfl) (awake_call _ _ fun H2 => ?_)
  simp only [aIf_true]
  refine aCall_of (by kernel_rfl) (join_call a 0#32 m' (by omega) _ _ (aCall_of (by kernel_rfl) (join_call _ 0#32 n' (by omega) _ _ ?_)))
  dsimp only
  rw [bi_add, wrap_i64 _ (by omega) (by omega)]
  refine aCall_of (by kernel_rfl) (join_call a 0#32 (m' + n') (by omega) _ _ ?_)
  simp only [eq_u32]
  rw [join_far _ _ _ (by omega) (by omega)]
  simp only [decide_true]

theorem crcNests_law (a b c : BitVec 32) (m n : Int) (H : AH) : ACall Try.prog 8 [u32 a, u32 b, u32 c, i64 m, i64 n] H AllTrue := by
  apply f8_call
  unfold f8_B
  refine aCall_of (by kernel_rfl) (awake_call _ _ fun H1 => ?_)
  simp only [aUn, Bool.not_true, aIf_true, aIf_false, i64]
  obtain ⟨m', hm, hm2⟩ := and_mask m 1152921504606846975 (by omega) (t := 3)
  obtain ⟨n', hn, hn2⟩ := and_mask n 1152921504606846975 (by omega) (t := 3)
  have c0 : Value.int .u32 0 = u32 0#32 := rfl
  rw [c0]
  refine (hm2 _).mpr ((hn2 _).mpr ?_)
  refine aCall_of (by kernel_rfl) (awake_call _ _ fun H2 => ?_)
  simp only [aIf_true]
  refine aCall_of (by kernel_rfl) (join_call a b m' (by omega) _ _ (aCall_of (by kernel_rfl) (join_call _ c n' (by omega) _ _ ?_)))
  refine aCall_of (by kernel_rfl) (join_call b c n' (by omega) _ _ ?_)
  dsimp only
  rw [bi_add, wrap_i64 _ (by omega) (by omega)]
  refine aCall_of (by kernel_rfl) (join_call a _ (m' + n') (by omega) _ _ ?_)
  simp only [eq_u32, aIf_dec]
  rw [if_pos (join_nest a b c m' n' (by omega) (by omega))]
  refine aCall_of (by kernel_rfl) (join_call a 0#32 0 (by omega) _ _ ?_)
  simp only [eq_u32, aIf_dec]
  rw [if_pos (join_none a)]
  refine aCall_of (by kernel_rfl) (join_call 0#32 a m' (by omega) _ _ ?_)
  simp only [eq_u32, join_zero, decide_true]

theorem crcSums_walk (a0 : ByteArray) (w0 : a0.size ≤ 140737488351232) (w : World) : Calls Try.prog 3 #[.string a0] w fun e w' => e = .returned (.bool true) ∧ Below w.heap.size w w' :=
  calls_plain w (by rfl) (crcSums_law a0 w0 AH0)
theorem crcMoves_walk (a0 : Int) (w0 : (Lit.int .u32 a0).wf = true) (a1 : Int) (w1 : (Lit.int .u32 a1).wf = true) (a2 : Int) (w2 : (Lit.int .i64 a2).wf = true) (w : World) :
    Calls Try.prog 4 #[.int .u32 a0, .int .u32 a1, .int .i64 a2] w fun e w' => e = .returned (.bool true) ∧ Below w.heap.size w w' := by
  obtain ⟨b0, rfl⟩ := wf_u32 w0
  obtain ⟨b1, rfl⟩ := wf_u32 w1
  exact calls_plain w (by rfl) (crcMoves_law b0 b1 a2 (wf_i64 w2).2 AH0)
theorem crcJoins_walk (a0 : ByteArray) (w0 : a0.size ≤ 140737488351232) (a1 : ByteArray) (w1 : a1.size ≤ 140737488351232) (w : World) :
    Calls Try.prog 5 #[.string a0, .string a1] w fun e w' => e = .returned (.bool true) ∧ Below w.heap.size w w' :=
  calls_plain w (by rfl) (crcJoins_law a0 a1 w0 w1 AH0)
theorem crcFar_walk (a0 : Int) (w0 : (Lit.int .u32 a0).wf = true) (a1 : Int) (w1 : (Lit.int .i64 a1).wf = true) (a2 : Int) (w2 : (Lit.int .i64 a2).wf = true) (w : World) :
    Calls Try.prog 6 #[.int .u32 a0, .int .i64 a1, .int .i64 a2] w fun e w' => e = .returned (.bool true) ∧ Below w.heap.size w w' := by
  obtain ⟨b0, rfl⟩ := wf_u32 w0
  exact calls_plain w (by rfl) (crcFar_law b0 a1 a2 AH0)
theorem crcNests_walk (a0 : Int) (w0 : (Lit.int .u32 a0).wf = true) (a1 : Int) (w1 : (Lit.int .u32 a1).wf = true) (a2 : Int) (w2 : (Lit.int .u32 a2).wf = true) (a3 : Int) (w3 : (Lit.int .i64 a3).wf = true) (a4 : Int) (w4 : (Lit.int .i64 a4).wf = true) (w : World) :
    Calls Try.prog 8 #[.int .u32 a0, .int .u32 a1, .int .u32 a2, .int .i64 a3, .int .i64 a4] w fun e w' => e = .returned (.bool true) ∧ Below w.heap.size w w' := by
  obtain ⟨b0, rfl⟩ := wf_u32 w0
  obtain ⟨b1, rfl⟩ := wf_u32 w1
  obtain ⟨b2, rfl⟩ := wf_u32 w2
  exact calls_plain w (by rfl) (crcNests_law b0 b1 b2 a3 a4 AH0)

end Go.Proofs.Ytmidgfmopmpppaa
