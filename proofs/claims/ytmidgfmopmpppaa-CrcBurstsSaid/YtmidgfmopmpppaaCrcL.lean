/- The statements on checksums, each as what the call comes to. -/
import Derived.Test.YtmidgfmopmpppaaCrcW
import Derived.Test.YtmidgfmopmpppaaAbsR
namespace Go.Proofs.Ytmidgfmopmpppaa
set_option linter.unusedVariables false
set_option linter.unusedSimpArgs false
open Go.RowKit

theorem crcSums_law (s : ByteArray) (hs : s.size ≤ 140737488351232) (H : AH) : ACall Try.prog 3 [str s] H AllTrue := by
  apply f3_call
  unfold f3_B
  refine aCall_of (by kernel_rfl) (awake_call _ _ fun H1 _ => ?_)
  simp only [str, aUn, Bool.not_true, aIf_true, aIf_false, aBuiltin, aLen, und9, true_and, bi_gtr, aIf_dec]
  by_cases hl : (s.size : Int) > 20000
  · rw [if_pos hl]
    exact aCall_of (by kernel_rfl) (awake_call _ _ fun H2 _ => rfl)
  · rw [if_neg hl]
    refine aCall_of (by kernel_rfl) (awake_call _ _ fun H2 _ => ?_)
    refine aCall_of (by kernel_rfl) (sum_call s (by omega) _ _ (aCall_of (by kernel_rfl) (refSum_call s (by omega) _ _ ?_)))
    simp only [eq_u32, decide_true]

theorem crcMoves_law (a b : BitVec 32) (n : Int) (hn : n ≤ 9223372036854775807) (H : AH) : ACall Try.prog 4 [u32 a, u32 b, i64 n] H AllTrue := by
  apply f4_call
  unfold f4_B
  refine aCall_of (by kernel_rfl) (awake_call _ _ fun H1 _ => ?_)
  simp only [aUn, Bool.not_true, aIf_true, aIf_false, i64, bi_gtr, aIf_dec]
  by_cases hl : n > 20000
  · rw [if_pos hl]
    exact aCall_of (by kernel_rfl) (awake_call _ _ fun H2 _ => rfl)
  · rw [if_neg hl]
    refine aCall_of (by kernel_rfl) (awake_call _ _ fun H2 _ => ?_)
    refine aCall_of (by kernel_rfl) (join_call a b n hn _ _ (aCall_of (by kernel_rfl) (refJoin_call a b n hn _ _ ?_)))
    simp only [eq_u32, decide_true]

theorem crcJoins_law (s t : ByteArray) (hs : s.size ≤ 140737488351232) (ht : t.size ≤ 140737488351232) (H : AH) : ACall Try.prog 5 [str s, str t] H AllTrue := by
  apply f5_call
  unfold f5_B
  refine aCall_of (by kernel_rfl) (awake_call _ _ fun H1 _ => ?_)
  simp only [str, aUn, Bool.not_true, aIf_true, aIf_false, aBuiltin, aLen, und9, true_and, bi_gtr, aIf_dec]
  by_cases hl : (s.size : Int) > 20000
  · rw [if_pos hl]
    exact aCall_of (by kernel_rfl) (awake_call _ _ fun H2 _ => rfl)
  · rw [if_neg hl]
    by_cases hl2 : (t.size : Int) > 20000
    · rw [if_pos hl2]
      exact aCall_of (by kernel_rfl) (awake_call _ _ fun H2 _ => rfl)
    · rw [if_neg hl2]
      refine aCall_of (by kernel_rfl) (awake_call _ _ fun H2 _ => ?_)
      refine aCall_of (by kernel_rfl) (sum_call s (by omega) _ _ (aCall_of (by kernel_rfl) (sum_call t (by omega) _ _ ?_)))
      refine aCall_of (by kernel_rfl) (join_call _ _ _ (by omega) _ _ ?_)
      dsimp only
      rw [bs_add s t (by omega)]
      refine aCall_of (by kernel_rfl) (sum_call (s ++ t) (by rw [ByteArray.size_append]; omega) _ _ ?_)
      simp only [eq_u32, sum_join, decide_true]

theorem and_mask (n : Int) (c : Nat) (hc : c < 9223372036854775808) {t : TypeId} : ∃ m : Nat, m ≤ c ∧ ∀ K : Value → Prop, aBin Try.prog .and t (.int .i64 n) (.int .i64 c) K = K (.int .i64 m) := by
  refine ⟨(BitVec.ofInt 64 n &&& BitVec.ofInt 64 (c : Int)).toNat, ?_, fun K => ?_⟩
  · rw [BitVec.toNat_and]
    refine Nat.le_trans Nat.and_le_right ?_
    rw [BitVec.ofInt_natCast, BitVec.toNat_ofNat]
    exact Nat.mod_le _ _
  · show (IntKind.i64 = IntKind.i64 ∧ K (.int .i64 (IntKind.i64.wrap ((BitVec.ofInt 64 n &&& BitVec.ofInt 64 (c : Int)).toNat : Int)))) = _
    have hle : (BitVec.ofInt 64 n &&& BitVec.ofInt 64 (c : Int)).toNat ≤ c := by
      rw [BitVec.toNat_and]
      refine Nat.le_trans Nat.and_le_right ?_
      rw [BitVec.ofInt_natCast, BitVec.toNat_ofNat]
      exact Nat.mod_le _ _
    rw [wrap_i64 _ (by omega) (by omega)]
    simp

theorem crcFar_law (a : BitVec 32) (m n : Int) (H : AH) : ACall Try.prog 6 [u32 a, i64 m, i64 n] H AllTrue := by
  apply f6_call
  unfold f6_B
  refine aCall_of (by kernel_rfl) (awake_call _ _ fun H1 _ => ?_)
  simp only [aUn, Bool.not_true, aIf_true, aIf_false, i64]
  obtain ⟨m', hm, hm2⟩ := and_mask m 2305843009213693951 (by omega) (t := 3)
  obtain ⟨n', hn, hn2⟩ := and_mask n 2305843009213693951 (by omega) (t := 3)
  have c0 : Value.int .u32 0 = u32 0#32 := rfl
  rw [c0]
  refine (hm2 _).mpr ((hn2 _).mpr ?_)
  refine aCall_of (by kernel_rfl) (awake_call _ _ fun H2 _ => ?_)
  simp only [aIf_true]
  refine aCall_of (by kernel_rfl) (join_call a 0#32 m' (by omega) _ _ (aCall_of (by kernel_rfl) (join_call _ 0#32 n' (by omega) _ _ ?_)))
  dsimp only
  rw [bi_add, wrap_i64 _ (by omega) (by omega)]
  refine aCall_of (by kernel_rfl) (join_call a 0#32 (m' + n') (by omega) _ _ ?_)
  simp only [eq_u32]
  rw [join_far _ _ _ (by omega) (by omega)]
  simp only [decide_true]

theorem crcNests_law (a b c : BitVec 32) (m n : Int) (H : AH) : ACall Try.prog 8 [u32 a, u32 b, u32 c, i64 m, i64 n] H AllTrue := by
  apply f8_call
  unfold f8_B
  refine aCall_of (by kernel_rfl) (awake_call _ _ fun H1 _ => ?_)
  simp only [aUn, Bool.not_true, aIf_true, aIf_false, i64]
  obtain ⟨m', hm, hm2⟩ := and_mask m 1152921504606846975 (by omega) (t := 3)
  obtain ⟨n', hn, hn2⟩ := and_mask n 1152921504606846975 (by omega) (t := 3)
  have c0 : Value.int .u32 0 = u32 0#32 := rfl
  rw [c0]
  refine (hm2 _).mpr ((hn2 _).mpr ?_)
  refine aCall_of (by kernel_rfl) (awake_call _ _ fun H2 _ => ?_)
  simp only [aIf_true]
  refine aCall_of (by kernel_rfl) (join_call a b m' (by omega) _ _ (aCall_of (by kernel_rfl) (join_call _ c n' (by omega) _ _ ?_)))
  refine aCall_of (by kernel_rfl) (join_call b c n' (by omega) _ _ ?_)
  dsimp only
  rw [bi_add, wrap_i64 _ (by omega) (by omega)]
  refine aCall_of (by kernel_rfl) (join_call a _ (m' + n') (by omega) _ _ ?_)
  simp only [eq_u32, aIf_dec]
  rw [if_pos (join_nest a b c m' n' (by omega) (by omega))]
  refine aCall_of (by kernel_rfl) (join_call a 0#32 0 (by omega) _ _ ?_)
  simp only [eq_u32, aIf_dec]
  rw [if_pos (join_none a)]
  refine aCall_of (by kernel_rfl) (join_call 0#32 a m' (by omega) _ _ ?_)
  simp only [eq_u32, join_zero, decide_true]

theorem u32_conv (x : BitVec 32) (H : AH) (K : KV) : aConvert Try.prog 23 5 (u32 x) H K = K (.int .u8 ((UInt8.ofNat (x.toNat % 256)).toNat : Int)) H := by
  show (tyOK Try.prog 23 = true ∧ (Try.prog.underlying 23).isSome = true ∧ K (.int .u8 (IntKind.u8.wrap (x.toNat : Int))) H) = _
  rw [wrapu8_eq]
  have e : (x.toNat : Int) % 256 = ((UInt8.ofNat (x.toNat % 256)).toNat : Int) := by
    rw [UInt8.toNat_ofNat']
    omega
  rw [e]
  simp

theorem eq_u32z (a : BitVec 32) (K : Value → Prop) : aBin Try.prog .eql 23 (u32 a) (.int .u32 0) K = K (.bool (decide (a = 0#32))) := eq_u32 a 0#32 K
theorem neq_u32 (a b : BitVec 32) (K : Value → Prop) : aBin Try.prog .neq 23 (u32 a) (u32 b) K = K (.bool (!decide (a = b))) := by
  show aBin Try.prog .neq 23 (.int .u32 a.toNat) (.int .u32 b.toNat) K = _
  rw [bi_neq]
  congr 3
  rw [decide_eq_decide, ← BitVec.toNat_inj]
  omega

set_option maxHeartbeats 1000000 in
theorem crcBursts_law (s : ByteArray) (hs : s.size ≤ 140737488351232) (at_ : Int) (t : BitVec 32) (H : AH) : ACall Try.prog 7 [str s, i64 at_, u32 t] H AllTrue := by
  apply f7_call
  unfold f7_B
  refine aCall_of (by kernel_rfl) (awake_call _ _ fun H1 _ => ?_)
  simp only [str, aUn, Bool.not_true, aIf_false, aBuiltin, aLen, und9, true_and, bi_gtr, bi_lss, aIf_dec]
  by_cases hl : (s.size : Int) > 20000
  · rw [if_pos hl]
    exact aCall_of (by kernel_rfl) (awake_call _ _ fun H2 _ => rfl)
  rw [if_neg hl]
  by_cases hl4 : (s.size : Int) < 4
  · rw [if_pos hl4]
    exact aCall_of (by kernel_rfl) (awake_call _ _ fun H2 _ => rfl)
  rw [if_neg hl4, eq_u32z]
  simp only [aIf_dec]
  by_cases ht : t = 0#32
  · rw [if_pos ht]
    exact aCall_of (by kernel_rfl) (awake_call _ _ fun H2 _ => rfl)
  rw [if_neg ht]
  have hlen : s.data.toList.length = s.size := by simp
  simp only [i64, aConvert, und30, und31, und9, und3, und5, ty5, ty3, ty31, Option.isSome, true_and]
  refine ⟨by omega, ?_⟩
  simp only [bi_sub]
  rw [wrap_i64 _ (by omega) (by omega), wrapu64_eq, wrapu64_eq, bi_rem _ _ _ (by omega)]
  simp only [true_and]
  generalize hk : ((at_ % 18446744073709551616).tmod (((s.size : Int) - 3) % 18446744073709551616)) = kk
  have hkb : 0 ≤ kk ∧ kk < (s.size : Int) - 3 := by
    have hm : ((s.size : Int) - 3) % 18446744073709551616 = (s.size : Int) - 3 := by omega
    rw [← hk, Int.tmod_eq_emod_of_nonneg (by omega), hm]
    exact ⟨Int.emod_nonneg _ (by omega), Int.emod_lt_of_pos _ (by omega)⟩
  obtain ⟨k, rfl⟩ := Int.eq_ofNat_of_zero_le hkb.1
  rw [wrap_i64 _ (by omega) (by omega)]
  have hk4 : k + 4 ≤ s.data.toList.length := by omega
  clear hk
  refine f7_L0_rule (J := fun n x35 H' => ∃ i : Nat, i ≤ 4 ∧ n = 4 - i ∧ x35 = i64 i ∧ H'.get H1.next = some (.row (bcells (turned s.data.toList k t i)) 1) ∧ H1.next < H'.next) 4
    ⟨0, by omega, rfl, rfl, by rw [AH.get_push, if_pos rfl]; rfl, by rw [AH.next_push]; omega⟩ ?_
  rintro n x35 H' ⟨i, hi, rfl, rfl, hget, hnext⟩
  intros
  unfold f7_R0
  simp only [i64, bi_lss, aIf_dec]
  have htl := turned_length s.data.toList k t i
  by_cases hi4 : i < 4
  · rw [if_pos (by omega)]
    simp only [bi_add, bi_mul]
    rw [wrap_i64 ((k : Int) + i) (by omega) (by omega), wrap_i64 (8 * (i : Int)) (by omega) (by omega)]
    simp only [aIndexAddr, und30, ty5, true_and, ce5, Nat.mul_one, Nat.zero_add]
    refine ⟨by omega, by omega, ?_⟩
    rw [aBin_shr32 _ _ _ (by omega) (by omega), u32_conv]
    have hidx : ((k : Int) + i).toNat = k + i := by omega
    have hcell := bcells_at (turned s.data.toList k t i) (k + i) (by omega)
    simp only [aLoad, AH.cells, hget, st5, ty5, true_and, hidx, hcell]
    rw [aBin_xor8]
    refine ⟨by omega, by omega, ?_⟩
    simp only [aStore, hget, ty5, true_and]
    refine ⟨by simp [Value.cells], by simp [Value.cells, bcells_length]; omega, by simp [Value.cells, oneCell], ?_⟩
    rw [wrap_i64 _ (by omega) (by omega)]
    refine ⟨4 - (i + 1), by omega, f7_I0_mk ⟨i + 1, by omega, rfl, rfl, ?_, hnext⟩⟩
    rw [AH.get_set, if_pos rfl]
    simp only [Value.cells, setCells]
    rw [bcells_set]
    have he : turned s.data.toList k t (i + 1) = (turned s.data.toList k t i).set (k + i) ((turned s.data.toList k t i)[k + i]'(by omega) ^^^ byteOf32 t i) := by
      simp only [turned]
      rw [List.getD_eq_getElem?_getD, List.getElem?_eq_getElem (by omega)]
      rfl
    rw [he]
    have h8 : (8 * (i : Int)).toNat = 8 * i := by omega
    rw [h8]
    rfl
  · rw [if_neg (by omega)]
    have : i = 4 := by omega
    subst this
    refine aCall_of (by kernel_rfl) (awake_call _ _ fun H2 hext => ?_)
    simp only [aIf_true]
    have hg2 : H2.get H1.next = some (.row (bcells (turned s.data.toList k t 4)) 1) := by rw [hext.get _ hnext]; exact hget
    simp only [aConvert, und9, und30]
    refine ⟨⟨_, rfl, und5⟩, ?_⟩
    have hsl : sliceCells H2 1 (.slice (some ⟨H1.next, 0, none⟩) s.size 0) = some (bcells (turned s.data.toList k t 4)) := by
      simp only [sliceCells, AH.cells, hg2, Nat.mul_one, Nat.zero_add, bcells_length, htl, hlen, Nat.le_refl, if_true, List.drop_zero]
      rw [List.take_of_length_le (by rw [bcells_length, htl, hlen]; exact Nat.le_refl _)]
    simp only [hsl, bcells_all, true_and, bcells_bytes]
    refine aCall_of (by kernel_rfl) (sum_call _ (by show (turned s.data.toList k t 4).toArray.size ≤ _; simp [htl]; omega) _ _ (aCall_of (by kernel_rfl) (sum_call s (by omega) _ _ ?_)))
    simp only [neq_u32]
    have hne : crcSum ⟨(turned s.data.toList k t 4).toArray⟩ ≠ crcSum s := by
      unfold crcSum
      intro e
      have e2 := congrArg (fun x => ~~~x) e
      simp only [BitVec.not_not] at e2
      exact turned_sum _ k t hk4 ht _ (by simpa using e2)
    rw [decide_eq_false hne]
    rfl

theorem crcBursts_walk (a0 : ByteArray) (w0 : a0.size ≤ 140737488351232) (a1 : Int) (w1 : (Lit.int .i64 a1).wf = true) (a2 : Int) (w2 : (Lit.int .u32 a2).wf = true) (w : World) :
    Calls Try.prog 7 #[.string a0, .int .i64 a1, .int .u32 a2] w fun e w' => e = .returned (.bool true) ∧ Below w.heap.size w w' := by
  obtain ⟨b2, rfl⟩ := wf_u32 w2
  exact calls_plain w (by rfl) (crcBursts_law a0 w0 a1 b2 AH0)
theorem crcSums_walk (a0 : ByteArray) (w0 : a0.size ≤ 140737488351232) (w : World) : Calls Try.prog 3 #[.string a0] w fun e w' => e = .returned (.bool true) ∧ Below w.heap.size w w' :=
  calls_plain w (by rfl) (crcSums_law a0 w0 AH0)
theorem crcMoves_walk (a0 : Int) (w0 : (Lit.int .u32 a0).wf = true) (a1 : Int) (w1 : (Lit.int .u32 a1).wf = true) (a2 : Int) (w2 : (Lit.int .i64 a2).wf = true) (w : World) :
    Calls Try.prog 4 #[.int .u32 a0, .int .u32 a1, .int .i64 a2] w fun e w' => e = .returned (.bool true) ∧ Below w.heap.size w w' := by
  obtain ⟨b0, rfl⟩ := wf_u32 w0
  obtain ⟨b1, rfl⟩ := wf_u32 w1
  exact calls_plain w (by rfl) (crcMoves_law b0 b1 a2 (wf_i64 w2).2 AH0)
theorem crcJoins_walk (a0 : ByteArray) (w0 : a0.size ≤ 140737488351232) (a1 : ByteArray) (w1 : a1.size ≤ 140737488351232) (w : World) :
    Calls Try.prog 5 #[.string a0, .string a1] w fun e w' => e = .returned (.bool true) ∧ Below w.heap.size w w' :=
  calls_plain w (by rfl) (crcJoins_law a0 a1 w0 w1 AH0)
theorem crcFar_walk (a0 : Int) (w0 : (Lit.int .u32 a0).wf = true) (a1 : Int) (w1 : (Lit.int .i64 a1).wf = true) (a2 : Int) (w2 : (Lit.int .i64 a2).wf = true) (w : World) :
    Calls Try.prog 6 #[.int .u32 a0, .int .i64 a1, .int .i64 a2] w fun e w' => e = .returned (.bool true) ∧ Below w.heap.size w w' := by
  obtain ⟨b0, rfl⟩ := wf_u32 w0
  exact calls_plain w (by rfl) (crcFar_law b0 a1 a2 AH0)
theorem crcNests_walk (a0 : Int) (w0 : (Lit.int .u32 a0).wf = true) (a1 : Int) (w1 : (Lit.int .u32 a1).wf = true) (a2 : Int) (w2 : (Lit.int .u32 a2).wf = true) (a3 : Int) (w3 : (Lit.int .i64 a3).wf = true) (a4 : Int) (w4 : (Lit.int .i64 a4).wf = true) (w : World) :
    Calls Try.prog 8 #[.int .u32 a0, .int .u32 a1, .int .u32 a2, .int .i64 a3, .int .i64 a4] w fun e w' => e = .returned (.bool true) ∧ Below w.heap.size w w' := by
  obtain ⟨b0, rfl⟩ := wf_u32 w0
  obtain ⟨b1, rfl⟩ := wf_u32 w1
  obtain ⟨b2, rfl⟩ := wf_u32 w2
  exact calls_plain w (by rfl) (crcNests_law b0 b1 b2 a3 a4 AH0)

end Go.Proofs.Ytmidgfmopmpppaa
