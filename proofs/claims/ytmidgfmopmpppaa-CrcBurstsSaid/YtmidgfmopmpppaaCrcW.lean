/- The checksums' functions, each by what it computes. -/
import Derived.Test.YtmidgfmopmpppaaAbsU
import Derived.Test.YtmidgfmopmpppaaGenA
import Derived.Test.YtmidgfmopmpppaaCrcM
import Derived.Test.YtmidgfmopmpppaaTy
namespace Go.Proofs.Ytmidgfmopmpppaa
set_option linter.unusedVariables false
set_option linter.unusedSimpArgs false
open Go.RowKit

theorem step_call (b : BitVec 32) (H : AH) (R : AEnd → AH → Prop) (h : R (.ret (u32 (crcStep b))) H) : ACall Try.prog 38 [u32 b] H R := by
  apply f38_call
  have c1 : Value.int .u32 1 = u32 1#32 := rfl
  have c2 : Value.int .u32 2197175160 = u32 poly := rfl
  simp only [f38_B, c1, c2, aBin_shr32 _ _ 1 (by omega) (by omega), aBin_and32, aUn_neg32, aBin_xor32]
  exact h

theorem fold_take (r : BitVec 32) (l : List UInt8) (k : Nat) (h : k < l.length) : fold r (l.take (k + 1)) = byteStep (fold r (l.take k)) l[k] := by
  unfold fold
  rw [List.take_succ_eq_append_getElem h, List.foldl_append]
  rfl

theorem wrap32_byte (n : Nat) (h : n < 256) : Value.int .u32 (IntKind.u32.wrap (n : Int)) = u32 (BitVec.ofNat 32 n) := by
  rw [wrap_u32 _ (by omega)]
  simp only [u32, BitVec.toNat_ofNat]
  congr 1
  omega

set_option maxHeartbeats 1000000 in
theorem sum_call (s : ByteArray) (hs : s.size ≤ 140737488355328) (H : AH) (R : AEnd → AH → Prop) (h : R (.ret (u32 (crcSum s))) (H.push (.row (byteCells s) 1))) : ACall Try.prog 15 [str s] H R := by
  apply f15_call
  unfold f15_B
  simp only [aConvert, str, und30, und9, und5, ty5, true_and]
  refine ⟨hs, ?_⟩
  simp only [aBuiltin, aLen, und30]
  refine ⟨⟨_, rfl⟩, ?_⟩
  refine f15_L0_rule (J := fun n x3 x9 H' => ∃ k : Nat, k ≤ s.size ∧ n = s.size - k ∧ x9 = i64 k ∧ x3 = u32 (fold 0xFFFFFFFF#32 (s.data.toList.take k)) ∧ H' = H.push (.row (byteCells s) 1)) s.size
    ⟨0, by omega, by omega, rfl, rfl, rfl⟩ ?_
  rintro n x3 x9 H' ⟨k, hk, rfl, rfl, rfl, rfl⟩
  intros
  unfold f15_R0
  have hlen : s.data.toList.length = s.size := by simp
  simp only [i64, bi_lss, aIf_dec]
  by_cases hlt : k < s.size
  · rw [if_pos (by omega)]
    have hcell : (byteCells s)[k]? = some (.int .u8 (s.data.toList[k]'(by omega)).toNat) := by
      simp [byteCells, hlt]
    simp only [aIndexAddr, und30, ty5, true_and]
    refine ⟨by omega, by omega, ?_⟩
    simp only [aLoad, AH.cells, AH.get_push, if_true, st5, ty5, true_and, ce5]
    simp only [Nat.zero_add, Nat.mul_one, Int.toNat_natCast, hcell]
    simp only [aConvert, und23, ty5, und5, Option.isSome, true_and]
    rw [wrap32_byte _ (UInt8.toNat_lt _), aBin_xor32]
    refine f15_L1_rule (J := fun n x3 x17 H' => ∃ j : Nat, j ≤ 8 ∧ n = 8 - j ∧ x17 = i64 j ∧ x3 = u32 (steps j (fold 0xFFFFFFFF#32 (s.data.toList.take k) ^^^ BitVec.ofNat 32 (s.data.toList[k]'(by omega)).toNat)) ∧ H' = H.push (.row (byteCells s) 1)) 8
      ⟨0, by omega, by omega, rfl, rfl, rfl⟩ ?_
    rintro n x3 x17 H' ⟨j, hj, rfl, rfl, rfl, rfl⟩
    intros
    unfold f15_R1
    simp only [i64, bi_lss, aIf_dec, bi_add]
    by_cases hj8 : j < 8
    · rw [if_pos (by omega)]
      refine aCall_of (by kernel_rfl) (step_call _ _ _ ?_)
      rw [wrap_i64 _ (by omega) (by omega)]
      exact ⟨8 - (j + 1), by omega, f15_I1_mk ⟨j + 1, by omega, rfl, rfl, by rw [steps_succ], rfl⟩⟩
    · rw [if_neg (by omega)]
      have : j = 8 := by omega
      subst this
      rw [wrap_i64 _ (by omega) (by omega)]
      exact ⟨s.size - (k + 1), by omega, f15_I0_mk ⟨k + 1, by omega, rfl, rfl, by rw [fold_take _ _ _ (by omega)]; rfl, rfl⟩⟩
  · rw [if_neg (by omega)]
    rw [aUn_not32]
    have : k = s.size := by omega
    subst this
    have e : s.data.toList.take s.size = s.data.toList := List.take_of_length_le (by omega)
    rw [e]
    exact h

theorem shr_one (i : Nat) : (one >>> i) >>> 1 = one >>> (i + 1) := by rw [BitVec.shiftRight_add]
theorem u32_ne (b : BitVec 32) : aBin Try.prog .neq 23 (u32 b) (.int .u32 0) = fun K => K (.bool (!decide (b = 0#32))) := by
  funext K
  show aBin Try.prog .neq 23 (.int .u32 b.toNat) (.int .u32 0) K = _
  rw [bi_neq]
  congr 3
  rw [decide_eq_decide, ← BitVec.toNat_inj]
  simp
theorem one_zero : ∀ i, i ≤ 32 → (one >>> i = 0#32 ↔ i = 32) := by decide

theorem times_call (a b : BitVec 32) (H : AH) (R : AEnd → AH → Prop) (h : R (.ret (u32 (timesTo a b 32))) H) : ACall Try.prog 40 [u32 a, u32 b] H R := by
  apply f40_call
  unfold f40_B
  refine f40_L0_rule (J := fun n x1 x5 x6 H' => ∃ i : Nat, i ≤ 32 ∧ n = 32 - i ∧ x1 = u32 (steps i b) ∧ x5 = u32 (timesTo a b i) ∧ x6 = u32 (one >>> i) ∧ H' = H) 32
    ⟨0, by omega, rfl, rfl, rfl, rfl, rfl⟩ ?_
  rintro n x1 x5 x6 H' ⟨i, hi, rfl, rfl, rfl, rfl, rfl⟩
  intros
  unfold f40_R0
  simp only [u32_ne, aIf_ndec, aBin_and32, aBin_xor32]
  by_cases hz : i = 32
  · rw [if_pos ((one_zero i hi).2 hz)]
    subst hz
    exact h
  · rw [if_neg (fun e => hz ((one_zero i hi).1 e))]
    have hb : (one >>> i) >>> (Int.toNat 1) = one >>> (i + 1) := shr_one i
    by_cases ha : a &&& (one >>> i) = 0#32
    · rw [if_pos ha]
      refine aCall_of (by kernel_rfl) (step_call _ _ _ ?_)
      simp only [aBin_shr32 _ _ 1 (by omega) (by omega), hb]
      exact ⟨32 - (i + 1), by omega, f40_I0_mk ⟨i + 1, by omega, rfl, by rw [steps_succ], by simp only [timesTo, if_pos ha], rfl, rfl⟩⟩
    · rw [if_neg ha]
      refine aCall_of (by kernel_rfl) (step_call _ _ _ ?_)
      simp only [aBin_shr32 _ _ 1 (by omega) (by omega), hb]
      exact ⟨32 - (i + 1), by omega, f40_I0_mk ⟨i + 1, by omega, rfl, by rw [steps_succ], by simp only [timesTo, if_neg ha], rfl, rfl⟩⟩

theorem and_one64 (n : Nat) (h : n ≤ 9223372036854775807) {t : TypeId} (K : Value → Prop) : aBin Try.prog .and t (.int .i64 n) (.int .i64 1) K = K (.int .i64 ((n % 2 : Nat) : Int)) := by
  show (IntKind.i64 = IntKind.i64 ∧ K (.int .i64 (IntKind.i64.wrap ((BitVec.ofInt 64 (n : Int) &&& BitVec.ofInt 64 (1 : Int)).toNat : Int)))) = _
  have e : (BitVec.ofInt 64 (n : Int) &&& BitVec.ofInt 64 (1 : Int)).toNat = n % 2 := by
    have : BitVec.ofInt 64 (1 : Int) = 1#64 := by decide
    rw [this, BitVec.ofInt_natCast, BitVec.toNat_and]
    simp only [BitVec.toNat_ofNat]
    rw [Nat.mod_eq_of_lt (by omega), show 1 % 2 ^ 64 = 1 from rfl, Nat.and_one_is_mod]
  rw [e, wrap_i64 _ (by omega) (by omega)]
  simp
theorem shr_one64 (n : Nat) {t : TypeId} (K : Value → Prop) : aBin Try.prog .shr t (.int .i64 n) (.int .u64 1) K = K (.int .i64 ((n / 2 : Nat) : Int)) := by
  show (0 ≤ (1 : Int) ∧ K (.int .i64 ((n : Int).fdiv (2 ^ (min 1 64))))) = _
  have e : (n : Int).fdiv (2 ^ (min 1 64)) = ((n / 2 : Nat) : Int) := by
    show (n : Int).fdiv 2 = _
    rw [Int.fdiv_eq_ediv_of_nonneg _ (by omega)]
    omega
  rw [e]
  simp

theorem join_call (a b : BitVec 32) (n : Int) (hn : n ≤ 9223372036854775807) (H : AH) (R : AEnd → AH → Prop) (h : R (.ret (u32 (crcJoin a b n))) H) : ACall Try.prog 17 [u32 a, u32 b, i64 n] H R := by
  apply f17_call
  unfold f17_B
  simp only [aBuiltin, aMaxMin, i64, true_and, if_true]
  have hmax : (if n < 0 then (0 : Int) else n) = (n.toNat : Int) := by split <;> omega
  rw [hmax]
  refine f17_L0_rule (J := fun m x0 x2 x7 H' => ∃ (k q : Nat) (a' : BitVec 32), m = k ∧ k ≤ n.toNat ∧ x0 = u32 a' ∧ x2 = .int .i64 k ∧ x7 = u32 (steps q one) ∧ steps (q * k) a' = steps (8 * n.toNat) a ∧ H' = H) n.toNat
    ⟨n.toNat, 8, a, rfl, Nat.le_refl _, rfl, rfl, (by rw [show steps 8 one = 8388608#32 from by decide]; rfl), rfl, rfl⟩ ?_
  rintro m x0 x2 x7 H' ⟨k, q, a', rfl, hk, rfl, rfl, rfl, hinv, rfl⟩
  intros
  unfold f17_R0
  simp only [bi_gtr, aIf_dec, and_one64 m (by omega), bi_eql, shr_one64]
  by_cases hm : m = 0
  · subst hm
    rw [if_neg (by omega), aBin_xor32]
    rw [Nat.mul_zero] at hinv
    have : a' = steps (8 * n.toNat) a := hinv
    subst this
    exact h
  · rw [if_pos (by omega)]
    have hpow : timesTo (steps q one) (steps q one) 32 = steps (q + q) one := by rw [times_pow, steps_add]
    by_cases hodd : m % 2 = 1
    · rw [if_pos (by omega)]
      refine aCall_of (by kernel_rfl) (times_call _ _ _ _ (aCall_of (by kernel_rfl) (times_call _ _ _ _ ?_)))
      rw [hpow, times_pow]
      refine ⟨m / 2, by omega, f17_I0_mk ⟨m / 2, q + q, steps q a', rfl, by omega, rfl, rfl, rfl, ?_, rfl⟩⟩
      rw [← steps_add, ← hinv]
      congr 1
      have : m = 2 * (m / 2) + 1 := by omega
      conv => rhs; rw [this]
      rw [Nat.mul_add, Nat.mul_one, ← Nat.two_mul, Nat.mul_assoc, Nat.mul_left_comm]
    · rw [if_neg (by omega)]
      refine aCall_of (by kernel_rfl) (times_call _ _ _ _ ?_)
      rw [hpow]
      refine ⟨m / 2, by omega, f17_I0_mk ⟨m / 2, q + q, a', rfl, by omega, rfl, rfl, rfl, ?_, rfl⟩⟩
      rw [← hinv]
      congr 1
      have : m = 2 * (m / 2) := by omega
      conv => rhs; rw [this]
      rw [← Nat.two_mul, Nat.mul_assoc, Nat.mul_left_comm]

/-! The document's own functions. -/
theorem rem_two (b : BitVec 32) (K : Value → Prop) : aBin Try.prog .rem 23 (u32 b) (.int .u32 2) K = K (.int .u32 ((b.toNat % 2 : Nat) : Int)) := by
  show aBin Try.prog .rem 23 (.int .u32 b.toNat) (.int .u32 2) K = _
  rw [bi_rem _ _ _ (by omega)]
  rfl
theorem quo_two (b : BitVec 32) (K : Value → Prop) : aBin Try.prog .quo 23 (u32 b) (.int .u32 2) K = K (u32 (b >>> 1)) := by
  show aBin Try.prog .quo 23 (.int .u32 b.toNat) (.int .u32 2) K = _
  rw [bi_quo _ _ _ (by omega)]
  have e : (b.toNat : Int).tdiv 2 = ((b >>> 1).toNat : Int) := by
    rw [BitVec.toNat_ushiftRight, Nat.shiftRight_eq_div_pow]
    rfl
  rw [e, wrap_u32 _ (b >>> 1).isLt]
  rfl
theorem lsb_mod (b : BitVec 32) : b.getLsbD 0 = decide (b.toNat % 2 = 1) := by
  rw [BitVec.getLsbD, Nat.testBit_zero]

theorem move_call (b : BitVec 32) (H : AH) (R : AEnd → AH → Prop) (h : R (.ret (u32 (crcStep b))) H) : ACall Try.prog 39 [u32 b] H R := by
  apply f39_call
  unfold f39_B
  have c2 : Value.int .u32 2197175160 = u32 poly := rfl
  simp only [rem_two, quo_two, bi_eql, aIf_dec, c2, aBin_xor32]
  rw [crcStep_eq, lsb_mod] at h
  by_cases hb : b.toNat % 2 = 1
  · rw [if_pos (by omega)]
    simpa [hb] using h
  · rw [if_neg (by omega)]
    simpa [hb] using h

theorem sub_max (b : BitVec 32) (K : Value → Prop) : aBin Try.prog .sub 23 (.int .u32 4294967295) (u32 b) K = K (u32 (~~~b)) := by
  show aBin Try.prog .sub 23 (.int .u32 4294967295) (.int .u32 b.toNat) K = _
  rw [bi_sub]
  have e : (4294967295 : Int) - b.toNat = ((~~~b).toNat : Int) := by
    rw [BitVec.toNat_not]
    have := b.isLt
    omega
  rw [e, wrap_u32 _ (~~~b).isLt]
  rfl

theorem aIndex_str {P : Program} {t : TypeId} (hu : P.underlying t = some .string) (s : ByteArray) (k : Nat) (h : k < s.data.toList.length) (K : Value → Prop) :
    aIndex P t (.string s) (.int .i64 k) K = K (.int .u8 (s.data.toList[k]).toNat) := by
  have h' : k < s.size := by simpa using h
  simp only [aIndex, hu, true_and, Int.toNat_natCast]
  rw [List.getD_eq_getElem?_getD, List.getElem?_eq_getElem h]
  have h1 : (0 : Int) ≤ k := by omega
  have h2 : (k : Int) < s.size := by omega
  simp [h2]

set_option maxHeartbeats 1000000 in
theorem refSum_call (s : ByteArray) (hs : s.size ≤ 140737488355328) (H : AH) (R : AEnd → AH → Prop) (h : R (.ret (u32 (crcSum s))) H) : ACall Try.prog 16 [str s] H R := by
  apply f16_call
  unfold f16_B
  refine f16_L0_rule (J := fun n x3 x4 H' => ∃ k : Nat, k ≤ s.size ∧ n = s.size - k ∧ x4 = i64 k ∧ x3 = u32 (fold 0xFFFFFFFF#32 (s.data.toList.take k)) ∧ H' = H) s.size
    ⟨0, by omega, by omega, rfl, rfl, rfl⟩ ?_
  rintro n x3 x4 H' ⟨k, hk, rfl, rfl, rfl, rfl⟩
  intros
  unfold f16_R0
  have hlen : s.data.toList.length = s.size := by simp
  simp only [i64, str, aBuiltin, aLen, und9, true_and, bi_lss, aIf_dec]
  by_cases hlt : k < s.size
  · rw [if_pos (by omega), aIndex_str und9 s k (by omega)]
    simp only [aConvert, und23, ty5, und5, Option.isSome, true_and]
    rw [wrap32_byte _ (UInt8.toNat_lt _), aBin_xor32]
    refine f16_L1_rule (J := fun n x3 x5 H'' => ∃ j : Nat, j ≤ 8 ∧ n = 8 - j ∧ x5 = i64 j ∧ x3 = u32 (steps j (fold 0xFFFFFFFF#32 (s.data.toList.take k) ^^^ BitVec.ofNat 32 (s.data.toList[k]'(by omega)).toNat)) ∧ H'' = H') 8
      ⟨0, by omega, by omega, rfl, rfl, rfl⟩ ?_
    rintro n x3 x5 H' ⟨j, hj, rfl, rfl, rfl, rfl⟩
    intros
    unfold f16_R1
    simp only [i64, bi_lss, aIf_dec, bi_add]
    by_cases hj8 : j < 8
    · rw [if_pos (by omega)]
      refine aCall_of (by kernel_rfl) (move_call _ _ _ ?_)
      rw [wrap_i64 _ (by omega) (by omega)]
      exact ⟨8 - (j + 1), by omega, f16_I1_mk ⟨j + 1, by omega, rfl, rfl, by rw [steps_succ], rfl⟩⟩
    · rw [if_neg (by omega)]
      have : j = 8 := by omega
      subst this
      rw [wrap_i64 _ (by omega) (by omega)]
      exact ⟨s.size - (k + 1), by omega, f16_I0_mk ⟨k + 1, by omega, rfl, rfl, by rw [fold_take _ _ _ (by omega)]; rfl, rfl⟩⟩
  · rw [if_neg (by omega), sub_max]
    have : k = s.size := by omega
    subst this
    have e : s.data.toList.take s.size = s.data.toList := List.take_of_length_le (by omega)
    rw [e]
    exact h

theorem refJoin_call (a b : BitVec 32) (n : Int) (hn : n ≤ 9223372036854775807) (H : AH) (R : AEnd → AH → Prop) (h : R (.ret (u32 (crcJoin a b n))) H) : ACall Try.prog 18 [u32 a, u32 b, i64 n] H R := by
  apply f18_call
  unfold f18_B
  refine f18_L0_rule (J := fun m x0 x7 H' => ∃ k : Nat, k ≤ n.toNat ∧ m = n.toNat - k ∧ x7 = i64 k ∧ x0 = u32 (steps (8 * k) a) ∧ H' = H) n.toNat
    ⟨0, by omega, by omega, rfl, rfl, rfl⟩ ?_
  rintro m x0 x7 H' ⟨k, hk, rfl, rfl, rfl, rfl⟩
  intros
  unfold f18_R0
  simp only [i64, bi_lss, aIf_dec]
  by_cases hlt : (k : Int) < n
  · rw [if_pos hlt]
    refine f18_L1_rule (J := fun m x0 x8 H'' => ∃ j : Nat, j ≤ 8 ∧ m = 8 - j ∧ x8 = i64 j ∧ x0 = u32 (steps (8 * k + j) a) ∧ H'' = H') 8
      ⟨0, by omega, by omega, rfl, rfl, rfl⟩ ?_
    rintro m x0 x8 H' ⟨j, hj, rfl, rfl, rfl, rfl⟩
    intros
    unfold f18_R1
    simp only [i64, bi_lss, aIf_dec, bi_add]
    by_cases hj8 : j < 8
    · rw [if_pos (by omega)]
      refine aCall_of (by kernel_rfl) (move_call _ _ _ ?_)
      rw [wrap_i64 _ (by omega) (by omega)]
      exact ⟨8 - (j + 1), by omega, f18_I1_mk ⟨j + 1, by omega, rfl, rfl, by rw [← steps_succ]; rfl, rfl⟩⟩
    · rw [if_neg (by omega)]
      have : j = 8 := by omega
      subst this
      rw [wrap_i64 _ (by omega) (by omega)]
      exact ⟨n.toNat - (k + 1), by omega, f18_I0_mk ⟨k + 1, by omega, rfl, rfl, rfl, rfl⟩⟩
  · rw [if_neg hlt, aBin_xor32]
    have : k = n.toNat := by omega
    subst this
    exact h

theorem eq_u32 (a b : BitVec 32) (K : Value → Prop) : aBin Try.prog .eql 23 (u32 a) (u32 b) K = K (.bool (decide (a = b))) := by
  show aBin Try.prog .eql 23 (.int .u32 a.toNat) (.int .u32 b.toNat) K = _
  rw [bi_eql]
  congr 2
  rw [decide_eq_decide, ← BitVec.toNat_inj]
  omega

/-- The chapter's examples hold. -/
theorem awake_call (H : AH) (R : AEnd → AH → Prop) (h : ∀ H', Ext H H' → R (.ret (.bool true)) H') : ACall Try.prog 14 [] H R := by
  apply f14_call
  unfold f14_B
  have c1 : Value.int .u32 3808858755 = u32 0xE3069283#32 := rfl
  rw [c1]
  refine aCall_of (by kernel_rfl) (sum_call _ (by decide) _ _ ?_)
  simp only [eq_u32, aIf_dec]
  rw [if_pos (by decide +kernel)]
  refine aCall_of (by kernel_rfl) (sum_call _ (by decide) _ _ (aCall_of (by kernel_rfl) (sum_call _ (by decide) _ _ (aCall_of (by kernel_rfl) (join_call _ _ 5 (by omega) _ _ ?_)))))
  simp only [eq_u32]
  rw [decide_eq_true (by decide +kernel)]
  exact h _ (((Ext.refl H).push _).push _ |>.push _)

end Go.Proofs.Ytmidgfmopmpppaa
