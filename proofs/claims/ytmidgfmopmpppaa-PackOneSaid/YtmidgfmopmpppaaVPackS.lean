/- The packing functions, each by what it computes: numbers and texts that are read, and a reader that is none. -/
import Derived.Test.YtmidgfmopmpppaaVPackR
namespace Go.Proofs.Ytmidgfmopmpppaa
set_option linter.unusedVariables false
set_option linter.unusedSimpArgs false
open Go.RowKit

theorem un_not {b : Bool} {K : Value → Prop} : aUn .not (.bool b) K = K (.bool (!b)) := rfl
theorem len_str {s : ByteArray} {H : AH} {K : KV} : aBuiltin Try.prog .len [9] [.string s] H K = K (.int .i64 s.size) H := by
  simp [aBuiltin, aLen, und9]
theorem dec_self {α : Type} [DecidableEq α] (a : α) : decide (a = a) = true := by simp
theorem un_neg {n : Int} {K : Value → Prop} : aUn .neg (.int .i64 n) K = K (.int .i64 (IntKind.i64.wrap (0 - n))) := rfl

theorem xor_i64_0 (a : Nat) (ha : a < 9223372036854775808) {P : Program} {t : TypeId} {K : Value → Prop} : aBin P .xor t (.int .i64 a) (.int .i64 0) K = K (.int .i64 a) := by
  show (IntKind.i64 = IntKind.i64 ∧ K (.int .i64 (IntKind.i64.wrap ((BitVec.ofInt 64 (a : Int) ^^^ BitVec.ofInt 64 (0 : Int)).toNat : Int)))) = _
  have e : (BitVec.ofInt 64 (a : Int) ^^^ BitVec.ofInt 64 (0 : Int)).toNat = a := by
    have : BitVec.ofInt 64 (0 : Int) = 0#64 := by decide
    rw [this, BitVec.xor_zero, BitVec.ofInt_natCast, BitVec.toNat_ofNat, Nat.mod_eq_of_lt (by omega)]
  rw [e, wrap_i64 _ (by omega) (by omega)]
  simp
theorem xor_i64_m1 (a : Nat) (ha : a < 9223372036854775808) {P : Program} {t : TypeId} {K : Value → Prop} : aBin P .xor t (.int .i64 a) (.int .i64 (-1)) K = K (.int .i64 (-(a : Int) - 1)) := by
  show (IntKind.i64 = IntKind.i64 ∧ K (.int .i64 (IntKind.i64.wrap ((BitVec.ofInt 64 (a : Int) ^^^ BitVec.ofInt 64 (-1 : Int)).toNat : Int)))) = _
  have e : (BitVec.ofInt 64 (a : Int) ^^^ BitVec.ofInt 64 (-1 : Int)).toNat = 18446744073709551615 - a := by
    have : BitVec.ofInt 64 (-1 : Int) = BitVec.allOnes 64 := by decide
    rw [this, BitVec.xor_allOnes, BitVec.ofInt_natCast, BitVec.toNat_not, BitVec.toNat_ofNat, Nat.mod_eq_of_lt (by omega)]
  have e2 : IntKind.i64.wrap ((18446744073709551615 - a : Nat) : Int) = -(a : Int) - 1 := by rw [wrapi64_eq]; split <;> omega
  rw [e, e2]
  simp

/-- The number of a count. -/
def uz (n : Nat) : Int := if n % 2 = 0 then ((n / 2 : Nat) : Int) else -((n / 2 : Nat) : Int) - 1
theorem uz_zz (n : Int) : uz (zz n) = n := by
  unfold uz zz
  by_cases h : 0 ≤ n
  · rw [if_pos h, if_pos (by omega)]; omega
  · rw [if_neg h, if_neg (by omega)]; omega
theorem zz_uz (n : Nat) : zz (uz n) = n := by
  unfold uz zz
  by_cases h : n % 2 = 0
  · rw [if_pos h, if_pos (by omega)]; omega
  · rw [if_neg h, if_neg (by omega)]; omega
theorem uz_range (n : Nat) (h : n < 18446744073709551616) : -9223372036854775808 ≤ uz n ∧ uz n ≤ 9223372036854775807 := by
  unfold uz; split <;> omega

theorem rdC_lt (s : ByteArray) (e : Int) : (rdC s e).1 < 18446744073709551616 := by
  unfold rdC
  split
  · cases hp : pc s.data.toList with
    | error e' => show (0 : Nat) < _; omega
    | ok p => obtain ⟨n, k⟩ := p; exact pc_lt hp
  · show (0 : Nat) < _; omega

theorem uzOf (n : Nat) (hn : n < 18446744073709551616) (H : AH) (R : AEnd → AH → Prop) (h : R (.ret (.int .i64 (uz n))) H) :
    aBin Try.prog .shr 34 (.int .u64 n) (.int .u64 1) fun v3 => aConvert Try.prog 34 2 v3 H fun v4 H5 => aBin Try.prog .and 34 (.int .u64 n) (.int .u64 1) fun v6 => aConvert Try.prog 34 2 v6 H5 fun v7 H8 =>
      aUn .neg v7 fun v9 => aBin Try.prog .xor 2 v4 v9 fun v10 => R (.ret v10) H8 := by
  have h1 : (1 : Int) = ((1 : Nat) : Int) := rfl
  rw [h1, bu_shr _ _ 1 (by omega) _ rfl, cv_int und2 ty34, bu_and _ _ hn (by omega), cv_int und2 ty34, un_neg]
  have ea : n &&& 1 = n % 2 := Nat.and_one_is_mod n
  rw [ea, wrap_i64 _ (by omega) (by omega), wrap_i64 ((n % 2 : Nat) : Int) (by omega) (by omega)]
  unfold uz at h
  by_cases hp : n % 2 = 0
  · rw [hp]
    have e0 : IntKind.i64.wrap (0 - ((0 : Nat) : Int)) = 0 := by decide
    rw [e0]
    have e1 : n / 2 ^ 1 = n / 2 := by rw [Nat.pow_one]
    rw [e1, xor_i64_0 _ (by omega)]
    rw [if_pos hp] at h
    exact h
  · have hp1 : n % 2 = 1 := by omega
    rw [hp1]
    have e0 : IntKind.i64.wrap (0 - ((1 : Nat) : Int)) = -1 := by decide
    rw [e0]
    have e1 : n / 2 ^ 1 = n / 2 := by rw [Nat.pow_one]
    rw [e1, xor_i64_m1 _ (by omega)]
    rw [if_neg hp] at h
    exact h

theorem rnumber_call (i : Nat) (s : ByteArray) (e : Int) (H : AH) (hg : H.get i = some (rdr s e)) (R : AEnd → AH → Prop)
    (h : R (.ret (.int .i64 (uz (rdC s e).1))) (H.set i (rdr (rdC s e).2.1 (rdC s e).2.2))) : ACall Try.prog 29 [ptr i] H R := by
  apply f29_call
  unfold f29_B
  refine aCall_of (by kernel_rfl) (rcount_call i s e H hg _ ?_)
  exact uzOf _ (rdC_lt s e) _ _ h
theorem rnumber_nil (H : AH) (R : AEnd → AH → Prop) (h : R (.ret (.int .i64 0)) H) : ACall Try.prog 29 [.pointer none] H R := by
  apply f29_call
  unfold f29_B
  refine aCall_of (by kernel_rfl) (rcount_nil H _ ?_)
  exact uzOf 0 (by omega) _ _ h

theorem byte_nil (H : AH) (R : AEnd → AH → Prop) (h : R (.ret (.int .i64 0)) H) : ACall Try.prog 37 [.pointer none] H R := by
  apply f37_call
  unfold f37_B
  refine aCall_of (by kernel_rfl) (off_nil H _ ?_)
  dsimp only
  rw [aIf_true]
  exact h
theorem small_nil (m : Value) (H : AH) (R : AEnd → AH → Prop) (h : R (.ret (.int .i64 0)) H) : ACall Try.prog 36 [.pointer none, m] H R := by
  apply f36_call
  unfold f36_B
  refine aCall_of (by kernel_rfl) (off_nil H _ ?_)
  dsimp only
  rw [aIf_true]
  exact h
theorem rtext_nil (m : Value) (H : AH) (R : AEnd → AH → Prop) (h : R (.ret (.string ⟨#[]⟩)) H) : ACall Try.prog 30 [.pointer none, m] H R := by
  apply f30_call
  unfold f30_B
  refine aCall_of (by kernel_rfl) (off_nil H _ ?_)
  dsimp only
  rw [aIf_true]
  exact h
theorem rtruth_nil (H : AH) (R : AEnd → AH → Prop) (h : R (.ret (.bool false)) H) : ACall Try.prog 34 [.pointer none] H R := by
  apply f34_call
  unfold f34_B
  refine aCall_of (by kernel_rfl) (off_nil H _ ?_)
  dsimp only
  rw [un_not, Bool.not_true, aIf_false, f34_J0_eq, f34_J0_B, aIf_false, f34_J1_eq, f34_J1_B]
  refine aCall_of (by kernel_rfl) (byte_nil H _ ?_)
  dsimp only
  rw [bi_eql]
  exact h
theorem end_nil (H : AH) (R : AEnd → AH → Prop) (h : R (.ret (.int .i64 1)) H) : ACall Try.prog 35 [.pointer none] H R := by
  apply f35_call
  unfold f35_B
  refine aCall_of (by kernel_rfl) (bad_nil H _ ?_)
  dsimp only
  rw [bi_neq, aIf_ndec, if_neg (by omega), f35_J0_eq, f35_J0_B, aIf_true]
  exact h
end Go.Proofs.Ytmidgfmopmpppaa
