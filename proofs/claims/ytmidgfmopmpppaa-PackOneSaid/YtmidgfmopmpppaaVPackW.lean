/- The packing functions, each by what it computes: the writers. -/
import Derived.Test.YtmidgfmopmpppaaVAbsO
import Derived.Test.YtmidgfmopmpppaaVPackM
import Derived.Test.YtmidgfmopmpppaaVGenB
import Derived.Test.YtmidgfmopmpppaaVTy
namespace Go.Proofs.Ytmidgfmopmpppaa
set_option linter.unusedVariables false
set_option linter.unusedSimpArgs false
open Go.RowKit

theorem bt30 : ByteTy Try.prog 30 5 := ⟨und30, und5, ty5, ce5, by5, ze5⟩
def ofL (l : List UInt8) : ByteArray := ⟨l.toArray⟩
theorem ofL_append (a b : List UInt8) : ofL a ++ ofL b = ofL (a ++ b) := by
  apply ByteArray.ext
  simp [ofL]
theorem ofL_size (l : List UInt8) : (ofL l).size = l.length := by show l.toArray.size = _; simp

set_option maxHeartbeats 1000000 in
theorem count_call (n : Nat) (hn : n < 18446744073709551616) (H : AH) (R : AEnd → AH → Prop) (h : ∀ H', Ext H H' → R (.ret (str (ofL (vb n)))) H') : ACall Try.prog 20 [.int .u64 n] H R := by
  apply f20_call
  unfold f20_B
  refine f20_L0_rule (J := fun m x0 x3 H' => ∃ (f n' : Nat) (l : List UInt8), m = f ∧ f ≤ 9 ∧ x0 = .int .u64 n' ∧ n' < 2 ^ (7 * f + 1) ∧ l.length = 9 - f ∧ OwnB H H' x3 l ∧ l ++ vbF f n' = vb n) 9
    ⟨9, n, [], rfl, Nat.le_refl _, rfl, hn, rfl, .nil (Ext.refl H), rfl⟩ ?_
  rintro m x0 x3 H' ⟨f, n', l, rfl, hf, rfl, hn', hl, ho, he⟩
  intros
  unfold f20_R0
  simp only [bi_geq, aIf_dec]
  by_cases hge : n' < 128
  · rw [if_neg (by omega)]
    rw [f20_J0_eq, f20_J0_B]
    rw [cv_int und5 ty34, wrap_u8_of]
    refine appendByte bt30 ho _ (by omega) fun v' H2 ho' => ?_
    refine ownText bt30 und9 ho' ?_
    rw [vbF_small _ _ hge] at he
    rw [he]
    exact h _ ho'.ext
  · rw [if_pos (by omega)]
    cases m with
    | zero => exact absurd hn' (by omega)
    | succ f =>
      rw [cv_int und5 ty34, wrap_u8_of]
      have c128 : Value.int .u8 128 = .int .u8 (128 : UInt8).toNat := rfl
      rw [c128, bu8_or, or_128]
      refine appendByte bt30 ho _ (by omega) fun v' H2 ho' => ?_
      have h7 : (7 : Int) = ((7 : Nat) : Int) := rfl
      rw [h7, bu_shr _ _ 7 (by omega) _ rfl]
      refine ⟨f, by omega, f20_I0_mk ⟨f, n' / 128, l ++ [UInt8.ofNat (n' % 128 + 128)], rfl, by omega, rfl, ?_, by simp; omega, ho', ?_⟩⟩
      · have : 2 ^ (7 * (f + 1) + 1) = 128 * 2 ^ (7 * f + 1) := by rw [show 7 * (f + 1) + 1 = (7 * f + 1) + 7 from by omega, Nat.pow_add]; omega
        omega
      · rw [← he, vbF, if_neg hge, List.append_assoc]
        rfl

set_option maxHeartbeats 1000000 in
theorem refCount_call (n : Nat) (hn : n < 18446744073709551616) (H : AH) (R : AEnd → AH → Prop) (h : ∀ H', Ext H H' → R (.ret (str (ofL (vb n)))) H') : ACall Try.prog 22 [.int .u64 n] H R := by
  apply f22_call
  unfold f22_B
  refine f22_L0_rule (J := fun m x0 x3 H' => ∃ (f n' : Nat) (l : List UInt8), m = f ∧ f ≤ 9 ∧ x0 = .int .u64 n' ∧ n' < 2 ^ (7 * f + 1) ∧ l.length = 9 - f ∧ OwnB H H' x3 l ∧ l ++ vbF f n' = vb n) 9
    ⟨9, n, [], rfl, Nat.le_refl _, rfl, hn, rfl, .nil (Ext.refl H), rfl⟩ ?_
  rintro m x0 x3 H' ⟨f, n', l, rfl, hf, rfl, hn', hl, ho, he⟩
  intros
  unfold f22_R0
  simp only [bi_geq, aIf_dec]
  by_cases hge : n' < 128
  · rw [if_neg (by omega)]
    rw [f22_J0_eq, f22_J0_B]
    rw [cv_int und5 ty34, wrap_u8_of]
    refine appendByte bt30 ho _ (by omega) fun v' H2 ho' => ?_
    refine ownText bt30 und9 ho' ?_
    rw [vbF_small _ _ hge] at he
    rw [he]
    exact h _ ho'.ext
  · rw [if_pos (by omega)]
    cases m with
    | zero => exact absurd hn' (by omega)
    | succ f =>
      have hlt : n' < 18446744073709551616 := Nat.lt_of_lt_of_le hn' (by
        have : 2 ^ (7 * (f + 1) + 1) ≤ 2 ^ 64 := Nat.pow_le_pow_right (by omega) (by omega)
        omega)
      rw [bi_rem _ _ _ (by omega)]
      have e1 : (n' : Int).tmod 128 = ((n' % 128 : Nat) : Int) := rfl
      rw [e1, bi_add]
      have e2 : (128 : Int) + ((n' % 128 : Nat) : Int) = ((128 + n' % 128 : Nat) : Int) := by omega
      rw [e2, wrap_u64 _ (by omega)]
      rw [cv_int und5 ty34, wrap_u8_of]
      rw [of_mod]
      refine appendByte bt30 ho _ (by omega) fun v' H2 ho' => ?_
      rw [bi_quo _ _ _ (by omega)]
      have e3 : (n' : Int).tdiv 128 = ((n' / 128 : Nat) : Int) := rfl
      rw [e3, wrap_u64 _ (by omega)]
      refine ⟨f, by omega, f22_I0_mk ⟨f, n' / 128, l ++ [UInt8.ofNat (n' % 128 + 128)], rfl, by omega, rfl, ?_, by simp; omega, ho', ?_⟩⟩
      · have : 2 ^ (7 * (f + 1) + 1) = 128 * 2 ^ (7 * f + 1) := by rw [show 7 * (f + 1) + 1 = (7 * f + 1) + 7 from by omega, Nat.pow_add]; omega
        omega
      · rw [← he, vbF, if_neg hge, List.append_assoc]
        rfl

theorem shl1 (n : Nat) (hn : n < 18446744073709551616) {P : Program} {t : TypeId} {K : Value → Prop} : aBin P .shl t (.int .u64 n) (.int .u64 1) K = K (.int .u64 ((2 * n % 18446744073709551616 : Nat) : Int)) := by
  show (0 ≤ (1 : Int) ∧ K (.int .u64 (IntKind.u64.wrap ((n : Int) * (2 ^ (min (1 : Int).toNat 64)))))) = _
  have : (n : Int) * (2 ^ (min (1 : Int).toNat 64)) = 2 * n := by
    show (n : Int) * 2 = _
    omega
  rw [this, wrapu64_eq]
  have e : (2 * (n : Int)) % 18446744073709551616 = ((2 * n % 18446744073709551616 : Nat) : Int) := by omega
  rw [e]
  simp
theorem sar63 (n : Int) (h : -9223372036854775808 ≤ n) (h' : n ≤ 9223372036854775807) {P : Program} {t : TypeId} {K : Value → Prop} : aBin P .shr t (.int .i64 n) (.int .u64 63) K = K (.int .i64 (if 0 ≤ n then 0 else -1)) := by
  show (0 ≤ (63 : Int) ∧ K (.int .i64 (n.fdiv (2 ^ (min (63 : Int).toNat 64))))) = _
  have : n.fdiv (2 ^ (min (63 : Int).toNat 64)) = if 0 ≤ n then 0 else -1 := by
    show n.fdiv 9223372036854775808 = _
    rw [Int.fdiv_eq_ediv_of_nonneg _ (by omega)]
    split <;> omega
  rw [this]
  simp
theorem xor_ones (a : Nat) (h : a < 18446744073709551616) : a ^^^ 18446744073709551615 = 18446744073709551615 - a := by
  have e : (BitVec.ofNat 64 a ^^^ BitVec.allOnes 64).toNat = (~~~ BitVec.ofNat 64 a).toNat := by rw [BitVec.xor_allOnes]
  rw [BitVec.toNat_xor, BitVec.toNat_not, BitVec.toNat_ofNat, Nat.mod_eq_of_lt h] at e
  simpa using e

theorem number_call (n : Int) (h1 : -9223372036854775808 ≤ n) (h2 : n ≤ 9223372036854775807) (H : AH) (R : AEnd → AH → Prop) (h : ∀ H', Ext H H' → R (.ret (str (ofL (vb (zz n))))) H') : ACall Try.prog 21 [i64 n] H R := by
  apply f21_call
  unfold f21_B
  simp only [i64, aConvert, und34, und2, ty2, Option.isSome, true_and]
  have e1 : IntKind.u64.wrap n = (((if 0 ≤ n then n else n + 18446744073709551616).toNat : Nat) : Int) := by rw [wrapu64_eq]; split <;> omega
  rw [e1, shl1 _ (by split <;> omega), sar63 _ h1 h2]
  by_cases hs : 0 ≤ n
  · simp only [if_pos hs]
    have e0 : IntKind.u64.wrap 0 = ((0 : Nat) : Int) := rfl
    rw [e0, bu_xor _ _ (by omega) (by omega), Nat.xor_zero]
    have e3 : 2 * n.toNat % 18446744073709551616 = zz n := by unfold zz; rw [if_pos hs]; omega
    rw [e3]
    exact aCall_of (by kernel_rfl) (count_call _ (zz_lt n h1 h2) _ _ h)
  · simp only [if_neg hs]
    have e0 : IntKind.u64.wrap (-1) = ((18446744073709551615 : Nat) : Int) := rfl
    rw [e0, bu_xor _ _ (by omega) (by omega), xor_ones _ (by omega)]
    have e3 : 18446744073709551615 - 2 * (n + 18446744073709551616).toNat % 18446744073709551616 = zz n := by unfold zz; rw [if_neg hs]; omega
    rw [e3]
    exact aCall_of (by kernel_rfl) (count_call _ (zz_lt n h1 h2) _ _ h)

theorem refNumber_call (n : Int) (h1 : -9223372036854775808 ≤ n) (h2 : n ≤ 9223372036854775807) (H : AH) (R : AEnd → AH → Prop) (h : ∀ H', Ext H H' → R (.ret (str (ofL (vb (zz n))))) H') : ACall Try.prog 23 [i64 n] H R := by
  apply f23_call
  unfold f23_B
  simp only [i64, bi_lss, aIf_dec, bi_add, aUn, aConvert, und34, und2, ty2, Option.isSome, true_and, bi_mul]
  by_cases hs : 0 ≤ n
  · rw [if_neg (by omega)]
    have e : IntKind.u64.wrap (2 * IntKind.u64.wrap n) = ((zz n : Nat) : Int) := by unfold zz; rw [if_pos hs, wrapu64_eq, wrapu64_eq]; omega
    rw [e]
    exact aCall_of (by kernel_rfl) (refCount_call _ (zz_lt n h1 h2) _ _ h)
  · rw [if_pos (by omega)]
    have e1 : IntKind.i64.wrap (n + 1) = n + 1 := wrap_i64 _ (by omega) (by omega)
    have e2 : IntKind.i64.wrap (0 - (n + 1)) = -(n + 1) := by rw [wrap_i64 _ (by omega) (by omega)]; omega
    have e : IntKind.u64.wrap (IntKind.u64.wrap (2 * IntKind.u64.wrap (-(n + 1))) + 1) = ((zz n : Nat) : Int) := by unfold zz; rw [if_neg hs, wrapu64_eq, wrapu64_eq, wrapu64_eq]; omega
    rw [e1, e2, e]
    exact aCall_of (by kernel_rfl) (refCount_call _ (zz_lt n h1 h2) _ _ h)

/-- A text's bytes. -/
def tb (s : ByteArray) : ByteArray := ofL (vb s.size) ++ s
theorem vb_length (n : Nat) : (vb n).length ≤ 10 := (vbF_length 9 n).1

theorem text_call (s : ByteArray) (hs : s.size ≤ 4611686018427387904) (H : AH) (R : AEnd → AH → Prop) (h : ∀ H', Ext H H' → R (.ret (str (tb s))) H') : ACall Try.prog 24 [str s] H R := by
  apply f24_call
  unfold f24_B
  simp only [str, aBuiltin, aLen, und9, true_and, aConvert, und34, und3, ty3, Option.isSome]
  rw [wrap_u64 _ (by omega)]
  refine aCall_of (by kernel_rfl) (count_call _ (by omega) _ _ fun H' hx => ?_)
  have := vb_length s.size
  dsimp only [str]
  rw [bs_add _ _ (by rw [ofL_size]; omega)]
  exact h _ hx
theorem refText_call (s : ByteArray) (hs : s.size ≤ 4611686018427387904) (H : AH) (R : AEnd → AH → Prop) (h : ∀ H', Ext H H' → R (.ret (str (tb s))) H') : ACall Try.prog 25 [str s] H R := by
  apply f25_call
  unfold f25_B
  simp only [str, aBuiltin, aLen, und9, true_and, aConvert, und34, und3, ty3, Option.isSome]
  rw [wrap_u64 _ (by omega)]
  refine aCall_of (by kernel_rfl) (refCount_call _ (by omega) _ _ fun H' hx => ?_)
  have := vb_length s.size
  dsimp only [str]
  rw [bs_add _ _ (by rw [ofL_size]; omega)]
  exact h _ hx

theorem truth_call (b : Bool) (H : AH) (R : AEnd → AH → Prop) (h : R (.ret (str (ofL [if b then 1 else 0]))) H) : ACall Try.prog 26 [.bool b] H R := by
  apply f26_call
  unfold f26_B
  rw [aIf_bool]
  cases b <;> exact h

/-- A reader: what is left, the first error. -/
def rdr (s : ByteArray) (e : Int) : AObj := .row [.string s, .int .i64 e] 0
theorem new_call (s : ByteArray) (H : AH) (R : AEnd → AH → Prop) (h : R (.ret (ptr H.next)) (H.push (rdr s 0))) : ACall Try.prog 27 [str s] H R := by
  apply f27_call
  unfold f27_B
  simp only [aBuild, ze59, und59]
  refine ⟨by kernel_rfl, by kernel_rfl, ?_⟩
  simp [aFill, aNew, Value.cells, setCells, oneCell, str]
  exact h
end Go.Proofs.Ytmidgfmopmpppaa
