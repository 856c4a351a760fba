/- The statements of the packing chapter: the writers'. -/
import Derived.Test.YtmidgfmopmpppaaPackR
import Derived.Test.YtmidgfmopmpppaaGenC
import Derived.Test.YtmidgfmopmpppaaAbsR
namespace Go.Proofs.Ytmidgfmopmpppaa
set_option linter.unusedVariables false
set_option linter.unusedSimpArgs false
open Go.RowKit

theorem un_not {b : Bool} {K : Value → Prop} : aUn .not (.bool b) K = K (.bool (!b)) := rfl
theorem len_str {s : ByteArray} {H : AH} {K : KV} : aBuiltin Try.prog .len [9] [.string s] H K = K (.int .i64 s.size) H := by
  simp [aBuiltin, aLen, und9]
theorem dec_self {α : Type} [DecidableEq α] (a : α) : decide (a = a) = true := by simp

theorem packWrites_law (n : Nat) (hn : n < 18446744073709551616) (m : Int) (h1 : -9223372036854775808 ≤ m) (h2 : m ≤ 9223372036854775807) (s : ByteArray) (H : AH) : ACall Try.prog 10 [.int .u64 n, i64 m, str s] H AllTrue := by
  apply f10_call
  unfold f10_B
  refine aCall_of (by kernel_rfl) (pawake_call _ _ fun H1 _ => ?_)
  dsimp only [str]
  rw [un_not, aIf_bool, Bool.not_true, cond_false, len_str, bi_gtr, aIf_dec]
  by_cases hs : s.size > 20000
  · rw [if_pos (by omega)]
    exact aCall_of (by kernel_rfl) (pawake_call _ _ fun H2 _ => rfl)
  · rw [if_neg (by omega)]
    refine aCall_of (by kernel_rfl) (pawake_call _ _ fun H2 _ => ?_)
    dsimp only
    rw [aIf_true]
    refine aCall_of (by kernel_rfl) (count_call n hn _ _ fun H3 _ => aCall_of (by kernel_rfl) (refCount_call n hn _ _ fun H4 _ => ?_))
    dsimp only [str]
    rw [bs_eql, dec_self, aIf_true]
    refine aCall_of (by kernel_rfl) (number_call m h1 h2 _ _ fun H5 _ => aCall_of (by kernel_rfl) (refNumber_call m h1 h2 _ _ fun H6 _ => ?_))
    dsimp only [str]
    rw [bs_eql, dec_self, aIf_true]
    refine aCall_of (by kernel_rfl) (text_call s (by omega) _ _ fun H7 _ => aCall_of (by kernel_rfl) (refText_call s (by omega) _ _ fun H8 _ => ?_))
    dsimp only [str]
    rw [bs_eql, dec_self, aIf_true, bi_rem _ _ _ (by omega)]
    have e1 : (n : Int).tmod 2 = ((n % 2 : Nat) : Int) := rfl
    rw [e1, bi_eql, bi_rem _ _ _ (by omega), e1, cv_int und5 ty34, wrap_u8_of]
    have e2 : decide (((n % 2 : Nat) : Int) = 1) = decide (n % 2 = 1) := by rw [decide_eq_decide]; omega
    rw [e2]
    have e3 : (if decide (n % 2 = 1) = true then (1 : UInt8) else 0) = UInt8.ofNat (n % 2) := by
      have h01 : n % 2 = 0 ∨ n % 2 = 1 := by omega
      rcases h01 with h | h <;> rw [h] <;> rfl
    refine ⟨aCall_of (by kernel_rfl) (truth_call _ _ _ (buildByte bt30 _ ?_)), buildByte bt30 _ ⟨aCall_of (by kernel_rfl) (truth_call _ _ _ ?_), ?_⟩⟩
    · refine ownText bt30 und9 (H0 := H8) (l := [UInt8.ofNat (n % 2)]) (.row ((Ext.refl H8).push _) (Nat.le_refl _) (Nat.lt_succ_self _) (by rw [AH.get_push, if_pos rfl]) rfl) ?_
      dsimp only [str]
      rw [bs_eql, e3]
      exact congrArg AEnd.ret (congrArg Value.bool (dec_self _))
    · dsimp only [str]
      refine ownText bt30 und9 (H0 := H8) (l := [UInt8.ofNat (n % 2)]) (.row ((Ext.refl H8).push _) (Nat.le_refl _) (Nat.lt_succ_self _) (by rw [AH.get_push, if_pos rfl]) rfl) ?_
      rw [bs_eql, e3]
      exact congrArg AEnd.ret (congrArg Value.bool (dec_self _))
    · refine ownText bt30 und9 (H0 := H8) (l := [UInt8.ofNat (n % 2)]) (.row ((Ext.refl H8).push _) (Nat.le_refl _) (Nat.lt_succ_self _) (by rw [AH.get_push, if_pos rfl]) rfl) ?_
      refine aCall_of (by kernel_rfl) (truth_call _ _ _ ?_)
      dsimp only [str]
      rw [bs_eql, e3]
      exact congrArg AEnd.ret (congrArg Value.bool (dec_self _))

theorem zz_pair (k : Int) (h1 : -9223372036854775808 ≤ k) (h2 : k ≤ 9223372036854775807) : groups 9 (zz k) = groups 9 (zz (-k - 1)) := by
  unfold zz
  by_cases h : 0 ≤ k
  · rw [if_pos h, if_neg (by omega)]
    have e1 : (2 * k).toNat = 2 * k.toNat := by omega
    have e2 : (-2 * (-k - 1) - 1).toNat = 2 * k.toNat + 1 := by omega
    rw [e1, e2]
    exact groups_pair 9 _ (Nat.lt_of_lt_of_le (m := 2 ^ 63) (by omega) (by decide))
  · rw [if_neg h, if_pos (by omega)]
    have e1 : (-2 * k - 1).toNat = 2 * (-k - 1).toNat + 1 := by omega
    have e2 : (2 * (-k - 1)).toNat = 2 * (-k - 1).toNat := by omega
    rw [e1, e2]
    exact (groups_pair 9 _ (Nat.lt_of_lt_of_le (m := 2 ^ 63) (by omega) (by decide))).symm

set_option maxHeartbeats 1000000 in
theorem packSizes_fin (m n : Nat) (hn : n < 18446744073709551616) (hmn : m ≤ n) (k : Int) (h1 : -9223372036854775808 ≤ k) (h2 : k ≤ 9223372036854775807) (l : List Value) (hl : l.length = 41) (s3 s4 s5 s6 : Value) (H : AH) :
    ∀ s9 s10 s11 s12 s13 s14 s15 s16 s17 s18 s19 s20 s21 s22 s23 s24 s25 s26 s27 s28 s29 s30 s31 s32 s33 s34 s35 s36 s37 s38 s39 s40 s41 s42 s43 s44 s45 s46 s47 s48 s49 s8 : Value,
    f9_J1_B (.int .u64 m) (.int .u64 n) (i64 k) s3 s4 s5 s6 (.int .i64 (groups 9 n)) s8 s9 s10 s11 s12 s13 s14 s15 s16 s17 s18 s19 s20 s21 s22 s23 s24 s25 s26 s27 s28 s29 s30 s31 s32 s33 s34 s35 s36 s37 s38 s39 s40 s41 s42 s43 s44 s45 s46 s47 s48 s49 H AllTrue := by
  intros
  unfold f9_J1_B
  refine aCall_of (by kernel_rfl) (pawake_call _ _ fun H2 _ => ?_)
  dsimp only
  rw [aIf_true]
  refine aCall_of (by kernel_rfl) (count_call n hn _ _ fun H3 _ => ?_)
  dsimp only [str]
  rw [len_str, bi_eql, aIf_dec, if_pos (by rw [ofL_size]; show ((vbF 9 n).length : Int) = _; rw [vbF_groups])]
  refine aCall_of (by kernel_rfl) (count_call m (by omega) _ _ fun H4 _ => ?_)
  dsimp only [str]
  rw [len_str, bi_leq, aIf_dec, if_pos (by
    rw [ofL_size]
    have := vbF_mono 9 m n hmn
    rw [vbF_groups 9 n] at this
    show ((vbF 9 m).length : Int) ≤ _
    omega)]
  refine aCall_of (by kernel_rfl) (number_call k h1 h2 _ _ fun H5 _ => ?_)
  dsimp only [str, i64]
  rw [len_str]
  simp only [aUn, bi_sub]
  have e : IntKind.i64.wrap (IntKind.i64.wrap (0 - k) - 1) = -k - 1 := by
    rw [wrapi64_eq, wrapi64_eq]
    split <;> split <;> omega
  rw [e]
  refine aCall_of (by kernel_rfl) (number_call (-k - 1) (by omega) (by omega) _ _ fun H6 _ => ?_)
  dsimp only [str]
  rw [len_str, bi_eql]
  refine congrArg AEnd.ret (congrArg Value.bool (decide_eq_true ?_))
  rw [ofL_size, ofL_size]
  show ((vbF 9 (zz k)).length : Int) = ((vbF 9 (zz (-k - 1))).length : Int)
  rw [vbF_groups, vbF_groups, zz_pair k h1 h2]

set_option maxRecDepth 20000 in
set_option maxHeartbeats 1000000 in
theorem packSizes_mid (m n : Nat) (hn : n < 18446744073709551616) (hmn : m ≤ n) (k : Int) (h1 : -9223372036854775808 ≤ k) (h2 : k ≤ 9223372036854775807) (H : AH) (s3 s4 s5 s6 : Value) :
    ∀ s7 s8 s9 s10 s11 s12 s13 s14 s15 s16 s17 s18 s19 s20 s21 s22 s23 s24 s25 s26 s27 s28 s29 s30 s31 s32 s33 s34 s35 s36 s37 s38 s39 s40 s41 s42 s43 s44 s45 s46 s47 s48 s49 : Value,
    f9_J0_B (.int .u64 m) (.int .u64 n) (i64 k) s3 s4 s5 s6 s7 s8 s9 s10 s11 s12 s13 s14 s15 s16 s17 s18 s19 s20 s21 s22 s23 s24 s25 s26 s27 s28 s29 s30 s31 s32 s33 s34 s35 s36 s37 s38 s39 s40 s41 s42 s43 s44 s45 s46 s47 s48 s49 H AllTrue := by
  intros
  unfold f9_J0_B
  have h7 : (7 : Int) = ((7 : Nat) : Int) := rfl
  rw [h7, bu_shr _ _ 7 (by omega) _ rfl]
  refine f9_L0_rule (J := fun q x7 x8 H' => ∃ (f x c : Nat), q = x ∧ x7 = .int .i64 c ∧ x8 = .int .u64 x ∧ x < 2 ^ (7 * f + 1) ∧ c ≤ 10 ∧ (x ≠ 0 → c + f ≤ 9) ∧ (x = 0 → groups 9 n = c) ∧ (x ≠ 0 → groups 9 n = c + groups f x)) (n / 128)
    ⟨8, n / 128, 1, rfl, rfl, rfl, by omega, by omega, fun _ => by omega, fun h => by rw [groups, if_pos (by omega)], fun h => by rw [groups, if_neg (by omega), Nat.add_comm]⟩ ?_
  rintro q x7 x8 H' ⟨f, x, c, rfl, rfl, rfl, hx, hc, hcf, hz, hnz⟩
  intros
  unfold f9_R0
  rw [bi_gtr, aIf_dec]
  by_cases h0 : q = 0
  · rw [if_neg (by omega), f9_J1_eq, ← hz h0]
    exact packSizes_fin m n hn hmn k h1 h2 (List.replicate 41 undef) rfl _ _ _ _ _ _ _ _ _ _ _ _ _ _ _ _ _ _ _ _ _ _ _ _ _ _ _ _ _ _ _ _ _ _ _ _ _ _ _ _ _ _ _ _ _ _ _
  · rw [if_pos (by omega), bi_add, h7, bu_shr _ _ 7 (by omega) _ rfl]
    have e1 : IntKind.i64.wrap ((c : Int) + 1) = ((c + 1 : Nat) : Int) := by rw [wrap_i64 _ (by omega) (by omega)]; omega
    rw [e1]
    have hg := hnz h0
    have hcf' := hcf h0
    refine ⟨q / 128, by omega, f9_I0_mk ⟨f - 1, q / 128, c + 1, rfl, rfl, rfl, ?_, by omega, ?_, ?_, ?_⟩⟩
    · cases f with
      | zero =>
        have : q < 2 := hx
        show q / 128 < 2 ^ (7 * 0 + 1)
        omega
      | succ f =>
        have : 2 ^ (7 * (f + 1) + 1) = 128 * 2 ^ (7 * f + 1) := by rw [show 7 * (f + 1) + 1 = (7 * f + 1) + 7 from by omega, Nat.pow_add]; omega
        show q / 128 < 2 ^ (7 * f + 1)
        omega
    · intro h
      cases f with
      | zero => have : q < 2 := hx; omega
      | succ f => omega
    · intro h
      rw [hg]
      cases f with
      | zero => rfl
      | succ f => rw [groups, if_pos (by omega)]
    · intro h
      rw [hg]
      cases f with
      | zero => have : q < 2 := hx; omega
      | succ f => rw [groups, if_neg (by omega)]; show _ = c + 1 + groups f (q / 128); omega

set_option maxRecDepth 20000 in
theorem packSizes_law (m n : Nat) (hm : m < 18446744073709551616) (hn : n < 18446744073709551616) (k : Int) (h1 : -9223372036854775808 ≤ k) (h2 : k ≤ 9223372036854775807) (H : AH) : ACall Try.prog 9 [.int .u64 m, .int .u64 n, i64 k] H AllTrue := by
  apply f9_call
  unfold f9_B
  refine aCall_of (by kernel_rfl) (pawake_call _ _ fun H1 _ => ?_)
  dsimp only [str]
  rw [un_not, aIf_bool, Bool.not_true, cond_false, bi_gtr, aIf_dec]
  by_cases h : m > n
  · rw [if_pos (by omega), f9_J0_eq]
    exact packSizes_mid n m hm (by omega) k h1 h2 _ _ _ _ _ _ _ _ _ _ _ _ _ _ _ _ _ _ _ _ _ _ _ _ _ _ _ _ _ _ _ _ _ _ _ _ _ _ _ _ _ _ _ _ _ _ _ _
  · rw [if_neg (by omega), f9_J0_eq]
    exact packSizes_mid m n hn (by omega) k h1 h2 _ _ _ _ _ _ _ _ _ _ _ _ _ _ _ _ _ _ _ _ _ _ _ _ _ _ _ _ _ _ _ _ _ _ _ _ _ _ _ _ _ _ _ _ _ _ _ _

theorem wf_nat64 {n : Int} (h : (Lit.int .u64 n).wf = true) : ∃ b : Nat, n = b ∧ b < 18446744073709551616 := by
  have h' : 0 ≤ n ∧ n ≤ 18446744073709551615 := by simpa [Lit.wf, IntKind.min, IntKind.max, IntKind.signed, IntKind.bits] using h
  exact ⟨n.toNat, by omega, by omega⟩

theorem packWrites_walk (a0 : Int) (w0 : (Lit.int .u64 a0).wf = true) (a1 : Int) (w1 : (Lit.int .i64 a1).wf = true) (a2 : ByteArray) (w2 : a2.size ≤ 140737488351232) (w : World) :
    Calls Try.prog 10 #[.int .u64 a0, .int .i64 a1, .string a2] w fun e w' => e = .returned (.bool true) ∧ Below w.heap.size w w' := by
  obtain ⟨b0, rfl, hb⟩ := wf_nat64 w0
  exact calls_plain w (by rfl) (packWrites_law b0 hb a1 (wf_i64 w1).1 (wf_i64 w1).2 a2 AH0)
theorem packSizes_walk (a0 : Int) (w0 : (Lit.int .u64 a0).wf = true) (a1 : Int) (w1 : (Lit.int .u64 a1).wf = true) (a2 : Int) (w2 : (Lit.int .i64 a2).wf = true) (w : World) :
    Calls Try.prog 9 #[.int .u64 a0, .int .u64 a1, .int .i64 a2] w fun e w' => e = .returned (.bool true) ∧ Below w.heap.size w w' := by
  obtain ⟨b0, rfl, hb0⟩ := wf_nat64 w0
  obtain ⟨b1, rfl, hb1⟩ := wf_nat64 w1
  exact calls_plain w (by rfl) (packSizes_law b0 b1 hb0 hb1 a2 (wf_i64 w2).1 (wf_i64 w2).2 AH0)
end Go.Proofs.Ytmidgfmopmpppaa
