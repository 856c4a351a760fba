/- The packing functions, each by what it computes: the reader. -/
import Derived.Test.YtmidgfmopmpppaaVPackW
namespace Go.Proofs.Ytmidgfmopmpppaa
set_option linter.unusedVariables false
set_option linter.unusedSimpArgs false
open Go.RowKit

def ptr1 (i : Nat) : Value := .pointer (some ⟨i, 1, none⟩)
section
variable {K : Value → Prop}
theorem fld0 (i : Nat) : aField Try.prog 59 (ptr i) 0 K = K (ptr i) := by
  simp only [aField, und59, ptr]
  simp [ty9, ce9]
theorem fld1 (i : Nat) : aField Try.prog 59 (ptr i) 1 K = K (ptr1 i) := by
  simp only [aField, und59, ptr, ptr1]
  simp [ty46, ce46]
theorem nilc (i : Nat) : aNilCheck (ptr i) K = K (ptr i) := rfl
theorem eqnil (i : Nat) : aBin Try.prog .eql 41 (ptr i) (.pointer none) K = K (.bool false) := by
  simp [aBin, aEq, ptr, und41]
theorem eqnil2 : aBin Try.prog .eql 41 (.pointer none) (.pointer none) K = K (.bool true) := by
  simp [aBin, aEq, und41]
variable {H : AH} {i : Nat} {s : ByteArray} {e : Int}
theorem ld0 (h : H.get i = some (rdr s e)) : aLoad Try.prog 9 (ptr i) H K = K (.string s) := by
  simp [aLoad, ptr, AH.cells, h, rdr, st9, ty9]
theorem ld1 (h : H.get i = some (rdr s e)) : aLoad Try.prog 46 (ptr1 i) H K = K (.int .i64 e) := by
  simp [aLoad, ptr1, AH.cells, h, rdr, st46, ty46]
theorem sto0 {K : AH → Prop} (h : H.get i = some (rdr s e)) (s' : ByteArray) : aStore Try.prog 9 (ptr i) (.string s') H K = K (H.set i (rdr s' e)) := by
  simp [aStore, ptr, h, rdr, ty9, ce9, Value.cells, setCells, oneCell]
theorem sto1 {K : AH → Prop} (h : H.get i = some (rdr s e)) (e' : Int) : aStore Try.prog 46 (ptr1 i) (.int .i64 e') H K = K (H.set i (rdr s e')) := by
  simp [aStore, ptr1, h, rdr, ty46, ce46, Value.cells, setCells, oneCell]
end

theorem AH.set_set (H : AH) (i : Nat) (a b : AObj) : (H.set i a).set i b = H.set i b := by
  unfold AH.set
  congr 1
  funext j
  by_cases h : j = i <;> simp [h]

theorem off_call (i : Nat) (s : ByteArray) (e : Int) (H : AH) (hg : H.get i = some (rdr s e)) (R : AEnd → AH → Prop) (h : R (.ret (.bool (!decide (e = 0)))) H) : ACall Try.prog 41 [ptr i] H R := by
  apply f41_call
  unfold f41_B
  rw [eqnil, aIf_false, nilc, fld1, ld1 hg, bi_neq]
  exact h
theorem off_nil (H : AH) (R : AEnd → AH → Prop) (h : R (.ret (.bool true)) H) : ACall Try.prog 41 [.pointer none] H R := by
  apply f41_call
  unfold f41_B
  rw [eqnil2, aIf_true]
  exact h
theorem bad_call (i : Nat) (s : ByteArray) (e : Int) (H : AH) (hg : H.get i = some (rdr s e)) (R : AEnd → AH → Prop) (h : R (.ret (.int .i64 e)) H) : ACall Try.prog 31 [ptr i] H R := by
  apply f31_call
  unfold f31_B
  rw [eqnil, aIf_false, nilc, fld1, ld1 hg]
  exact h
theorem bad_nil (H : AH) (R : AEnd → AH → Prop) (h : R (.ret (.int .i64 1)) H) : ACall Try.prog 31 [.pointer none] H R := by
  apply f31_call
  unfold f31_B
  rw [eqnil2, aIf_true]
  exact h
theorem left_call (i : Nat) (s : ByteArray) (e : Int) (H : AH) (hg : H.get i = some (rdr s e)) (R : AEnd → AH → Prop) (h : R (.ret (.int .i64 s.size)) H) : ACall Try.prog 32 [ptr i] H R := by
  apply f32_call
  unfold f32_B
  rw [eqnil, aIf_false, nilc, fld0, ld0 hg]
  simp only [aBuiltin, aLen, und9, true_and]
  exact h
theorem left_nil (H : AH) (R : AEnd → AH → Prop) (h : R (.ret (.int .i64 0)) H) : ACall Try.prog 32 [.pointer none] H R := by
  apply f32_call
  unfold f32_B
  rw [eqnil2, aIf_true]
  exact h
theorem fail_call (i : Nat) (s : ByteArray) (e e' : Int) (H : AH) (hg : H.get i = some (rdr s e)) (R : AEnd → AH → Prop) (h : R (.ret (.tuple #[])) (H.set i (rdr ByteArray.empty e'))) : ACall Try.prog 43 [ptr i, .int .i64 e'] H R := by
  apply f43_call
  unfold f43_B
  rw [nilc, fld0, sto0 hg, nilc, fld1, sto1 (s := ⟨#[]⟩) (e := e) (by rw [AH.get_set, if_pos rfl]), AH.set_set]
  exact h

/-- What 'count' tells. -/
def cres : Except Nat (Nat × Nat) → Value
  | .error e => .tuple #[.int .u64 0, .int .i64 0, .int .i64 e]
  | .ok (n, k) => .tuple #[.int .u64 n, .int .i64 k, .int .i64 0]
def addTo (acc i : Nat) : Except Nat (Nat × Nat) → Except Nat (Nat × Nat)
  | .error e => .error e
  | .ok (n, k) => .ok (acc + 2 ^ (7 * i) * n, i + k)

theorem and_127 (c : UInt8) : ((c &&& 127).toNat : Nat) = c.toNat % 128 := by
  rw [UInt8.toNat_and]
  exact Nat.and_two_pow_sub_one_eq_mod c.toNat 7
theorem pow56 (i : Nat) (h : i ≤ 8) : 2 ^ (7 * i) ≤ 72057594037927936 := by
  have h1 : 2 ^ (7 * i) ≤ 2 ^ 56 := Nat.pow_le_pow_right (by omega) (by omega)
  have h2 : (2 : Nat) ^ 56 = 72057594037927936 := by decide
  rw [h2] at h1
  exact h1
theorem or_add (acc x i : Nat) (h : acc < 2 ^ i) : acc ||| x * 2 ^ i = acc + 2 ^ i * x := by
  rw [Nat.or_comm, Nat.mul_comm, ← Nat.two_pow_add_eq_or_of_lt h, Nat.add_comm]

theorem aIndex_at {P : Program} {t : TypeId} (hu : P.underlying t = some .string) (s : ByteArray) (k : Nat) (c : UInt8) (l : List UInt8) (h : s.data.toList.drop k = c :: l) (K : Value → Prop) :
    aIndex P t (.string s) (.int .i64 k) K = K (.int .u8 c.toNat) := by
  have hk : k < s.data.toList.length := by
    have := congrArg List.length h
    simp at this
    rcases Nat.lt_or_ge k s.data.toList.length with x | x
    · exact x
    · simp at x; omega
  have h' : k < s.size := by simpa using hk
  have hc : s.data.toList[k] = c := by
    rw [List.drop_eq_getElem_cons hk] at h
    exact (List.cons.inj h).1
  simp only [aIndex, hu, true_and, Int.toNat_natCast]
  rw [List.getD_eq_getElem?_getD, List.getElem?_eq_getElem hk, hc]
  have h1 : (0 : Int) ≤ k := by omega
  have h2 : (k : Int) < s.size := by omega
  simp [h2]

set_option maxRecDepth 20000 in
set_option maxHeartbeats 2000000 in
theorem pcount_call (i : Nat) (s : ByteArray) (e : Int) (H : AH) (hg : H.get i = some (rdr s e)) (R : AEnd → AH → Prop) (h : R (.ret (cres (pc s.data.toList))) H) : ACall Try.prog 42 [ptr i] H R := by
  apply f42_call
  unfold f42_B
  refine f42_L0_rule (J := fun m x5 x8 x27 x28 x43 x44 H' => ∃ idx acc : Nat, m = 9 - idx ∧ idx ≤ 9 ∧ x5 = .int .u64 acc ∧ x8 = .int .i64 idx ∧ H' = H ∧ acc < 2 ^ (7 * idx) ∧
      pc s.data.toList = addTo acc idx (pcF (9 - idx) (decide (idx = 0)) (s.data.toList.drop idx))) 9
    ⟨0, 0, rfl, by omega, rfl, rfl, rfl, by decide, by
      show pc _ = _
      unfold pc
      rw [List.drop_zero]
      show pcF 9 true _ = addTo 0 0 (pcF 9 true _)
      generalize pcF 9 true s.data.toList = x
      cases x with
      | error e => rfl
      | ok p => obtain ⟨n, k⟩ := p; simp [addTo]⟩ ?_
  rintro m x5 x8 x27 x28 x43 x44 H' ⟨idx, acc, rfl, hidx, rfl, rfl, rfl, hacc, hpc⟩
  intros
  unfold f42_R0
  have hpow : 2 ^ (7 * idx) ≤ 2 ^ 63 := Nat.pow_le_pow_right (by omega) (by omega)
  rw [bi_lss, aIf_dec, if_pos (by omega), nilc, fld0, ld0 hg]
  simp only [aBuiltin, aLen, und9, true_and, bi_geq, aIf_dec]
  have hlen : s.data.toList.length = s.size := by simp
  by_cases hend : s.size ≤ idx
  · rw [if_pos (by omega)]
    rw [List.drop_eq_nil_of_le (by omega)] at hpc
    have : pc s.data.toList = .error 3 := by rw [hpc]; unfold pcF; rfl
    rw [this] at h
    exact h
  · rw [if_neg (by omega)]
    obtain ⟨c, l, hd⟩ : ∃ c l, s.data.toList.drop idx = c :: l := by
      cases hx : s.data.toList.drop idx with
      | nil => have := congrArg List.length hx; simp at this; omega
      | cons c l => exact ⟨c, l, rfl⟩
    have hd1 : s.data.toList.drop (idx + 1) = l := by rw [← List.drop_drop, hd]; rfl
    rw [nilc, fld0, ld0 hg, aIndex_at und9 s idx c l hd, bi_eql, aIf_dec]
    rw [hd] at hpc
    have hclt := UInt8.toNat_lt c
    have e7 : IntKind.i64.wrap (7 * (idx : Int)) = ((7 * idx : Nat) : Int) := by rw [wrap_i64 _ (by omega) (by omega)]; omega
    have e1 : IntKind.i64.wrap ((idx : Int) + 1) = ((idx + 1 : Nat) : Int) := by rw [wrap_i64 _ (by omega) (by omega)]; omega
    have c127 : Value.int .u8 127 = .int .u8 (127 : UInt8).toNat := rfl
    by_cases h9 : idx = 9
    · subst h9
      rw [if_pos (by omega), bi_gtr, f42_J0_eq, f42_J0_B, aIf_dec]
      have hpc' : pc s.data.toList = addTo acc 9 (pcF 0 false (c :: l)) := hpc
      simp only [pcF] at hpc'
      by_cases hc1 : 1 < c.toNat
      · rw [if_pos (by omega)]
        rw [if_pos hc1] at hpc'
        rw [hpc'] at h
        exact h
      · rw [if_neg (by omega), f42_J1_eq, f42_J1_B, c127, bu8_and, and_127, cv_int und34 ty5, wrap_u64 _ (by omega), bi_mul, e7, bu_shl _ _ (by omega) _ (by omega),
          bu_or _ _ (by omega) (by omega), or_add _ _ _ hacc, bi_lss, aIf_dec, if_pos (by omega), bi_eql, aIf_dec]
        rw [if_neg hc1] at hpc'
        by_cases hc0 : c.toNat = 0
        · rw [if_pos (by omega), bi_gtr, f42_J2_eq, f42_J2_B, aIf_dec, if_pos (by omega)]
          rw [if_pos ⟨hc0, trivial⟩] at hpc'
          rw [hpc'] at h
          exact h
        · rw [if_neg (by omega), f42_J2_eq, f42_J2_B, aIf_false, f42_J3_eq, f42_J3_B, bi_add, e1]
          rw [if_neg (by omega)] at hpc'
          rw [hpc'] at h
          have : c.toNat % 128 = c.toNat := by omega
          rw [this]
          exact h
    · rw [if_neg (by omega)]
      obtain ⟨f, hf⟩ : ∃ f, 9 - idx = f + 1 := ⟨8 - idx, by omega⟩
      rw [hf] at hpc
      simp only [pcF] at hpc
      have hpow2 := pow56 idx (by omega)
      have hmul : c.toNat % 128 * 2 ^ (7 * idx) ≤ 127 * 72057594037927936 := Nat.mul_le_mul (Nat.le_of_lt_succ (Nat.mod_lt _ (by decide))) hpow2
      rw [f42_J0_eq, f42_J0_B, aIf_false]
      rw [f42_J1_eq, f42_J1_B]
      rw [c127, bu8_and, and_127, cv_int und34 ty5, wrap_u64 _ (by omega), bi_mul, e7]
      rw [bu_shl _ _ (by omega) _ (by omega)]
      rw [bu_or _ _ (by omega) (by omega)]
      rw [or_add _ _ _ hacc]
      rw [bi_lss, aIf_dec]
      have hcases := Nat.lt_or_ge c.toNat 128
      clear hmul hpow2 hpow
      rcases hcases with hc128 | hc128
      · have hcm : c.toNat % 128 = c.toNat := by omega
        rw [if_pos (by omega), bi_eql, aIf_dec, hcm]
        rw [if_pos hc128] at hpc
        by_cases hc0 : c.toNat = 0
        · rw [if_pos (by omega), bi_gtr, f42_J2_eq, f42_J2_B, aIf_dec]
          by_cases hi0 : idx = 0
          · rw [if_neg (by omega), f42_J3_eq, f42_J3_B, bi_add, e1]
            rw [if_neg (by simp [hi0])] at hpc
            rw [hpc] at h
            exact h
          · rw [if_pos (by omega)]
            rw [if_pos ⟨hc0, by simp [hi0]⟩] at hpc
            rw [hpc] at h
            exact h
        · rw [if_neg (by omega), f42_J2_eq, f42_J2_B, aIf_false, f42_J3_eq, f42_J3_B, bi_add, e1]
          rw [if_neg (by simp [hc0])] at hpc
          rw [hpc] at h
          exact h
      · rw [if_neg (by omega), bi_add, e1]
        rw [if_neg (by omega)] at hpc
        have hcm : c.toNat % 128 = c.toNat - 128 := by omega
        rw [hcm]
        refine ⟨9 - (idx + 1), by omega, f42_I0_mk ⟨idx + 1, _, rfl, by omega, rfl, rfl, rfl, ?_, ?_⟩⟩
        · have : 2 ^ (7 * (idx + 1)) = 128 * 2 ^ (7 * idx) := by rw [show 7 * (idx + 1) = 7 * idx + 7 from by omega, Nat.pow_add]; omega
          have h3 : 2 ^ (7 * idx) * (c.toNat - 128) ≤ 2 ^ (7 * idx) * 127 := Nat.mul_le_mul_left _ (by omega)
          omega
        · rw [hpc, hd1, show 9 - (idx + 1) = f from by omega]
          have hb : decide (idx + 1 = 0) = false := by simp
          rw [hb]
          cases pcF f false l with
          | error e => rfl
          | ok p =>
            obtain ⟨n, k⟩ := p
            have : 2 ^ (7 * (idx + 1)) = 2 ^ (7 * idx) * 128 := by rw [show 7 * (idx + 1) = 7 * idx + 7 from by omega, Nat.pow_add]
            show Except.ok (acc + 2 ^ (7 * idx) * (c.toNat - 128 + 128 * n), idx + (k + 1)) = Except.ok (acc + 2 ^ (7 * idx) * (c.toNat - 128) + 2 ^ (7 * (idx + 1)) * n, idx + 1 + k)
            rw [this, Nat.mul_add, Nat.mul_assoc, Nat.add_assoc, Nat.add_assoc idx 1 k, Nat.add_comm 1 k]
end Go.Proofs.Ytmidgfmopmpppaa
