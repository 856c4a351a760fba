/- The reader's small calls. The packing functions, each by what it computes: the reader. The packing functions, each by what it computes: numbers and texts that are read. The packing functions, each by what it computes: bytes, truths and small numbers that are read, and the end. -/
import Derived.Test.YtfghglacfjncmaaWCdA
import Derived.Test.YtfghglacfjncmaaWGenP
/-! The reader's small calls. -/
namespace Go.Proofs.Ytfghglacfjncmaa
set_option linter.unusedVariables false
set_option linter.unusedSimpArgs false
open Go.RowKit
section
variable {H : AH} {R : AEnd → AH → Prop}
theorem rnew_call (s : ByteArray) (h : R (.ret (.pointer (some ⟨H.next, 0, none⟩))) (H.push (rdr s 0))) : ACall Try.prog 104 [.string s] H R := by
  apply f104_call
  unfold f104_B
  exact wNew_at h
variable {i : Nat} {s : ByteArray} {e : Int}
theorem off_call (hd : Has H i (rdr s e)) (h : R (.ret (.bool (!decide (e = 0)))) H) : ACall Try.prog 133 [.pointer (some ⟨i, 0, none⟩)] H R := by
  apply f133_call
  unfold f133_B
  exact wIf_f rfl (wPt_at (ldI_at hd rfl h))
theorem bad_call (hd : Has H i (rdr s e)) (h : R (.ret (.int .i64 e)) H) : ACall Try.prog 132 [.pointer (some ⟨i, 0, none⟩)] H R := by
  apply f132_call
  unfold f132_B
  exact wIf_f rfl (wPt_at (ldI_at hd rfl h))
theorem fail_call (hd : Has H i (rdr s e)) (e' : Int) (h : ∀ H', Has H' i (rdr ByteArray.empty e') → Fr [i] H H' → R (.ret (.tuple #[])) H') : ACall Try.prog 134 [.pointer (some ⟨i, 0, none⟩), .int .i64 e'] H R := by
  apply f134_call
  unfold f134_B
  refine wPt_at (wSt_at hd (by simp) (wPt_at (wSt_at (hd.set _) (by simp [setCells]) ?_)))
  exact h _ ((hd.set _).set _) (((Fr.refl [i] H).set (.inl (by simp)) _).set (.inl (by simp)) _)
end
end Go.Proofs.Ytfghglacfjncmaa

/-! The packing functions, each by what it computes: the reader. -/
namespace Go.Proofs.Ytfghglacfjncmaa
set_option linter.unusedVariables false
set_option linter.unusedSimpArgs false
open Go.RowKit

/-- What 'count' tells. -/
def cres : Except Nat (Nat × Nat) → Value
  | .error e => .tuple #[.int .u64 0, .int .i64 0, .int .i64 e]
  | .ok (n, k) => .tuple #[.int .u64 n, .int .i64 k, .int .i64 0]
def addTo (acc i : Nat) : Except Nat (Nat × Nat) → Except Nat (Nat × Nat)
  | .error e => .error e
  | .ok (n, k) => .ok (acc + 2 ^ (7 * i) * n, i + k)
theorem and_127 (c : UInt8) : ((c &&& 127).toNat : Nat) = c.toNat % 128 := by
  rw [UInt8.toNat_and]
  exact Nat.and_two_pow_sub_one_eq_mod c.toNat 7
theorem pow56 (i : Nat) (h : i ≤ 8) : 2 ^ (7 * i) ≤ 72057594037927936 := by
  have h1 : 2 ^ (7 * i) ≤ 2 ^ 56 := Nat.pow_le_pow_right (by omega) (by omega)
  have h2 : (2 : Nat) ^ 56 = 72057594037927936 := by decide
  rw [h2] at h1
  exact h1
theorem or_add (acc x i : Nat) (h : acc < 2 ^ i) : acc ||| x * 2 ^ i = acc + 2 ^ i * x := by
  rw [Nat.or_comm, Nat.mul_comm, ← Nat.two_pow_add_eq_or_of_lt h, Nat.add_comm]
theorem accE (acc idx : Nat) (c : UInt8) (h : acc < 2 ^ (7 * idx)) (hb : idx ≤ 8 ∨ (idx = 9 ∧ c.toNat ≤ 1)) :
    IntKind.u64.wrap ((BitVec.ofInt IntKind.u64.bits (acc : Int)) ||| (BitVec.ofInt IntKind.u64.bits (IntKind.u64.wrap ((IntKind.u64.wrap (IntKind.u8.wrap ((BitVec.ofInt IntKind.u8.bits (c.toNat : Int)) &&& (BitVec.ofInt IntKind.u8.bits 127)).toNat)) *
      (2 ^ (min (Int.toNat (IntKind.i64.wrap (7 * (idx : Int)))) IntKind.u64.bits)))))).toNat = ((acc + 2 ^ (7 * idx) * (c.toNat % 128) : Nat) : Int) := by
  have hlt := UInt8.toNat_lt c
  have hp : 2 ^ (7 * idx) ≤ 9223372036854775808 := by
    have h1 : 2 ^ (7 * idx) ≤ 2 ^ 63 := Nat.pow_le_pow_right (by omega) (by omega)
    have h2 : (2 : Nat) ^ 63 = 9223372036854775808 := by decide
    omega
  have hm : c.toNat % 128 * 2 ^ (7 * idx) < 18446744073709551616 := by
    rcases hb with hb | ⟨hb, hc⟩
    · have h127 : c.toNat % 128 ≤ 127 := by omega
      have := Nat.mul_le_mul h127 (pow56 idx hb)
      omega
    · have : c.toNat % 128 ≤ 1 := by omega
      have := Nat.mul_le_mul this hp
      omega
  have e7 : IntKind.i64.wrap (7 * (idx : Int)) = ((7 * idx : Nat) : Int) := by rw [wi _ (by omega) (by omega)]; omega
  have ep : (2 : Int) ^ (min (Int.toNat ((7 * idx : Nat) : Int)) IntKind.u64.bits) = ((2 ^ (7 * idx) : Nat) : Int) := by
    have : min (7 * idx) IntKind.u64.bits = 7 * idx := Nat.min_eq_left (show 7 * idx ≤ 64 by omega)
    rw [Int.toNat_natCast, this]; simp
  rw [show (127 : Int) = (((127 : UInt8).toNat : Nat) : Int) from rfl, u8_and, and_127, wu (c.toNat % 128) (by omega), e7, ep, ← Int.natCast_mul, wu _ hm, u64_or _ _ (by omega) hm, or_add _ _ _ h]

section
variable {H : AH} {R : AEnd → AH → Prop} {i : Nat} {s : ByteArray} {e : Int}
set_option maxRecDepth 20000 in
set_option maxHeartbeats 2000000 in
theorem pcount_call (hd : Has H i (rdr s e)) (h : R (.ret (cres (pc s.data.toList))) H) : ACall Try.prog 140 [.pointer (some ⟨i, 0, none⟩)] H R := by
  apply f140_call
  unfold f140_B
  refine f140_L0_rule (J := fun m x5 x8 H' => ∃ idx acc : Nat, m = 9 - idx ∧ idx ≤ 9 ∧ x5 = (acc : Int) ∧ x8 = (idx : Int) ∧ H' = H ∧ acc < 2 ^ (7 * idx) ∧
      pc s.data.toList = addTo acc idx (pcF (9 - idx) (decide (idx = 0)) (s.data.toList.drop idx))) 9
    ⟨0, 0, rfl, by omega, rfl, rfl, rfl, by decide, by
      show pc _ = _
      unfold pc
      rw [List.drop_zero]
      show pcF 9 true _ = addTo 0 0 (pcF 9 true _)
      generalize pcF 9 true s.data.toList = x
      cases x with
      | error e => rfl
      | ok p => obtain ⟨n, k⟩ := p; simp [addTo]⟩ ?_
  rintro m x5 x8 H' ⟨idx, acc, rfl, hidx, rfl, rfl, rfl, hacc, hpc⟩
  intros
  unfold f140_R0
  refine wIf_dt (by omega) (wPt_at (ldS_at hd rfl (wIf_d (fun hend => ?_) (fun hend => ?_))))
  · rw [List.drop_eq_nil_of_le (by rw [data_len]; omega)] at hpc
    have : pc s.data.toList = .error 3 := by rw [hpc]; unfold pcF; rfl
    rw [this] at h
    exact h
  · obtain ⟨c, l, hdr⟩ : ∃ c l, s.data.toList.drop idx = c :: l := by
      cases hx : s.data.toList.drop idx with
      | nil => have := congrArg List.length hx; rw [List.length_drop, data_len] at this; simp at this; omega
      | cons c l => exact ⟨c, l, rfl⟩
    have hd1 : s.data.toList.drop (idx + 1) = l := by rw [← List.drop_drop, hdr]; rfl
    have hget : s.data.toList.getD (Int.toNat (idx : Int)) 0 = c := by
      rw [Int.toNat_natCast, List.getD_eq_getElem?_getD]
      have := congrArg (fun l => l[0]?) hdr
      simp only [List.getElem?_drop, Nat.add_zero, List.getElem?_cons_zero] at this
      rw [this]; rfl
    rw [hdr] at hpc
    have hclt := UInt8.toNat_lt c
    refine wPt_at (ldS_at hd rfl (wIxS_at (by omega) (by omega) ?_))
    rw [hget]
    have hE := accE acc idx c hacc
    have h7n : ∀ P : Prop, P → wNn (IntKind.i64.wrap (7 * (idx : Int))) P := fun P hP => wNn_at (by rw [wi _ (by omega) (by omega)]; omega) hP
    -- behind the ninth byte's test
    have rest : (idx ≤ 8 ∨ (idx = 9 ∧ c.toNat ≤ 1)) → pc s.data.toList = addTo acc idx (if c.toNat < 128 then (if c.toNat = 0 ∧ idx ≠ 0 then .error 4 else .ok (c.toNat, 1)) else match pcF (8 - idx) false l with
        | .error e => .error e
        | .ok (n, k) => .ok (c.toNat - 128 + 128 * n, k + 1)) → True := fun _ _ => trivial
    by_cases h9 : idx = 9
    · subst h9
      have hpc' : pc s.data.toList = addTo acc 9 (pcF 0 false (c :: l)) := hpc
      simp only [pcF] at hpc'
      refine wIf_dt rfl ?_
      rw [f140_J0_eq]
      unfold f140_J0_B
      refine wIf_d (fun hc1 => ?_) (fun hc1 => ?_)
      · rw [if_pos (by omega)] at hpc'
        rw [hpc'] at h
        exact h
      · rw [if_neg (by omega)] at hpc'
        rw [f140_J1_eq]
        unfold f140_J1_B
        rw [hE (.inr ⟨rfl, by omega⟩)]
        refine h7n _ (wIf_dt (by omega) (wIf_d (fun hc0 => ?_) (fun hc0 => ?_)))
        · rw [f140_J2_eq]
          unfold f140_J2_B
          rw [if_pos ⟨by omega, trivial⟩] at hpc'
          rw [hpc'] at h
          exact wIf_dt (by omega) h
        · rw [f140_J2_eq]
          unfold f140_J2_B
          rw [if_neg (by omega)] at hpc'
          rw [hpc'] at h
          refine wIf_f rfl ?_
          rw [f140_J3_eq]
          unfold f140_J3_B
          have : c.toNat % 128 = c.toNat := by omega
          rw [this, wi1 9 (by omega)]
          exact h
    · obtain ⟨f, hf⟩ : ∃ f, 9 - idx = f + 1 := ⟨8 - idx, by omega⟩
      rw [hf] at hpc
      simp only [pcF] at hpc
      refine wIf_df (by omega) ?_
      rw [f140_J0_eq]
      unfold f140_J0_B
      refine wIf_f rfl ?_
      rw [f140_J1_eq]
      unfold f140_J1_B
      rw [hE (.inl (by omega))]
      refine h7n _ (wIf_d (fun hc128 => ?_) (fun hc128 => ?_))
      · have hcm : c.toNat % 128 = c.toNat := by omega
        rw [hcm]
        rw [if_pos (by omega)] at hpc
        refine wIf_d (fun hc0 => ?_) (fun hc0 => ?_)
        · rw [f140_J2_eq]
          unfold f140_J2_B
          refine wIf_d (fun hi0 => ?_) (fun hi0 => ?_)
          · rw [if_pos ⟨by omega, by simp; omega⟩] at hpc
            rw [hpc] at h
            exact h
          · rw [if_neg (by simp; omega)] at hpc
            rw [hpc] at h
            rw [f140_J3_eq]
            unfold f140_J3_B
            rw [wi1 idx (by omega)]
            exact h
        · rw [f140_J2_eq]
          unfold f140_J2_B
          rw [if_neg (by omega)] at hpc
          rw [hpc] at h
          refine wIf_f rfl ?_
          rw [f140_J3_eq]
          unfold f140_J3_B
          rw [wi1 idx (by omega)]
          exact h
      · rw [if_neg (by omega)] at hpc
        have hcm : c.toNat % 128 = c.toNat - 128 := by omega
        rw [hcm]
        refine ⟨9 - (idx + 1), by omega, f140_I0_mk ⟨idx + 1, _, rfl, by omega, rfl, wi1 idx (by omega), rfl, ?_, ?_⟩⟩
        · have : 2 ^ (7 * (idx + 1)) = 128 * 2 ^ (7 * idx) := by rw [show 7 * (idx + 1) = 7 * idx + 7 from by omega, Nat.pow_add]; omega
          have h3 : 2 ^ (7 * idx) * (c.toNat - 128) ≤ 2 ^ (7 * idx) * 127 := Nat.mul_le_mul_left _ (by omega)
          omega
        · rw [hpc, hd1, show 9 - (idx + 1) = f from by omega]
          have hb : decide (idx + 1 = 0) = false := by simp
          rw [hb]
          cases pcF f false l with
          | error e => rfl
          | ok p =>
            obtain ⟨n, k⟩ := p
            have : 2 ^ (7 * (idx + 1)) = 2 ^ (7 * idx) * 128 := by rw [show 7 * (idx + 1) = 7 * idx + 7 from by omega, Nat.pow_add]
            show Except.ok (acc + 2 ^ (7 * idx) * (c.toNat - 128 + 128 * n), idx + (k + 1)) = Except.ok (acc + 2 ^ (7 * idx) * (c.toNat - 128) + 2 ^ (7 * (idx + 1)) * n, idx + 1 + k)
            rw [this, Nat.mul_add, Nat.mul_assoc, Nat.add_assoc, Nat.add_assoc idx 1 k, Nat.add_comm 1 k]

/-- A count is read. -/
def rdC (s : ByteArray) (e : Int) : Nat × ByteArray × Int :=
  if e = 0 then match pc s.data.toList with
    | .error e' => (0, ByteArray.empty, e')
    | .ok (n, k) => (n, s.extract k s.size, 0)
  else (0, s, e)
theorem pc_le {l : List UInt8} {n k : Nat} (h : pc l = .ok (n, k)) : k ≤ l.length := (pcF_ok 9 true l n k h).2.1
theorem pc_lt {l : List UInt8} {n k : Nat} (h : pc l = .ok (n, k)) : n < 18446744073709551616 := (pcF_ok 9 true l n k h).1
theorem pc_err {l : List UInt8} {e : Nat} (h : pc l = .error e) : e ≠ 0 := by have := pcF_errs 9 true l e h; omega
theorem rcount_call (hd : Has H i (rdr s e)) (h : ∀ H', Has H' i (rdr (rdC s e).2.1 (rdC s e).2.2) → Fr [i] H H' → R (.ret (.int .u64 (rdC s e).1)) H') : ACall Try.prog 139 [.pointer (some ⟨i, 0, none⟩)] H R := by
  apply f139_call
  unfold f139_B
  refine wCall_of (off_call hd (opB_at ?_))
  unfold rdC at h
  refine wIf_n (fun he => ?_) (fun he => ?_)
  · rw [if_neg he] at h
    exact h H hd (Fr.refl _ _)
  · subst he
    rw [if_pos rfl] at h
    refine wCall_of (pcount_call hd ?_)
    cases hp : pc s.data.toList with
    | error e' =>
      rw [hp] at h
      have := pc_err hp
      exact opT_at rfl (opI_at (opI_at (opI_at (wIf_nt (by omega) (wCall_of (fail_call hd e' h))))))
    | ok p =>
      obtain ⟨n, k⟩ := p
      rw [hp] at h
      have hk := pc_le hp
      rw [data_len] at hk
      refine opT_at rfl (opI_at (opI_at (opI_at (wIf_nf rfl (wPt_at (ldS_at hd rfl (wSlS_at (by omega) (by omega) (by omega) (wPt_at (wSt_at hd (by simp) ?_)))))))))
      exact h _ (hd.set _) (((Fr.refl [i] H).set (.inl (by simp)) _))
end
end Go.Proofs.Ytfghglacfjncmaa

/-! The packing functions, each by what it computes: numbers and texts that are read. -/
namespace Go.Proofs.Ytfghglacfjncmaa
set_option linter.unusedVariables false
set_option linter.unusedSimpArgs false
open Go.RowKit

/-- The number of a count. -/
def uz (n : Nat) : Int := if n % 2 = 0 then ((n / 2 : Nat) : Int) else -((n / 2 : Nat) : Int) - 1
theorem zz_uz (n : Nat) : zz (uz n) = n := by
  unfold uz zz
  by_cases h : n % 2 = 0
  · rw [if_pos h, if_pos (by omega)]; omega
  · rw [if_neg h, if_neg (by omega)]; omega
theorem uz_range (n : Nat) (h : n < 18446744073709551616) : -9223372036854775808 ≤ uz n ∧ uz n ≤ 9223372036854775807 := by
  unfold uz; split <;> omega
theorem rdC_lt (s : ByteArray) (e : Int) : (rdC s e).1 < 18446744073709551616 := by
  unfold rdC
  split
  · cases hp : pc s.data.toList with
    | error e' => show (0 : Nat) < _; omega
    | ok p => obtain ⟨n, k⟩ := p; exact pc_lt hp
  · show (0 : Nat) < _; omega
theorem xor0 (a : Nat) (ha : a < 9223372036854775808) : IntKind.i64.wrap ((BitVec.ofInt IntKind.i64.bits (a : Int)) ^^^ (BitVec.ofInt IntKind.i64.bits (0 : Int))).toNat = (a : Int) := by
  show IntKind.i64.wrap ((BitVec.ofInt 64 (a : Int) ^^^ BitVec.ofInt 64 (0 : Int)).toNat : Int) = _
  have e : (BitVec.ofInt 64 (a : Int) ^^^ BitVec.ofInt 64 (0 : Int)).toNat = a := by
    have : BitVec.ofInt 64 (0 : Int) = 0#64 := by decide
    rw [this, BitVec.xor_zero, BitVec.ofInt_natCast, BitVec.toNat_ofNat, Nat.mod_eq_of_lt (by omega)]
  rw [e, wi _ (by omega) (by omega)]
theorem xorm1 (a : Nat) (ha : a < 9223372036854775808) : IntKind.i64.wrap ((BitVec.ofInt IntKind.i64.bits (a : Int)) ^^^ (BitVec.ofInt IntKind.i64.bits (-1 : Int))).toNat = -(a : Int) - 1 := by
  show IntKind.i64.wrap ((BitVec.ofInt 64 (a : Int) ^^^ BitVec.ofInt 64 (-1 : Int)).toNat : Int) = _
  have e : (BitVec.ofInt 64 (a : Int) ^^^ BitVec.ofInt 64 (-1 : Int)).toNat = 18446744073709551615 - a := by
    have : BitVec.ofInt 64 (-1 : Int) = BitVec.allOnes 64 := by decide
    rw [this, BitVec.xor_allOnes, BitVec.ofInt_natCast, BitVec.toNat_not, BitVec.toNat_ofNat, Nat.mod_eq_of_lt (by omega)]
  have e2 : IntKind.i64.wrap ((18446744073709551615 - a : Nat) : Int) = -(a : Int) - 1 := by rw [wrapi64_eq]; split <;> omega
  rw [e, e2]
theorem uzE (n : Nat) (hn : n < 18446744073709551616) :
    IntKind.i64.wrap ((BitVec.ofInt IntKind.i64.bits (IntKind.i64.wrap (Int.fdiv (n : Int) (2 ^ (min (Int.toNat 1) IntKind.u64.bits))))) ^^^ (BitVec.ofInt IntKind.i64.bits (IntKind.i64.wrap (0 - (IntKind.i64.wrap (IntKind.u64.wrap ((BitVec.ofInt IntKind.u64.bits (n : Int)) &&& (BitVec.ofInt IntKind.u64.bits 1)).toNat)))))).toNat = uz n := by
  have h1 : Int.fdiv (n : Int) (2 ^ (min (Int.toNat 1) IntKind.u64.bits)) = ((n / 2 : Nat) : Int) := shr_nat n 1 IntKind.u64.bits (by decide)
  have h2 : IntKind.u64.wrap ((BitVec.ofInt IntKind.u64.bits (n : Int)) &&& (BitVec.ofInt IntKind.u64.bits 1)).toNat = ((n % 2 : Nat) : Int) := by
    have := u64_and n 1 hn (by omega)
    rw [Nat.and_one_is_mod] at this
    exact this
  rw [h1, h2, wi ((n / 2 : Nat) : Int) (by omega) (by omega), wi ((n % 2 : Nat) : Int) (by omega) (by omega)]
  unfold uz
  by_cases hp : n % 2 = 0
  · rw [hp, if_pos rfl]
    have e0 : IntKind.i64.wrap (0 - ((0 : Nat) : Int)) = 0 := by decide
    rw [e0, xor0 _ (by omega)]
  · have hp1 : n % 2 = 1 := by omega
    rw [hp1, if_neg (by omega)]
    have e0 : IntKind.i64.wrap (0 - ((1 : Nat) : Int)) = -1 := by decide
    rw [e0, xorm1 _ (by omega)]

section
variable {H : AH} {R : AEnd → AH → Prop} {i : Nat} {s : ByteArray} {e : Int}
theorem rnumber_call (hd : Has H i (rdr s e)) (h : ∀ H', Has H' i (rdr (rdC s e).2.1 (rdC s e).2.2) → Fr [i] H H' → R (.ret (.int .i64 (uz (rdC s e).1))) H') : ACall Try.prog 135 [.pointer (some ⟨i, 0, none⟩)] H R := by
  apply f135_call
  unfold f135_B
  refine wCall_of (rcount_call hd (fun H1 d1 f1 => opI_at ?_))
  have := h H1 d1 f1
  rw [← uzE _ (rdC_lt s e)] at this
  exact this

/-- A text is read. -/
def rdT (s : ByteArray) (e : Int) (most : Int) : ByteArray × ByteArray × Int :=
  if e = 0 then match pc s.data.toList with
    | .error e' => (ByteArray.empty, ByteArray.empty, e')
    | .ok (n, k) => if most < n then (ByteArray.empty, ByteArray.empty, 5) else if s.size < k + n then (ByteArray.empty, ByteArray.empty, 3) else (s.extract k (k + n), s.extract (k + n) s.size, 0)
  else (ByteArray.empty, s, e)

set_option maxRecDepth 20000 in
set_option maxHeartbeats 1000000 in
theorem rtext_call (most : Int) (hs : s.size ≤ 4611686018427387904) (hm : most ≤ 9223372036854775807) (hm0 : -9223372036854775808 ≤ most) (hd : Has H i (rdr s e))
    (h : ∀ H', Has H' i (rdr (rdT s e most).2.1 (rdT s e most).2.2) → Fr [i] H H' → R (.ret (.string (rdT s e most).1)) H') : ACall Try.prog 136 [.pointer (some ⟨i, 0, none⟩), .int .i64 most] H R := by
  apply f136_call
  unfold f136_B
  refine wCall_of (off_call hd (opB_at ?_))
  unfold rdT at h
  refine wIf_n (fun he => ?_) (fun he => ?_)
  · rw [if_neg he] at h
    exact h H hd (Fr.refl _ _)
  · subst he
    rw [if_pos rfl] at h
    refine wCall_of (pcount_call hd ?_)
    cases hp : pc s.data.toList with
    | error e' =>
      rw [hp] at h
      have := pc_err hp
      refine opT_at rfl (opI_at (opI_at (opI_at (wIf_nt (by omega) ?_))))
      rw [f136_J1_eq]
      unfold f136_J1_B
      exact wIf_nt (by omega) (wCall_of (fail_call hd e' h))
    | ok p =>
      obtain ⟨n, k⟩ := p
      rw [hp] at h
      dsimp only at h
      have hk := pc_le hp
      have hn := pc_lt hp
      rw [data_len] at hk
      refine opT_at rfl (opI_at (opI_at (opI_at (wIf_nf rfl (wIf_d (fun hneg => ?_) (fun hneg => ?_))))))
      · rw [f136_J0_eq]
        unfold f136_J0_B
        refine wIf_t rfl ?_
        rw [f136_J1_eq]
        unfold f136_J1_B
        rw [if_pos (by omega)] at h
        exact wIf_nt (by omega) (wCall_of (fail_call hd 5 h))
      · have e1 : IntKind.u64.wrap most = ((most.toNat : Nat) : Int) := by rw [wrapu64_eq]; omega
        rw [e1, f136_J0_eq]
        unfold f136_J0_B
        refine wIf_d (fun hlong => ?_) (fun hlong => ?_)
        · rw [f136_J1_eq]
          unfold f136_J1_B
          rw [if_pos (by omega)] at h
          exact wIf_nt (by omega) (wCall_of (fail_call hd 5 h))
        · rw [if_neg (by omega)] at h
          have e2 : IntKind.u64.wrap (IntKind.i64.wrap ((s.size : Int) - (k : Int))) = ((s.size - k : Nat) : Int) := by
            rw [wi _ (by omega) (by omega), wrapu64_eq]; omega
          refine wPt_at (ldS_at hd rfl ?_)
          rw [e2]
          refine wIf_d (fun hshort => ?_) (fun hshort => ?_)
          · rw [f136_J1_eq]
            unfold f136_J1_B
            rw [if_pos (by omega)] at h
            exact wIf_nt (by omega) (wCall_of (fail_call hd 3 h))
          · rw [f136_J1_eq]
            unfold f136_J1_B
            rw [if_neg (by omega)] at h
            have e3 : IntKind.i64.wrap ((k : Int) + IntKind.i64.wrap (n : Int)) = ((k + n : Nat) : Int) := by rw [wi (n : Int) (by omega) (by omega), wi _ (by omega) (by omega)]; omega
            rw [e3]
            refine wIf_nf rfl (wPt_at (ldS_at hd rfl (wSlS_at (by omega) (by omega) (by omega) (wPt_at (ldS_at hd rfl (wSlS_at (by omega) (by omega) (by omega) (wPt_at (wSt_at hd (by simp) ?_))))))))
            exact h _ (hd.set _) (((Fr.refl [i] H).set (.inl (by simp)) _))
end
end Go.Proofs.Ytfghglacfjncmaa

/-! The packing functions, each by what it computes: bytes, truths and small numbers that are read, and the end. -/
namespace Go.Proofs.Ytfghglacfjncmaa
set_option linter.unusedVariables false
set_option maxRecDepth 20000
set_option linter.unusedSimpArgs false
open Go.RowKit

theorem ba_nil {s : ByteArray} : s = ({ data := #[] } : ByteArray) ↔ s.size = 0 := by
  constructor
  · rintro rfl; rfl
  · intro h; apply ByteArray.ext; exact Array.eq_empty_of_size_eq_zero h
/-- The byte in front. -/
def fst8 (s : ByteArray) : Nat := (s.data.toList.getD 0 0).toNat
theorem fst8_lt (s : ByteArray) : fst8 s < 256 := UInt8.toNat_lt _
/-- A byte is read. -/
def rdB (s : ByteArray) (e : Int) : Nat × ByteArray × Int :=
  if e = 0 then (if s.size = 0 then (0, ByteArray.empty, 3) else (fst8 s, s.extract 1 s.size, 0)) else (0, s, e)
/-- A truth is read. -/
def rdH (s : ByteArray) (e : Int) : Bool × ByteArray × Int :=
  if e = 0 ∧ s.size ≠ 0 ∧ 1 < fst8 s then (false, ByteArray.empty, 4) else (decide ((rdB s e).1 = 1), (rdB s e).2.1, (rdB s e).2.2)
/-- A number of at most most is read. -/
def rdM (s : ByteArray) (e : Int) (most : Int) : Int × ByteArray × Int :=
  if e = 0 then match pc s.data.toList with
    | .error e' => (0, ByteArray.empty, e')
    | .ok (n, k) => if most < n then (0, ByteArray.empty, 5) else (n, s.extract k s.size, 0)
  else (0, s, e)
/-- What the end tells. -/
def rdE (s : ByteArray) (e : Int) : Int := if e = 0 then (if s.size = 0 then 0 else 4) else e

section
variable {H : AH} {R : AEnd → AH → Prop} {i : Nat} {s : ByteArray} {e : Int}
theorem byte_call (hd : Has H i (rdr s e)) (h : ∀ H', Has H' i (rdr (rdB s e).2.1 (rdB s e).2.2) → Fr [i] H H' → R (.ret (.int .i64 (rdB s e).1)) H') : ACall Try.prog 106 [.pointer (some ⟨i, 0, none⟩)] H R := by
  apply f106_call
  unfold f106_B
  refine wCall_of (off_call hd (opB_at ?_))
  unfold rdB at h
  refine wIf_n (fun he => ?_) (fun he => ?_)
  · rw [if_neg he] at h
    exact h H hd (Fr.refl _ _)
  · subst he
    rw [if_pos rfl] at h
    refine wPt_at (ldS_at hd rfl (wIf_d (fun h0 => ?_) (fun h0 => ?_)))
    · rw [if_pos (ba_nil.mp h0)] at h
      exact wCall_of (fail_call hd 3 h)
    · have h1 : s.size ≠ 0 := fun x => h0 (ba_nil.mpr x)
      rw [if_neg h1] at h
      refine wPt_at (ldS_at hd rfl (wIxS_at (by omega) (by omega) (wPt_at (ldS_at hd rfl (wSlS_at (by omega) (by omega) (by omega) (wPt_at (wSt_at hd (by simp) ?_)))))))
      have hl := fst8_lt s
      have := h _ (hd.set _) (((Fr.refl [i] H).set (.inl (by simp)) _))
      have e1 : IntKind.i64.wrap ((s.data.toList.getD (Int.toNat 0) 0).toNat : Int) = (fst8 s : Int) := wi (fst8 s : Int) (by omega) (by omega)
      rw [e1]
      exact this
theorem rtruth_call (hd : Has H i (rdr s e)) (h : ∀ H', Has H' i (rdr (rdH s e).2.1 (rdH s e).2.2) → Fr [i] H H' → R (.ret (.bool (rdH s e).1)) H') : ACall Try.prog 109 [.pointer (some ⟨i, 0, none⟩)] H R := by
  apply f109_call
  unfold f109_B
  refine wCall_of (off_call hd (opB_at ?_))
  have fin : ∀ {s' : ByteArray} {e' : Int} {H1 : AH}, Has H1 i (rdr s' e') → (∀ H', Has H' i (rdr (rdB s' e').2.1 (rdB s' e').2.2) → Fr [i] H1 H' → R (.ret (.bool (decide ((rdB s' e').1 = 1)))) H') →
      ∀ H', Has H' i (rdr (rdB s' e').2.1 (rdB s' e').2.2) → Fr [i] H1 H' → R (.ret (.bool (decide (((rdB s' e').1 : Int) = 1)))) H' := by
    intro s' e' H1 _ hk H' d f
    have := hk H' d f
    have e1 : decide (((rdB s' e').1 : Int) = 1) = decide ((rdB s' e').1 = 1) := by
      by_cases hx : (rdB s' e').1 = 1
      · rw [decide_eq_true hx, decide_eq_true (by omega)]
      · rw [decide_eq_false hx, decide_eq_false (by omega)]
    rw [e1]
    exact this
  unfold rdH at h
  by_cases he : e = 0
  · subst he
    refine wIf_t (by simp) (wPt_at (ldS_at hd rfl (wIf_n (fun h0 => ?_) (fun h0 => ?_))))
    · have h1 : s.size ≠ 0 := fun x => h0 (ba_nil.mpr x)
      refine wPt_at (ldS_at hd rfl (wIxS_at (by omega) (by omega) ?_))
      have e2 : ((s.data.toList.getD (Int.toNat 0) 0).toNat : Int) = (fst8 s : Int) := rfl
      rw [e2, f109_J0_eq]
      unfold f109_J0_B
      refine wIf_d (fun h8 => ?_) (fun h8 => ?_)
      · rw [if_pos ⟨rfl, h1, by omega⟩] at h
        refine wCall_of (fail_call hd 4 (fun H1 d1 f1 => ?_))
        dsimp only
        rw [f109_J1_eq]
        unfold f109_J1_B
        refine wCall_of (byte_call d1 (fun H2 d2 f2 => opI_at ?_))
        exact h H2 d2 (f1.trans f2)
      · rw [if_neg (by omega)] at h
        rw [f109_J1_eq]
        unfold f109_J1_B
        exact wCall_of (byte_call hd (fun H2 d2 f2 => opI_at (fin hd h H2 d2 f2)))
    · have h1 : s.size = 0 := ba_nil.mp h0
      rw [if_neg (by omega)] at h
      rw [f109_J0_eq]
      unfold f109_J0_B
      refine wIf_f rfl ?_
      rw [f109_J1_eq]
      unfold f109_J1_B
      exact wCall_of (byte_call hd (fun H2 d2 f2 => opI_at (fin hd h H2 d2 f2)))
  · rw [if_neg (by omega)] at h
    refine wIf_f (by simp [he]) ?_
    rw [f109_J0_eq]
    unfold f109_J0_B
    refine wIf_f rfl ?_
    rw [f109_J1_eq]
    unfold f109_J1_B
    exact wCall_of (byte_call hd (fun H2 d2 f2 => opI_at (fin hd h H2 d2 f2)))
theorem small_call (most : Int) (hs : s.size ≤ 4611686018427387904) (hm : most ≤ 9223372036854775807) (hm0 : -9223372036854775808 ≤ most) (hd : Has H i (rdr s e))
    (h : ∀ H', Has H' i (rdr (rdM s e most).2.1 (rdM s e most).2.2) → Fr [i] H H' → R (.ret (.int .i64 (rdM s e most).1)) H') : ACall Try.prog 137 [.pointer (some ⟨i, 0, none⟩), .int .i64 most] H R := by
  apply f137_call
  unfold f137_B
  refine wCall_of (off_call hd (opB_at ?_))
  unfold rdM at h
  refine wIf_n (fun he => ?_) (fun he => ?_)
  · rw [if_neg he] at h
    exact h H hd (Fr.refl _ _)
  · subst he
    rw [if_pos rfl] at h
    refine wCall_of (pcount_call hd ?_)
    cases hp : pc s.data.toList with
    | error e' =>
      rw [hp] at h
      have := pc_err hp
      refine opT_at rfl (opI_at (opI_at (opI_at (wIf_df (by omega) ?_))))
      rw [f137_J0_eq]
      unfold f137_J0_B
      refine wIf_f rfl ?_
      rw [f137_J1_eq]
      unfold f137_J1_B
      exact wIf_nt (by omega) (wCall_of (fail_call hd e' h))
    | ok p =>
      obtain ⟨n, k⟩ := p
      rw [hp] at h
      dsimp only at h
      have hk := pc_le hp
      have hn := pc_lt hp
      rw [data_len] at hk
      refine opT_at rfl (opI_at (opI_at (opI_at (wIf_dt rfl (wIf_d (fun hneg => ?_) (fun hneg => ?_))))))
      · rw [f137_J0_eq]
        unfold f137_J0_B
        refine wIf_t rfl ?_
        rw [f137_J1_eq]
        unfold f137_J1_B
        rw [if_pos (by omega)] at h
        exact wIf_nt (by omega) (wCall_of (fail_call hd 5 h))
      · have e1 : IntKind.u64.wrap most = ((most.toNat : Nat) : Int) := by rw [wrapu64_eq]; omega
        rw [e1, f137_J0_eq]
        unfold f137_J0_B
        refine wIf_d (fun hlong => ?_) (fun hlong => ?_)
        · rw [f137_J1_eq]
          unfold f137_J1_B
          rw [if_pos (by omega)] at h
          exact wIf_nt (by omega) (wCall_of (fail_call hd 5 h))
        · rw [if_neg (by omega)] at h
          rw [f137_J1_eq]
          unfold f137_J1_B
          refine wIf_nf rfl (wPt_at (ldS_at hd rfl (wSlS_at (by omega) (by omega) (by omega) (wPt_at (wSt_at hd (by simp) ?_)))))
          rw [wi (n : Int) (by omega) (by omega)]
          exact h _ (hd.set _) (((Fr.refl [i] H).set (.inl (by simp)) _))
theorem end_call (hd : Has H i (rdr s e)) (h : R (.ret (.int .i64 (rdE s e))) H) : ACall Try.prog 105 [.pointer (some ⟨i, 0, none⟩)] H R := by
  apply f105_call
  unfold f105_B
  refine wCall_of (bad_call hd (opI_at ?_))
  unfold rdE at h
  refine wIf_n (fun he => ?_) (fun he => ?_)
  · rw [f105_J0_eq]
    unfold f105_J0_B
    rw [if_neg he] at h
    exact wIf_t rfl h
  · subst he
    rw [if_pos rfl] at h
    refine wPt_at (ldS_at hd rfl ?_)
    rw [f105_J0_eq]
    unfold f105_J0_B
    refine wIf_d (fun h0 => ?_) (fun h0 => ?_)
    · rw [if_pos (ba_nil.mp h0)] at h
      exact h
    · rw [if_neg (fun x => h0 (ba_nil.mpr x))] at h
      exact h
end
end Go.Proofs.Ytfghglacfjncmaa
