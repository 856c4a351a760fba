/- The packing functions, each by what it computes: the reader. -/
import Derived.Test.YtmidgfmopmpppaaWPckA
namespace Go.Proofs.Ytmidgfmopmpppaa
set_option linter.unusedVariables false
set_option linter.unusedSimpArgs false
open Go.RowKit

/-- What 'count' tells. -/
def cres : Except Nat (Nat × Nat) → Value
  | .error e => .tuple #[.int .u64 0, .int .i64 0, .int .i64 e]
  | .ok (n, k) => .tuple #[.int .u64 n, .int .i64 k, .int .i64 0]
def addTo (acc i : Nat) : Except Nat (Nat × Nat) → Except Nat (Nat × Nat)
  | .error e => .error e
  | .ok (n, k) => .ok (acc + 2 ^ (7 * i) * n, i + k)
theorem and_127 (c : UInt8) : ((c &&& 127).toNat : Nat) = c.toNat % 128 := by
  rw [UInt8.toNat_and]
  exact Nat.and_two_pow_sub_one_eq_mod c.toNat 7
theorem pow56 (i : Nat) (h : i ≤ 8) : 2 ^ (7 * i) ≤ 72057594037927936 := by
  have h1 : 2 ^ (7 * i) ≤ 2 ^ 56 := Nat.pow_le_pow_right (by omega) (by omega)
  have h2 : (2 : Nat) ^ 56 = 72057594037927936 := by decide
  rw [h2] at h1
  exact h1
theorem or_add (acc x i : Nat) (h : acc < 2 ^ i) : acc ||| x * 2 ^ i = acc + 2 ^ i * x := by
  rw [Nat.or_comm, Nat.mul_comm, ← Nat.two_pow_add_eq_or_of_lt h, Nat.add_comm]
theorem accE (acc idx : Nat) (c : UInt8) (h : acc < 2 ^ (7 * idx)) (hb : idx ≤ 8 ∨ (idx = 9 ∧ c.toNat ≤ 1)) :
    IntKind.u64.wrap ((BitVec.ofInt IntKind.u64.bits (acc : Int)) ||| (BitVec.ofInt IntKind.u64.bits (IntKind.u64.wrap ((IntKind.u64.wrap (IntKind.u8.wrap ((BitVec.ofInt IntKind.u8.bits (c.toNat : Int)) &&& (BitVec.ofInt IntKind.u8.bits 127)).toNat)) *
      (2 ^ (min (Int.toNat (IntKind.i64.wrap (7 * (idx : Int)))) IntKind.u64.bits)))))).toNat = ((acc + 2 ^ (7 * idx) * (c.toNat % 128) : Nat) : Int) := by
  have hlt := UInt8.toNat_lt c
  have hp : 2 ^ (7 * idx) ≤ 9223372036854775808 := by
    have h1 : 2 ^ (7 * idx) ≤ 2 ^ 63 := Nat.pow_le_pow_right (by omega) (by omega)
    have h2 : (2 : Nat) ^ 63 = 9223372036854775808 := by decide
    omega
  have hm : c.toNat % 128 * 2 ^ (7 * idx) < 18446744073709551616 := by
    rcases hb with hb | ⟨hb, hc⟩
    · have h127 : c.toNat % 128 ≤ 127 := by omega
      have := Nat.mul_le_mul h127 (pow56 idx hb)
      omega
    · have : c.toNat % 128 ≤ 1 := by omega
      have := Nat.mul_le_mul this hp
      omega
  have e7 : IntKind.i64.wrap (7 * (idx : Int)) = ((7 * idx : Nat) : Int) := by rw [wi _ (by omega) (by omega)]; omega
  have ep : (2 : Int) ^ (min (Int.toNat ((7 * idx : Nat) : Int)) IntKind.u64.bits) = ((2 ^ (7 * idx) : Nat) : Int) := by
    have : min (7 * idx) IntKind.u64.bits = 7 * idx := Nat.min_eq_left (show 7 * idx ≤ 64 by omega)
    rw [Int.toNat_natCast, this]; simp
  rw [show (127 : Int) = (((127 : UInt8).toNat : Nat) : Int) from rfl, u8_and, and_127, wu (c.toNat % 128) (by omega), e7, ep, ← Int.natCast_mul, wu _ hm, u64_or _ _ (by omega) hm, or_add _ _ _ h]

section
variable {H : AH} {R : AEnd → AH → Prop} {i : Nat} {s : ByteArray} {e : Int}
set_option maxRecDepth 20000 in
set_option maxHeartbeats 2000000 in
theorem pcount_call (hd : Has H i (rdr s e)) (h : R (.ret (cres (pc s.data.toList))) H) : ACall Try.prog 42 [.pointer (some ⟨i, 0, none⟩)] H R := by
  apply f42_call
  unfold f42_B
  refine f42_L0_rule (J := fun m x5 x8 _ _ _ _ H' => ∃ idx acc : Nat, m = 9 - idx ∧ idx ≤ 9 ∧ x5 = (acc : Int) ∧ x8 = (idx : Int) ∧ H' = H ∧ acc < 2 ^ (7 * idx) ∧
      pc s.data.toList = addTo acc idx (pcF (9 - idx) (decide (idx = 0)) (s.data.toList.drop idx))) 9
    ⟨0, 0, rfl, by omega, rfl, rfl, rfl, by decide, by
      show pc _ = _
      unfold pc
      rw [List.drop_zero]
      show pcF 9 true _ = addTo 0 0 (pcF 9 true _)
      generalize pcF 9 true s.data.toList = x
      cases x with
      | error e => rfl
      | ok p => obtain ⟨n, k⟩ := p; simp [addTo]⟩ ?_
  rintro m x5 x8 _ _ _ _ H' ⟨idx, acc, rfl, hidx, rfl, rfl, rfl, hacc, hpc⟩
  intros
  unfold f42_R0
  refine wIf_dt (by omega) (wPt_at (ldS_at hd rfl (wIf_d (fun hend => ?_) (fun hend => ?_))))
  · rw [List.drop_eq_nil_of_le (by rw [data_len]; omega)] at hpc
    have : pc s.data.toList = .error 3 := by rw [hpc]; unfold pcF; rfl
    rw [this] at h
    exact h
  · obtain ⟨c, l, hdr⟩ : ∃ c l, s.data.toList.drop idx = c :: l := by
      cases hx : s.data.toList.drop idx with
      | nil => have := congrArg List.length hx; rw [List.length_drop, data_len] at this; simp at this; omega
      | cons c l => exact ⟨c, l, rfl⟩
    have hd1 : s.data.toList.drop (idx + 1) = l := by rw [← List.drop_drop, hdr]; rfl
    have hget : s.data.toList.getD (Int.toNat (idx : Int)) 0 = c := by
      rw [Int.toNat_natCast, List.getD_eq_getElem?_getD]
      have := congrArg (fun l => l[0]?) hdr
      simp only [List.getElem?_drop, Nat.add_zero, List.getElem?_cons_zero] at this
      rw [this]; rfl
    rw [hdr] at hpc
    have hclt := UInt8.toNat_lt c
    refine wPt_at (ldS_at hd rfl (wIxS_at (by omega) (by omega) ?_))
    rw [hget]
    have hE := accE acc idx c hacc
    have h7n : ∀ P : Prop, P → wNn (IntKind.i64.wrap (7 * (idx : Int))) P := fun P hP => wNn_at (by rw [wi _ (by omega) (by omega)]; omega) hP
    -- behind the ninth byte's test
    have rest : (idx ≤ 8 ∨ (idx = 9 ∧ c.toNat ≤ 1)) → pc s.data.toList = addTo acc idx (if c.toNat < 128 then (if c.toNat = 0 ∧ idx ≠ 0 then .error 4 else .ok (c.toNat, 1)) else match pcF (8 - idx) false l with
        | .error e => .error e
        | .ok (n, k) => .ok (c.toNat - 128 + 128 * n, k + 1)) → True := fun _ _ => trivial
    by_cases h9 : idx = 9
    · subst h9
      have hpc' : pc s.data.toList = addTo acc 9 (pcF 0 false (c :: l)) := hpc
      simp only [pcF] at hpc'
      refine wIf_dt rfl ?_
      rw [f42_J0_eq]
      unfold f42_J0_B
      refine wIf_d (fun hc1 => ?_) (fun hc1 => ?_)
      · rw [if_pos (by omega)] at hpc'
        rw [hpc'] at h
        exact h
      · rw [if_neg (by omega)] at hpc'
        rw [f42_J1_eq]
        unfold f42_J1_B
        rw [hE (.inr ⟨rfl, by omega⟩)]
        refine h7n _ (wIf_dt (by omega) (wIf_d (fun hc0 => ?_) (fun hc0 => ?_)))
        · rw [f42_J2_eq]
          unfold f42_J2_B
          rw [if_pos ⟨by omega, trivial⟩] at hpc'
          rw [hpc'] at h
          exact wIf_dt (by omega) h
        · rw [f42_J2_eq]
          unfold f42_J2_B
          rw [if_neg (by omega)] at hpc'
          rw [hpc'] at h
          refine wIf_f rfl ?_
          rw [f42_J3_eq]
          unfold f42_J3_B
          have : c.toNat % 128 = c.toNat := by omega
          rw [this, wi1 9 (by omega)]
          exact h
    · obtain ⟨f, hf⟩ : ∃ f, 9 - idx = f + 1 := ⟨8 - idx, by omega⟩
      rw [hf] at hpc
      simp only [pcF] at hpc
      refine wIf_df (by omega) ?_
      rw [f42_J0_eq]
      unfold f42_J0_B
      refine wIf_f rfl ?_
      rw [f42_J1_eq]
      unfold f42_J1_B
      rw [hE (.inl (by omega))]
      refine h7n _ (wIf_d (fun hc128 => ?_) (fun hc128 => ?_))
      · have hcm : c.toNat % 128 = c.toNat := by omega
        rw [hcm]
        rw [if_pos (by omega)] at hpc
        refine wIf_d (fun hc0 => ?_) (fun hc0 => ?_)
        · rw [f42_J2_eq]
          unfold f42_J2_B
          refine wIf_d (fun hi0 => ?_) (fun hi0 => ?_)
          · rw [if_pos ⟨by omega, by simp; omega⟩] at hpc
            rw [hpc] at h
            exact h
          · rw [if_neg (by simp; omega)] at hpc
            rw [hpc] at h
            rw [f42_J3_eq]
            unfold f42_J3_B
            rw [wi1 idx (by omega)]
            exact h
        · rw [f42_J2_eq]
          unfold f42_J2_B
          rw [if_neg (by omega)] at hpc
          rw [hpc] at h
          refine wIf_f rfl ?_
          rw [f42_J3_eq]
          unfold f42_J3_B
          rw [wi1 idx (by omega)]
          exact h
      · rw [if_neg (by omega)] at hpc
        have hcm : c.toNat % 128 = c.toNat - 128 := by omega
        rw [hcm]
        refine ⟨9 - (idx + 1), by omega, f42_I0_mk ⟨idx + 1, _, rfl, by omega, rfl, wi1 idx (by omega), rfl, ?_, ?_⟩⟩
        · have : 2 ^ (7 * (idx + 1)) = 128 * 2 ^ (7 * idx) := by rw [show 7 * (idx + 1) = 7 * idx + 7 from by omega, Nat.pow_add]; omega
          have h3 : 2 ^ (7 * idx) * (c.toNat - 128) ≤ 2 ^ (7 * idx) * 127 := Nat.mul_le_mul_left _ (by omega)
          omega
        · rw [hpc, hd1, show 9 - (idx + 1) = f from by omega]
          have hb : decide (idx + 1 = 0) = false := by simp
          rw [hb]
          cases pcF f false l with
          | error e => rfl
          | ok p =>
            obtain ⟨n, k⟩ := p
            have : 2 ^ (7 * (idx + 1)) = 2 ^ (7 * idx) * 128 := by rw [show 7 * (idx + 1) = 7 * idx + 7 from by omega, Nat.pow_add]
            show Except.ok (acc + 2 ^ (7 * idx) * (c.toNat - 128 + 128 * n), idx + (k + 1)) = Except.ok (acc + 2 ^ (7 * idx) * (c.toNat - 128) + 2 ^ (7 * (idx + 1)) * n, idx + 1 + k)
            rw [this, Nat.mul_add, Nat.mul_assoc, Nat.add_assoc, Nat.add_assoc idx 1 k, Nat.add_comm 1 k]

/-- A count is read. -/
def rdC (s : ByteArray) (e : Int) : Nat × ByteArray × Int :=
  if e = 0 then match pc s.data.toList with
    | .error e' => (0, ByteArray.empty, e')
    | .ok (n, k) => (n, s.extract k s.size, 0)
  else (0, s, e)
theorem pc_le {l : List UInt8} {n k : Nat} (h : pc l = .ok (n, k)) : k ≤ l.length := (pcF_ok 9 true l n k h).2.1
theorem pc_lt {l : List UInt8} {n k : Nat} (h : pc l = .ok (n, k)) : n < 18446744073709551616 := (pcF_ok 9 true l n k h).1
theorem pc_err {l : List UInt8} {e : Nat} (h : pc l = .error e) : e ≠ 0 := by have := pcF_errs 9 true l e h; omega
theorem rcount_call (hd : Has H i (rdr s e)) (h : ∀ H', Has H' i (rdr (rdC s e).2.1 (rdC s e).2.2) → Fr [i] H H' → R (.ret (.int .u64 (rdC s e).1)) H') : ACall Try.prog 28 [.pointer (some ⟨i, 0, none⟩)] H R := by
  apply f28_call
  unfold f28_B
  refine wCall_of (off_call hd (opB_at ?_))
  unfold rdC at h
  refine wIf_n (fun he => ?_) (fun he => ?_)
  · rw [if_neg he] at h
    exact h H hd (Fr.refl _ _)
  · subst he
    rw [if_pos rfl] at h
    refine wCall_of (pcount_call hd ?_)
    cases hp : pc s.data.toList with
    | error e' =>
      rw [hp] at h
      have := pc_err hp
      exact opT_at rfl (opI_at (opI_at (opI_at (wIf_nt (by omega) (wCall_of (fail_call hd e' h))))))
    | ok p =>
      obtain ⟨n, k⟩ := p
      rw [hp] at h
      have hk := pc_le hp
      rw [data_len] at hk
      refine opT_at rfl (opI_at (opI_at (opI_at (wIf_nf rfl (wPt_at (ldS_at hd rfl (wSlS_at (by omega) (by omega) (by omega) (wPt_at (wSt_at hd (by simp) ?_)))))))))
      exact h _ (hd.set _) (((Fr.refl [i] H).set (.inl (by simp)) _))
theorem rcount_nil (h : R (.ret (.int .u64 0)) H) : ACall Try.prog 28 [.pointer none] H R := by
  apply f28_call
  unfold f28_B
  exact wCall_of (off_nil (opB_at (wIf_t rfl h)))

/-- The chapter's examples. -/
theorem pawake_call (h : ∀ H', Fr [] H H' → R (.ret (.bool true)) H') : ACall Try.prog 19 [] H R := by
  apply f19_call
  unfold f19_B
  refine wCall_of (rnew_call _ (opP_at ?_))
  have hn := Has.new H (rdr ⟨#[128, 0]⟩ 0)
  refine wCall_of (rcount_call hn (fun H1 hd1 hf1 => ?_))
  have hr : rdC ⟨#[128, 0]⟩ 0 = (0, ByteArray.empty, 4) := by decide +kernel
  rw [hr] at hd1
  have hf : Fr [] H H1 := ((Fr.refl [] H).push _).trans' hf1 (fun j hj => .inr (by simp at hj; omega))
  refine opI_at (wCall_of (count_call 300 (by omega) (fun H2 hf2 => opS_at (wIf_dt (by decide +kernel) ?_))))
  refine wCall_of (number_call (-1) (by omega) (by omega) (fun H3 hf3 => opS_at (wIf_dt (by decide +kernel) ?_)))
  refine wCall_of (number_call 64 (by omega) (by omega) (fun H4 hf4 => opS_at (wIf_dt (by decide +kernel) ?_)))
  have hx := (hf2.trans hf3).trans hf4
  refine wCall_of (bad_call (hd1.fr hx (by simp)) (opI_at ?_))
  exact h _ (hf.trans hx)
end
end Go.Proofs.Ytmidgfmopmpppaa
