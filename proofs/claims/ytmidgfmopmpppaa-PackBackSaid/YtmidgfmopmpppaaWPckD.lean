/- The packing functions, each by what it computes: numbers and texts that are read. -/
import Derived.Test.YtmidgfmopmpppaaWPckB
namespace Go.Proofs.Ytmidgfmopmpppaa
set_option linter.unusedVariables false
set_option linter.unusedSimpArgs false
open Go.RowKit

/-- The number of a count. -/
def uz (n : Nat) : Int := if n % 2 = 0 then ((n / 2 : Nat) : Int) else -((n / 2 : Nat) : Int) - 1
theorem uz_zz (n : Int) : uz (zz n) = n := by
  unfold uz zz
  by_cases h : 0 ≤ n
  · rw [if_pos h, if_pos (by omega)]; omega
  · rw [if_neg h, if_neg (by omega)]; omega
theorem zz_uz (n : Nat) : zz (uz n) = n := by
  unfold uz zz
  by_cases h : n % 2 = 0
  · rw [if_pos h, if_pos (by omega)]; omega
  · rw [if_neg h, if_neg (by omega)]; omega
theorem uz_range (n : Nat) (h : n < 18446744073709551616) : -9223372036854775808 ≤ uz n ∧ uz n ≤ 9223372036854775807 := by
  unfold uz; split <;> omega
theorem rdC_lt (s : ByteArray) (e : Int) : (rdC s e).1 < 18446744073709551616 := by
  unfold rdC
  split
  · cases hp : pc s.data.toList with
    | error e' => show (0 : Nat) < _; omega
    | ok p => obtain ⟨n, k⟩ := p; exact pc_lt hp
  · show (0 : Nat) < _; omega
theorem xor0 (a : Nat) (ha : a < 9223372036854775808) : IntKind.i64.wrap ((BitVec.ofInt IntKind.i64.bits (a : Int)) ^^^ (BitVec.ofInt IntKind.i64.bits (0 : Int))).toNat = (a : Int) := by
  show IntKind.i64.wrap ((BitVec.ofInt 64 (a : Int) ^^^ BitVec.ofInt 64 (0 : Int)).toNat : Int) = _
  have e : (BitVec.ofInt 64 (a : Int) ^^^ BitVec.ofInt 64 (0 : Int)).toNat = a := by
    have : BitVec.ofInt 64 (0 : Int) = 0#64 := by decide
    rw [this, BitVec.xor_zero, BitVec.ofInt_natCast, BitVec.toNat_ofNat, Nat.mod_eq_of_lt (by omega)]
  rw [e, wi _ (by omega) (by omega)]
theorem xorm1 (a : Nat) (ha : a < 9223372036854775808) : IntKind.i64.wrap ((BitVec.ofInt IntKind.i64.bits (a : Int)) ^^^ (BitVec.ofInt IntKind.i64.bits (-1 : Int))).toNat = -(a : Int) - 1 := by
  show IntKind.i64.wrap ((BitVec.ofInt 64 (a : Int) ^^^ BitVec.ofInt 64 (-1 : Int)).toNat : Int) = _
  have e : (BitVec.ofInt 64 (a : Int) ^^^ BitVec.ofInt 64 (-1 : Int)).toNat = 18446744073709551615 - a := by
    have : BitVec.ofInt 64 (-1 : Int) = BitVec.allOnes 64 := by decide
    rw [this, BitVec.xor_allOnes, BitVec.ofInt_natCast, BitVec.toNat_not, BitVec.toNat_ofNat, Nat.mod_eq_of_lt (by omega)]
  have e2 : IntKind.i64.wrap ((18446744073709551615 - a : Nat) : Int) = -(a : Int) - 1 := by rw [wrapi64_eq]; split <;> omega
  rw [e, e2]
theorem uzE (n : Nat) (hn : n < 18446744073709551616) :
    IntKind.i64.wrap ((BitVec.ofInt IntKind.i64.bits (IntKind.i64.wrap (Int.fdiv (n : Int) (2 ^ (min (Int.toNat 1) IntKind.u64.bits))))) ^^^ (BitVec.ofInt IntKind.i64.bits (IntKind.i64.wrap (0 - (IntKind.i64.wrap (IntKind.u64.wrap ((BitVec.ofInt IntKind.u64.bits (n : Int)) &&& (BitVec.ofInt IntKind.u64.bits 1)).toNat)))))).toNat = uz n := by
  have h1 : Int.fdiv (n : Int) (2 ^ (min (Int.toNat 1) IntKind.u64.bits)) = ((n / 2 : Nat) : Int) := shr_nat n 1 IntKind.u64.bits (by decide)
  have h2 : IntKind.u64.wrap ((BitVec.ofInt IntKind.u64.bits (n : Int)) &&& (BitVec.ofInt IntKind.u64.bits 1)).toNat = ((n % 2 : Nat) : Int) := by
    have := u64_and n 1 hn (by omega)
    rw [Nat.and_one_is_mod] at this
    exact this
  rw [h1, h2, wi ((n / 2 : Nat) : Int) (by omega) (by omega), wi ((n % 2 : Nat) : Int) (by omega) (by omega)]
  unfold uz
  by_cases hp : n % 2 = 0
  · rw [hp, if_pos rfl]
    have e0 : IntKind.i64.wrap (0 - ((0 : Nat) : Int)) = 0 := by decide
    rw [e0, xor0 _ (by omega)]
  · have hp1 : n % 2 = 1 := by omega
    rw [hp1, if_neg (by omega)]
    have e0 : IntKind.i64.wrap (0 - ((1 : Nat) : Int)) = -1 := by decide
    rw [e0, xorm1 _ (by omega)]

section
variable {H : AH} {R : AEnd → AH → Prop} {i : Nat} {s : ByteArray} {e : Int}
theorem rnumber_call (hd : Has H i (rdr s e)) (h : ∀ H', Has H' i (rdr (rdC s e).2.1 (rdC s e).2.2) → Fr [i] H H' → R (.ret (.int .i64 (uz (rdC s e).1))) H') : ACall Try.prog 29 [.pointer (some ⟨i, 0, none⟩)] H R := by
  apply f29_call
  unfold f29_B
  refine wCall_of (rcount_call hd (fun H1 d1 f1 => opI_at ?_))
  have := h H1 d1 f1
  rw [← uzE _ (rdC_lt s e)] at this
  exact this

/-- A text is read. -/
def rdT (s : ByteArray) (e : Int) (most : Int) : ByteArray × ByteArray × Int :=
  if e = 0 then match pc s.data.toList with
    | .error e' => (ByteArray.empty, ByteArray.empty, e')
    | .ok (n, k) => if most < n then (ByteArray.empty, ByteArray.empty, 5) else if s.size < k + n then (ByteArray.empty, ByteArray.empty, 3) else (s.extract k (k + n), s.extract (k + n) s.size, 0)
  else (ByteArray.empty, s, e)

set_option maxRecDepth 20000 in
set_option maxHeartbeats 1000000 in
theorem rtext_call (most : Int) (hs : s.size ≤ 4611686018427387904) (hm : most ≤ 9223372036854775807) (hm0 : -9223372036854775808 ≤ most) (hd : Has H i (rdr s e))
    (h : ∀ H', Has H' i (rdr (rdT s e most).2.1 (rdT s e most).2.2) → Fr [i] H H' → R (.ret (.string (rdT s e most).1)) H') : ACall Try.prog 30 [.pointer (some ⟨i, 0, none⟩), .int .i64 most] H R := by
  apply f30_call
  unfold f30_B
  refine wCall_of (off_call hd (opB_at ?_))
  unfold rdT at h
  refine wIf_n (fun he => ?_) (fun he => ?_)
  · rw [if_neg he] at h
    exact h H hd (Fr.refl _ _)
  · subst he
    rw [if_pos rfl] at h
    refine wCall_of (pcount_call hd ?_)
    cases hp : pc s.data.toList with
    | error e' =>
      rw [hp] at h
      have := pc_err hp
      refine opT_at rfl (opI_at (opI_at (opI_at (wIf_nt (by omega) ?_))))
      rw [f30_J1_eq]
      unfold f30_J1_B
      exact wIf_nt (by omega) (wCall_of (fail_call hd e' h))
    | ok p =>
      obtain ⟨n, k⟩ := p
      rw [hp] at h
      dsimp only at h
      have hk := pc_le hp
      have hn := pc_lt hp
      rw [data_len] at hk
      refine opT_at rfl (opI_at (opI_at (opI_at (wIf_nf rfl (wIf_d (fun hneg => ?_) (fun hneg => ?_))))))
      · rw [f30_J0_eq]
        unfold f30_J0_B
        refine wIf_t rfl ?_
        rw [f30_J1_eq]
        unfold f30_J1_B
        rw [if_pos (by omega)] at h
        exact wIf_nt (by omega) (wCall_of (fail_call hd 5 h))
      · have e1 : IntKind.u64.wrap most = ((most.toNat : Nat) : Int) := by rw [wrapu64_eq]; omega
        rw [e1, f30_J0_eq]
        unfold f30_J0_B
        refine wIf_d (fun hlong => ?_) (fun hlong => ?_)
        · rw [f30_J1_eq]
          unfold f30_J1_B
          rw [if_pos (by omega)] at h
          exact wIf_nt (by omega) (wCall_of (fail_call hd 5 h))
        · rw [if_neg (by omega)] at h
          have e2 : IntKind.u64.wrap (IntKind.i64.wrap ((s.size : Int) - (k : Int))) = ((s.size - k : Nat) : Int) := by
            rw [wi _ (by omega) (by omega), wrapu64_eq]; omega
          refine wPt_at (ldS_at hd rfl ?_)
          rw [e2]
          refine wIf_d (fun hshort => ?_) (fun hshort => ?_)
          · rw [f30_J1_eq]
            unfold f30_J1_B
            rw [if_pos (by omega)] at h
            exact wIf_nt (by omega) (wCall_of (fail_call hd 3 h))
          · rw [f30_J1_eq]
            unfold f30_J1_B
            rw [if_neg (by omega)] at h
            have e3 : IntKind.i64.wrap ((k : Int) + IntKind.i64.wrap (n : Int)) = ((k + n : Nat) : Int) := by rw [wi (n : Int) (by omega) (by omega), wi _ (by omega) (by omega)]; omega
            rw [e3]
            refine wIf_nf rfl (wPt_at (ldS_at hd rfl (wSlS_at (by omega) (by omega) (by omega) (wPt_at (ldS_at hd rfl (wSlS_at (by omega) (by omega) (by omega) (wPt_at (wSt_at hd (by simp) ?_))))))))
            exact h _ (hd.set _) (((Fr.refl [i] H).set (.inl (by simp)) _))
end
end Go.Proofs.Ytmidgfmopmpppaa
