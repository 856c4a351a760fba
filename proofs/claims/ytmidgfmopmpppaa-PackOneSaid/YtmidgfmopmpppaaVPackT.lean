/- The packing functions, each by what it computes: a text that is read. -/
import Derived.Test.YtmidgfmopmpppaaVPackS
namespace Go.Proofs.Ytmidgfmopmpppaa
set_option linter.unusedVariables false
set_option linter.unusedSimpArgs false
open Go.RowKit

/-- A text is read. -/
def rdT (s : ByteArray) (e : Int) (most : Int) : ByteArray × ByteArray × Int :=
  if e = 0 then match pc s.data.toList with
    | .error e' => (ByteArray.empty, ByteArray.empty, e')
    | .ok (n, k) => if most < n then (ByteArray.empty, ByteArray.empty, 5) else if s.size < k + n then (ByteArray.empty, ByteArray.empty, 3) else (s.extract k (k + n), s.extract (k + n) s.size, 0)
  else (ByteArray.empty, s, e)

set_option maxRecDepth 20000 in
set_option maxHeartbeats 1000000 in
theorem rtext_call (i : Nat) (s : ByteArray) (e most : Int) (hs : s.size ≤ 4611686018427387904) (hm : most ≤ 9223372036854775807) (hm0 : -9223372036854775808 ≤ most) (H : AH) (hg : H.get i = some (rdr s e)) (R : AEnd → AH → Prop)
    (h : R (.ret (.string (rdT s e most).1)) (H.set i (rdr (rdT s e most).2.1 (rdT s e most).2.2))) : ACall Try.prog 30 [ptr i, .int .i64 most] H R := by
  apply f30_call
  unfold f30_B
  refine aCall_of (by kernel_rfl) (off_call i s e H hg _ ?_)
  dsimp only
  rw [aIf_ndec]
  unfold rdT at h
  by_cases he : e = 0
  · subst he
    rw [if_pos rfl] at h ⊢
    refine aCall_of (by kernel_rfl) (pcount_call i s 0 H hg _ ?_)
    cases hp : pc s.data.toList with
    | error e' =>
      rw [hp] at h
      have := pc_err hp
      dsimp only [cres]
      rw [ex30, ex31, ex32, bi_neq, aIf_ndec, if_neg (by omega), f30_J1_eq, f30_J1_B, bi_neq, aIf_ndec, if_neg (by omega)]
      exact aCall_of (by kernel_rfl) (fail_call i s 0 e' H hg _ h)
    | ok p =>
      obtain ⟨n, k⟩ := p
      rw [hp] at h
      dsimp only at h
      have hk := pc_le hp
      have hn := pc_lt hp
      rw [data_len] at hk
      dsimp only [cres]
      rw [ex30, ex31, ex32, bi_neq, aIf_ndec, if_pos rfl, bi_lss, aIf_dec]
      by_cases hneg : most < 0
      · rw [if_pos hneg, f30_J0_eq, f30_J0_B, aIf_true, f30_J1_eq, f30_J1_B, bi_neq, aIf_ndec, if_neg (by omega)]
        rw [if_pos (by omega)] at h
        exact aCall_of (by kernel_rfl) (fail_call i s 0 5 H hg _ h)
      · rw [if_neg hneg, cv_int und34 ty3]
        have e1 : IntKind.u64.wrap most = ((most.toNat : Nat) : Int) := by rw [wrapu64_eq]; omega
        rw [e1, bi_gtr, f30_J0_eq, f30_J0_B, aIf_dec]
        by_cases hlong : most < n
        · rw [if_pos (by omega), f30_J1_eq, f30_J1_B, bi_neq, aIf_ndec, if_neg (by omega)]
          rw [if_pos hlong] at h
          exact aCall_of (by kernel_rfl) (fail_call i s 0 5 H hg _ h)
        · rw [if_neg (by omega), nilc, fld0, ld0 hg, len_str, bi_sub, cv_int und34 ty3]
          rw [if_neg hlong] at h
          have e2 : IntKind.u64.wrap (IntKind.i64.wrap ((s.size : Int) - (k : Int))) = ((s.size - k : Nat) : Int) := by
            rw [wrap_i64 _ (by omega) (by omega), wrapu64_eq]; omega
          rw [e2, bi_gtr, aIf_dec]
          by_cases hshort : s.size < k + n
          · rw [if_pos (by omega), f30_J1_eq, f30_J1_B, bi_neq, aIf_ndec, if_neg (by omega)]
            rw [if_pos hshort] at h
            exact aCall_of (by kernel_rfl) (fail_call i s 0 3 H hg _ h)
          · rw [if_neg (by omega), f30_J1_eq, f30_J1_B, bi_neq, aIf_ndec, if_pos rfl, nilc, fld0, ld0 hg, cv_int und3 ty34, wrap_i64 _ (by omega) (by omega), bi_add]
            rw [if_neg hshort] at h
            have e3 : IntKind.i64.wrap ((k : Int) + (n : Int)) = ((k + n : Nat) : Int) := by rw [wrap_i64 _ (by omega) (by omega)]; omega
            rw [e3, sl_cut (by omega) (by omega), nilc, fld0, ld0 hg, cv_int und3 ty34, wrap_i64 _ (by omega) (by omega), bi_add, e3, sl_from (by omega), nilc, fld0, sto0 hg]
            exact h
  · rw [if_neg he] at h ⊢
    rw [AH.set_same H i _ hg] at h
    exact h
end Go.Proofs.Ytmidgfmopmpppaa
