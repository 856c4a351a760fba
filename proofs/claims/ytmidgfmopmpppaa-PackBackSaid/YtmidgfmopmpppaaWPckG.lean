/- The packing functions, each by what it computes: bytes, truths and small numbers that are read, and the end. -/
import Derived.Test.YtmidgfmopmpppaaWPckD
namespace Go.Proofs.Ytmidgfmopmpppaa
set_option linter.unusedVariables false
set_option linter.unusedSimpArgs false
open Go.RowKit

theorem ba_nil {s : ByteArray} : s = ({ data := #[] } : ByteArray) ↔ s.size = 0 := by
  constructor
  · rintro rfl; rfl
  · intro h; apply ByteArray.ext; exact Array.eq_empty_of_size_eq_zero h
/-- The byte in front. -/
def fst8 (s : ByteArray) : Nat := (s.data.toList.getD 0 0).toNat
theorem fst8_lt (s : ByteArray) : fst8 s < 256 := UInt8.toNat_lt _
/-- A byte is read. -/
def rdB (s : ByteArray) (e : Int) : Nat × ByteArray × Int :=
  if e = 0 then (if s.size = 0 then (0, ByteArray.empty, 3) else (fst8 s, s.extract 1 s.size, 0)) else (0, s, e)
/-- A truth is read. -/
def rdH (s : ByteArray) (e : Int) : Bool × ByteArray × Int :=
  if e = 0 ∧ s.size ≠ 0 ∧ 1 < fst8 s then (false, ByteArray.empty, 4) else (decide ((rdB s e).1 = 1), (rdB s e).2.1, (rdB s e).2.2)
/-- A number of at most most is read. -/
def rdM (s : ByteArray) (e : Int) (most : Int) : Int × ByteArray × Int :=
  if e = 0 then match pc s.data.toList with
    | .error e' => (0, ByteArray.empty, e')
    | .ok (n, k) => if most < n then (0, ByteArray.empty, 5) else (n, s.extract k s.size, 0)
  else (0, s, e)
/-- What the end tells. -/
def rdE (s : ByteArray) (e : Int) : Int := if e = 0 then (if s.size = 0 then 0 else 4) else e

section
variable {H : AH} {R : AEnd → AH → Prop} {i : Nat} {s : ByteArray} {e : Int}
theorem byte_call (hd : Has H i (rdr s e)) (h : ∀ H', Has H' i (rdr (rdB s e).2.1 (rdB s e).2.2) → Fr [i] H H' → R (.ret (.int .i64 (rdB s e).1)) H') : ACall Try.prog 37 [.pointer (some ⟨i, 0, none⟩)] H R := by
  apply f37_call
  unfold f37_B
  refine wCall_of (off_call hd (opB_at ?_))
  unfold rdB at h
  refine wIf_n (fun he => ?_) (fun he => ?_)
  · rw [if_neg he] at h
    exact h H hd (Fr.refl _ _)
  · subst he
    rw [if_pos rfl] at h
    refine wPt_at (ldS_at hd rfl (wIf_d (fun h0 => ?_) (fun h0 => ?_)))
    · rw [if_pos (ba_nil.mp h0)] at h
      exact wCall_of (fail_call hd 3 h)
    · have h1 : s.size ≠ 0 := fun x => h0 (ba_nil.mpr x)
      rw [if_neg h1] at h
      refine wPt_at (ldS_at hd rfl (wIxS_at (by omega) (by omega) (wPt_at (ldS_at hd rfl (wSlS_at (by omega) (by omega) (by omega) (wPt_at (wSt_at hd (by simp) ?_)))))))
      have hl := fst8_lt s
      have := h _ (hd.set _) (((Fr.refl [i] H).set (.inl (by simp)) _))
      have e1 : IntKind.i64.wrap ((s.data.toList.getD (Int.toNat 0) 0).toNat : Int) = (fst8 s : Int) := wi (fst8 s : Int) (by omega) (by omega)
      rw [e1]
      exact this
theorem rtruth_call (hd : Has H i (rdr s e)) (h : ∀ H', Has H' i (rdr (rdH s e).2.1 (rdH s e).2.2) → Fr [i] H H' → R (.ret (.bool (rdH s e).1)) H') : ACall Try.prog 34 [.pointer (some ⟨i, 0, none⟩)] H R := by
  apply f34_call
  unfold f34_B
  refine wCall_of (off_call hd (opB_at ?_))
  have fin : ∀ {s' : ByteArray} {e' : Int} {H1 : AH}, Has H1 i (rdr s' e') → (∀ H', Has H' i (rdr (rdB s' e').2.1 (rdB s' e').2.2) → Fr [i] H1 H' → R (.ret (.bool (decide ((rdB s' e').1 = 1)))) H') →
      ∀ H', Has H' i (rdr (rdB s' e').2.1 (rdB s' e').2.2) → Fr [i] H1 H' → R (.ret (.bool (decide (((rdB s' e').1 : Int) = 1)))) H' := by
    intro s' e' H1 _ hk H' d f
    have := hk H' d f
    have e1 : decide (((rdB s' e').1 : Int) = 1) = decide ((rdB s' e').1 = 1) := by
      by_cases hx : (rdB s' e').1 = 1
      · rw [decide_eq_true hx, decide_eq_true (by omega)]
      · rw [decide_eq_false hx, decide_eq_false (by omega)]
    rw [e1]
    exact this
  unfold rdH at h
  by_cases he : e = 0
  · subst he
    refine wIf_t (by simp) (wPt_at (ldS_at hd rfl (wIf_n (fun h0 => ?_) (fun h0 => ?_))))
    · have h1 : s.size ≠ 0 := fun x => h0 (ba_nil.mpr x)
      refine wPt_at (ldS_at hd rfl (wIxS_at (by omega) (by omega) ?_))
      have e2 : ((s.data.toList.getD (Int.toNat 0) 0).toNat : Int) = (fst8 s : Int) := rfl
      rw [e2, f34_J0_eq]
      unfold f34_J0_B
      refine wIf_d (fun h8 => ?_) (fun h8 => ?_)
      · rw [if_pos ⟨rfl, h1, by omega⟩] at h
        refine wCall_of (fail_call hd 4 (fun H1 d1 f1 => ?_))
        dsimp only
        rw [f34_J1_eq]
        unfold f34_J1_B
        refine wCall_of (byte_call d1 (fun H2 d2 f2 => opI_at ?_))
        exact h H2 d2 (f1.trans f2)
      · rw [if_neg (by omega)] at h
        rw [f34_J1_eq]
        unfold f34_J1_B
        exact wCall_of (byte_call hd (fun H2 d2 f2 => opI_at (fin hd h H2 d2 f2)))
    · have h1 : s.size = 0 := ba_nil.mp h0
      rw [if_neg (by omega)] at h
      rw [f34_J0_eq]
      unfold f34_J0_B
      refine wIf_f rfl ?_
      rw [f34_J1_eq]
      unfold f34_J1_B
      exact wCall_of (byte_call hd (fun H2 d2 f2 => opI_at (fin hd h H2 d2 f2)))
  · rw [if_neg (by omega)] at h
    refine wIf_f (by simp [he]) ?_
    rw [f34_J0_eq]
    unfold f34_J0_B
    refine wIf_f rfl ?_
    rw [f34_J1_eq]
    unfold f34_J1_B
    exact wCall_of (byte_call hd (fun H2 d2 f2 => opI_at (fin hd h H2 d2 f2)))
theorem small_call (most : Int) (hs : s.size ≤ 4611686018427387904) (hm : most ≤ 9223372036854775807) (hm0 : -9223372036854775808 ≤ most) (hd : Has H i (rdr s e))
    (h : ∀ H', Has H' i (rdr (rdM s e most).2.1 (rdM s e most).2.2) → Fr [i] H H' → R (.ret (.int .i64 (rdM s e most).1)) H') : ACall Try.prog 36 [.pointer (some ⟨i, 0, none⟩), .int .i64 most] H R := by
  apply f36_call
  unfold f36_B
  refine wCall_of (off_call hd (opB_at ?_))
  unfold rdM at h
  refine wIf_n (fun he => ?_) (fun he => ?_)
  · rw [if_neg he] at h
    exact h H hd (Fr.refl _ _)
  · subst he
    rw [if_pos rfl] at h
    refine wCall_of (pcount_call hd ?_)
    cases hp : pc s.data.toList with
    | error e' =>
      rw [hp] at h
      have := pc_err hp
      refine opT_at rfl (opI_at (opI_at (opI_at (wIf_df (by omega) ?_))))
      rw [f36_J0_eq]
      unfold f36_J0_B
      refine wIf_f rfl ?_
      rw [f36_J1_eq]
      unfold f36_J1_B
      exact wIf_nt (by omega) (wCall_of (fail_call hd e' h))
    | ok p =>
      obtain ⟨n, k⟩ := p
      rw [hp] at h
      dsimp only at h
      have hk := pc_le hp
      have hn := pc_lt hp
      rw [data_len] at hk
      refine opT_at rfl (opI_at (opI_at (opI_at (wIf_dt rfl (wIf_d (fun hneg => ?_) (fun hneg => ?_))))))
      · rw [f36_J0_eq]
        unfold f36_J0_B
        refine wIf_t rfl ?_
        rw [f36_J1_eq]
        unfold f36_J1_B
        rw [if_pos (by omega)] at h
        exact wIf_nt (by omega) (wCall_of (fail_call hd 5 h))
      · have e1 : IntKind.u64.wrap most = ((most.toNat : Nat) : Int) := by rw [wrapu64_eq]; omega
        rw [e1, f36_J0_eq]
        unfold f36_J0_B
        refine wIf_d (fun hlong => ?_) (fun hlong => ?_)
        · rw [f36_J1_eq]
          unfold f36_J1_B
          rw [if_pos (by omega)] at h
          exact wIf_nt (by omega) (wCall_of (fail_call hd 5 h))
        · rw [if_neg (by omega)] at h
          rw [f36_J1_eq]
          unfold f36_J1_B
          refine wIf_nf rfl (wPt_at (ldS_at hd rfl (wSlS_at (by omega) (by omega) (by omega) (wPt_at (wSt_at hd (by simp) ?_)))))
          rw [wi (n : Int) (by omega) (by omega)]
          exact h _ (hd.set _) (((Fr.refl [i] H).set (.inl (by simp)) _))
theorem end_call (hd : Has H i (rdr s e)) (h : R (.ret (.int .i64 (rdE s e))) H) : ACall Try.prog 35 [.pointer (some ⟨i, 0, none⟩)] H R := by
  apply f35_call
  unfold f35_B
  refine wCall_of (bad_call hd (opI_at ?_))
  unfold rdE at h
  refine wIf_n (fun he => ?_) (fun he => ?_)
  · rw [f35_J0_eq]
    unfold f35_J0_B
    rw [if_neg he] at h
    exact wIf_t rfl h
  · subst he
    rw [if_pos rfl] at h
    refine wPt_at (ldS_at hd rfl ?_)
    rw [f35_J0_eq]
    unfold f35_J0_B
    refine wIf_d (fun h0 => ?_) (fun h0 => ?_)
    · rw [if_pos (ba_nil.mp h0)] at h
      exact h
    · rw [if_neg (fun x => h0 (ba_nil.mpr x))] at h
      exact h
end
end Go.Proofs.Ytmidgfmopmpppaa
