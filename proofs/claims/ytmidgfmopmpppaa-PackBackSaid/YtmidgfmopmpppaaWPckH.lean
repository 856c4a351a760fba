/- Things that are written: what each comes to, and how it is read back. -/
import Derived.Test.YtmidgfmopmpppaaWPckE
import Derived.Test.YtmidgfmopmpppaaWPckG
namespace Go.Proofs.Ytmidgfmopmpppaa
set_option linter.unusedVariables false
set_option linter.unusedSimpArgs false
open Go.RowKit

/-- What kind a thing is. -/
def tkind (w : Int) : Nat := if w.tmod 4 = 1 ∨ w.tmod 4 = -1 then 1 else if w.tmod 4 = 2 ∨ w.tmod 4 = -2 then 2 else if w.tmod 4 = 3 ∨ w.tmod 4 = -3 then 3 else 0
/-- A thing's bytes. -/
def tby (w : Int) (n : Nat) (s : ByteArray) : ByteArray :=
  match tkind w with
  | 1 => ofL (vb (zz (IntKind.i64.wrap n)))
  | 2 => ofL [if n % 2 = 1 then 1 else 0]
  | 3 => tb s
  | _ => ofL (vb n)

section
variable {H : AH} {R : AEnd → AH → Prop} {i : Nat} {s : ByteArray} {e : Int}
set_option maxRecDepth 20000 in
theorem bytes_call (w : Int) (n : Nat) (hn : n < 18446744073709551616) (hs : s.size ≤ 4611686018427387904) (h : ∀ H', Fr [] H H' → R (.ret (.string (tby w n s))) H') :
    ACall Try.prog 33 [.agg #[.int .i64 w, .int .u64 n, .string s]] H R := by
  apply f33_call
  unfold f33_B
  have hd := Has.new H (.row [.int .i64 w, .int .u64 n, .string s] 0)
  have hf : Fr [] H (H.push (.row [.int .i64 w, .int .u64 n, .string s] 0)) := (Fr.refl [] H).push _
  refine wNew_at (ldI_at hd rfl ?_)
  unfold tby tkind at h
  generalize w.tmod 4 = q at h ⊢
  have hw := wrapi64_eq (n : Int)
  refine wIf_d (fun a1 => ?_) (fun a1 => ?_)
  · rw [if_pos (.inl a1)] at h
    rw [f33_J0_eq]
    unfold f33_J0_B
    exact wIf_t rfl (wPt_at (ldI_at hd rfl (wCall_of (number_call _ (by rw [hw]; split <;> omega) (by rw [hw]; split <;> omega) (fun H1 f1 => opS_at (h H1 (hf.trans f1)))))))
  · rw [f33_J0_eq]
    unfold f33_J0_B
    refine wIf_d (fun b1 => ?_) (fun b1 => ?_)
    · rw [if_pos (.inr b1)] at h
      exact wPt_at (ldI_at hd rfl (wCall_of (number_call _ (by rw [hw]; split <;> omega) (by rw [hw]; split <;> omega) (fun H1 f1 => opS_at (h H1 (hf.trans f1))))))
    · rw [if_neg (by omega)] at h
      refine wIf_d (fun a2 => ?_) (fun a2 => ?_)
      · rw [if_pos (.inl a2)] at h
        rw [f33_J1_eq]
        unfold f33_J1_B
        refine wIf_t rfl (wPt_at (ldI_at hd rfl (wCall_of (truth_call _ (opS_at ?_)))))
        have e2 : decide (Int.tmod (n : Int) 2 = 1) = decide (n % 2 = 1) := by
          have e3 : Int.tmod (n : Int) 2 = ((n % 2 : Nat) : Int) := rfl
          rw [e3]
          by_cases hx : n % 2 = 1
          · rw [decide_eq_true hx, decide_eq_true (by omega)]
          · rw [decide_eq_false hx, decide_eq_false (by omega)]
        rw [e2]
        by_cases hx : n % 2 = 1
        · rw [if_pos hx] at h; rw [decide_eq_true hx]; exact h _ hf
        · rw [if_neg hx] at h; rw [decide_eq_false hx]; exact h _ hf
      · rw [f33_J1_eq]
        unfold f33_J1_B
        refine wIf_d (fun b2 => ?_) (fun b2 => ?_)
        · rw [if_pos (.inr b2)] at h
          refine wPt_at (ldI_at hd rfl (wCall_of (truth_call _ (opS_at ?_))))
          have e2 : decide (Int.tmod (n : Int) 2 = 1) = decide (n % 2 = 1) := by
            have e3 : Int.tmod (n : Int) 2 = ((n % 2 : Nat) : Int) := rfl
            rw [e3]
            by_cases hx : n % 2 = 1
            · rw [decide_eq_true hx, decide_eq_true (by omega)]
            · rw [decide_eq_false hx, decide_eq_false (by omega)]
          rw [e2]
          by_cases hx : n % 2 = 1
          · rw [if_pos hx] at h; rw [decide_eq_true hx]; exact h _ hf
          · rw [if_neg hx] at h; rw [decide_eq_false hx]; exact h _ hf
        · rw [if_neg (by omega)] at h
          refine wIf_d (fun a3 => ?_) (fun a3 => ?_)
          · rw [if_pos (.inl a3)] at h
            rw [f33_J2_eq]
            unfold f33_J2_B
            exact wIf_t rfl (wPt_at (ldS_at hd rfl (wCall_of (text_call _ hs (fun H1 f1 => opS_at (h H1 (hf.trans f1)))))))
          · rw [f33_J2_eq]
            unfold f33_J2_B
            refine wIf_d (fun b3 => ?_) (fun b3 => ?_)
            · rw [if_pos (.inr b3)] at h
              exact wPt_at (ldS_at hd rfl (wCall_of (text_call _ hs (fun H1 f1 => opS_at (h H1 (hf.trans f1))))))
            · rw [if_neg (by omega)] at h
              rw [f33_J3_eq]
              unfold f33_J3_B
              exact wPt_at (ldI_at hd rfl (wCall_of (count_call _ hn (fun H1 f1 => opS_at (h H1 (hf.trans f1))))))
end
end Go.Proofs.Ytmidgfmopmpppaa
