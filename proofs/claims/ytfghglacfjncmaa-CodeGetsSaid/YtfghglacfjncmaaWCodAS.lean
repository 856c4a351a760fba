/- CodeGets: the law. -/
import Derived.Test.YtfghglacfjncmaaWCodAM
import Derived.Test.YtfghglacfjncmaaWGenX
namespace Go.Proofs.Ytfghglacfjncmaa
set_option linter.unusedVariables false
set_option linter.unusedSimpArgs false
set_option maxRecDepth 20000
open Go.RowKit

theorem vls_of {v : Val} (h : rightV v = true) : VLs v := by
  have hx := (rightV_iff v).1 h
  unfold rightQ at hx
  have h4 : v.text.size ≤ 64 := by
    by_cases hnm : isName v.text
    · have := hnm.2.1; omega
    · rw [if_neg hnm] at hx; omega
  exact ⟨by omega, by omega⟩
theorem gA_of {α : Type} {P : α → Prop} {z : α} {p : ByteArray → Rd α} {enc : α → List UInt8} {ok : α → Prop} (hb : Bw p enc ok) (hz : P z) (hP : ∀ a, ok a → P a) (s : ByteArray) : P (gA z (pAll (p s))) := by
  cases hq : pAll (p s) with
  | error e => exact hz
  | ok a => exact hP a (hb.all hq).2
theorem mlw_of {m : Mai} (h : mailOK m) : MLw m ∧ m.key.length ≤ 4611686018427387903 ∧ m.fields.length ≤ 4611686018427387903 :=
  ⟨⟨by have := h.1; omega, fun v hv => vls_of (h.2.1.2 v hv), fun v hv => vls_of (h.2.2.2 v hv)⟩, by have := h.2.1.1; omega, by have := h.2.2.1; omega⟩
theorem isz_of {x : Ite} (h : itemOK x) : ISz x :=
  ⟨by have := h.2.2.1.1; omega, fun v hv => vls_of (h.2.2.1.2 v hv), by have := h.2.2.2.1; omega, by have := h.2.2.2.2.1; omega, fun m hm => mlw_of (h.2.2.2.2.2.2 m hm)⟩
section
variable {H : AH} {R : AEnd → AH → Prop}
set_option maxHeartbeats 16000000 in
theorem codeGets_walk (hT : ∀ H', R (.ret (.bool true)) H') (s : ByteArray) : ACall Try.prog 4 [.string s] H R := by
  apply f4_call
  unfold f4_B
  refine wCall_of (awake_call (fun H2 f2 => opB_at (wIf_f rfl (wIf_d (fun e => wCall_of (awake_call (fun H3 f3 => opB_at (hT _)))) (fun hs => ?_)))))
  refine wCall_of (anyv_call (by omega) (fun H_ w1 b1 c1 c1 hw1 hc1 f_ h1 => opT_at rfl (opA_at rfl (opI_at (opI_at (opS_at (opL_at (opI_at (wNewSt_at (Nat.le_of_ble_eq_true rfl) (fun q1 G1 st1 g_ => ?_))))))))))
  replace h1 := h1.fr g_
  clear f_ g_
  refine wCall_of (refgetv_call (by omega) (fun H_ w2 b2 c2 c2 hw2 hc2 f_ h2 => opT_at rfl (opA_at rfl (opI_at (opI_at (opS_at (opL_at (opI_at (wNewSt_at (Nat.le_of_ble_eq_true rfl) (fun q2 G2 st2 g_ => ?_))))))))))
  replace st1 := (st1.fr f_ (by simp)).fr g_ (by simp)
  replace h1 := (h1.fr f_).fr g_
  replace h2 := h2.fr g_
  clear f_ g_
  refine wCall_of (anym_call (by omega) (fun H_ w3 kb3 kc3 fb3 fc3 c3 hw3 hc3 f_ h3 => opT_at rfl (opA_at rfl (opI_at (opS_at (opL_at (opL_at (opI_at (wNewSt_at (Nat.le_of_ble_eq_true rfl) (fun q3 G3 st3 g_ => ?_))))))))))
  replace st1 := (st1.fr f_ (by simp)).fr g_ (by simp)
  replace h1 := (h1.fr f_).fr g_
  replace st2 := (st2.fr f_ (by simp)).fr g_ (by simp)
  replace h2 := (h2.fr f_).fr g_
  replace h3 := h3.fr g_
  clear f_ g_
  refine wCall_of (refgetm_call (by omega) (fun H_ w4 kb4 kc4 fb4 fc4 c4 hw4 hc4 f_ h4 => opT_at rfl (opA_at rfl (opI_at (opS_at (opL_at (opL_at (opI_at (wNewSt_at (Nat.le_of_ble_eq_true rfl) (fun q4 G4 st4 g_ => ?_))))))))))
  replace st1 := (st1.fr f_ (by simp)).fr g_ (by simp)
  replace h1 := (h1.fr f_).fr g_
  replace st2 := (st2.fr f_ (by simp)).fr g_ (by simp)
  replace h2 := (h2.fr f_).fr g_
  replace st3 := (st3.fr f_ (by simp)).fr g_ (by simp)
  replace h3 := (h3.fr f_).fr g_
  replace h4 := h4.fr g_
  clear f_ g_
  refine wCall_of (anyi_call (by omega) (fun H_ w5 ab5 ac5 cb5 cc5 bb5 bc5 c5 hw5 hc5 f_ h5 => opT_at rfl (opA_at rfl (opI_at (opS_at (opS_at (opI_at (opL_at (opL_at (opL_at (opI_at (wNewSt_at (Nat.le_of_ble_eq_true rfl) (fun q5 G5 st5 g_ => ?_)))))))))))))
  replace st1 := (st1.fr f_ (by simp)).fr g_ (by simp)
  replace h1 := (h1.fr f_).fr g_
  replace st2 := (st2.fr f_ (by simp)).fr g_ (by simp)
  replace h2 := (h2.fr f_).fr g_
  replace st3 := (st3.fr f_ (by simp)).fr g_ (by simp)
  replace h3 := (h3.fr f_).fr g_
  replace st4 := (st4.fr f_ (by simp)).fr g_ (by simp)
  replace h4 := (h4.fr f_).fr g_
  replace h5 := h5.fr g_
  clear f_ g_
  refine wCall_of (refgeti_call (by omega) (fun H_ w6 ab6 ac6 cb6 cc6 bb6 bc6 c6 hw6 hc6 f_ h6 => opT_at rfl (opA_at rfl (opI_at (opS_at (opS_at (opI_at (opL_at (opL_at (opL_at (opI_at (wNewSt_at (Nat.le_of_ble_eq_true rfl) (fun q6 G6 st6 g_ => ?_)))))))))))))
  replace st1 := (st1.fr f_ (by simp)).fr g_ (by simp)
  replace h1 := (h1.fr f_).fr g_
  replace st2 := (st2.fr f_ (by simp)).fr g_ (by simp)
  replace h2 := (h2.fr f_).fr g_
  replace st3 := (st3.fr f_ (by simp)).fr g_ (by simp)
  replace h3 := (h3.fr f_).fr g_
  replace st4 := (st4.fr f_ (by simp)).fr g_ (by simp)
  replace h4 := (h4.fr f_).fr g_
  replace st5 := (st5.fr f_ (by simp)).fr g_ (by simp)
  replace h5 := (h5.fr f_).fr g_
  replace h6 := h6.fr g_
  clear f_ g_
  refine wCall_of (awake_call (fun H9 f9 => opB_at (wIf_t rfl ?_)))
  replace st1 := st1.fr f9 (by simp)
  replace h1 := h1.fr f9
  replace st2 := st2.fr f9 (by simp)
  replace h2 := h2.fr f9
  replace st3 := st3.fr f9 (by simp)
  replace h3 := h3.fr f9
  replace st4 := st4.fr f9 (by simp)
  replace h4 := h4.fr f9
  replace st5 := st5.fr f9 (by simp)
  replace h5 := h5.fr f9
  replace st6 := st6.fr f9 (by simp)
  replace h6 := h6.fr f9
  obtain rfl : w1 = w2 := hw1.trans hw2.symm
  obtain rfl : c1 = c2 := hc1.trans hc2.symm
  have z1 : w1.list.length ≤ 4611686018427387903 := by rw [hw1]; exact gA_of (P := fun v => v.list.length ≤ 4611686018427387903) bw_val (z := zVal) (Nat.zero_le _) (fun v hv => by have := (right_facts hv).2.2.2; omega) s
  refine ldI_at st1 rfl (ldI_at st1 rfl (ldS_at st1 rfl (ldL_at st1 rfl (ldI_at st2 rfl (ldI_at st2 rfl (ldS_at st2 rfl (ldL_at st2 rfl (?_))))))))
  refine wCall_of (same_call w1 w1 h1 h2 z1 (fun H10 f10 => opB_at ?_))
  rw [decide_eq_true rfl]
  refine wIf_t rfl ?_
  replace st3 := st3.fr f10 (by simp)
  replace h3 := h3.fr f10
  replace st4 := st4.fr f10 (by simp)
  replace h4 := h4.fr f10
  replace st5 := st5.fr f10 (by simp)
  replace h5 := h5.fr f10
  replace st6 := st6.fr f10 (by simp)
  replace h6 := h6.fr f10
  clear f10
  refine wIf_dt rfl ?_
  obtain rfl : w3 = w4 := hw3.trans hw4.symm
  obtain rfl : c3 = c4 := hc3.trans hc4.symm
  have z3 : MLw w3 ∧ w3.key.length ≤ 4611686018427387903 ∧ w3.fields.length ≤ 4611686018427387903 := by rw [hw3]; exact gA_of (P := fun m => MLw m ∧ m.key.length ≤ 4611686018427387903 ∧ m.fields.length ≤ 4611686018427387903) bw_mail (mlw_of (by decide)) (fun m hm => mlw_of hm) s
  refine ldI_at st3 rfl (ldS_at st3 rfl (ldL_at st3 rfl (ldL_at st3 rfl (ldI_at st4 rfl (ldS_at st4 rfl (ldL_at st4 rfl (ldL_at st4 rfl (?_))))))))
  refine wCall_of (samemail_call w3 w3 h3 h4 z3.2.1 z3.2.2 z3.1.keys z3.1.fieldss (fun H10 f10 => opB_at ?_))
  rw [decide_eq_true rfl]
  refine wIf_t rfl ?_
  replace st5 := st5.fr f10 (by simp)
  replace h5 := h5.fr f10
  replace st6 := st6.fr f10 (by simp)
  replace h6 := h6.fr f10
  clear f10
  refine wIf_dt rfl ?_
  obtain rfl : w5 = w6 := hw5.trans hw6.symm
  obtain rfl : c5 = c6 := hc5.trans hc6.symm
  have z5 : ISz w5 := by rw [hw5]; exact gA_of (P := ISz) bw_item (isz_of (by decide)) (fun m hm => isz_of hm) s
  refine ldI_at st5 rfl (ldS_at st5 rfl (ldS_at st5 rfl (ldI_at st5 rfl (ldL_at st5 rfl (ldL_at st5 rfl (ldL_at st5 rfl (ldI_at st6 rfl (ldS_at st6 rfl (ldS_at st6 rfl (ldI_at st6 rfl (ldL_at st6 rfl (ldL_at st6 rfl (ldL_at st6 rfl (?_))))))))))))))
  refine wCall_of (sameitem_call w5 w5 h5 h6 z5 (fun H10 f10 => opB_at ?_))
  rw [decide_eq_true rfl]
  refine wIf_t rfl ?_
  rw [decide_eq_true rfl]
  exact hT _
end
theorem codeGets_law (H : AH) (a0 : ByteArray) (w0 : a0.size ≤ 140737488351232) : ACall Try.prog 4 [.string a0] H AllTrue := codeGets_walk (fun _ => rfl) a0
end Go.Proofs.Ytfghglacfjncmaa
