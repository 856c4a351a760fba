/- CodeReads: the law. -/
import Derived.Test.YtfghglacfjncmaaWCodAM
import Derived.Test.YtfghglacfjncmaaWGenY
namespace Go.Proofs.Ytfghglacfjncmaa
set_option linter.unusedVariables false
set_option linter.unusedSimpArgs false
set_option maxRecDepth 20000
open Go.RowKit

theorem vls_of {v : Val} (h : rightV v = true) : VLs v := by
  have hx := (rightV_iff v).1 h
  unfold rightQ at hx
  have h4 : v.text.size ≤ 64 := by
    by_cases hnm : isName v.text
    · have := hnm.2.1; omega
    · rw [if_neg hnm] at hx; omega
  exact ⟨by omega, by omega⟩
theorem gA_of {α : Type} {P : α → Prop} {z : α} {p : ByteArray → Rd α} {enc : α → List UInt8} {ok : α → Prop} (hb : Bw p enc ok) (hz : P z) (hP : ∀ a, ok a → P a) (s : ByteArray) : P (gA z (pAll (p s))) := by
  cases hq : pAll (p s) with
  | error e => exact hz
  | ok a => exact hP a (hb.all hq).2
theorem mlw_of {m : Mai} (h : mailOK m) : MLw m ∧ m.key.length ≤ 4611686018427387903 ∧ m.fields.length ≤ 4611686018427387903 :=
  ⟨⟨by have := h.1; omega, fun v hv => vls_of (h.2.1.2 v hv), fun v hv => vls_of (h.2.2.2 v hv)⟩, by have := h.2.1.1; omega, by have := h.2.2.1; omega⟩
theorem bw_dead : Bw pDead deadB deadOK := by
  intro s x s' h
  unfold pDead at h
  obtain ⟨a, s1, h1, h⟩ := pBind_ok h
  obtain ⟨b, s2, h2, h⟩ := pBind_ok h
  obtain ⟨c, s3, h3, h⟩ := pBind_ok h
  cases h
  obtain ⟨e1, o1⟩ := bw_num _ _ _ h1
  obtain ⟨e2, o2⟩ := bw_mail _ _ _ h2
  obtain ⟨e3, o3⟩ := bw_cnt (m := 5) (by omega) _ _ _ h3
  refine ⟨?_, o2, o3⟩
  unfold deadB
  dsimp only
  rw [e1, e2, e3]
  simp only [List.append_assoc]
section
variable {H : AH} {R : AEnd → AH → Prop}
set_option maxHeartbeats 16000000 in
theorem codeReads_walk (hT : ∀ H', R (.ret (.bool true)) H') (s : ByteArray) : ACall Try.prog 7 [.string s] H R := by
  apply f7_call
  unfold f7_B
  refine wCall_of (awake_call (fun H2 f2 => opB_at (wIf_f rfl (wIf_d (fun e => wCall_of (awake_call (fun H3 f3 => opB_at (hT _)))) (fun hs => ?_)))))
  refine wCall_of (anyd_call (by omega) (fun H_ w1 kb1 kc1 fb1 fc1 c1 hw1 hc1 f_ n1 h1 => opT_at rfl (opA_at rfl (opI_at (opI_at (opS_at (opL_at (opL_at (opI_at (opI_at (wNewSt_at (Nat.le_of_ble_eq_true rfl) (fun q1 G1 st1 g_ => ?_))))))))))))
  replace h1 := h1.fr g_
  clear f_ g_
  refine wCall_of (refgetd_call (by omega) (fun H_ w2 kb2 kc2 fb2 fc2 c2 hw2 hc2 f_ n2 h2 => opT_at rfl (opA_at rfl (opI_at (opI_at (opS_at (opL_at (opL_at (opI_at (opI_at (wNewSt_at (Nat.le_of_ble_eq_true rfl) (fun q2 G2 st2 g_ => ?_))))))))))))
  replace st1 := (st1.fr f_ (by simp)).fr g_ (by simp)
  replace h1 := (h1.fr f_).fr g_
  replace h2 := h2.fr g_
  clear f_ g_
  refine wCall_of (anye_call (by omega) (fun H_ w3 ab3 ac3 c3 hw3 hc3 f_ n3 h3 => opT_at rfl (opA_at rfl (opI_at (opI_at (opS_at (opI_at (opS_at (opS_at (opL_at (opI_at (wNewSt_at (Nat.le_of_ble_eq_true rfl) (fun q3 G3 st3 g_ => ?_)))))))))))))
  replace st1 := (st1.fr f_ (by simp)).fr g_ (by simp)
  replace h1 := (h1.fr f_).fr g_
  replace st2 := (st2.fr f_ (by simp)).fr g_ (by simp)
  replace h2 := (h2.fr f_).fr g_
  replace h3 := h3.fr g_
  clear f_ g_
  refine wCall_of (refgete_call (by omega) (fun H_ w4 ab4 ac4 c4 hw4 hc4 f_ n4 h4 => opT_at rfl (opA_at rfl (opI_at (opI_at (opS_at (opI_at (opS_at (opS_at (opL_at (opI_at (wNewSt_at (Nat.le_of_ble_eq_true rfl) (fun q4 G4 st4 g_ => ?_)))))))))))))
  replace st1 := (st1.fr f_ (by simp)).fr g_ (by simp)
  replace h1 := (h1.fr f_).fr g_
  replace st2 := (st2.fr f_ (by simp)).fr g_ (by simp)
  replace h2 := (h2.fr f_).fr g_
  replace st3 := (st3.fr f_ (by simp)).fr g_ (by simp)
  replace h3 := (h3.fr f_).fr g_
  replace h4 := h4.fr g_
  clear f_ g_
  refine wCall_of (anys_call (by omega) (fun H_ w5  c5 hw5 hc5 f_ n5 => opT_at rfl (opA_at rfl (opI_at (opS_at (opI_at (opI_at (wNewSt_at (Nat.le_of_ble_eq_true rfl) (fun q5 G5 st5 g_ => ?_)))))))))
  replace st1 := (st1.fr f_ (by simp)).fr g_ (by simp)
  replace h1 := (h1.fr f_).fr g_
  replace st2 := (st2.fr f_ (by simp)).fr g_ (by simp)
  replace h2 := (h2.fr f_).fr g_
  replace st3 := (st3.fr f_ (by simp)).fr g_ (by simp)
  replace h3 := (h3.fr f_).fr g_
  replace st4 := (st4.fr f_ (by simp)).fr g_ (by simp)
  replace h4 := (h4.fr f_).fr g_
  clear f_ g_
  refine wCall_of (refgets_call (by omega) (fun H_ w6  c6 hw6 hc6 f_ n6 => opT_at rfl (opA_at rfl (opI_at (opS_at (opI_at (opI_at (wNewSt_at (Nat.le_of_ble_eq_true rfl) (fun q6 G6 st6 g_ => ?_)))))))))
  replace st1 := (st1.fr f_ (by simp)).fr g_ (by simp)
  replace h1 := (h1.fr f_).fr g_
  replace st2 := (st2.fr f_ (by simp)).fr g_ (by simp)
  replace h2 := (h2.fr f_).fr g_
  replace st3 := (st3.fr f_ (by simp)).fr g_ (by simp)
  replace h3 := (h3.fr f_).fr g_
  replace st4 := (st4.fr f_ (by simp)).fr g_ (by simp)
  replace h4 := (h4.fr f_).fr g_
  replace st5 := (st5.fr f_ (by simp)).fr g_ (by simp)
  clear f_ g_
  refine wCall_of (awake_call (fun H9 f9 => opB_at (wIf_t rfl ?_)))
  replace st1 := st1.fr f9 (by simp)
  replace h1 := h1.fr f9
  replace st2 := st2.fr f9 (by simp)
  replace h2 := h2.fr f9
  replace st3 := st3.fr f9 (by simp)
  replace h3 := h3.fr f9
  replace st4 := st4.fr f9 (by simp)
  replace h4 := h4.fr f9
  replace st5 := st5.fr f9 (by simp)
  replace st6 := st6.fr f9 (by simp)
  obtain rfl : w1 = w2 := hw1.trans hw2.symm
  obtain rfl : c1 = c2 := hc1.trans hc2.symm
  have z1 : MLw w1.mail ∧ w1.mail.key.length ≤ 4611686018427387903 ∧ w1.mail.fields.length ≤ 4611686018427387903 := by rw [hw1]; exact gA_of (P := fun x => MLw x.mail ∧ x.mail.key.length ≤ 4611686018427387903 ∧ x.mail.fields.length ≤ 4611686018427387903) bw_dead (z := zDea) (mlw_of (m := zMai) (by decide)) (fun m hm => mlw_of hm.1) s
  refine ldI_at st1 rfl (ldI_at st1 rfl (ldS_at st1 rfl (ldL_at st1 rfl (ldL_at st1 rfl (ldI_at st1 rfl (ldI_at st2 rfl (ldI_at st2 rfl (ldS_at st2 rfl (ldL_at st2 rfl (ldL_at st2 rfl (ldI_at st2 rfl (?_))))))))))))
  refine wCall_of (samedead_call w1 w1 h1 h2 z1.2.1 z1.2.2 z1.1 (fun H10 f10 => opB_at ?_))
  rw [decide_eq_true rfl]
  refine wIf_t rfl ?_
  replace st3 := st3.fr f10 (by simp)
  replace h3 := h3.fr f10
  replace st4 := st4.fr f10 (by simp)
  replace h4 := h4.fr f10
  replace st5 := st5.fr f10 (by simp)
  replace st6 := st6.fr f10 (by simp)
  clear f10
  refine wIf_dt rfl ?_
  obtain rfl : w3 = w4 := hw3.trans hw4.symm
  obtain rfl : c3 = c4 := hc3.trans hc4.symm
  have z3 : w3.attrs.length ≤ 4611686018427387903 ∧ ∀ v ∈ w3.attrs, VLs v := by rw [hw3]; exact gA_of (P := fun x => x.attrs.length ≤ 4611686018427387903 ∧ ∀ v ∈ x.attrs, VLs v) bw_event (z := zEvt) ⟨Nat.zero_le _, fun v hv => absurd hv List.not_mem_nil⟩ (fun m hm => ⟨by have := hm.2.2.2.1; omega, fun v hv => vls_of (hm.2.2.2.2 v hv)⟩) s
  refine ldI_at st3 rfl (ldI_at st3 rfl (ldS_at st3 rfl (ldI_at st3 rfl (ldS_at st3 rfl (ldS_at st3 rfl (ldL_at st3 rfl (ldI_at st4 rfl (ldI_at st4 rfl (ldS_at st4 rfl (ldI_at st4 rfl (ldS_at st4 rfl (ldS_at st4 rfl (ldL_at st4 rfl (?_))))))))))))))
  refine wCall_of (sameevent_call w3 w3 h3 h4 z3.1 z3.2 (fun H10 f10 => opB_at ?_))
  rw [decide_eq_true rfl]
  refine wIf_t rfl ?_
  replace st5 := st5.fr f10 (by simp)
  replace st6 := st6.fr f10 (by simp)
  clear f10
  refine wIf_dt rfl ?_
  obtain rfl : w5 = w6 := hw5.trans hw6.symm
  obtain rfl : c5 = c6 := hc5.trans hc6.symm
  refine ldI_at st5 rfl (ldS_at st5 rfl (ldI_at st5 rfl (ldI_at st6 rfl (ldS_at st6 rfl (ldI_at st6 rfl (?_))))))
  refine wIf_t (by simp) ?_
  rw [decide_eq_true rfl]
  exact hT _
end
theorem codeReads_law (H : AH) (a0 : ByteArray) (w0 : a0.size ≤ 140737488351232) : ACall Try.prog 7 [.string a0] H AllTrue := codeReads_walk (fun _ => rfl) a0
end Go.Proofs.Ytfghglacfjncmaa
