/- The statements on heads. -/
import Derived.Test.YtnjhcnefgeodcaaDoorWFrmN
import Derived.Test.YtnjhcnefgeodcaaDoorWFrmI
namespace Go.Proofs.YtnjhcnefgeodcaaDoor
set_option linter.unusedVariables false
set_option linter.unusedSimpArgs false
open Go.RowKit
abbrev headK : List SK := [.int .u32, .int .u32, .int .u32, .int .u64]
/-- A head that came in. -/
theorem head_in {H : AH} {vs : List Value} {ds : List CD} (l : Lies H ds vs) (k : Kds headK ds) : ∃ v : HV, vs = hvC v ∧ v.fits := by
  obtain ⟨c0, e0, w0⟩ := l.int k 0 rfl
  obtain ⟨c1, e1, w1⟩ := l.int k 1 rfl
  obtain ⟨c2, e2, w2⟩ := l.int k 2 rfl
  obtain ⟨c3, e3, w3⟩ := l.int k 3 rfl
  obtain ⟨b0, rfl⟩ := wf_u32 w0
  obtain ⟨b1, rfl⟩ := wf_u32 w1
  obtain ⟨b2, rfl⟩ := wf_u32 w2
  obtain ⟨b3, rfl⟩ := wf_u64 w3
  exact ⟨⟨b0.toNat, b1.toNat, b2.toNat, b3.toNat⟩, four (l.len.symm.trans k.len) e0 e1 e2 e3, b0.isLt, b1.isLt, b2.isLt, b3.isLt⟩
theorem putH_ok {v : HV} (h : okH v) : putH v = (ofL (hsecL v), 0) := by unfold putH; rw [if_pos h]
theorem putH_no {v : HV} (h : ¬ okH v) : putH v = (⟨#[]⟩, 2) := by unfold putH; rw [if_neg h]
theorem getH_nil : getH ⟨#[]⟩ = (zeroH, false) := getH_size _ (by decide)
attribute [local irreducible] secsN crcSum nval Lib.trimB padN sectL putU getU hsecL getH putH
section
variable {H : AH} {R : AEnd → AH → Prop}
set_option maxRecDepth 20000 in
theorem frameHeads_law (H : AH) (v0 : List Value) (d0 : List CD) (l0 : Lies H d0 v0) (k0 : Kds headK d0) : ACall Tryd.prog 7 [.agg v0.toArray] H AllTrue := by
  obtain ⟨v, rfl, hv⟩ := head_in l0 k0
  clear l0 k0
  apply f7_call
  unfold f7_B
  refine wNew_at (wCall_of (fawake_call (fun H1 f1 => opB_at (wIf_f rfl ?_))))
  have hb := (Has.new H (.row (hvC v) 0)).fr f1 (by simp)
  generalize H.next = o at hb
  refine ldI_at hb rfl (ldI_at hb rfl (ldI_at hb rfl (ldI_at hb rfl (wCall_of (puth_call v hv (fun H2 f2 => opT_at rfl (opS_at (opI_at ?_))))))))
  have hb2 := hb.fr f2 (by simp)
  refine ldI_at hb2 rfl (ldI_at hb2 rfl (ldI_at hb2 rfl (ldI_at hb2 rfl (wCall_of (rputh_call v hv (fun H3 f3 => opT_at rfl (opS_at (opI_at ?_))))))))
  have hb3 := hb2.fr f3 (by simp)
  by_cases ok : okH v
  · have hg := head_back v hv ok
    have hs : (ofL (hsecL v)).size = 64 := by rw [ofL_size, hsecL_length]
    rw [putH_ok ok]
    refine wCall_of (geth_call _ (by show (ofL (hsecL v)).size ≤ _; omega) (fun H4 f4 => ?_))
    show opT 2 (.tuple #[.agg (hvC (getH (ofL (hsecL v))).1).toArray, .bool (getH (ofL (hsecL v))).2]) _
    rw [hg]
    refine opT_at rfl (opA_at rfl (opI_at (opI_at (opI_at (opI_at (opB_at (wNew_at ?_)))))))
    have hq := Has.new H4 (.row zhC 0)
    have hb4 := hb3.fr f4 (by simp)
    have hne : o ≠ H4.next := hb4.ne
    have hb5 := hb4.push (.row zhC 0)
    generalize H4.push (.row zhC 0) = H5 at hq hb5 ⊢
    generalize H4.next = q at hq hne ⊢
    refine wSt_at hq (by simp) ?_
    have hq6 := hq.set (.row (setCells zhC 0 (hvC v)) 0)
    have hb6 := hb5.setne hne (.row (setCells zhC 0 (hvC v)) 0)
    refine wCall_of (fawake_call (fun H8 f8 => opB_at (wIf_t rfl (wIf_dt rfl (wIf_dt rfl (wIf_t rfl (wIf_f rfl ?_)))))))
    have hq8 := hq6.fr f8 (by simp)
    have hb8 := hb6.fr f8 (by simp)
    refine ldI_at hq8 rfl (ldI_at hq8 rfl (ldI_at hq8 rfl (ldI_at hq8 rfl (ldI_at hb8 rfl (ldI_at hb8 rfl (ldI_at hb8 rfl (ldI_at hb8 rfl ?_)))))))
    simp
  · rw [putH_no ok]
    refine wCall_of (geth_call _ (by decide) (fun H4 f4 => ?_))
    show opT 2 (.tuple #[.agg (hvC (getH ⟨#[]⟩).1).toArray, .bool (getH ⟨#[]⟩).2]) _
    rw [getH_nil]
    refine opT_at rfl (opA_at rfl (opI_at (opI_at (opI_at (opI_at (opB_at (wNew_at (wSt_at (Has.new _ _) (by simp) ?_))))))))
    exact wCall_of (fawake_call (fun H8 f8 => opB_at (wIf_t rfl (wIf_dt rfl (wIf_dt rfl (wIf_t rfl (wIf_t rfl rfl)))))))
set_option maxRecDepth 20000 in
theorem frameGets_law (H : AH) (a0 : ByteArray) (w0 : a0.size ≤ 140737488351232) : ACall Tryd.prog 6 [.string a0] H AllTrue := by
  apply f6_call
  unfold f6_B
  refine wCall_of (fawake_call (fun H1 f1 => opB_at (wIf_f rfl (wIf_d (fun c1 => ?_) (fun c1 => ?_)))))
  · exact wCall_of (fawake_call (fun H2 f2 => opB_at rfl))
  · have hs : a0.size ≤ 140737488355328 := by omega
    refine wCall_of (get_call a0 hs (fun H2 f2 => ?_))
    generalize hu0 : getU a0 = u
    obtain ⟨⟨u1, u2, u3, u4⟩, ue⟩ := u
    refine opT_at rfl (opA_at rfl (opI_at (opI_at (opI_at (opS_at (opI_at (wNew_at ?_)))))))
    have h1 := Has.new H2 (.row zC 0)
    refine wSt_at h1 (by simp) ?_
    have h1 := h1.set (.row (setCells zC 0 [.int .u32 (u1 : Int), .int .u64 (u2 : Int), .int .i64 u3, .string u4]) 0)
    show wCall _ _ _ ((H2.push (.row zC 0)).set H2.next (.row (setCells zC 0 [.int .u32 (u1 : Int), .int .u64 (u2 : Int), .int .i64 u3, .string u4]) 0)) _ _
    generalize (H2.push (.row zC 0)).set H2.next (.row (setCells zC 0 [.int .u32 (u1 : Int), .int .u64 (u2 : Int), .int .i64 u3, .string u4]) 0) = H3 at h1 ⊢
    generalize H2.next = i1 at h1 ⊢
    refine wCall_of (rget_call a0 hs (fun H4 f4 => ?_))
    rw [hu0]
    refine opT_at rfl (opA_at rfl (opI_at (opI_at (opI_at (opS_at (opI_at (wNew_at ?_)))))))
    have h1 := h1.fr f4 (by simp)
    have g1 := h1.push (.row zC 0)
    have h2 := Has.new H4 (.row zC 0)
    have hne : i1 ≠ H4.next := h1.ne
    refine wSt_at h2 (by simp) ?_
    have h2 := h2.set (.row (setCells zC 0 [.int .u32 (u1 : Int), .int .u64 (u2 : Int), .int .i64 u3, .string u4]) 0)
    have h1 := g1.setne hne (.row (setCells zC 0 [.int .u32 (u1 : Int), .int .u64 (u2 : Int), .int .i64 u3, .string u4]) 0)
    clear g1
    show wCall _ _ _ ((H4.push (.row zC 0)).set H4.next (.row (setCells zC 0 [.int .u32 (u1 : Int), .int .u64 (u2 : Int), .int .i64 u3, .string u4]) 0)) _ _
    generalize (H4.push (.row zC 0)).set H4.next (.row (setCells zC 0 [.int .u32 (u1 : Int), .int .u64 (u2 : Int), .int .i64 u3, .string u4]) 0) = H5 at h1 h2 ⊢
    generalize H4.next = i2 at h2 hne ⊢
    refine wCall_of (geth_call a0 hs (fun H6 f6 => ?_))
    generalize hk0 : getH a0 = kk
    obtain ⟨⟨v1, v2, v3, v4⟩, ve⟩ := kk
    refine opT_at rfl (opA_at rfl (opI_at (opI_at (opI_at (opI_at (opB_at (wNew_at ?_)))))))
    have h1 := h1.fr f6 (by simp)
    have h2 := h2.fr f6 (by simp)
    have n1 := h1.ne
    have n2 := h2.ne
    have h3 := Has.new H6 (.row zhC 0)
    have h1 := h1.push (.row zhC 0)
    have h2 := h2.push (.row zhC 0)
    refine wSt_at h3 (by simp) ?_
    have h1 := h1.setne n1 (.row (setCells zhC 0 (hvC ⟨v1, v2, v3, v4⟩)) 0)
    have h2 := h2.setne n2 (.row (setCells zhC 0 (hvC ⟨v1, v2, v3, v4⟩)) 0)
    have h3 := h3.set (.row (setCells zhC 0 (hvC ⟨v1, v2, v3, v4⟩)) 0)
    show wCall _ _ _ ((H6.push (.row zhC 0)).set H6.next (.row (setCells zhC 0 (hvC ⟨v1, v2, v3, v4⟩)) 0)) _ _
    generalize (H6.push (.row zhC 0)).set H6.next (.row (setCells zhC 0 (hvC ⟨v1, v2, v3, v4⟩)) 0) = H7 at h1 h2 h3 ⊢
    generalize H6.next = i3 at n1 n2 h3 ⊢
    refine wCall_of (rgeth_call a0 hs (fun H8 f8 => ?_))
    rw [hk0]
    refine opT_at rfl (opA_at rfl (opI_at (opI_at (opI_at (opI_at (opB_at (wNew_at ?_)))))))
    have h1 := h1.fr f8 (by simp)
    have h2 := h2.fr f8 (by simp)
    have h3 := h3.fr f8 (by simp)
    have m1 := h1.ne
    have m2 := h2.ne
    have m3 := h3.ne
    have h4 := Has.new H8 (.row zhC 0)
    have h1 := h1.push (.row zhC 0)
    have h2 := h2.push (.row zhC 0)
    have h3 := h3.push (.row zhC 0)
    refine wSt_at h4 (by simp) ?_
    have h1 := h1.setne m1 (.row (setCells zhC 0 (hvC ⟨v1, v2, v3, v4⟩)) 0)
    have h2 := h2.setne m2 (.row (setCells zhC 0 (hvC ⟨v1, v2, v3, v4⟩)) 0)
    have h3 := h3.setne m3 (.row (setCells zhC 0 (hvC ⟨v1, v2, v3, v4⟩)) 0)
    have h4 := h4.set (.row (setCells zhC 0 (hvC ⟨v1, v2, v3, v4⟩)) 0)
    show wCall _ _ _ ((H8.push (.row zhC 0)).set H8.next (.row (setCells zhC 0 (hvC ⟨v1, v2, v3, v4⟩)) 0)) _ _
    generalize (H8.push (.row zhC 0)).set H8.next (.row (setCells zhC 0 (hvC ⟨v1, v2, v3, v4⟩)) 0) = H9 at h1 h2 h3 h4 ⊢
    generalize H8.next = i4 at h4 ⊢
    refine wCall_of (fawake_call (fun H10 f10 => opB_at (wIf_t rfl ?_)))
    have h1 := h1.fr f10 (by simp)
    have h2 := h2.fr f10 (by simp)
    have h3 := h3.fr f10 (by simp)
    have h4 := h4.fr f10 (by simp)
    refine ldI_at h1 rfl (ldI_at h1 rfl (ldI_at h1 rfl (ldS_at h1 rfl (ldI_at h2 rfl (ldI_at h2 rfl (ldI_at h2 rfl (ldS_at h2 rfl ?_)))))))
    refine wIf_t (by simp) (wIf_dt rfl ?_)
    refine ldI_at h3 rfl (ldI_at h3 rfl (ldI_at h3 rfl (ldI_at h3 rfl (ldI_at h4 rfl (ldI_at h4 rfl (ldI_at h4 rfl (ldI_at h4 rfl ?_)))))))
    refine wIf_t (by simp) ?_
    simp
set_option maxRecDepth 20000 in
theorem frameHeadTurns_law (H : AH) (v0 : List Value) (d0 : List CD) (l0 : Lies H d0 v0) (k0 : Kds headK d0) (a1 : Int) (w1 : (Lit.int .i64 a1).wf = true) (a2 : Int) (w2 : (Lit.int .u32 a2).wf = true) : ACall Tryd.prog 8 [.agg v0.toArray, .int .i64 a1, .int .u32 a2] H AllTrue := by
  obtain ⟨v, rfl, hv⟩ := head_in l0 k0
  clear l0 k0
  obtain ⟨t, rfl⟩ := wf_u32 w2
  apply f8_call
  unfold f8_B
  refine wNew_at (wCall_of (fawake_call (fun H1 f1 => opB_at (wIf_f rfl ?_))))
  have hb := (Has.new H (.row (hvC v) 0)).fr f1 (by simp)
  generalize H.next = o at hb
  refine ldI_at hb rfl (ldI_at hb rfl (ldI_at hb rfl (ldI_at hb rfl (wCall_of (puth_call v hv (fun H2 f2 => opT_at rfl (opS_at (opI_at ?_))))))))
  have hout : ∀ (H3 : AH), wCall Tryd.prog 9 [] H3 (fun r23 H24 => opB r23 fun b27 => AllTrue (.ret (.bool b27)) H24) (fun v26 H25 => AllTrue (.panic v26) H25) := fun H3 => wCall_of (fawake_call (fun H4 f4 => opB_at rfl))
  by_cases ok : okH v
  · rw [putH_ok ok]
    refine wIf_n (fun c2 => absurd rfl c2) (fun c2 => ?_)
    rw [f8_J0_eq]
    unfold f8_J0_B
    refine wIf_d (fun c3 => hout _) (fun c3 => ?_)
    have ht : t ≠ 0#32 := by rintro rfl; exact c3 rfl
    have hlen := hsecL_length v
    have hbad := fun k h4 hk => head_turned v k t ht h4 hk
    generalize hsecL v = L at hlen hbad
    have hLs := ofL_size L
    rw [f8_J1_eq]
    unfold f8_J1_B
    refine wS2B_at (by show (ofL L).size ≤ _; omega) ?_
    have hr := Has.new H2 (.row (byteCells (ofL L)) 1)
    rw [byteCells_eq, data_ofL] at hr ⊢
    generalize H2.push (.row (bcells L) 1) = H3 at hr ⊢
    generalize H2.next = q at hr ⊢
    have hu : 0 ≤ IntKind.u64.wrap a1 ∧ IntKind.u64.wrap a1 < 18446744073709551616 := by rw [wrapu64_eq]; omega
    generalize hm : IntKind.u64.wrap a1 = m at hu
    have e57 : IntKind.u64.wrap (IntKind.i64.wrap (((ofL L).size : Int) - 7)) = 57 := by
      rw [hLs, hlen]; decide
    rw [e57]
    refine wNz_at (by omega) ?_
    have k57 : IntKind.i64.wrap (4 + IntKind.i64.wrap (Int.tmod m 57)) = ((4 + (m % 57).toNat : Nat) : Int) := by
      rw [Int.tmod_eq_emod_of_nonneg hu.1, wi (m % 57) (by omega) (by omega), wi _ (by omega) (by omega)]; omega
    rw [k57]
    have hk : 4 ≤ 4 + (m % 57).toNat ∧ 4 + (m % 57).toNat + 4 ≤ 64 := by omega
    generalize 4 + (m % 57).toNat = k at hk ⊢
    refine f8_L0_rule (J := fun n s58 H' => ∃ i : Nat, i ≤ 4 ∧ n = 4 - i ∧ s58 = (i : Int) ∧ Has H' q (.row (bcells (turned L k t i)) 1)) 4 ⟨0, by omega, rfl, rfl, hr⟩ ?_
    rintro n s58 H5 ⟨i, hi, rfl, rfl, h5⟩
    intros
    unfold f8_R0
    refine wIf_d (fun c6 => ?_) (fun c6 => ?_)
    · have hTl := turned_length L k t i
      have e1 : IntKind.i64.wrap ((k : Int) + (i : Int)) = ((k + i : Nat) : Int) := by rw [wi _ (by omega) (by omega)]; omega
      rw [e1]
      refine wIx_at (by omega) (by show _ < ((ofL L).size : Int); omega) (wNn_at (by rw [wi _ (by omega) (by omega)]; omega) ?_)
      rw [Int.toNat_natCast, Nat.zero_add, Nat.mul_one]
      refine ldI_at h5 (bcells_getD _ _ (by omega)) (wIx_at (by omega) (by show _ < ((ofL L).size : Int); omega) ?_)
      rw [Int.toNat_natCast, Nat.zero_add, Nat.mul_one, byte_of t i (by omega), u8_xor]
      refine wSt_at h5 (by rw [bcells_length]; simp; omega) ?_
      rw [bcells_set]
      exact ⟨4 - (i + 1), by omega, f8_I0_mk ⟨i + 1, by omega, rfl, wi1 i (by omega), h5.set _⟩⟩
    · have : i = 4 := by omega
      subst this
      rw [f8_J2_eq]
      unfold f8_J2_B
      have hTl := turned_length L k t 4
      refine wB2S_at h5 (by show (ofL L).size = _; rw [hLs, hTl]) ?_
      refine wCall_of (geth_call _ (by rw [ofL_size, hTl]; omega) (fun H6 f6 => ?_))
      have hb4 := hbad k hk.1 hk.2
      generalize getH (ofL (turned L k t 4)) = gg at hb4
      obtain ⟨⟨y1, y2, y3, y4⟩, ge⟩ := gg
      refine opT_at rfl (opA_at rfl (opI_at (opI_at (opI_at (opI_at (opB_at (wNew_at (wSt_at (Has.new _ _) (by simp) ?_))))))))
      refine wCall_of (fawake_call (fun H8 f8 => opB_at (wIf_t rfl ?_)))
      have : ge = false := hb4
      rw [this]; rfl
  · rw [putH_no ok]
    refine wIf_n (fun c2 => ?_) (fun c2 => absurd (show (2 : Int) = 0 from c2) (by omega))
    rw [f8_J0_eq]
    unfold f8_J0_B
    exact wIf_t rfl (hout _)
end
end Go.Proofs.YtnjhcnefgeodcaaDoor
