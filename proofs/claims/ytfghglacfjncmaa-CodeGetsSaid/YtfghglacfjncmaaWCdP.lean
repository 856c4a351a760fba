/- What is got: messages, artifacts, dead letters, events, subscriptions. -/
import Derived.Test.YtfghglacfjncmaaWCdO
import Derived.Test.YtfghglacfjncmaaWGenF
import Derived.Test.YtfghglacfjncmaaWGenL
namespace Go.Proofs.Ytfghglacfjncmaa
set_option linter.unusedVariables false
set_option linter.unusedSimpArgs false
set_option maxRecDepth 20000
open Go.RowKit
section
variable {H : AH} {R : AEnd → AH → Prop} {s : ByteArray}
set_option maxHeartbeats 2000000 in
theorem getm_call (hs : s.size ≤ 4611686018427387904)
    (h1 : ∀ v, pAll (pMail s) = .ok v → ∀ H' val, Fr [] H H' → MailV H.next H' v val → R (.ret (.tuple #[val, .int .i64 0])) H')
    (h2 : ∀ e, pAll (pMail s) = .error e → ∀ H', Fr [] H H' → R (.ret (.tuple #[.agg (zeroM).toArray, .int .i64 e])) H') :
    ACall Try.prog 58 [.string s, .func (.func 59) #[] #[]] H R := by
  apply f58_call
  unfold f58_B
  refine wNew_at (wNew_at ?_)
  have hx := (Has.new H (.row zeroM 0)).push (.row [.int .i64 0] 0)
  have hb := Has.new (H.push (.row zeroM 0)) (.row [.int .i64 0] 0)
  have f2 : Fr [] H ((H.push (.row zeroM 0)).push (.row [.int .i64 0] 0)) := ((Fr.refl [] H).push _).push _
  have n1 : (H.push (.row zeroM 0)).next = H.next + 1 := rfl
  generalize (H.push (.row zeroM 0)).push (.row [.int .i64 0] 0) = H2 at hx hb f2 ⊢
  generalize (H.push (.row zeroM 0)).next = y at hb n1 ⊢
  generalize hxe : H.next = x at hx n1
  have hxy : x ≠ y := by omega
  have dead : ∀ (e : Int) (H5 : AH) (K : AH → Prop), (∀ H6, Has H6 x (.row zeroM 0) → Has H6 y (.row [.int .i64 e] 0) → Fr [] H H6 → K H6) → Has H5 x (.row zeroM 0) → Has H5 y (.row [.int .i64 0] 0) → Fr [] H H5 →
      ADef Try.prog 115 [.pointer (some ⟨x, 0, none⟩), .pointer (some ⟨y, 0, none⟩)] (some (STOP e)) H5 K := by
    intro e H5 K hK hx5 hy5 f5
    have nx := f5.next
    have hqx0 : H5.next ≠ x := by have := hx5.lt; omega
    refine f115_P _ _ e _ _ ?_
    unfold f115_P_B
    refine wNew_at (wSt_at (Has.new _ _) (by simp) (wNew_at ?_))
    have hq : Has ((H5.push (.row [.int .i64 0] 0)).set H5.next (.row (setCells [.int .i64 0] 0 [.int .i64 e]) 0)) H5.next (.row [.int .i64 e] 0) := (Has.new _ _).set _
    have fx : Fr [] H5 ((H5.push (.row [.int .i64 0] 0)).set H5.next (.row (setCells [.int .i64 0] 0 [.int .i64 e]) 0)) := ((Fr.refl [] H5).push _).set (.inr (Nat.le_refl _)) _
    generalize (H5.push (.row [.int .i64 0] 0)).set H5.next (.row (setCells [.int .i64 0] 0 [.int .i64 e]) 0) = H6 at hq fx ⊢
    have hz := Has.new H6 (.row zeroM 0)
    have fy : Fr [] H5 (H6.push (.row zeroM 0)) := fx.push _
    replace hq := hq.push (.row zeroM 0)
    have hzn : H6.next ≠ x := by have := (hx5.fr fx (by simp)).lt; omega
    generalize H6.push (.row zeroM 0) = H7 at hz fy hq ⊢
    replace hx5 := hx5.fr fy (by simp)
    replace hy5 := hy5.fr fy (by simp)
    refine ldI_at hz rfl (ldS_at hz rfl (ldL_at hz rfl (ldL_at hz rfl (ldI_at hq rfl (wPt_at (wSt_at hx5 (Nat.le_of_ble_eq_true rfl) ⟨PinOK_has (hq.setne hqx0 _) (by simp) rfl, wPt_at (wSt_at (hy5.setne hxy.symm _) (Nat.le_of_ble_eq_true rfl) ?_)⟩))))))
    have g1 := (hx5.set (.row (setCells zeroM 0 zeroM) 0)).setne hxy (.row (setCells [.int .i64 0] 0 [.int .i64 e]) 0)
    have g2 := (hy5.setne hxy.symm (.row (setCells zeroM 0 zeroM) 0)).set (.row (setCells [.int .i64 0] 0 [.int .i64 e]) 0)
    exact hK _ g1 g2 (((f5.trans fy).set (i := x) (.inr (by omega)) _).set (i := y) (.inr (by omega)) _)
  refine wCall_of (rnew_call s (opP_at (wNew_at (wSt_at (Has.new _ _) (by simp) ?_))))
  have hp := (Has.new H2 (rdr s 0)).push (.row [.pointer none] 0)
  have hr : Has (((H2.push (rdr s 0)).push (.row [.pointer none] 0)).set (H2.push (rdr s 0)).next (.row (setCells [.pointer none] 0 [.pointer (some ⟨H2.next, 0, none⟩)]) 0)) (H2.push (rdr s 0)).next (.row [.pointer (some ⟨H2.next, 0, none⟩)] 0) := (Has.new _ _).set _
  have n2 : (H2.push (rdr s 0)).next = H2.next + 1 := rfl
  have fx : Fr [] H2 (((H2.push (rdr s 0)).push (.row [.pointer none] 0)).set (H2.push (rdr s 0)).next (.row (setCells [.pointer none] 0 [.pointer (some ⟨H2.next, 0, none⟩)]) 0)) := (((Fr.refl [] H2).push _).push _).set (.inr (by omega)) _
  replace hp := hp.setne (show H2.next ≠ (H2.push (rdr s 0)).next by omega) (.row (setCells [.pointer none] 0 [.pointer (some ⟨H2.next, 0, none⟩)]) 0)
  have hxl := hx.lt
  have hyl := hb.lt
  generalize ((H2.push (rdr s 0)).push (.row [.pointer none] 0)).set (H2.push (rdr s 0)).next (.row (setCells [.pointer none] 0 [.pointer (some ⟨H2.next, 0, none⟩)]) 0) = H3 at hp hr fx ⊢
  generalize (H2.push (rdr s 0)).next = rr at hr n2 ⊢
  generalize H2.next = p at hp hr n2 hxl hyl ⊢
  have hx3 := (hx.fr fx (by simp)).lt
  have hy3 := (hb.fr fx (by simp)).lt
  replace hx := hx.fr fx (by simp)
  replace hb := hb.fr fx (by simp)
  have f3 : Fr [] H H3 := f2.trans fx
  refine ldP_at hr rfl (wCall_of (rmail_call hp hs ⟨fun v s' hok H4 val d4 f4 hval => ?_, fun e he H4 f4 => dead e H4 _ (fun H6 a b c => wPt_at (ldI_at a rfl (ldS_at a rfl (ldL_at a rfl (ldL_at a rfl (wPt_at (ldI_at b rfl (h2 e (by rw [he]; rfl) _ c)))))))) (hx.fr f4 (by simp; omega)) (hb.fr f4 (by simp; omega)) (f3.trans' f4 (fun z hz => .inr (by simp at hz; omega)))⟩))
  obtain ⟨kb, kc, fb, fc, rfl, hq⟩ := hval
  have f04 : Fr [] H H4 := f3.trans' f4 (fun z hz => .inr (by simp at hz; omega))
  replace hx := hx.fr f4 (by simp; omega)
  replace hb := hb.fr f4 (by simp; omega)
  replace hr := hr.fr f4 (by simp; omega)
  refine opA_at rfl (opI_at (opS_at (opL_at (opL_at (wNew_at (wSt_at (Has.new _ _) (Nat.le_of_ble_eq_true rfl) ?_))))))
  have hv : Has ((H4.push (.row zeroM 0)).set H4.next (.row (setCells zeroM 0 (maiC v kb kc fb fc)) 0)) H4.next (.row (maiC v kb kc fb fc) 0) := (Has.new _ _).set _
  have fv : Fr [] H4 ((H4.push (.row zeroM 0)).set H4.next (.row (setCells zeroM 0 (maiC v kb kc fb fc)) 0)) := ((Fr.refl [] H4).push _).set (.inr (Nat.le_refl _)) _
  have n3 := f3.next
  have n4 := f04.next
  have hvx : H4.next ≠ x := by have := hx.lt; omega
  have hvy : H4.next ≠ y := by have := hb.lt; omega
  generalize (H4.push (.row zeroM 0)).set H4.next (.row (setCells zeroM 0 (maiC v kb kc fb fc)) 0) = H5 at hv fv ⊢
  generalize H4.next = g at hv hvx hvy ⊢
  replace hx := hx.fr fv (by simp)
  replace hb := hb.fr fv (by simp)
  replace hr := hr.fr fv (by simp)
  replace d4 := d4.fr fv (by simp)
  replace hq := hq.fr fv (fun z hz => by cases hz)
  have f05 : Fr [] H H5 := f04.trans fv
  refine ldP_at hr rfl (wCall_of (end_call d4 (opI_at ?_)))
  have hend : rdE s' 0 = if s'.size = 0 then 0 else 4 := by unfold rdE; rw [if_pos rfl]
  rw [hend]
  by_cases hz : s'.size = 0
  · rw [if_pos hz]
    refine wIf_nf rfl (ldI_at hv rfl (ldS_at hv rfl (ldL_at hv rfl (ldL_at hv rfl (wSt_at hx (Nat.le_of_ble_eq_true rfl) (wSt_at (hb.setne hxy.symm _) (Nat.le_of_ble_eq_true rfl) ?_))))))
    have g1 := (hx.set (.row (setCells zeroM 0 (maiC v kb kc fb fc)) 0)).setne hxy (.row (setCells [.int .i64 0] 0 [.int .i64 0]) 0)
    have g2 := (hb.setne hxy.symm (.row (setCells zeroM 0 (maiC v kb kc fb fc)) 0)).set (.row (setCells [.int .i64 0] 0 [.int .i64 0]) 0)
    have fx5 : Fr [x] H5 (H5.set x (.row (setCells zeroM 0 (maiC v kb kc fb fc)) 0)) := (Fr.refl _ _).set (.inl (by simp)) _
    have fy5 : Fr [y] (H5.set x (.row (setCells zeroM 0 (maiC v kb kc fb fc)) 0)) ((H5.set x (.row (setCells zeroM 0 (maiC v kb kc fb fc)) 0)).set y (.row (setCells [.int .i64 0] 0 [.int .i64 0]) 0)) := (Fr.refl _ _).set (.inl (by simp)) _
    refine f115_N _ _ _ _ ?_
    unfold f115_N_B
    refine wPt_at (ldI_at g1 rfl (ldS_at g1 rfl (ldL_at g1 rfl (ldL_at g1 rfl (wPt_at (ldI_at g2 rfl ?_))))))
    have hqf := ((hq.fr fx5 (fun z hz => by simp at hz; omega)).fr fy5 (fun z hz => by simp at hz; omega)).mono (Q' := fun j => H.next ≤ j) (fun j hj => by omega)
    exact h1 v (by rw [hok]; show (if s'.size = 0 then _ else _) = _; rw [if_pos hz]) _ _ ((f05.set (i := x) (.inr (by omega)) _).set (i := y) (.inr (by omega)) _) (by rw [hxe] at *; exact ⟨kb, kc, fb, fc, rfl, hqf⟩)
  · rw [if_neg hz]
    exact wIf_nt (by omega) (dead 4 H5 _ (fun H6 a b c => wPt_at (ldI_at a rfl (ldS_at a rfl (ldL_at a rfl (ldL_at a rfl (wPt_at (ldI_at b rfl (h2 4 (by rw [hok]; show (if s'.size = 0 then _ else _) = _; rw [if_neg hz]) _ c)))))))) hx hb f05)
theorem xgetm_call (hs : s.size ≤ 4611686018427387904)
    (h1 : ∀ v, pAll (pMail s) = .ok v → ∀ H' val, Fr [] H H' → MailV H.next H' v val → R (.ret (.tuple #[val, .int .i64 0])) H')
    (h2 : ∀ e, pAll (pMail s) = .error e → ∀ H', Fr [] H H' → R (.ret (.tuple #[.agg (zeroM).toArray, .int .i64 e])) H') :
    ACall Try.prog 19 [.string s] H R := by
  apply f19_call
  unfold f19_B
  refine wNew_at ?_
  have st := St.new H zeroM
  generalize H.push (.row zeroM 0) = H1 at st ⊢
  generalize hq : H.next = q at st ⊢
  have nx0 := st.fr.next
  have nl0 := st.hq.lt
  refine wCall_of (getm_call hs (fun v hv H2 val f2 hval => ?_) (fun e he H2 f2 => ?_))
  · obtain ⟨kb, kc, fb, fc, rfl, hqv⟩ := hval
    replace st := st.fr1 f2
    refine opT_at rfl (opA_at rfl (opI_at (opS_at (opL_at (opL_at (opI_at (wSt_at st.hq (Nat.le_of_ble_eq_true rfl) (wPt_at ?_))))))))
    have hx := st.hq.set (.row (setCells zeroM 0 (maiC v kb kc fb fc)) 0)
    have fx : Fr [q] H2 (H2.set q (.row (setCells zeroM 0 (maiC v kb kc fb fc)) 0)) := (Fr.refl _ _).set (.inl (by simp)) _
    have f3 := st.fr.set (i := q) (.inr (by omega)) (.row (setCells zeroM 0 (maiC v kb kc fb fc)) 0)
    refine ldI_at hx rfl (ldS_at hx rfl (ldL_at hx rfl (ldL_at hx rfl (?_))))
    exact h1 v hv _ _ f3 ⟨kb, kc, fb, fc, rfl, ((hqv.fr fx (fun z hz => by simp at hz; omega)).mono (fun j hj => by omega))⟩
  · replace st := st.fr1 f2
    refine opT_at rfl (opA_at rfl (opI_at (opS_at (opL_at (opL_at (opI_at (wSt_at st.hq (Nat.le_of_ble_eq_true rfl) (wPt_at ?_))))))))
    have hx := st.hq.set (.row (setCells zeroM 0 zeroM) 0)
    have f3 := st.fr.set (i := q) (.inr (by omega)) (.row (setCells zeroM 0 zeroM) 0)
    refine ldI_at hx rfl (ldS_at hx rfl (ldL_at hx rfl (ldL_at hx rfl (?_))))
    exact h2 e he _ f3
set_option maxHeartbeats 2000000 in
theorem geti_call (hs : s.size ≤ 4611686018427387904)
    (h1 : ∀ v, pAll (pItem s) = .ok v → ∀ H' val, Fr [] H H' → IteV H.next H' v val → R (.ret (.tuple #[val, .int .i64 0])) H')
    (h2 : ∀ e, pAll (pItem s) = .error e → ∀ H', Fr [] H H' → R (.ret (.tuple #[.agg (zeroI).toArray, .int .i64 e])) H') :
    ACall Try.prog 61 [.string s, .func (.func 62) #[] #[]] H R := by
  apply f61_call
  unfold f61_B
  refine wNew_at (wNew_at ?_)
  have hx := (Has.new H (.row zeroI 0)).push (.row [.int .i64 0] 0)
  have hb := Has.new (H.push (.row zeroI 0)) (.row [.int .i64 0] 0)
  have f2 : Fr [] H ((H.push (.row zeroI 0)).push (.row [.int .i64 0] 0)) := ((Fr.refl [] H).push _).push _
  have n1 : (H.push (.row zeroI 0)).next = H.next + 1 := rfl
  generalize (H.push (.row zeroI 0)).push (.row [.int .i64 0] 0) = H2 at hx hb f2 ⊢
  generalize (H.push (.row zeroI 0)).next = y at hb n1 ⊢
  generalize hxe : H.next = x at hx n1
  have hxy : x ≠ y := by omega
  have dead : ∀ (e : Int) (H5 : AH) (K : AH → Prop), (∀ H6, Has H6 x (.row zeroI 0) → Has H6 y (.row [.int .i64 e] 0) → Fr [] H H6 → K H6) → Has H5 x (.row zeroI 0) → Has H5 y (.row [.int .i64 0] 0) → Fr [] H H5 →
      ADef Try.prog 117 [.pointer (some ⟨x, 0, none⟩), .pointer (some ⟨y, 0, none⟩)] (some (STOP e)) H5 K := by
    intro e H5 K hK hx5 hy5 f5
    have nx := f5.next
    have hqx0 : H5.next ≠ x := by have := hx5.lt; omega
    refine f117_P _ _ e _ _ ?_
    unfold f117_P_B
    refine wNew_at (wSt_at (Has.new _ _) (by simp) (wNew_at ?_))
    have hq : Has ((H5.push (.row [.int .i64 0] 0)).set H5.next (.row (setCells [.int .i64 0] 0 [.int .i64 e]) 0)) H5.next (.row [.int .i64 e] 0) := (Has.new _ _).set _
    have fx : Fr [] H5 ((H5.push (.row [.int .i64 0] 0)).set H5.next (.row (setCells [.int .i64 0] 0 [.int .i64 e]) 0)) := ((Fr.refl [] H5).push _).set (.inr (Nat.le_refl _)) _
    generalize (H5.push (.row [.int .i64 0] 0)).set H5.next (.row (setCells [.int .i64 0] 0 [.int .i64 e]) 0) = H6 at hq fx ⊢
    have hz := Has.new H6 (.row zeroI 0)
    have fy : Fr [] H5 (H6.push (.row zeroI 0)) := fx.push _
    replace hq := hq.push (.row zeroI 0)
    have hzn : H6.next ≠ x := by have := (hx5.fr fx (by simp)).lt; omega
    generalize H6.push (.row zeroI 0) = H7 at hz fy hq ⊢
    replace hx5 := hx5.fr fy (by simp)
    replace hy5 := hy5.fr fy (by simp)
    refine ldI_at hz rfl (ldS_at hz rfl (ldS_at hz rfl (ldI_at hz rfl (ldL_at hz rfl (ldL_at hz rfl (ldL_at hz rfl (ldI_at hq rfl (wPt_at (wSt_at hx5 (Nat.le_of_ble_eq_true rfl) ⟨PinOK_has (hq.setne hqx0 _) (by simp) rfl, wPt_at (wSt_at (hy5.setne hxy.symm _) (Nat.le_of_ble_eq_true rfl) ?_)⟩)))))))))
    have g1 := (hx5.set (.row (setCells zeroI 0 zeroI) 0)).setne hxy (.row (setCells [.int .i64 0] 0 [.int .i64 e]) 0)
    have g2 := (hy5.setne hxy.symm (.row (setCells zeroI 0 zeroI) 0)).set (.row (setCells [.int .i64 0] 0 [.int .i64 e]) 0)
    exact hK _ g1 g2 (((f5.trans fy).set (i := x) (.inr (by omega)) _).set (i := y) (.inr (by omega)) _)
  refine wCall_of (rnew_call s (opP_at (wNew_at (wSt_at (Has.new _ _) (by simp) ?_))))
  have hp := (Has.new H2 (rdr s 0)).push (.row [.pointer none] 0)
  have hr : Has (((H2.push (rdr s 0)).push (.row [.pointer none] 0)).set (H2.push (rdr s 0)).next (.row (setCells [.pointer none] 0 [.pointer (some ⟨H2.next, 0, none⟩)]) 0)) (H2.push (rdr s 0)).next (.row [.pointer (some ⟨H2.next, 0, none⟩)] 0) := (Has.new _ _).set _
  have n2 : (H2.push (rdr s 0)).next = H2.next + 1 := rfl
  have fx : Fr [] H2 (((H2.push (rdr s 0)).push (.row [.pointer none] 0)).set (H2.push (rdr s 0)).next (.row (setCells [.pointer none] 0 [.pointer (some ⟨H2.next, 0, none⟩)]) 0)) := (((Fr.refl [] H2).push _).push _).set (.inr (by omega)) _
  replace hp := hp.setne (show H2.next ≠ (H2.push (rdr s 0)).next by omega) (.row (setCells [.pointer none] 0 [.pointer (some ⟨H2.next, 0, none⟩)]) 0)
  have hxl := hx.lt
  have hyl := hb.lt
  generalize ((H2.push (rdr s 0)).push (.row [.pointer none] 0)).set (H2.push (rdr s 0)).next (.row (setCells [.pointer none] 0 [.pointer (some ⟨H2.next, 0, none⟩)]) 0) = H3 at hp hr fx ⊢
  generalize (H2.push (rdr s 0)).next = rr at hr n2 ⊢
  generalize H2.next = p at hp hr n2 hxl hyl ⊢
  have hx3 := (hx.fr fx (by simp)).lt
  have hy3 := (hb.fr fx (by simp)).lt
  replace hx := hx.fr fx (by simp)
  replace hb := hb.fr fx (by simp)
  have f3 : Fr [] H H3 := f2.trans fx
  refine ldP_at hr rfl (wCall_of (ritem_call hp hs ⟨fun v s' hok H4 val d4 f4 hval => ?_, fun e he H4 f4 => dead e H4 _ (fun H6 a b c => wPt_at (ldI_at a rfl (ldS_at a rfl (ldS_at a rfl (ldI_at a rfl (ldL_at a rfl (ldL_at a rfl (ldL_at a rfl (wPt_at (ldI_at b rfl (h2 e (by rw [he]; rfl) _ c))))))))))) (hx.fr f4 (by simp; omega)) (hb.fr f4 (by simp; omega)) (f3.trans' f4 (fun z hz => .inr (by simp at hz; omega)))⟩))
  obtain ⟨ab, ac, cb, cc, bb, bc, rfl, hq⟩ := hval
  have f04 : Fr [] H H4 := f3.trans' f4 (fun z hz => .inr (by simp at hz; omega))
  replace hx := hx.fr f4 (by simp; omega)
  replace hb := hb.fr f4 (by simp; omega)
  replace hr := hr.fr f4 (by simp; omega)
  refine opA_at rfl (opI_at (opS_at (opS_at (opI_at (opL_at (opL_at (opL_at (wNew_at (wSt_at (Has.new _ _) (Nat.le_of_ble_eq_true rfl) ?_)))))))))
  have hv : Has ((H4.push (.row zeroI 0)).set H4.next (.row (setCells zeroI 0 (iteC v ab ac cb cc bb bc)) 0)) H4.next (.row (iteC v ab ac cb cc bb bc) 0) := (Has.new _ _).set _
  have fv : Fr [] H4 ((H4.push (.row zeroI 0)).set H4.next (.row (setCells zeroI 0 (iteC v ab ac cb cc bb bc)) 0)) := ((Fr.refl [] H4).push _).set (.inr (Nat.le_refl _)) _
  have n3 := f3.next
  have n4 := f04.next
  have hvx : H4.next ≠ x := by have := hx.lt; omega
  have hvy : H4.next ≠ y := by have := hb.lt; omega
  generalize (H4.push (.row zeroI 0)).set H4.next (.row (setCells zeroI 0 (iteC v ab ac cb cc bb bc)) 0) = H5 at hv fv ⊢
  generalize H4.next = g at hv hvx hvy ⊢
  replace hx := hx.fr fv (by simp)
  replace hb := hb.fr fv (by simp)
  replace hr := hr.fr fv (by simp)
  replace d4 := d4.fr fv (by simp)
  replace hq := hq.fr fv (fun z hz => by cases hz)
  have f05 : Fr [] H H5 := f04.trans fv
  refine ldP_at hr rfl (wCall_of (end_call d4 (opI_at ?_)))
  have hend : rdE s' 0 = if s'.size = 0 then 0 else 4 := by unfold rdE; rw [if_pos rfl]
  rw [hend]
  by_cases hz : s'.size = 0
  · rw [if_pos hz]
    refine wIf_nf rfl (ldI_at hv rfl (ldS_at hv rfl (ldS_at hv rfl (ldI_at hv rfl (ldL_at hv rfl (ldL_at hv rfl (ldL_at hv rfl (wSt_at hx (Nat.le_of_ble_eq_true rfl) (wSt_at (hb.setne hxy.symm _) (Nat.le_of_ble_eq_true rfl) ?_)))))))))
    have g1 := (hx.set (.row (setCells zeroI 0 (iteC v ab ac cb cc bb bc)) 0)).setne hxy (.row (setCells [.int .i64 0] 0 [.int .i64 0]) 0)
    have g2 := (hb.setne hxy.symm (.row (setCells zeroI 0 (iteC v ab ac cb cc bb bc)) 0)).set (.row (setCells [.int .i64 0] 0 [.int .i64 0]) 0)
    have fx5 : Fr [x] H5 (H5.set x (.row (setCells zeroI 0 (iteC v ab ac cb cc bb bc)) 0)) := (Fr.refl _ _).set (.inl (by simp)) _
    have fy5 : Fr [y] (H5.set x (.row (setCells zeroI 0 (iteC v ab ac cb cc bb bc)) 0)) ((H5.set x (.row (setCells zeroI 0 (iteC v ab ac cb cc bb bc)) 0)).set y (.row (setCells [.int .i64 0] 0 [.int .i64 0]) 0)) := (Fr.refl _ _).set (.inl (by simp)) _
    refine f117_N _ _ _ _ ?_
    unfold f117_N_B
    refine wPt_at (ldI_at g1 rfl (ldS_at g1 rfl (ldS_at g1 rfl (ldI_at g1 rfl (ldL_at g1 rfl (ldL_at g1 rfl (ldL_at g1 rfl (wPt_at (ldI_at g2 rfl ?_)))))))))
    have hqf := ((hq.fr fx5 (fun z hz => by simp at hz; omega)).fr fy5 (fun z hz => by simp at hz; omega)).mono (Q' := fun j => H.next ≤ j) (fun j hj => by omega)
    exact h1 v (by rw [hok]; show (if s'.size = 0 then _ else _) = _; rw [if_pos hz]) _ _ ((f05.set (i := x) (.inr (by omega)) _).set (i := y) (.inr (by omega)) _) (by rw [hxe] at *; exact ⟨ab, ac, cb, cc, bb, bc, rfl, hqf⟩)
  · rw [if_neg hz]
    exact wIf_nt (by omega) (dead 4 H5 _ (fun H6 a b c => wPt_at (ldI_at a rfl (ldS_at a rfl (ldS_at a rfl (ldI_at a rfl (ldL_at a rfl (ldL_at a rfl (ldL_at a rfl (wPt_at (ldI_at b rfl (h2 4 (by rw [hok]; show (if s'.size = 0 then _ else _) = _; rw [if_neg hz]) _ c))))))))))) hx hb f05)
theorem xgeti_call (hs : s.size ≤ 4611686018427387904)
    (h1 : ∀ v, pAll (pItem s) = .ok v → ∀ H' val, Fr [] H H' → IteV H.next H' v val → R (.ret (.tuple #[val, .int .i64 0])) H')
    (h2 : ∀ e, pAll (pItem s) = .error e → ∀ H', Fr [] H H' → R (.ret (.tuple #[.agg (zeroI).toArray, .int .i64 e])) H') :
    ACall Try.prog 21 [.string s] H R := by
  apply f21_call
  unfold f21_B
  refine wNew_at ?_
  have st := St.new H zeroI
  generalize H.push (.row zeroI 0) = H1 at st ⊢
  generalize hq : H.next = q at st ⊢
  have nx0 := st.fr.next
  have nl0 := st.hq.lt
  refine wCall_of (geti_call hs (fun v hv H2 val f2 hval => ?_) (fun e he H2 f2 => ?_))
  · obtain ⟨ab, ac, cb, cc, bb, bc, rfl, hqv⟩ := hval
    replace st := st.fr1 f2
    refine opT_at rfl (opA_at rfl (opI_at (opS_at (opS_at (opI_at (opL_at (opL_at (opL_at (opI_at (wSt_at st.hq (Nat.le_of_ble_eq_true rfl) (wPt_at ?_)))))))))))
    have hx := st.hq.set (.row (setCells zeroI 0 (iteC v ab ac cb cc bb bc)) 0)
    have fx : Fr [q] H2 (H2.set q (.row (setCells zeroI 0 (iteC v ab ac cb cc bb bc)) 0)) := (Fr.refl _ _).set (.inl (by simp)) _
    have f3 := st.fr.set (i := q) (.inr (by omega)) (.row (setCells zeroI 0 (iteC v ab ac cb cc bb bc)) 0)
    refine ldI_at hx rfl (ldS_at hx rfl (ldS_at hx rfl (ldI_at hx rfl (ldL_at hx rfl (ldL_at hx rfl (ldL_at hx rfl (?_)))))))
    exact h1 v hv _ _ f3 ⟨ab, ac, cb, cc, bb, bc, rfl, ((hqv.fr fx (fun z hz => by simp at hz; omega)).mono (fun j hj => by omega))⟩
  · replace st := st.fr1 f2
    refine opT_at rfl (opA_at rfl (opI_at (opS_at (opS_at (opI_at (opL_at (opL_at (opL_at (opI_at (wSt_at st.hq (Nat.le_of_ble_eq_true rfl) (wPt_at ?_)))))))))))
    have hx := st.hq.set (.row (setCells zeroI 0 zeroI) 0)
    have f3 := st.fr.set (i := q) (.inr (by omega)) (.row (setCells zeroI 0 zeroI) 0)
    refine ldI_at hx rfl (ldS_at hx rfl (ldS_at hx rfl (ldI_at hx rfl (ldL_at hx rfl (ldL_at hx rfl (ldL_at hx rfl (?_)))))))
    exact h2 e he _ f3
end
end Go.Proofs.Ytfghglacfjncmaa
