/- What is got: messages, artifacts, dead letters, events, subscriptions. -/
import Derived.Test.YtfghglacfjncmaaWCdO
import Derived.Test.YtfghglacfjncmaaWGenF
import Derived.Test.YtfghglacfjncmaaWGenL
namespace Go.Proofs.Ytfghglacfjncmaa
set_option linter.unusedVariables false
set_option linter.unusedSimpArgs false
set_option maxRecDepth 20000
open Go.RowKit
section
variable {H : AH} {R : AEnd → AH → Prop} {s : ByteArray}
set_option maxHeartbeats 2000000 in
theorem getd_call (hs : s.size ≤ 4611686018427387904)
    (h1 : ∀ v, pAll (pDead s) = .ok v → ∀ H' val, Fr [] H H' → DeadV H.next H' v val → R (.ret (.tuple #[val, .int .i64 0])) H')
    (h2 : ∀ e, pAll (pDead s) = .error e → ∀ H', Fr [] H H' → R (.ret (.tuple #[.agg (zeroD).toArray, .int .i64 e])) H') :
    ACall Try.prog 80 [.string s, .func (.func 81) #[] #[]] H R := by
  apply f80_call
  unfold f80_B
  refine wNew_at (wNew_at ?_)
  have hx := (Has.new H (.row zeroD 0)).push (.row [.int .i64 0] 0)
  have hb := Has.new (H.push (.row zeroD 0)) (.row [.int .i64 0] 0)
  have f2 : Fr [] H ((H.push (.row zeroD 0)).push (.row [.int .i64 0] 0)) := ((Fr.refl [] H).push _).push _
  have n1 : (H.push (.row zeroD 0)).next = H.next + 1 := rfl
  generalize (H.push (.row zeroD 0)).push (.row [.int .i64 0] 0) = H2 at hx hb f2 ⊢
  generalize (H.push (.row zeroD 0)).next = y at hb n1 ⊢
  generalize hxe : H.next = x at hx n1
  have hxy : x ≠ y := by omega
  have dead : ∀ (e : Int) (H5 : AH) (K : AH → Prop), (∀ H6, Has H6 x (.row zeroD 0) → Has H6 y (.row [.int .i64 e] 0) → Fr [] H H6 → K H6) → Has H5 x (.row zeroD 0) → Has H5 y (.row [.int .i64 0] 0) → Fr [] H H5 →
      ADef Try.prog 123 [.pointer (some ⟨x, 0, none⟩), .pointer (some ⟨y, 0, none⟩)] (some (STOP e)) H5 K := by
    intro e H5 K hK hx5 hy5 f5
    have nx := f5.next
    have hqx0 : H5.next ≠ x := by have := hx5.lt; omega
    refine f123_P _ _ e _ _ ?_
    unfold f123_P_B
    refine wNew_at (wSt_at (Has.new _ _) (by simp) (wNew_at ?_))
    have hq : Has ((H5.push (.row [.int .i64 0] 0)).set H5.next (.row (setCells [.int .i64 0] 0 [.int .i64 e]) 0)) H5.next (.row [.int .i64 e] 0) := (Has.new _ _).set _
    have fx : Fr [] H5 ((H5.push (.row [.int .i64 0] 0)).set H5.next (.row (setCells [.int .i64 0] 0 [.int .i64 e]) 0)) := ((Fr.refl [] H5).push _).set (.inr (Nat.le_refl _)) _
    generalize (H5.push (.row [.int .i64 0] 0)).set H5.next (.row (setCells [.int .i64 0] 0 [.int .i64 e]) 0) = H6 at hq fx ⊢
    have hz := Has.new H6 (.row zeroD 0)
    have fy : Fr [] H5 (H6.push (.row zeroD 0)) := fx.push _
    replace hq := hq.push (.row zeroD 0)
    have hzn : H6.next ≠ x := by have := (hx5.fr fx (by simp)).lt; omega
    generalize H6.push (.row zeroD 0) = H7 at hz fy hq ⊢
    replace hx5 := hx5.fr fy (by simp)
    replace hy5 := hy5.fr fy (by simp)
    refine ldI_at hz rfl (ldI_at hz rfl (ldS_at hz rfl (ldL_at hz rfl (ldL_at hz rfl (ldI_at hz rfl (ldI_at hq rfl (wPt_at (wSt_at hx5 (Nat.le_of_ble_eq_true rfl) ⟨PinOK_has (hq.setne hqx0 _) (by simp) rfl, wPt_at (wSt_at (hy5.setne hxy.symm _) (Nat.le_of_ble_eq_true rfl) ?_)⟩))))))))
    have g1 := (hx5.set (.row (setCells zeroD 0 zeroD) 0)).setne hxy (.row (setCells [.int .i64 0] 0 [.int .i64 e]) 0)
    have g2 := (hy5.setne hxy.symm (.row (setCells zeroD 0 zeroD) 0)).set (.row (setCells [.int .i64 0] 0 [.int .i64 e]) 0)
    exact hK _ g1 g2 (((f5.trans fy).set (i := x) (.inr (by omega)) _).set (i := y) (.inr (by omega)) _)
  refine wCall_of (rnew_call s (opP_at (wNew_at (wSt_at (Has.new _ _) (by simp) ?_))))
  have hp := (Has.new H2 (rdr s 0)).push (.row [.pointer none] 0)
  have hr : Has (((H2.push (rdr s 0)).push (.row [.pointer none] 0)).set (H2.push (rdr s 0)).next (.row (setCells [.pointer none] 0 [.pointer (some ⟨H2.next, 0, none⟩)]) 0)) (H2.push (rdr s 0)).next (.row [.pointer (some ⟨H2.next, 0, none⟩)] 0) := (Has.new _ _).set _
  have n2 : (H2.push (rdr s 0)).next = H2.next + 1 := rfl
  have fx : Fr [] H2 (((H2.push (rdr s 0)).push (.row [.pointer none] 0)).set (H2.push (rdr s 0)).next (.row (setCells [.pointer none] 0 [.pointer (some ⟨H2.next, 0, none⟩)]) 0)) := (((Fr.refl [] H2).push _).push _).set (.inr (by omega)) _
  replace hp := hp.setne (show H2.next ≠ (H2.push (rdr s 0)).next by omega) (.row (setCells [.pointer none] 0 [.pointer (some ⟨H2.next, 0, none⟩)]) 0)
  have hxl := hx.lt
  have hyl := hb.lt
  generalize ((H2.push (rdr s 0)).push (.row [.pointer none] 0)).set (H2.push (rdr s 0)).next (.row (setCells [.pointer none] 0 [.pointer (some ⟨H2.next, 0, none⟩)]) 0) = H3 at hp hr fx ⊢
  generalize (H2.push (rdr s 0)).next = rr at hr n2 ⊢
  generalize H2.next = p at hp hr n2 hxl hyl ⊢
  have hx3 := (hx.fr fx (by simp)).lt
  have hy3 := (hb.fr fx (by simp)).lt
  replace hx := hx.fr fx (by simp)
  replace hb := hb.fr fx (by simp)
  have f3 : Fr [] H H3 := f2.trans fx
  refine ldP_at hr rfl (wCall_of (rdead_call hp hs ⟨fun v s' hok H4 val d4 f4 hval => ?_, fun e he H4 f4 => dead e H4 _ (fun H6 a b c => wPt_at (ldI_at a rfl (ldI_at a rfl (ldS_at a rfl (ldL_at a rfl (ldL_at a rfl (ldI_at a rfl (wPt_at (ldI_at b rfl (h2 e (by rw [he]; rfl) _ c)))))))))) (hx.fr f4 (by simp; omega)) (hb.fr f4 (by simp; omega)) (f3.trans' f4 (fun z hz => .inr (by simp at hz; omega)))⟩))
  obtain ⟨kb, kc, fb, fc, rfl, hn, hq⟩ := hval
  have f04 : Fr [] H H4 := f3.trans' f4 (fun z hz => .inr (by simp at hz; omega))
  replace hx := hx.fr f4 (by simp; omega)
  replace hb := hb.fr f4 (by simp; omega)
  replace hr := hr.fr f4 (by simp; omega)
  refine opA_at rfl (opI_at (opI_at (opS_at (opL_at (opL_at (opI_at (wNew_at (wSt_at (Has.new _ _) (Nat.le_of_ble_eq_true rfl) ?_))))))))
  have hv : Has ((H4.push (.row zeroD 0)).set H4.next (.row (setCells zeroD 0 (deaC v kb kc fb fc)) 0)) H4.next (.row (deaC v kb kc fb fc) 0) := (Has.new _ _).set _
  have fv : Fr [] H4 ((H4.push (.row zeroD 0)).set H4.next (.row (setCells zeroD 0 (deaC v kb kc fb fc)) 0)) := ((Fr.refl [] H4).push _).set (.inr (Nat.le_refl _)) _
  have n3 := f3.next
  have n4 := f04.next
  have hvx : H4.next ≠ x := by have := hx.lt; omega
  have hvy : H4.next ≠ y := by have := hb.lt; omega
  generalize (H4.push (.row zeroD 0)).set H4.next (.row (setCells zeroD 0 (deaC v kb kc fb fc)) 0) = H5 at hv fv ⊢
  generalize H4.next = g at hv hvx hvy ⊢
  replace hx := hx.fr fv (by simp)
  replace hb := hb.fr fv (by simp)
  replace hr := hr.fr fv (by simp)
  replace d4 := d4.fr fv (by simp)
  replace hq := hq.fr fv (fun z hz => by cases hz)
  have f05 : Fr [] H H5 := f04.trans fv
  refine ldP_at hr rfl (wCall_of (end_call d4 (opI_at ?_)))
  have hend : rdE s' 0 = if s'.size = 0 then 0 else 4 := by unfold rdE; rw [if_pos rfl]
  rw [hend]
  by_cases hz : s'.size = 0
  · rw [if_pos hz]
    refine wIf_nf rfl (ldI_at hv rfl (ldI_at hv rfl (ldS_at hv rfl (ldL_at hv rfl (ldL_at hv rfl (ldI_at hv rfl (wSt_at hx (Nat.le_of_ble_eq_true rfl) (wSt_at (hb.setne hxy.symm _) (Nat.le_of_ble_eq_true rfl) ?_))))))))
    have g1 := (hx.set (.row (setCells zeroD 0 (deaC v kb kc fb fc)) 0)).setne hxy (.row (setCells [.int .i64 0] 0 [.int .i64 0]) 0)
    have g2 := (hb.setne hxy.symm (.row (setCells zeroD 0 (deaC v kb kc fb fc)) 0)).set (.row (setCells [.int .i64 0] 0 [.int .i64 0]) 0)
    have fx5 : Fr [x] H5 (H5.set x (.row (setCells zeroD 0 (deaC v kb kc fb fc)) 0)) := (Fr.refl _ _).set (.inl (by simp)) _
    have fy5 : Fr [y] (H5.set x (.row (setCells zeroD 0 (deaC v kb kc fb fc)) 0)) ((H5.set x (.row (setCells zeroD 0 (deaC v kb kc fb fc)) 0)).set y (.row (setCells [.int .i64 0] 0 [.int .i64 0]) 0)) := (Fr.refl _ _).set (.inl (by simp)) _
    refine f123_N _ _ _ _ ?_
    unfold f123_N_B
    refine wPt_at (ldI_at g1 rfl (ldI_at g1 rfl (ldS_at g1 rfl (ldL_at g1 rfl (ldL_at g1 rfl (ldI_at g1 rfl (wPt_at (ldI_at g2 rfl ?_))))))))
    have hqf := ((hq.fr fx5 (fun z hz => by simp at hz; omega)).fr fy5 (fun z hz => by simp at hz; omega)).mono (Q' := fun j => H.next ≤ j) (fun j hj => by omega)
    exact h1 v (by rw [hok]; show (if s'.size = 0 then _ else _) = _; rw [if_pos hz]) _ _ ((f05.set (i := x) (.inr (by omega)) _).set (i := y) (.inr (by omega)) _) (by rw [hxe] at *; exact ⟨kb, kc, fb, fc, rfl, hn, hqf⟩)
  · rw [if_neg hz]
    exact wIf_nt (by omega) (dead 4 H5 _ (fun H6 a b c => wPt_at (ldI_at a rfl (ldI_at a rfl (ldS_at a rfl (ldL_at a rfl (ldL_at a rfl (ldI_at a rfl (wPt_at (ldI_at b rfl (h2 4 (by rw [hok]; show (if s'.size = 0 then _ else _) = _; rw [if_neg hz]) _ c)))))))))) hx hb f05)
theorem xgetd_call (hs : s.size ≤ 4611686018427387904)
    (h1 : ∀ v, pAll (pDead s) = .ok v → ∀ H' val, Fr [] H H' → DeadV H.next H' v val → R (.ret (.tuple #[val, .int .i64 0])) H')
    (h2 : ∀ e, pAll (pDead s) = .error e → ∀ H', Fr [] H H' → R (.ret (.tuple #[.agg (zeroD).toArray, .int .i64 e])) H') :
    ACall Try.prog 41 [.string s] H R := by
  apply f41_call
  unfold f41_B
  refine wNew_at ?_
  have st := St.new H zeroD
  generalize H.push (.row zeroD 0) = H1 at st ⊢
  generalize hq : H.next = q at st ⊢
  have nx0 := st.fr.next
  have nl0 := st.hq.lt
  refine wCall_of (getd_call hs (fun v hv H2 val f2 hval => ?_) (fun e he H2 f2 => ?_))
  · obtain ⟨kb, kc, fb, fc, rfl, hn, hqv⟩ := hval
    replace st := st.fr1 f2
    refine opT_at rfl (opA_at rfl (opI_at (opI_at (opS_at (opL_at (opL_at (opI_at (opI_at (wSt_at st.hq (Nat.le_of_ble_eq_true rfl) (wPt_at ?_))))))))))
    have hx := st.hq.set (.row (setCells zeroD 0 (deaC v kb kc fb fc)) 0)
    have fx : Fr [q] H2 (H2.set q (.row (setCells zeroD 0 (deaC v kb kc fb fc)) 0)) := (Fr.refl _ _).set (.inl (by simp)) _
    have f3 := st.fr.set (i := q) (.inr (by omega)) (.row (setCells zeroD 0 (deaC v kb kc fb fc)) 0)
    refine ldI_at hx rfl (ldI_at hx rfl (ldS_at hx rfl (ldL_at hx rfl (ldL_at hx rfl (ldI_at hx rfl (?_))))))
    exact h1 v hv _ _ f3 ⟨kb, kc, fb, fc, rfl, hn, ((hqv.fr fx (fun z hz => by simp at hz; omega)).mono (fun j hj => by omega))⟩
  · replace st := st.fr1 f2
    refine opT_at rfl (opA_at rfl (opI_at (opI_at (opS_at (opL_at (opL_at (opI_at (opI_at (wSt_at st.hq (Nat.le_of_ble_eq_true rfl) (wPt_at ?_))))))))))
    have hx := st.hq.set (.row (setCells zeroD 0 zeroD) 0)
    have f3 := st.fr.set (i := q) (.inr (by omega)) (.row (setCells zeroD 0 zeroD) 0)
    refine ldI_at hx rfl (ldI_at hx rfl (ldS_at hx rfl (ldL_at hx rfl (ldL_at hx rfl (ldI_at hx rfl (?_))))))
    exact h2 e he _ f3
set_option maxHeartbeats 2000000 in
theorem gete_call (hs : s.size ≤ 4611686018427387904)
    (h1 : ∀ v, pAll (pEvent s) = .ok v → ∀ H' val, Fr [] H H' → EvtV H.next H' v val → R (.ret (.tuple #[val, .int .i64 0])) H')
    (h2 : ∀ e, pAll (pEvent s) = .error e → ∀ H', Fr [] H H' → R (.ret (.tuple #[.agg (zeroE).toArray, .int .i64 e])) H') :
    ACall Try.prog 84 [.string s, .func (.func 85) #[] #[]] H R := by
  apply f84_call
  unfold f84_B
  refine wNew_at (wNew_at ?_)
  have hx := (Has.new H (.row zeroE 0)).push (.row [.int .i64 0] 0)
  have hb := Has.new (H.push (.row zeroE 0)) (.row [.int .i64 0] 0)
  have f2 : Fr [] H ((H.push (.row zeroE 0)).push (.row [.int .i64 0] 0)) := ((Fr.refl [] H).push _).push _
  have n1 : (H.push (.row zeroE 0)).next = H.next + 1 := rfl
  generalize (H.push (.row zeroE 0)).push (.row [.int .i64 0] 0) = H2 at hx hb f2 ⊢
  generalize (H.push (.row zeroE 0)).next = y at hb n1 ⊢
  generalize hxe : H.next = x at hx n1
  have hxy : x ≠ y := by omega
  have dead : ∀ (e : Int) (H5 : AH) (K : AH → Prop), (∀ H6, Has H6 x (.row zeroE 0) → Has H6 y (.row [.int .i64 e] 0) → Fr [] H H6 → K H6) → Has H5 x (.row zeroE 0) → Has H5 y (.row [.int .i64 0] 0) → Fr [] H H5 →
      ADef Try.prog 126 [.pointer (some ⟨x, 0, none⟩), .pointer (some ⟨y, 0, none⟩)] (some (STOP e)) H5 K := by
    intro e H5 K hK hx5 hy5 f5
    have nx := f5.next
    have hqx0 : H5.next ≠ x := by have := hx5.lt; omega
    refine f126_P _ _ e _ _ ?_
    unfold f126_P_B
    refine wNew_at (wSt_at (Has.new _ _) (by simp) (wNew_at ?_))
    have hq : Has ((H5.push (.row [.int .i64 0] 0)).set H5.next (.row (setCells [.int .i64 0] 0 [.int .i64 e]) 0)) H5.next (.row [.int .i64 e] 0) := (Has.new _ _).set _
    have fx : Fr [] H5 ((H5.push (.row [.int .i64 0] 0)).set H5.next (.row (setCells [.int .i64 0] 0 [.int .i64 e]) 0)) := ((Fr.refl [] H5).push _).set (.inr (Nat.le_refl _)) _
    generalize (H5.push (.row [.int .i64 0] 0)).set H5.next (.row (setCells [.int .i64 0] 0 [.int .i64 e]) 0) = H6 at hq fx ⊢
    have hz := Has.new H6 (.row zeroE 0)
    have fy : Fr [] H5 (H6.push (.row zeroE 0)) := fx.push _
    replace hq := hq.push (.row zeroE 0)
    have hzn : H6.next ≠ x := by have := (hx5.fr fx (by simp)).lt; omega
    generalize H6.push (.row zeroE 0) = H7 at hz fy hq ⊢
    replace hx5 := hx5.fr fy (by simp)
    replace hy5 := hy5.fr fy (by simp)
    refine ldI_at hz rfl (ldI_at hz rfl (ldS_at hz rfl (ldI_at hz rfl (ldS_at hz rfl (ldS_at hz rfl (ldL_at hz rfl (ldI_at hq rfl (wPt_at (wSt_at hx5 (Nat.le_of_ble_eq_true rfl) ⟨PinOK_has (hq.setne hqx0 _) (by simp) rfl, wPt_at (wSt_at (hy5.setne hxy.symm _) (Nat.le_of_ble_eq_true rfl) ?_)⟩)))))))))
    have g1 := (hx5.set (.row (setCells zeroE 0 zeroE) 0)).setne hxy (.row (setCells [.int .i64 0] 0 [.int .i64 e]) 0)
    have g2 := (hy5.setne hxy.symm (.row (setCells zeroE 0 zeroE) 0)).set (.row (setCells [.int .i64 0] 0 [.int .i64 e]) 0)
    exact hK _ g1 g2 (((f5.trans fy).set (i := x) (.inr (by omega)) _).set (i := y) (.inr (by omega)) _)
  refine wCall_of (rnew_call s (opP_at (wNew_at (wSt_at (Has.new _ _) (by simp) ?_))))
  have hp := (Has.new H2 (rdr s 0)).push (.row [.pointer none] 0)
  have hr : Has (((H2.push (rdr s 0)).push (.row [.pointer none] 0)).set (H2.push (rdr s 0)).next (.row (setCells [.pointer none] 0 [.pointer (some ⟨H2.next, 0, none⟩)]) 0)) (H2.push (rdr s 0)).next (.row [.pointer (some ⟨H2.next, 0, none⟩)] 0) := (Has.new _ _).set _
  have n2 : (H2.push (rdr s 0)).next = H2.next + 1 := rfl
  have fx : Fr [] H2 (((H2.push (rdr s 0)).push (.row [.pointer none] 0)).set (H2.push (rdr s 0)).next (.row (setCells [.pointer none] 0 [.pointer (some ⟨H2.next, 0, none⟩)]) 0)) := (((Fr.refl [] H2).push _).push _).set (.inr (by omega)) _
  replace hp := hp.setne (show H2.next ≠ (H2.push (rdr s 0)).next by omega) (.row (setCells [.pointer none] 0 [.pointer (some ⟨H2.next, 0, none⟩)]) 0)
  have hxl := hx.lt
  have hyl := hb.lt
  generalize ((H2.push (rdr s 0)).push (.row [.pointer none] 0)).set (H2.push (rdr s 0)).next (.row (setCells [.pointer none] 0 [.pointer (some ⟨H2.next, 0, none⟩)]) 0) = H3 at hp hr fx ⊢
  generalize (H2.push (rdr s 0)).next = rr at hr n2 ⊢
  generalize H2.next = p at hp hr n2 hxl hyl ⊢
  have hx3 := (hx.fr fx (by simp)).lt
  have hy3 := (hb.fr fx (by simp)).lt
  replace hx := hx.fr fx (by simp)
  replace hb := hb.fr fx (by simp)
  have f3 : Fr [] H H3 := f2.trans fx
  refine ldP_at hr rfl (wCall_of (revent_call hp hs ⟨fun v s' hok H4 val d4 f4 hval => ?_, fun e he H4 f4 => dead e H4 _ (fun H6 a b c => wPt_at (ldI_at a rfl (ldI_at a rfl (ldS_at a rfl (ldI_at a rfl (ldS_at a rfl (ldS_at a rfl (ldL_at a rfl (wPt_at (ldI_at b rfl (h2 e (by rw [he]; rfl) _ c))))))))))) (hx.fr f4 (by simp; omega)) (hb.fr f4 (by simp; omega)) (f3.trans' f4 (fun z hz => .inr (by simp at hz; omega)))⟩))
  obtain ⟨ab, ac, rfl, hn, hq⟩ := hval
  have f04 : Fr [] H H4 := f3.trans' f4 (fun z hz => .inr (by simp at hz; omega))
  replace hx := hx.fr f4 (by simp; omega)
  replace hb := hb.fr f4 (by simp; omega)
  replace hr := hr.fr f4 (by simp; omega)
  refine opA_at rfl (opI_at (opI_at (opS_at (opI_at (opS_at (opS_at (opL_at (wNew_at (wSt_at (Has.new _ _) (Nat.le_of_ble_eq_true rfl) ?_)))))))))
  have hv : Has ((H4.push (.row zeroE 0)).set H4.next (.row (setCells zeroE 0 (evtC v ab ac)) 0)) H4.next (.row (evtC v ab ac) 0) := (Has.new _ _).set _
  have fv : Fr [] H4 ((H4.push (.row zeroE 0)).set H4.next (.row (setCells zeroE 0 (evtC v ab ac)) 0)) := ((Fr.refl [] H4).push _).set (.inr (Nat.le_refl _)) _
  have n3 := f3.next
  have n4 := f04.next
  have hvx : H4.next ≠ x := by have := hx.lt; omega
  have hvy : H4.next ≠ y := by have := hb.lt; omega
  generalize (H4.push (.row zeroE 0)).set H4.next (.row (setCells zeroE 0 (evtC v ab ac)) 0) = H5 at hv fv ⊢
  generalize H4.next = g at hv hvx hvy ⊢
  replace hx := hx.fr fv (by simp)
  replace hb := hb.fr fv (by simp)
  replace hr := hr.fr fv (by simp)
  replace d4 := d4.fr fv (by simp)
  replace hq := hq.fr fv (fun z hz => by cases hz)
  have f05 : Fr [] H H5 := f04.trans fv
  refine ldP_at hr rfl (wCall_of (end_call d4 (opI_at ?_)))
  have hend : rdE s' 0 = if s'.size = 0 then 0 else 4 := by unfold rdE; rw [if_pos rfl]
  rw [hend]
  by_cases hz : s'.size = 0
  · rw [if_pos hz]
    refine wIf_nf rfl (ldI_at hv rfl (ldI_at hv rfl (ldS_at hv rfl (ldI_at hv rfl (ldS_at hv rfl (ldS_at hv rfl (ldL_at hv rfl (wSt_at hx (Nat.le_of_ble_eq_true rfl) (wSt_at (hb.setne hxy.symm _) (Nat.le_of_ble_eq_true rfl) ?_)))))))))
    have g1 := (hx.set (.row (setCells zeroE 0 (evtC v ab ac)) 0)).setne hxy (.row (setCells [.int .i64 0] 0 [.int .i64 0]) 0)
    have g2 := (hb.setne hxy.symm (.row (setCells zeroE 0 (evtC v ab ac)) 0)).set (.row (setCells [.int .i64 0] 0 [.int .i64 0]) 0)
    have fx5 : Fr [x] H5 (H5.set x (.row (setCells zeroE 0 (evtC v ab ac)) 0)) := (Fr.refl _ _).set (.inl (by simp)) _
    have fy5 : Fr [y] (H5.set x (.row (setCells zeroE 0 (evtC v ab ac)) 0)) ((H5.set x (.row (setCells zeroE 0 (evtC v ab ac)) 0)).set y (.row (setCells [.int .i64 0] 0 [.int .i64 0]) 0)) := (Fr.refl _ _).set (.inl (by simp)) _
    refine f126_N _ _ _ _ ?_
    unfold f126_N_B
    refine wPt_at (ldI_at g1 rfl (ldI_at g1 rfl (ldS_at g1 rfl (ldI_at g1 rfl (ldS_at g1 rfl (ldS_at g1 rfl (ldL_at g1 rfl (wPt_at (ldI_at g2 rfl ?_)))))))))
    have hqf := ((hq.fr fx5 (fun z hz => by simp at hz; omega)).fr fy5 (fun z hz => by simp at hz; omega)).mono (Q' := fun j => H.next ≤ j) (fun j hj => by omega)
    exact h1 v (by rw [hok]; show (if s'.size = 0 then _ else _) = _; rw [if_pos hz]) _ _ ((f05.set (i := x) (.inr (by omega)) _).set (i := y) (.inr (by omega)) _) (by rw [hxe] at *; exact ⟨ab, ac, rfl, hn, hqf⟩)
  · rw [if_neg hz]
    exact wIf_nt (by omega) (dead 4 H5 _ (fun H6 a b c => wPt_at (ldI_at a rfl (ldI_at a rfl (ldS_at a rfl (ldI_at a rfl (ldS_at a rfl (ldS_at a rfl (ldL_at a rfl (wPt_at (ldI_at b rfl (h2 4 (by rw [hok]; show (if s'.size = 0 then _ else _) = _; rw [if_neg hz]) _ c))))))))))) hx hb f05)
theorem xgete_call (hs : s.size ≤ 4611686018427387904)
    (h1 : ∀ v, pAll (pEvent s) = .ok v → ∀ H' val, Fr [] H H' → EvtV H.next H' v val → R (.ret (.tuple #[val, .int .i64 0])) H')
    (h2 : ∀ e, pAll (pEvent s) = .error e → ∀ H', Fr [] H H' → R (.ret (.tuple #[.agg (zeroE).toArray, .int .i64 e])) H') :
    ACall Try.prog 43 [.string s] H R := by
  apply f43_call
  unfold f43_B
  refine wNew_at ?_
  have st := St.new H zeroE
  generalize H.push (.row zeroE 0) = H1 at st ⊢
  generalize hq : H.next = q at st ⊢
  have nx0 := st.fr.next
  have nl0 := st.hq.lt
  refine wCall_of (gete_call hs (fun v hv H2 val f2 hval => ?_) (fun e he H2 f2 => ?_))
  · obtain ⟨ab, ac, rfl, hn, hqv⟩ := hval
    replace st := st.fr1 f2
    refine opT_at rfl (opA_at rfl (opI_at (opI_at (opS_at (opI_at (opS_at (opS_at (opL_at (opI_at (wSt_at st.hq (Nat.le_of_ble_eq_true rfl) (wPt_at ?_)))))))))))
    have hx := st.hq.set (.row (setCells zeroE 0 (evtC v ab ac)) 0)
    have fx : Fr [q] H2 (H2.set q (.row (setCells zeroE 0 (evtC v ab ac)) 0)) := (Fr.refl _ _).set (.inl (by simp)) _
    have f3 := st.fr.set (i := q) (.inr (by omega)) (.row (setCells zeroE 0 (evtC v ab ac)) 0)
    refine ldI_at hx rfl (ldI_at hx rfl (ldS_at hx rfl (ldI_at hx rfl (ldS_at hx rfl (ldS_at hx rfl (ldL_at hx rfl (?_)))))))
    exact h1 v hv _ _ f3 ⟨ab, ac, rfl, hn, ((hqv.fr fx (fun z hz => by simp at hz; omega)).mono (fun j hj => by omega))⟩
  · replace st := st.fr1 f2
    refine opT_at rfl (opA_at rfl (opI_at (opI_at (opS_at (opI_at (opS_at (opS_at (opL_at (opI_at (wSt_at st.hq (Nat.le_of_ble_eq_true rfl) (wPt_at ?_)))))))))))
    have hx := st.hq.set (.row (setCells zeroE 0 zeroE) 0)
    have f3 := st.fr.set (i := q) (.inr (by omega)) (.row (setCells zeroE 0 zeroE) 0)
    refine ldI_at hx rfl (ldI_at hx rfl (ldS_at hx rfl (ldI_at hx rfl (ldS_at hx rfl (ldS_at hx rfl (ldL_at hx rfl (?_)))))))
    exact h2 e he _ f3
set_option maxHeartbeats 2000000 in
theorem gets_call (hs : s.size ≤ 4611686018427387904)
    (h1 : ∀ v, pAll (pSub s) = .ok v → ∀ H' val, Fr [] H H' → SbsV H.next H' v val → R (.ret (.tuple #[val, .int .i64 0])) H')
    (h2 : ∀ e, pAll (pSub s) = .error e → ∀ H', Fr [] H H' → R (.ret (.tuple #[.agg (zeroS).toArray, .int .i64 e])) H') :
    ACall Try.prog 88 [.string s, .func (.func 89) #[] #[]] H R := by
  apply f88_call
  unfold f88_B
  refine wNew_at (wNew_at ?_)
  have hx := (Has.new H (.row zeroS 0)).push (.row [.int .i64 0] 0)
  have hb := Has.new (H.push (.row zeroS 0)) (.row [.int .i64 0] 0)
  have f2 : Fr [] H ((H.push (.row zeroS 0)).push (.row [.int .i64 0] 0)) := ((Fr.refl [] H).push _).push _
  have n1 : (H.push (.row zeroS 0)).next = H.next + 1 := rfl
  generalize (H.push (.row zeroS 0)).push (.row [.int .i64 0] 0) = H2 at hx hb f2 ⊢
  generalize (H.push (.row zeroS 0)).next = y at hb n1 ⊢
  generalize hxe : H.next = x at hx n1
  have hxy : x ≠ y := by omega
  have dead : ∀ (e : Int) (H5 : AH) (K : AH → Prop), (∀ H6, Has H6 x (.row zeroS 0) → Has H6 y (.row [.int .i64 e] 0) → Fr [] H H6 → K H6) → Has H5 x (.row zeroS 0) → Has H5 y (.row [.int .i64 0] 0) → Fr [] H H5 →
      ADef Try.prog 127 [.pointer (some ⟨x, 0, none⟩), .pointer (some ⟨y, 0, none⟩)] (some (STOP e)) H5 K := by
    intro e H5 K hK hx5 hy5 f5
    have nx := f5.next
    have hqx0 : H5.next ≠ x := by have := hx5.lt; omega
    refine f127_P _ _ e _ _ ?_
    unfold f127_P_B
    refine wNew_at (wSt_at (Has.new _ _) (by simp) (wNew_at ?_))
    have hq : Has ((H5.push (.row [.int .i64 0] 0)).set H5.next (.row (setCells [.int .i64 0] 0 [.int .i64 e]) 0)) H5.next (.row [.int .i64 e] 0) := (Has.new _ _).set _
    have fx : Fr [] H5 ((H5.push (.row [.int .i64 0] 0)).set H5.next (.row (setCells [.int .i64 0] 0 [.int .i64 e]) 0)) := ((Fr.refl [] H5).push _).set (.inr (Nat.le_refl _)) _
    generalize (H5.push (.row [.int .i64 0] 0)).set H5.next (.row (setCells [.int .i64 0] 0 [.int .i64 e]) 0) = H6 at hq fx ⊢
    have hz := Has.new H6 (.row zeroS 0)
    have fy : Fr [] H5 (H6.push (.row zeroS 0)) := fx.push _
    replace hq := hq.push (.row zeroS 0)
    have hzn : H6.next ≠ x := by have := (hx5.fr fx (by simp)).lt; omega
    generalize H6.push (.row zeroS 0) = H7 at hz fy hq ⊢
    replace hx5 := hx5.fr fy (by simp)
    replace hy5 := hy5.fr fy (by simp)
    refine ldI_at hz rfl (ldS_at hz rfl (ldI_at hz rfl (ldI_at hq rfl (wPt_at (wSt_at hx5 (Nat.le_of_ble_eq_true rfl) ⟨PinOK_has (hq.setne hqx0 _) (by simp) rfl, wPt_at (wSt_at (hy5.setne hxy.symm _) (Nat.le_of_ble_eq_true rfl) ?_)⟩)))))
    have g1 := (hx5.set (.row (setCells zeroS 0 zeroS) 0)).setne hxy (.row (setCells [.int .i64 0] 0 [.int .i64 e]) 0)
    have g2 := (hy5.setne hxy.symm (.row (setCells zeroS 0 zeroS) 0)).set (.row (setCells [.int .i64 0] 0 [.int .i64 e]) 0)
    exact hK _ g1 g2 (((f5.trans fy).set (i := x) (.inr (by omega)) _).set (i := y) (.inr (by omega)) _)
  refine wCall_of (rnew_call s (opP_at (wNew_at (wSt_at (Has.new _ _) (by simp) ?_))))
  have hp := (Has.new H2 (rdr s 0)).push (.row [.pointer none] 0)
  have hr : Has (((H2.push (rdr s 0)).push (.row [.pointer none] 0)).set (H2.push (rdr s 0)).next (.row (setCells [.pointer none] 0 [.pointer (some ⟨H2.next, 0, none⟩)]) 0)) (H2.push (rdr s 0)).next (.row [.pointer (some ⟨H2.next, 0, none⟩)] 0) := (Has.new _ _).set _
  have n2 : (H2.push (rdr s 0)).next = H2.next + 1 := rfl
  have fx : Fr [] H2 (((H2.push (rdr s 0)).push (.row [.pointer none] 0)).set (H2.push (rdr s 0)).next (.row (setCells [.pointer none] 0 [.pointer (some ⟨H2.next, 0, none⟩)]) 0)) := (((Fr.refl [] H2).push _).push _).set (.inr (by omega)) _
  replace hp := hp.setne (show H2.next ≠ (H2.push (rdr s 0)).next by omega) (.row (setCells [.pointer none] 0 [.pointer (some ⟨H2.next, 0, none⟩)]) 0)
  have hxl := hx.lt
  have hyl := hb.lt
  generalize ((H2.push (rdr s 0)).push (.row [.pointer none] 0)).set (H2.push (rdr s 0)).next (.row (setCells [.pointer none] 0 [.pointer (some ⟨H2.next, 0, none⟩)]) 0) = H3 at hp hr fx ⊢
  generalize (H2.push (rdr s 0)).next = rr at hr n2 ⊢
  generalize H2.next = p at hp hr n2 hxl hyl ⊢
  have hx3 := (hx.fr fx (by simp)).lt
  have hy3 := (hb.fr fx (by simp)).lt
  replace hx := hx.fr fx (by simp)
  replace hb := hb.fr fx (by simp)
  have f3 : Fr [] H H3 := f2.trans fx
  refine ldP_at hr rfl (wCall_of (rsub_call hp hs ⟨fun v s' hok H4 val d4 f4 hval => ?_, fun e he H4 f4 => dead e H4 _ (fun H6 a b c => wPt_at (ldI_at a rfl (ldS_at a rfl (ldI_at a rfl (wPt_at (ldI_at b rfl (h2 e (by rw [he]; rfl) _ c))))))) (hx.fr f4 (by simp; omega)) (hb.fr f4 (by simp; omega)) (f3.trans' f4 (fun z hz => .inr (by simp at hz; omega)))⟩))
  obtain ⟨rfl, hn⟩ := hval
  have f04 : Fr [] H H4 := f3.trans' f4 (fun z hz => .inr (by simp at hz; omega))
  replace hx := hx.fr f4 (by simp; omega)
  replace hb := hb.fr f4 (by simp; omega)
  replace hr := hr.fr f4 (by simp; omega)
  refine opA_at rfl (opI_at (opS_at (opI_at (wNew_at (wSt_at (Has.new _ _) (Nat.le_of_ble_eq_true rfl) ?_)))))
  have hv : Has ((H4.push (.row zeroS 0)).set H4.next (.row (setCells zeroS 0 (sbsC v)) 0)) H4.next (.row (sbsC v) 0) := (Has.new _ _).set _
  have fv : Fr [] H4 ((H4.push (.row zeroS 0)).set H4.next (.row (setCells zeroS 0 (sbsC v)) 0)) := ((Fr.refl [] H4).push _).set (.inr (Nat.le_refl _)) _
  have n3 := f3.next
  have n4 := f04.next
  have hvx : H4.next ≠ x := by have := hx.lt; omega
  have hvy : H4.next ≠ y := by have := hb.lt; omega
  generalize (H4.push (.row zeroS 0)).set H4.next (.row (setCells zeroS 0 (sbsC v)) 0) = H5 at hv fv ⊢
  generalize H4.next = g at hv hvx hvy ⊢
  replace hx := hx.fr fv (by simp)
  replace hb := hb.fr fv (by simp)
  replace hr := hr.fr fv (by simp)
  replace d4 := d4.fr fv (by simp)
  have f05 : Fr [] H H5 := f04.trans fv
  refine ldP_at hr rfl (wCall_of (end_call d4 (opI_at ?_)))
  have hend : rdE s' 0 = if s'.size = 0 then 0 else 4 := by unfold rdE; rw [if_pos rfl]
  rw [hend]
  by_cases hz : s'.size = 0
  · rw [if_pos hz]
    refine wIf_nf rfl (ldI_at hv rfl (ldS_at hv rfl (ldI_at hv rfl (wSt_at hx (Nat.le_of_ble_eq_true rfl) (wSt_at (hb.setne hxy.symm _) (Nat.le_of_ble_eq_true rfl) ?_)))))
    have g1 := (hx.set (.row (setCells zeroS 0 (sbsC v)) 0)).setne hxy (.row (setCells [.int .i64 0] 0 [.int .i64 0]) 0)
    have g2 := (hb.setne hxy.symm (.row (setCells zeroS 0 (sbsC v)) 0)).set (.row (setCells [.int .i64 0] 0 [.int .i64 0]) 0)
    have fx5 : Fr [x] H5 (H5.set x (.row (setCells zeroS 0 (sbsC v)) 0)) := (Fr.refl _ _).set (.inl (by simp)) _
    have fy5 : Fr [y] (H5.set x (.row (setCells zeroS 0 (sbsC v)) 0)) ((H5.set x (.row (setCells zeroS 0 (sbsC v)) 0)).set y (.row (setCells [.int .i64 0] 0 [.int .i64 0]) 0)) := (Fr.refl _ _).set (.inl (by simp)) _
    refine f127_N _ _ _ _ ?_
    unfold f127_N_B
    refine wPt_at (ldI_at g1 rfl (ldS_at g1 rfl (ldI_at g1 rfl (wPt_at (ldI_at g2 rfl ?_)))))
    exact h1 v (by rw [hok]; show (if s'.size = 0 then _ else _) = _; rw [if_pos hz]) _ _ ((f05.set (i := x) (.inr (by omega)) _).set (i := y) (.inr (by omega)) _) (by rw [hxe] at *; exact ⟨rfl, hn⟩)
  · rw [if_neg hz]
    exact wIf_nt (by omega) (dead 4 H5 _ (fun H6 a b c => wPt_at (ldI_at a rfl (ldS_at a rfl (ldI_at a rfl (wPt_at (ldI_at b rfl (h2 4 (by rw [hok]; show (if s'.size = 0 then _ else _) = _; rw [if_neg hz]) _ c))))))) hx hb f05)
theorem xgets_call (hs : s.size ≤ 4611686018427387904)
    (h1 : ∀ v, pAll (pSub s) = .ok v → ∀ H' val, Fr [] H H' → SbsV H.next H' v val → R (.ret (.tuple #[val, .int .i64 0])) H')
    (h2 : ∀ e, pAll (pSub s) = .error e → ∀ H', Fr [] H H' → R (.ret (.tuple #[.agg (zeroS).toArray, .int .i64 e])) H') :
    ACall Try.prog 45 [.string s] H R := by
  apply f45_call
  unfold f45_B
  refine wNew_at ?_
  have st := St.new H zeroS
  generalize H.push (.row zeroS 0) = H1 at st ⊢
  generalize hq : H.next = q at st ⊢
  have nx0 := st.fr.next
  have nl0 := st.hq.lt
  refine wCall_of (gets_call hs (fun v hv H2 val f2 hval => ?_) (fun e he H2 f2 => ?_))
  · obtain ⟨rfl, hn⟩ := hval
    replace st := st.fr1 f2
    refine opT_at rfl (opA_at rfl (opI_at (opS_at (opI_at (opI_at (wSt_at st.hq (Nat.le_of_ble_eq_true rfl) (wPt_at ?_)))))))
    have hx := st.hq.set (.row (setCells zeroS 0 (sbsC v)) 0)
    have fx : Fr [q] H2 (H2.set q (.row (setCells zeroS 0 (sbsC v)) 0)) := (Fr.refl _ _).set (.inl (by simp)) _
    have f3 := st.fr.set (i := q) (.inr (by omega)) (.row (setCells zeroS 0 (sbsC v)) 0)
    refine ldI_at hx rfl (ldS_at hx rfl (ldI_at hx rfl (?_)))
    exact h1 v hv _ _ f3 ⟨rfl, hn⟩
  · replace st := st.fr1 f2
    refine opT_at rfl (opA_at rfl (opI_at (opS_at (opI_at (opI_at (wSt_at st.hq (Nat.le_of_ble_eq_true rfl) (wPt_at ?_)))))))
    have hx := st.hq.set (.row (setCells zeroS 0 zeroS) 0)
    have f3 := st.fr.set (i := q) (.inr (by omega)) (.row (setCells zeroS 0 zeroS) 0)
    refine ldI_at hx rfl (ldS_at hx rfl (ldI_at hx rfl (?_)))
    exact h2 e he _ f3
end
end Go.Proofs.Ytfghglacfjncmaa
