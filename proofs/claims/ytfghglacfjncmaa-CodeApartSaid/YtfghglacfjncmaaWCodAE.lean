/- CodeApart: the law. -/
import Derived.Test.YtfghglacfjncmaaWCodAD
import Derived.Test.YtfghglacfjncmaaWGenT
namespace Go.Proofs.Ytfghglacfjncmaa
set_option linter.unusedVariables false
set_option linter.unusedSimpArgs false
open Go.RowKit

theorem ofL_eq {a b : List UInt8} : ofL a = ofL b ↔ a = b := ⟨fun y => by rw [← data_ofL a, y, data_ofL], fun y => by rw [y]⟩
theorem Fw.same {α : Type} {p : ByteArray → Rd α} {enc : α → List UInt8} {a b : α} (h : Fw p (enc a) a) (k : Fw p (enc b) b) : a = b ↔ ofL (enc a) = ofL (enc b) := by
  rw [ofL_eq]
  exact ⟨fun y => by rw [y], fun y => (h.inj k (r := []) (s := []) (by rw [y])).1⟩
theorem Fw.apart {α : Type} {p : ByteArray → Rd α} {enc : α → List UInt8} {a b : α} (h : Fw p (enc a) a) (k : Fw p (enc b) b) (hab : a ≠ b) : ¬ (enc a).take (min (enc a).length (enc b).length) = (enc b).take (min (enc a).length (enc b).length) := by
  intro y
  by_cases hl : (enc a).length ≤ (enc b).length
  · rw [Nat.min_eq_left hl, List.take_length] at y
    refine hab (h.inj k (r := (enc b).drop (enc a).length) (s := []) ?_).1
    rw [List.append_nil]
    conv => lhs; rw [y, ← y]
    conv => lhs; arg 1; rw [y]
    exact List.take_append_drop _ _
  · rw [Nat.min_eq_right (by omega), List.take_length] at y
    refine hab (h.inj k (r := []) (s := (enc a).drop (enc b).length) ?_).1
    rw [List.append_nil]
    conv => rhs; arg 1; rw [← y]
    exact (List.take_append_drop _ _).symm
/-- Four boxes, over memory that stays. -/
structure L4 (H0 H : AH) (a b c d : Nat) (A B C D : List Value) : Prop where
  ha : Has H a (.row A 0)
  hb : Has H b (.row B 0)
  hc : Has H c (.row C 0)
  hd : Has H d (.row D 0)
  fr : Fr [] H0 H
theorem L4.fr1 {H0 H H' : AH} {a b c d : Nat} {A B C D : List Value} (s : L4 H0 H a b c d A B C D) (f : Fr [] H H') : L4 H0 H' a b c d A B C D := ⟨s.ha.fr f (by simp), s.hb.fr f (by simp), s.hc.fr f (by simp), s.hd.fr f (by simp), s.fr.trans f⟩
theorem putE_ok {r : Option (List UInt8)} : putE r = 0 ↔ ∃ l, r = some l := by
  cases r with
  | none => exact ⟨fun e => (by cases e), fun ⟨l, e⟩ => (by cases e)⟩
  | some l => exact ⟨fun _ => ⟨l, rfl⟩, fun _ => rfl⟩
section
variable {H : AH} {R : AEnd → AH → Prop}
set_option maxRecDepth 20000 in
set_option maxHeartbeats 4000000 in
theorem apart_walk (hT : ∀ H', R (.ret (.bool true)) H') (v w : Val) (m n : Mai) {vb wb kb fb kb' fb' : Option Addr} {vc wc kc fc kc' fc' : Nat} (hv : VIs H v vb) (hvl : VLs v) (hw : VIs H w wb) (hm : MIs H m kb fb) (hml : MLw m) (hn : MIs H n kb' fb') (hvw : VW v) (hww : VW w) (hmw : MW m) (hnw : MW n) :
    ACall Try.prog 3 [.agg (valC v vb vc).toArray, .agg (valC w wb wc).toArray, .agg (maiC m kb kc fb fc).toArray, .agg (maiC n kb' kc' fb' fc').toArray] H R := by
  apply f3_call
  unfold f3_B
  refine wNew_at (wNew_at (wNew_at (wNew_at ?_)))
  have s : L4 H ((((H.push (.row (valC v vb vc) 0)).push (.row (valC w wb wc) 0)).push (.row (maiC m kb kc fb fc) 0)).push (.row (maiC n kb' kc' fb' fc') 0)) H.next (H.push (.row (valC v vb vc) 0)).next ((H.push (.row (valC v vb vc) 0)).push (.row (valC w wb wc) 0)).next (((H.push (.row (valC v vb vc) 0)).push (.row (valC w wb wc) 0)).push (.row (maiC m kb kc fb fc) 0)).next (valC v vb vc) (valC w wb wc) (maiC m kb kc fb fc) (maiC n kb' kc' fb' fc') :=
    ⟨(((Has.new _ _).push _).push _).push _, ((Has.new _ _).push _).push _, (Has.new _ _).push _, Has.new _ _, ((((Fr.refl [] H).push _).push _).push _).push _⟩
  generalize (((H.push (.row (valC v vb vc) 0)).push (.row (valC w wb wc) 0)).push (.row (maiC m kb kc fb fc) 0)).push (.row (maiC n kb' kc' fb' fc') 0) = H1 at s ⊢
  generalize (((H.push (.row (valC v vb vc) 0)).push (.row (valC w wb wc) 0)).push (.row (maiC m kb kc fb fc) 0)).next = q4 at s ⊢
  generalize ((H.push (.row (valC v vb vc) 0)).push (.row (valC w wb wc) 0)).next = q3 at s ⊢
  generalize (H.push (.row (valC v vb vc) 0)).next = q2 at s ⊢
  generalize H.next = q1 at s ⊢
  refine wCall_of (awake_call (fun H2 f2 => opB_at (wIf_f rfl ?_)))
  replace s := s.fr1 f2
  clear f2
  have hdead : ∀ H', L4 H H' q1 q2 q3 q4 (valC v vb vc) (valC w wb wc) (maiC m kb kc fb fc) (maiC n kb' kc' fb' fc') → wCall Try.prog 10 [] H' (fun r1995 H1996 => opB r1995 fun b1999 => R (.ret (.bool b1999)) H1996) (fun v1998 H1997 => R (.panic v1998) H1997) := fun H' s => wCall_of (awake_call (fun H'' f => opB_at (hT _)))
  refine ldI_at s.hc rfl (ldS_at s.hc rfl (ldL_at s.hc rfl (ldL_at s.hc rfl (wBs_at ?_))))
  have hbs := Has.new H2 (.row (maiC m kb kc fb fc) 4)
  have fbs : Fr [] H2 (H2.push (.row (maiC m kb kc fb fc) 4)) := (Fr.refl [] H2).push _
  replace s := s.fr1 fbs
  generalize H2.push (.row (maiC m kb kc fb fc) 4) = H3 at s hbs ⊢
  generalize H2.next = q5 at hbs ⊢
  refine wCall_of (few_call [m] (BIs.one hbs (hm.fr s.fr)) (by simp) (fun H4 f4 => opB_at ?_))
  replace s := s.fr1 f4
  clear f4 hbs fbs
  refine wIf_n (fun e => ?_) (fun hfm => ?_)
  · rw [f3_J0_eq]; unfold f3_J0_B
    exact wIf_t rfl (hdead _ s)
  refine ldI_at s.hd rfl (ldS_at s.hd rfl (ldL_at s.hd rfl (ldL_at s.hd rfl (wBs_at ?_))))
  have hbs := Has.new H4 (.row (maiC n kb' kc' fb' fc') 4)
  have fbs : Fr [] H4 (H4.push (.row (maiC n kb' kc' fb' fc') 4)) := (Fr.refl [] H4).push _
  replace s := s.fr1 fbs
  generalize H4.push (.row (maiC n kb' kc' fb' fc') 4) = H5 at s hbs ⊢
  generalize H4.next = q6 at hbs ⊢
  refine wCall_of (few_call [n] (BIs.one hbs (hn.fr s.fr)) (by simp) (fun H6 f6 => opB_at ?_))
  replace s := s.fr1 f6
  clear f6 hbs fbs
  rw [f3_J0_eq]; unfold f3_J0_B
  refine wIf_n (fun e => hdead _ s) (fun hfn => ?_)
  rw [f3_J1_eq]; unfold f3_J1_B
  clear hdead
  have k1 := (hfm m (by simp)).2.1
  have k2 := (hfm m (by simp)).2.2
  refine wPt_at (ldI_at s.ha rfl (ldI_at s.ha rfl (ldS_at s.ha rfl (ldL_at s.ha rfl (wCall_of (xputv_call v (hv.fr s.fr) (fun H7 f7 => opT_at rfl (opS_at (opI_at ?_)))))))))
  replace s := s.fr1 f7
  refine wPt_at (ldI_at s.hb rfl (ldI_at s.hb rfl (ldS_at s.hb rfl (ldL_at s.hb rfl (wCall_of (xputv_call w (hw.fr s.fr) (fun H8 f8 => opT_at rfl (opS_at (opI_at ?_)))))))))
  replace s := s.fr1 f8
  refine wPt_at (ldI_at s.hc rfl (ldS_at s.hc rfl (ldL_at s.hc rfl (ldL_at s.hc rfl (wCall_of (xputm_call m (hm.fr s.fr) (fun H9 f9 => opT_at rfl (opS_at (opI_at ?_)))))))))
  replace s := s.fr1 f9
  refine wPt_at (ldI_at s.hd rfl (ldS_at s.hd rfl (ldL_at s.hd rfl (ldL_at s.hd rfl (wCall_of (xputm_call n (hn.fr s.fr) (fun H10 f10 => opT_at rfl (opS_at (opI_at ?_)))))))))
  replace s := s.fr1 f10
  clear f7 f8 f9 f10
  -- the messages
  have hrest : ∀ H', L4 H H' q1 q2 q3 q4 (valC v vb vc) (valC w wb wc) (maiC m kb kc fb fc) (maiC n kb' kc' fb' fc') → wCall Try.prog 10 [] H' (fun r1 H2 => opB r1 fun b5 => wIf b5 (wIf (!decide (putE (mailP m) = 0)) (R (.ret (.bool true)) H2) (wIf (!decide (putE (mailP n) = 0)) (R (.ret (.bool true)) H2)
      (wPt (some ⟨q3, 0, none⟩) fun i6 k7 => ldI .i64 i6 k7 H2 fun n8 => ldS i6 (k7 + 1) H2 fun t9 => ldL i6 (k7 + 2) H2 fun z10b z10l z10c => ldL i6 (k7 + 3) H2 fun z11b z11l z11c =>
        wPt (some ⟨q4, 0, none⟩) fun i12 k13 => ldI .i64 i12 k13 H2 fun n14 => ldS i12 (k13 + 1) H2 fun t15 => ldL i12 (k13 + 2) H2 fun z16b z16l z16c => ldL i12 (k13 + 3) H2 fun z17b z17l z17c =>
        wCall Try.prog 16 [(.agg #[(.int .i64 n8), (.string t9), (.slice z10b z10l z10c), (.slice z11b z11l z11c)]), (.agg #[(.int .i64 n14), (.string t15), (.slice z16b z16l z16c), (.slice z17b z17l z17c)])] H2 (fun r18 H19 => opB r18 fun b22 =>
          wIf (b22 == (decide (putS (mailP m) = putS (mailP n)))) (wIf (decide (putS (mailP m) = putS (mailP n))) (R (.ret (.bool true)) H19) (wCall Try.prog 15 [(.string (putS (mailP m))), (.string (putS (mailP n)))] H19 (fun r23 H24 => opB r23 fun b27 => R (.ret (.bool (!b27))) H24) (fun v26 H25 => R (.panic v26) H25)))
          (R (.ret (.bool false)) H19)) (fun v21 H20 => R (.panic v21) H20)))) (R (.ret (.bool false)) H2)) (fun v4 H3 => R (.panic v4) H3) := by
    intro H' s
    refine wCall_of (awake_call (fun H2 f2 => opB_at (wIf_t rfl ?_)))
    replace s := s.fr1 f2
    refine wIf_n (fun _ => hT _) (fun e1 => wIf_n (fun _ => hT _) (fun e2 => ?_))
    obtain ⟨l1, g1⟩ := putE_ok.1 e1
    obtain ⟨l2, g2⟩ := putE_ok.1 e2
    have o1 : mailOK m := by
      rw [mailP_eq] at g1
      split at g1
      · assumption
      · cases g1
    have o2 : mailOK n := by
      rw [mailP_eq] at g2
      split at g2
      · assumption
      · cases g2
    have p1 : putS (mailP m) = ofL (mailB m) := by rw [mailP_eq, if_pos o1]; rfl
    have p2 : putS (mailP n) = ofL (mailB n) := by rw [mailP_eq, if_pos o2]; rfl
    rw [p1, p2]
    have w1 := fw_mail o1 hmw
    have w2 := fw_mail o2 hnw
    refine wPt_at (ldI_at s.hc rfl (ldS_at s.hc rfl (ldL_at s.hc rfl (ldL_at s.hc rfl (wPt_at (ldI_at s.hd rfl (ldS_at s.hd rfl (ldL_at s.hd rfl (ldL_at s.hd rfl (wCall_of (samemail_call m n (hm.fr s.fr) (hn.fr s.fr) (by omega) (by omega) hml.keys hml.fieldss (fun H3 f3 => opB_at ?_))))))))))))
    by_cases e : m = n
    · have e' := (w1.same w2).1 e
      rw [decide_eq_true e, decide_eq_true e']
      exact wIf_t rfl (wIf_t rfl (hT _))
    · have e' := mt (w1.same w2).2 e
      rw [decide_eq_false e, decide_eq_false e']
      refine wIf_t rfl (wIf_f rfl (wCall_of (ahead_call _ _ (opB_at ?_))))
      rw [decide_eq_false (w1.apart w2 e)]
      exact hT _
  refine wIf_d (fun e1 => ?_) (fun e1 => ?_)
  · refine wIf_d (fun e2 => ?_) (fun e2 => ?_)
    · obtain ⟨l1, g1⟩ := putE_ok.1 e1
      obtain ⟨l2, g2⟩ := putE_ok.1 e2
      have o1 : rightV v = true := by
        unfold valP at g1
        split at g1
        · assumption
        · cases g1
      have o2 : rightV w = true := by
        unfold valP at g2
        split at g2
        · assumption
        · cases g2
      have p1 : putS (valP v) = ofL (valB v) := by unfold valP; rw [if_pos o1]; rfl
      have p2 : putS (valP w) = ofL (valB w) := by unfold valP; rw [if_pos o2]; rfl
      rw [p1, p2]
      have w1 := fw_val o1 hvw
      have w2 := fw_val o2 hww
      refine wPt_at (ldI_at s.ha rfl (ldI_at s.ha rfl (ldS_at s.ha rfl (ldL_at s.ha rfl (wPt_at (ldI_at s.hb rfl (ldI_at s.hb rfl (ldS_at s.hb rfl (ldL_at s.hb rfl (wCall_of (same_call v w (hv.fr s.fr) (hw.fr s.fr) (by have := hvl.list; omega) (fun H11 f11 => opB_at ?_))))))))))))
      replace s := s.fr1 f11
      by_cases e : v = w
      · have e' := (w1.same w2).1 e
        rw [decide_eq_true e, decide_eq_true e']
        refine wIf_f rfl (wIf_f rfl ?_)
        rw [f3_J2_eq]; unfold f3_J2_B
        refine wIf_f rfl ?_
        rw [f3_J3_eq]; unfold f3_J3_B
        exact hrest _ s
      · have e' := mt (w1.same w2).2 e
        rw [decide_eq_false e, decide_eq_false e']
        refine wIf_f rfl (wIf_t rfl (wCall_of (ahead_call _ _ (opB_at ?_))))
        rw [decide_eq_false (w1.apart w2 e)]
        rw [f3_J2_eq]; unfold f3_J2_B
        refine wIf_f rfl ?_
        rw [f3_J3_eq]; unfold f3_J3_B
        exact hrest _ s
    · rw [f3_J2_eq]; unfold f3_J2_B
      refine wIf_f rfl ?_
      rw [f3_J3_eq]; unfold f3_J3_B
      exact hrest _ s
  · rw [f3_J2_eq]; unfold f3_J2_B
    refine wIf_f rfl ?_
    rw [f3_J3_eq]; unfold f3_J3_B
    exact hrest _ s
end
theorem VIs.vw {H : AH} {v : Val} {b : Option Addr} (h : VIs H v b) : VW v := ⟨h.num, h.nums⟩
theorem RIs.vw {H : AH} {l : List Val} {b : Option Addr} (h : RIs H b l) : VWs l := fun v hv => by
  obtain ⟨j, cs, hw, hcs⟩ := h.ex
  obtain ⟨k, hk, rfl⟩ := List.getElem_of_mem hv
  obtain ⟨b', c', g1, g2, g3, g4, g5⟩ := hcs k hk
  exact g5.vw
theorem MIs.mw {H : AH} {m : Mai} {kb fb : Option Addr} (h : MIs H m kb fb) : MW m := ⟨h.id, h.key.vw, h.fields.vw⟩
theorem codeApart_law (H : AH) (a0 : List Value) (d0 : List CD) (l0 : Lies H d0 a0) (k0 : Kds VK d0) (a1 : List Value) (d1 : List CD) (l1 : Lies H d1 a1) (k1 : Kds VK d1) (a2 : List Value) (d2 : List CD) (l2 : Lies H d2 a2) (k2 : Kds MK d2) (a3 : List Value) (d3 : List CD) (l3 : Lies H d3 a3) (k3 : Kds MK d3) :
    ACall Try.prog 3 [.agg a0.toArray, .agg a1.toArray, .agg a2.toArray, .agg a3.toArray] H AllTrue := by
  obtain ⟨v, vb, vc, rfl, hv, hvl⟩ := valC_of l0 k0
  obtain ⟨w, wb, wc, rfl, hw, hwl⟩ := valC_of l1 k1
  obtain ⟨m, kb, kc, fb, fc, rfl, hm, hml⟩ := maiC_of l2 k2
  obtain ⟨n, kb', kc', fb', fc', rfl, hn, hnl⟩ := maiC_of l3 k3
  exact apart_walk (fun _ => rfl) v w m n hv hvl hw hm hml hn hv.vw hw.vw hm.mw hn.mw
end Go.Proofs.Ytfghglacfjncmaa
