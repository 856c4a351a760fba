/- CodeBack: the law. -/
import Derived.Test.YtfghglacfjncmaaWCodAG
import Derived.Test.YtfghglacfjncmaaWGenU
namespace Go.Proofs.Ytfghglacfjncmaa
set_option linter.unusedVariables false
set_option linter.unusedSimpArgs false
open Go.RowKit

/-- Six boxes, over memory that stays. -/
structure L6 (H0 H : AH) (a b c d e f : Nat) (A B C D E F : List Value) : Prop where
  ha : Has H a (.row A 0)
  hb : Has H b (.row B 0)
  hc : Has H c (.row C 0)
  hd : Has H d (.row D 0)
  he : Has H e (.row E 0)
  hf : Has H f (.row F 0)
  fr : Fr [] H0 H
theorem L6.fr1 {H0 H H' : AH} {a b c d e f : Nat} {A B C D E F : List Value} (s : L6 H0 H a b c d e f A B C D E F) (x : Fr [] H H') : L6 H0 H' a b c d e f A B C D E F := ⟨s.ha.fr x (by simp), s.hb.fr x (by simp), s.hc.fr x (by simp), s.hd.fr x (by simp), s.he.fr x (by simp), s.hf.fr x (by simp), s.fr.trans x⟩
theorem new_set (H : AH) (A B : List Value) : Has ((H.push (.row A 0)).set H.next (.row B 0)) H.next (.row B 0) ∧ Fr [] H ((H.push (.row A 0)).set H.next (.row B 0)) := ⟨(Has.new _ _).set _, ((Fr.refl [] H).push _).set (.inr (Nat.le_refl _)) _⟩
section
variable {H : AH} {R : AEnd → AH → Prop}
set_option maxRecDepth 20000 in
set_option maxHeartbeats 16000000 in
theorem back_walk (hT : ∀ H', R (.ret (.bool true)) H') (v : Val) (x : Ite) (y : Dea) {vb ab cb bb kb fb : Option Addr} {vc ac cc bc kc fc : Nat} (hv : VIs H v vb) (hvl : VLs v) (hx : IIs H x ab cb bb) (hxl : ILw x) (hn : i64ok y.n) (hm : MIs H y.mail kb fb) (hml : MLw y.mail) (hyw : MW y.mail) :
    ACall Try.prog 8 [.agg (valC v vb vc).toArray, .agg (iteC x ab ac cb cc bb bc).toArray, .agg (deaC y kb kc fb fc).toArray] H R := by
  apply f8_call
  unfold f8_B
  refine wNew_at (wNew_at (wNew_at ?_))
  have s : L3 H (((H.push (.row (valC v vb vc) 0)).push (.row (iteC x ab ac cb cc bb bc) 0)).push (.row (deaC y kb kc fb fc) 0)) H.next (H.push (.row (valC v vb vc) 0)).next ((H.push (.row (valC v vb vc) 0)).push (.row (iteC x ab ac cb cc bb bc) 0)).next (valC v vb vc) (iteC x ab ac cb cc bb bc) (deaC y kb kc fb fc) :=
    ⟨((Has.new _ _).push _).push _, (Has.new _ _).push _, Has.new _ _, (((Fr.refl [] H).push _).push _).push _⟩
  generalize ((H.push (.row (valC v vb vc) 0)).push (.row (iteC x ab ac cb cc bb bc) 0)).push (.row (deaC y kb kc fb fc) 0) = H1 at s ⊢
  generalize ((H.push (.row (valC v vb vc) 0)).push (.row (iteC x ab ac cb cc bb bc) 0)).next = q3 at s ⊢
  generalize (H.push (.row (valC v vb vc) 0)).next = q2 at s ⊢
  generalize H.next = q1 at s ⊢
  refine L3.aw s (fun H2 s => opB_at (wIf_f rfl ?_))
  refine ldI_at s.hc rfl (ldS_at s.hc rfl (ldL_at s.hc rfl (ldL_at s.hc rfl (wBs_at ?_))))
  have hbs := Has.new H2 (.row (maiC y.mail kb kc fb fc) 4)
  have fbs : Fr [] H2 (H2.push (.row (maiC y.mail kb kc fb fc) 4)) := (Fr.refl [] H2).push _
  replace s := s.fr1 fbs
  generalize H2.push (.row (maiC y.mail kb kc fb fc) 4) = H3 at s hbs ⊢
  generalize H2.next = q4 at hbs ⊢
  have hdead : ∀ H', L3 H H' q1 q2 q3 (valC v vb vc) (iteC x ab ac cb cc bb bc) (deaC y kb kc fb fc) → wCall Try.prog 10 [] H' (fun r1995 H1996 => opB r1995 fun b1999 => R (.ret (.bool b1999)) H1996) (fun v1998 H1997 => R (.panic v1998) H1997) := fun H' s => L3.aw s (fun H'' s => opB_at (hT _))
  refine wCall_of (few_call [y.mail] (BIs.one hbs (hm.fr s.fr)) (by simp) (fun H4 f4 => opB_at ?_))
  replace s := s.fr1 f4
  refine wIf_n (fun e => ?_) (fun hfm => ?_)
  · rw [f8_J0_eq]; unfold f8_J0_B
    exact wIf_t rfl (hdead _ s)
  have hk40 := (hfm y.mail (by simp)).2.1
  have hf40 := (hfm y.mail (by simp)).2.2
  clear hfm f4 fbs hbs
  refine ldL_at s.hb rfl (wCall_of (few_call x.box (hx.box.fr s.fr) (by have := hxl.box; omega) (fun H5 f5 => opB_at ?_)))
  replace s := s.fr1 f5
  refine wIf_n (fun e => ?_) (fun hfb => ?_)
  · rw [f8_J0_eq]; unfold f8_J0_B
    exact wIf_t rfl (hdead _ s)
  refine ldL_at s.hb rfl (wIf_d (fun e => ?_) (fun hat => ldL_at s.hb rfl ?_))
  · rw [f8_J0_eq]; unfold f8_J0_B
    exact wIf_t rfl (hdead _ s)
  rw [f8_J0_eq]; unfold f8_J0_B
  refine wIf_d (fun e => hdead _ s) (fun hct => ?_)
  rw [f8_J1_eq]; unfold f8_J1_B
  have hisz : ISz x := ⟨by omega, hxl.vals, by omega, by have := hxl.box; omega, fun m hm => ⟨hxl.mails m hm, by have := (hfb m hm).2.1; omega, by have := (hfb m hm).2.2; omega⟩⟩
  clear hdead f5 hfb
  have hxw := hx.iw
  refine wPt_at (ldI_at s.ha rfl (ldI_at s.ha rfl (ldS_at s.ha rfl (ldL_at s.ha rfl ?_))))
  refine wCall_of (xputv_call v (hv.fr s.fr) (fun H6 f6 => opT_at rfl (opS_at (opI_at ?_))))
  replace s := s.fr1 f6
  refine wPt_at (ldI_at s.hb rfl (ldS_at s.hb rfl (ldS_at s.hb rfl (ldI_at s.hb rfl (ldL_at s.hb rfl (ldL_at s.hb rfl (ldL_at s.hb rfl ?_)))))))
  refine wCall_of (xputi_call x (hx.fr s.fr) (fun H7 f7 => opT_at rfl (opS_at (opI_at ?_))))
  replace s := s.fr1 f7
  refine wPt_at (ldI_at s.hc rfl (ldI_at s.hc rfl (ldS_at s.hc rfl (ldL_at s.hc rfl (ldL_at s.hc rfl (ldI_at s.hc rfl ?_))))))
  refine wCall_of (xputd_call y hn (hm.fr s.fr) (fun H8 f8 => opT_at rfl (opS_at (opI_at ?_))))
  replace s := s.fr1 f8
  clear f6 f7 f8
  have bv := back_val (v := v) ⟨hv.num, hv.nums⟩
  have bx := back_item (x := x) hxw
  have by_ := back_dead (x := y) hn hyw
  have zv := putS_val v
  have zx := putS_item x
  have zy := putS_dead y
  generalize putS (valP v) = tv at bv zv ⊢
  generalize putE (valP v) = ev at bv ⊢
  generalize putS (itemP x) = tx at bx zx ⊢
  generalize putE (itemP x) = ex at bx ⊢
  generalize putS (deadP y) = ty at by_ zy ⊢
  generalize putE (deadP y) = ey at by_ ⊢
  refine wCall_of (anyv_call zv (fun H9 w wb wc eh hw he f9 hwi => opT_at rfl (opA_at rfl (opI_at (opI_at (opS_at (opL_at (opI_at (wNew_at (wSt_at (Has.new _ _) (Nat.le_of_ble_eq_true rfl) ?_))))))))))
  replace s := s.fr1 f9
  obtain ⟨n1, n2⟩ := new_set H9 (valC zVal none 0) (valC w wb wc)
  replace s := s.fr1 n2
  replace hwi := hwi.fr n2
  change Has ((H9.push (.row (valC zVal none 0) 0)).set H9.next (.row (setCells (valC zVal none 0) 0 (valC w wb wc)) 0)) H9.next (.row (valC w wb wc) 0) at n1
  change L3 H ((H9.push (.row (valC zVal none 0) 0)).set H9.next (.row (setCells (valC zVal none 0) 0 (valC w wb wc)) 0)) _ _ _ _ _ _ at s
  change VIs ((H9.push (.row (valC zVal none 0) 0)).set H9.next (.row (setCells (valC zVal none 0) 0 (valC w wb wc)) 0)) _ _ at hwi
  generalize (H9.push (.row (valC zVal none 0) 0)).set H9.next (.row (setCells (valC zVal none 0) 0 (valC w wb wc)) 0) = H10 at n1 s hwi ⊢
  generalize H9.next = q5 at n1 ⊢
  clear n2 f9
  refine wCall_of (anyi_call zx (fun H11 z zab zac zcb zcc zbb zbc ei hz hei f11 hzi => opT_at rfl (opA_at rfl (opI_at (opS_at (opS_at (opI_at (opL_at (opL_at (opL_at (opI_at (wNew_at (wSt_at (Has.new _ _) (Nat.le_of_ble_eq_true rfl) ?_)))))))))))))
  replace s := s.fr1 f11
  replace n1 := n1.fr f11 (by simp)
  replace hwi := hwi.fr f11
  obtain ⟨m1, m2⟩ := new_set H11 (iteC zIte none 0 none 0 none 0) (iteC z zab zac zcb zcc zbb zbc)
  replace s := s.fr1 m2
  replace n1 := n1.fr m2 (by simp)
  replace hwi := hwi.fr m2
  replace hzi := hzi.fr m2
  have hH : (H11.push (.row (iteC zIte none 0 none 0 none 0) 0)).set H11.next (.row (iteC z zab zac zcb zcc zbb zbc) 0) = (H11.push (.row (iteC zIte none 0 none 0 none 0) 0)).set H11.next (.row (setCells (iteC zIte none 0 none 0 none 0) 0 (iteC z zab zac zcb zcc zbb zbc)) 0) := rfl
  rw [hH] at m1 s n1 hwi hzi
  generalize (H11.push (.row (iteC zIte none 0 none 0 none 0) 0)).set H11.next (.row (setCells (iteC zIte none 0 none 0 none 0) 0 (iteC z zab zac zcb zcc zbb zbc)) 0) = H12 at m1 s n1 hwi hzi ⊢
  generalize H11.next = q6 at m1 ⊢
  clear m2 f11 hH
  refine wCall_of (anyd_call zy (fun H13 u ukb ukc ufb ufc ej hu hej f13 hun hui => opT_at rfl (opA_at rfl (opI_at (opI_at (opS_at (opL_at (opL_at (opI_at (opI_at (wNew_at (wSt_at (Has.new _ _) (Nat.le_of_ble_eq_true rfl) ?_))))))))))))
  replace s := s.fr1 f13
  replace n1 := n1.fr f13 (by simp)
  replace m1 := m1.fr f13 (by simp)
  replace hwi := hwi.fr f13
  replace hzi := hzi.fr f13
  obtain ⟨o1, o2⟩ := new_set H13 (deaC zDea none 0 none 0) (deaC u ukb ukc ufb ufc)
  replace s := s.fr1 o2
  replace n1 := n1.fr o2 (by simp)
  replace m1 := m1.fr o2 (by simp)
  replace hwi := hwi.fr o2
  replace hzi := hzi.fr o2
  replace hui := hui.fr o2
  have hH : (H13.push (.row (deaC zDea none 0 none 0) 0)).set H13.next (.row (deaC u ukb ukc ufb ufc) 0) = (H13.push (.row (deaC zDea none 0 none 0) 0)).set H13.next (.row (setCells (deaC zDea none 0 none 0) 0 (deaC u ukb ukc ufb ufc)) 0) := rfl
  rw [hH] at o1 m1 s n1 hwi hzi hui
  generalize (H13.push (.row (deaC zDea none 0 none 0) 0)).set H13.next (.row (setCells (deaC zDea none 0 none 0) 0 (deaC u ukb ukc ufb ufc)) 0) = H14 at o1 m1 s n1 hwi hzi hui ⊢
  generalize H13.next = q7 at o1 ⊢
  clear o2 f13 hH
  refine wCall_of (awake_call (fun H15 f15 => opB_at (wIf_t rfl ?_)))
  have t : L6 H H15 q1 q2 q3 q5 q6 q7 (valC v vb vc) (iteC x ab ac cb cc bb bc) (deaC y kb kc fb fc) (valC w wb wc) (iteC z zab zac zcb zcc zbb zbc) (deaC u ukb ukc ufb ufc) :=
    ⟨s.ha.fr f15 (by simp), s.hb.fr f15 (by simp), s.hc.fr f15 (by simp), n1.fr f15 (by simp), m1.fr f15 (by simp), o1.fr f15 (by simp), s.fr.trans f15⟩
  replace hwi := hwi.fr f15
  replace hzi := hzi.fr f15
  replace hui := hui.fr f15
  clear n1 m1 o1 s f15
  have kv : ev = 0 → w = v ∧ eh = 0 := fun e => by rw [hw, he, bv e]; exact ⟨rfl, rfl⟩
  have kx : ex = 0 → z = x ∧ ei = 0 := fun e => by rw [hz, hei, bx e]; exact ⟨rfl, rfl⟩
  have ky : ey = 0 → u = y ∧ ej = 0 := fun e => by rw [hu, hej, by_ e]; exact ⟨rfl, rfl⟩
  clear hw he hz hei hu hej bv bx by_ zv zx zy
  have sv : ∀ (H' : AH) (K : Value → AH → Prop) (P : Value → AH → Prop), Fr [] H15 H' → ev = 0 → (∀ H'', Fr [] H15 H'' → K (.bool true) H'') → wCall Try.prog 14 [.agg (valC v vb vc).toArray, .agg (valC w wb wc).toArray] H' K P := fun H' K P f e h =>
    wCall_of (same_call v w (hv.fr (t.fr.trans f)) (hwi.fr f) (by have := hvl.list; omega) (fun H'' f' => by rw [decide_eq_true (kv e).1.symm]; exact h H'' (f.trans f')))
  have sx : ∀ (H' : AH) (K : Value → AH → Prop) (P : Value → AH → Prop), Fr [] H15 H' → ex = 0 → (∀ H'', Fr [] H15 H'' → K (.bool true) H'') → wCall Try.prog 23 [.agg (iteC x ab ac cb cc bb bc).toArray, .agg (iteC z zab zac zcb zcc zbb zbc).toArray] H' K P := fun H' K P f e h =>
    wCall_of (sameitem_call x z (hx.fr (t.fr.trans f)) (hzi.fr f) hisz (fun H'' f' => by rw [decide_eq_true (kx e).1.symm]; exact h H'' (f.trans f')))
  have sy : ∀ (H' : AH) (K : Value → AH → Prop) (P : Value → AH → Prop), Fr [] H15 H' → ey = 0 → (∀ H'', Fr [] H15 H'' → K (.bool true) H'') → wCall Try.prog 47 [.agg (deaC y kb kc fb fc).toArray, .agg (deaC u ukb ukc ufb ufc).toArray] H' K P := fun H' K P f e h =>
    wCall_of (samedead_call y u (hm.fr (t.fr.trans f)) (hui.fr f) (by omega) (by omega) hml (fun H'' f' => by rw [decide_eq_true (ky e).1.symm]; exact h H'' (f.trans f')))
  have f0 : Fr [] H15 H15 := Fr.refl _ _
  have rest3 : ∀ H', Fr [] H15 H' → ∀ (P : Value → AH → Prop), wIf (!decide (ey = 0)) (R (.ret (.bool true)) H') (wIf (decide (ej = 0)) (wPt (some ⟨q3, 0, none⟩) fun i k => ldI .i64 i k H' fun a1 => ldI .i64 i (k + 1) H' fun a2 => ldS i (k + 2) H' fun a3 => ldL i (k + 3) H' fun b1 b2 b3 => ldL i (k + 4) H' fun c1 c2 c3 => ldI .i64 i (k + 5) H' fun a4 =>
      ldI .i64 q7 0 H' fun d1 => ldI .i64 q7 1 H' fun d2 => ldS q7 2 H' fun d3 => ldL q7 3 H' fun e1 e2 e3 => ldL q7 4 H' fun g1 g2 g3 => ldI .i64 q7 5 H' fun d4 =>
      wCall Try.prog 47 [.agg #[.int .i64 a1, .int .i64 a2, .string a3, .slice b1 b2 b3, .slice c1 c2 c3, .int .i64 a4], .agg #[.int .i64 d1, .int .i64 d2, .string d3, .slice e1 e2 e3, .slice g1 g2 g3, .int .i64 d4]] H' (fun r H'' => opB r fun b => R (.ret (.bool b)) H'') (fun v H'' => P v H'')) (R (.ret (.bool false)) H')) := by
    intro H' f P
    have t := t.fr1 f
    refine wIf_n (fun e => hT _) (fun e => ?_)
    refine wIf_dt (ky e).2 (wPt_at (ldI_at t.hc rfl (ldI_at t.hc rfl (ldS_at t.hc rfl (ldL_at t.hc rfl (ldL_at t.hc rfl (ldI_at t.hc rfl ?_)))))))
    refine ldI_at t.hf rfl (ldI_at t.hf rfl (ldS_at t.hf rfl (ldL_at t.hf rfl (ldL_at t.hf rfl (ldI_at t.hf rfl ?_)))))
    exact sy H' _ _ f e (fun H'' f' => opB_at (hT _))
  refine wIf_n (fun e => ?_) (fun e => ?_)
  rotate_left
  · refine wIf_dt (kv e).2 (wPt_at (ldI_at t.ha rfl (ldI_at t.ha rfl (ldS_at t.ha rfl (ldL_at t.ha rfl ?_)))))
    refine ldI_at t.hd rfl (ldI_at t.hd rfl (ldS_at t.hd rfl (ldL_at t.hd rfl ?_)))
    refine sv _ _ _ f0 e (fun H16 f => opB_at (wIf_t rfl ?_))
    have t2 := t.fr1 f
    refine wIf_n (fun e => rest3 _ f _) (fun e => ?_)
    refine wIf_dt (kx e).2 (wPt_at (ldI_at t2.hb rfl (ldS_at t2.hb rfl (ldS_at t2.hb rfl (ldI_at t2.hb rfl (ldL_at t2.hb rfl (ldL_at t2.hb rfl (ldL_at t2.hb rfl ?_))))))))
    refine ldI_at t2.he rfl (ldS_at t2.he rfl (ldS_at t2.he rfl (ldI_at t2.he rfl (ldL_at t2.he rfl (ldL_at t2.he rfl (ldL_at t2.he rfl ?_))))))
    exact sx _ _ _ f e (fun H17 f17 => opB_at (wIf_t rfl (rest3 _ f17 _)))
  · refine wIf_n (fun e => rest3 _ f0 _) (fun e => ?_)
    refine wIf_dt (kx e).2 (wPt_at (ldI_at t.hb rfl (ldS_at t.hb rfl (ldS_at t.hb rfl (ldI_at t.hb rfl (ldL_at t.hb rfl (ldL_at t.hb rfl (ldL_at t.hb rfl ?_))))))))
    refine ldI_at t.he rfl (ldS_at t.he rfl (ldS_at t.he rfl (ldI_at t.he rfl (ldL_at t.he rfl (ldL_at t.he rfl (ldL_at t.he rfl ?_))))))
    exact sx _ _ _ f0 e (fun H17 f17 => opB_at (wIf_t rfl (rest3 _ f17 _)))
end
theorem codeBack_law (H : AH) (a0 : List Value) (d0 : List CD) (l0 : Lies H d0 a0) (k0 : Kds VK d0) (a1 : List Value) (d1 : List CD) (l1 : Lies H d1 a1) (k1 : Kds IK d1) (a2 : List Value) (d2 : List CD) (l2 : Lies H d2 a2) (k2 : Kds DK d2) :
    ACall Try.prog 8 [.agg a0.toArray, .agg a1.toArray, .agg a2.toArray] H AllTrue := by
  obtain ⟨v, vb, vc, rfl, hv, hvl⟩ := valC_of l0 k0
  obtain ⟨x, ab, ac, cb, cc, bb, bc, rfl, hx, hxl⟩ := iteC_of l1 k1
  obtain ⟨y, kb, kc, fb, fc, rfl, hn, hm, hml⟩ := deaC_of l2 k2
  refine back_walk (fun _ => rfl) v x y hv hvl hx hxl hn hm hml ⟨hm.id, fun v hv => ?_, fun v hv => ?_⟩
  · obtain ⟨j, cs, hw, hcs⟩ := hm.key.ex
    obtain ⟨k, hk, rfl⟩ := List.getElem_of_mem hv
    obtain ⟨b', c', g1, g2, g3, g4, g5⟩ := hcs k hk
    exact ⟨g5.num, g5.nums⟩
  · obtain ⟨j, cs, hw, hcs⟩ := hm.fields.ex
    obtain ⟨k, hk, rfl⟩ := List.getElem_of_mem hv
    obtain ⟨b', c', g1, g2, g3, g4, g5⟩ := hcs k hk
    exact ⟨g5.num, g5.nums⟩
end Go.Proofs.Ytfghglacfjncmaa
