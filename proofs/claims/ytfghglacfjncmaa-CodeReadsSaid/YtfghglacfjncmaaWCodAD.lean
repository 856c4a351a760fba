/- The reference: are two the same? Is one ahead of the other? The reference: are two rows of counters, of messages, two artifacts, dead letters, events the same? -/
import Derived.Test.YtfghglacfjncmaaWCdI
import Derived.Test.YtfghglacfjncmaaWCdJ
import Derived.Test.YtfghglacfjncmaaWGenS
/-! The reference: are two the same? Is one ahead of the other? -/
namespace Go.Proofs.Ytfghglacfjncmaa
set_option linter.unusedVariables false
set_option linter.unusedSimpArgs false
open Go.RowKit

instance : DecidableEq Val := fun a b => decidable_of_iff (a.kind = b.kind ∧ a.num = b.num ∧ a.text = b.text ∧ a.list = b.list) (by cases a; cases b; simp)
instance : DecidableEq Mai := fun a b => decidable_of_iff (a.id = b.id ∧ a.chan = b.chan ∧ a.key = b.key ∧ a.fields = b.fields) (by cases a; cases b; simp)
theorem val_ext {a b : Val} : a = b ↔ a.kind = b.kind ∧ a.num = b.num ∧ a.text = b.text ∧ a.list = b.list := by cases a; cases b; simp
theorem mai_ext {a b : Mai} : a = b ↔ a.id = b.id ∧ a.chan = b.chan ∧ a.key = b.key ∧ a.fields = b.fields := by cases a; cases b; simp
theorem take_snoc {α : Type} {l : List α} {k : Nat} (h : k < l.length) : l.take (k + 1) = l.take k ++ [l[k]] := by rw [List.take_add_one, List.getElem?_eq_getElem h]; rfl
section
variable {H0 H : AH} {R : AEnd → AH → Prop}
/-- Two boxes, over memory that stays. -/
structure L2 (H0 H : AH) (a b : Nat) (A B : List Value) : Prop where
  ha : Has H a (.row A 0)
  hb : Has H b (.row B 0)
  fr : Fr [] H0 H
theorem L2.fr1 {H' : AH} {a b : Nat} {A B : List Value} (s : L2 H0 H a b A B) (f : Fr [] H H') : L2 H0 H' a b A B := ⟨s.ha.fr f (by simp), s.hb.fr f (by simp), s.fr.trans f⟩
theorem L2.new (A B : List Value) : L2 H ((H.push (.row A 0)).push (.row B 0)) H.next (H.push (.row A 0)).next A B := ⟨(Has.new _ _).push _, Has.new _ _, ((Fr.refl [] H).push _).push _⟩
theorem ints_cell {l : List Int} {k : Nat} (h : k < l.length) : (l.map fun n => Value.int .i64 n)[k * 1]? = some (.int .i64 l[k]) := by
  rw [Nat.mul_one, List.getElem?_map, List.getElem?_eq_getElem h]; rfl
set_option maxRecDepth 20000 in
set_option maxHeartbeats 1000000 in
theorem same_call (v w : Val) {b b' : Option Addr} {c c' : Nat} (hv : VIs H v b) (hw : VIs H w b') (hz : v.list.length ≤ 4611686018427387903) (h : ∀ H', Fr [] H H' → R (.ret (.bool (decide (v = w)))) H') :
    ACall Try.prog 14 [.agg #[.int .i64 v.kind, .int .i64 v.num, .string v.text, .slice b v.list.length c], .agg #[.int .i64 w.kind, .int .i64 w.num, .string w.text, .slice b' w.list.length c']] H R := by
  apply f14_call
  unfold f14_B
  refine wNew_at (wNew_at ?_)
  have s := L2.new (H := H) (valC v b c) (valC w b' c')
  generalize (H.push (.row (valC v b c) 0)).push (.row (valC w b' c') 0) = H1 at s ⊢
  generalize (H.push (.row (valC v b c) 0)).next = q2 at s ⊢
  generalize H.next = q1 at s ⊢
  obtain ⟨j, hvw⟩ := hv.view
  obtain ⟨j', hww⟩ := hw.view
  replace hvw := hvw.fr s.fr
  replace hww := hww.fr s.fr
  refine ldI_at s.ha rfl (ldI_at s.hb rfl (wIf_d (fun e1 => ?_) (fun e1 => ?_)))
  refine ldI_at s.ha rfl (ldI_at s.hb rfl (wIf_d (fun e2 => ?_) (fun e2 => ?_)))
  refine ldS_at s.ha rfl (ldS_at s.hb rfl (wIf_d (fun e3 => ?_) (fun e3 => ?_)))
  refine ldL_at s.ha rfl (ldL_at s.hb rfl ?_)
  all_goals
    rw [f14_J0_eq]
    unfold f14_J0_B
    refine f14_L0_rule (J := fun m x0 x1 H' => ∃ k : Nat, k ≤ v.list.length ∧ x1 = (k : Int) ∧ m = v.list.length - k ∧ H' = H1 ∧ (x0 = true ↔ (v.kind = w.kind ∧ v.num = w.num ∧ v.text = w.text ∧ v.list.length = w.list.length) ∧ v.list.take k = w.list.take k)) v.list.length
      ⟨0, Nat.zero_le _, rfl, rfl, rfl, by first | exact ⟨fun e => (by cases e), fun e => absurd e.1.1 e1⟩ | exact ⟨fun e => (by cases e), fun e => absurd e.1.2.1 e2⟩ | exact ⟨fun e => (by cases e), fun e => absurd e.1.2.2.1 e3⟩ | exact ⟨fun e => ⟨⟨e1, e2, e3, by have := of_decide_eq_true e; omega⟩, rfl⟩, fun e => decide_eq_true (by have := e.1.2.2.2; omega)⟩⟩ ?_
    rintro m ok x H5 ⟨k, hk, rfl, rfl, rfl, hok⟩
    intros
    unfold f14_R0
    have hend : (ok = false ∨ k = v.list.length) → R (.ret (.bool ok)) H5 := fun e => by
      have : decide (v = w) = ok := by
        rcases e with e | e
        · rw [e]
          refine decide_eq_false (fun y => ?_)
          have := hok.2 (by subst y; exact ⟨⟨rfl, rfl, rfl, rfl⟩, rfl⟩)
          rw [e] at this; cases this
        · cases ok with
          | false =>
            refine decide_eq_false (fun y => ?_)
            have := hok.2 (by subst y; exact ⟨⟨rfl, rfl, rfl, rfl⟩, rfl⟩)
            cases this
          | true =>
            have := hok.1 rfl
            obtain ⟨⟨g1, g2, g3, g4⟩, g5⟩ := this
            subst e
            rw [List.take_length, g4, List.take_length] at g5
            exact decide_eq_true (val_ext.2 ⟨g1, g2, g3, g5⟩)
      rw [← this]
      exact h H5 s.fr
    refine wIf_b (fun e => ?_) (fun e => ?_)
    · subst e
      obtain ⟨g, g5⟩ := hok.1 rfl
      refine wPt_at (ldL_at s.ha rfl ?_)
      rw [f14_J1_eq]
      unfold f14_J1_B
      refine wIf_d (fun hlt => ?_) (fun hge => hend (.inr (by omega)))
      have hlt : k < v.list.length := by omega
      have hlt2 : k < w.list.length := by rw [← g.2.2.2]; exact hlt
      rw [f14_J2_eq]
      unfold f14_J2_B
      refine wPt_at (wPt_at (ldL_at s.ha rfl (hvw.ix rfl hlt (hvw.ldI (by omega) (ints_cell hlt) (ldL_at s.hb rfl (hww.ix rfl hlt2 (hww.ldI (by omega) (ints_cell hlt2) ?_)))))))
      rw [f14_J3_eq]
      unfold f14_J3_B
      refine ⟨v.list.length - (k + 1), by omega, f14_I0_mk ⟨k + 1, hlt, wi1 k (by omega), rfl, rfl, ?_⟩⟩
      rw [decide_eq_true_eq, take_snoc hlt, take_snoc hlt2]
      refine ⟨fun y => ⟨g, by rw [g5, y]⟩, fun y => ?_⟩
      have := List.append_inj_right' y.2 rfl
      simpa using this
    · rw [f14_J1_eq]
      unfold f14_J1_B
      exact wIf_f rfl (hend (.inl e))
set_option maxRecDepth 20000 in
set_option maxHeartbeats 1000000 in
theorem sameall_call (vs ws : List Val) {b b' : Option Addr} {c c' : Nat} (hv : RIs H b vs) (hw : RIs H b' ws) (hz : vs.length ≤ 4611686018427387903) (hzs : ∀ v ∈ vs, VLs v) (h : ∀ H', Fr [] H H' → R (.ret (.bool (decide (vs = ws)))) H') :
    ACall Try.prog 53 [.slice b vs.length c, .slice b' ws.length c'] H R := by
  apply f53_call
  unfold f53_B
  have hF : vs ≠ ws → ∀ H', Fr [] H H' → R (.ret (.bool false)) H' := fun e H' f => by
    have := h H' f
    rwa [decide_eq_false e] at this
  refine wIf_n (fun e => ?_) (fun e => ?_)
  · exact hF (fun y => e (by rw [y])) _ (Fr.refl _ _)
  have hlen : vs.length = ws.length := by omega
  obtain ⟨j, cs, hvw, hcs⟩ := hv.ex
  obtain ⟨j', cs', hww, hcs'⟩ := hw.ex
  refine f53_L0_rule (J := fun m x1 H' => ∃ k : Nat, k ≤ vs.length ∧ x1 = (k : Int) ∧ m = vs.length - k ∧ Fr [] H H' ∧ vs.take k = ws.take k) vs.length
    ⟨0, Nat.zero_le _, rfl, rfl, Fr.refl _ _, rfl⟩ ?_
  rintro m x H5 ⟨k, hk, rfl, rfl, f5, htk⟩
  intros
  unfold f53_R0
  refine wIf_d (fun hlt => ?_) (fun hge => ?_)
  · have hlt : k < vs.length := by omega
    have hlt2 : k < ws.length := by omega
    obtain ⟨b1, c1, g1, g2, g3, g4, g5⟩ := hcs k hlt
    obtain ⟨b2, c2, k1, k2, k3, k4, k5⟩ := hcs' k hlt2
    have hv5 := hvw.fr f5
    have hw5 := hww.fr f5
    refine hv5.ix rfl hlt (hw5.ix rfl hlt2 (hv5.ldI (by omega) g1 (hv5.ldI (by omega) g2 (hv5.ldS (by omega) g3 (hv5.ldL (by omega) g4 (hw5.ldI (by omega) k1 (hw5.ldI (by omega) k2 (hw5.ldS (by omega) k3 (hw5.ldL (by omega) k4 ?_)))))))))
    have hvl := (hzs _ (List.getElem_mem hlt)).list
    refine wCall_of (same_call vs[k] ws[k] (g5.fr f5) (k5.fr f5) (by omega) (fun H6 f6 => opB_at ?_))
    rw [f53_J0_eq]
    unfold f53_J0_B
    have f06 := f5.trans f6
    refine wIf_n (fun e2 => hF (fun y => e2 (by subst y; rfl)) _ f06) (fun e2 => ?_)
    refine ⟨vs.length - (k + 1), by omega, f53_I0_mk ⟨k + 1, hlt, wi1 k (by omega), rfl, f06, ?_⟩⟩
    rw [take_snoc hlt, take_snoc hlt2, htk, e2]
  · have hkl : k = vs.length := by omega
    subst hkl
    rw [List.take_length, hlen, List.take_length] at htk
    have := h H5 f5
    rwa [decide_eq_true htk] at this
theorem samemail_call (m n : Mai) {kb fb kb' fb' : Option Addr} {kc fc kc' fc' : Nat} (hm : MIs H m kb fb) (hn : MIs H n kb' fb') (hk : m.key.length ≤ 4611686018427387903) (hf : m.fields.length ≤ 4611686018427387903) (hks : ∀ v ∈ m.key, VLs v) (hfs : ∀ v ∈ m.fields, VLs v) (h : ∀ H', Fr [] H H' → R (.ret (.bool (decide (m = n)))) H') :
    ACall Try.prog 16 [.agg #[.int .i64 m.id, .string m.chan, .slice kb m.key.length kc, .slice fb m.fields.length fc], .agg #[.int .i64 n.id, .string n.chan, .slice kb' n.key.length kc', .slice fb' n.fields.length fc']] H R := by
  apply f16_call
  unfold f16_B
  refine wNew_at (wNew_at ?_)
  have s := L2.new (H := H) (maiC m kb kc fb fc) (maiC n kb' kc' fb' fc')
  generalize (H.push (.row (maiC m kb kc fb fc) 0)).push (.row (maiC n kb' kc' fb' fc') 0) = H1 at s ⊢
  generalize (H.push (.row (maiC m kb kc fb fc) 0)).next = q2 at s ⊢
  generalize H.next = q1 at s ⊢
  have hF : m ≠ n → ∀ H', Fr [] H H' → R (.ret (.bool false)) H' := fun e H' f => by
    have := h H' f
    rwa [decide_eq_false e] at this
  refine ldI_at s.ha rfl (ldI_at s.hb rfl (wIf_d (fun e1 => ?_) (fun e1 => hF (fun y => e1 (by rw [y])) _ s.fr)))
  refine ldS_at s.ha rfl (ldS_at s.hb rfl (wIf_d (fun e2 => ?_) (fun e2 => hF (fun y => e2 (by rw [y])) _ s.fr)))
  refine ldL_at s.ha rfl (ldL_at s.hb rfl (wCall_of (sameall_call m.key n.key (hm.key.fr s.fr) (hn.key.fr s.fr) hk hks (fun H2 f2 => opB_at ?_))))
  replace s := s.fr1 f2
  refine wIf_d (fun e3 => ?_) (fun e3 => hF (fun y => e3 (by rw [y])) _ s.fr)
  refine ldL_at s.ha rfl (ldL_at s.hb rfl (wCall_of (sameall_call m.fields n.fields (hm.fields.fr s.fr) (hn.fields.fr s.fr) hf hfs (fun H3 f3 => opB_at ?_))))
  replace s := s.fr1 f3
  have := h H3 s.fr
  by_cases e4 : m.fields = n.fields
  · rw [decide_eq_true (mai_ext.2 ⟨e1, e2, e3, e4⟩)] at this
    rwa [decide_eq_true e4]
  · rw [decide_eq_false e4]
    exact hF (fun y => e4 (by rw [y])) _ s.fr
end
end Go.Proofs.Ytfghglacfjncmaa

/-! The reference: are two rows of counters, of messages, two artifacts, dead letters, events the same? -/
namespace Go.Proofs.Ytfghglacfjncmaa
set_option linter.unusedVariables false
set_option linter.unusedSimpArgs false
open Go.RowKit

instance : DecidableEq Ite := fun a b => decidable_of_iff (a.id = b.id ∧ a.typ = b.typ ∧ a.state = b.state ∧ a.since = b.since ∧ a.attrs = b.attrs ∧ a.counts = b.counts ∧ a.box = b.box) (by cases a; cases b; simp)
instance : DecidableEq Dea := fun a b => decidable_of_iff (a.n = b.n ∧ a.reason = b.reason ∧ a.mail = b.mail) (by cases a; cases b; simp only [Dea.mk.injEq]; exact ⟨fun h => ⟨h.1, h.2.2, h.2.1⟩, fun h => ⟨h.1, h.2.2, h.2.1⟩⟩)
instance : DecidableEq Evt := fun a b => decidable_of_iff (a.n = b.n ∧ a.tick = b.tick ∧ a.name = b.name ∧ a.item = b.item ∧ a.typ = b.typ ∧ a.state = b.state ∧ a.attrs = b.attrs) (by cases a; cases b; simp)
theorem dea_ext {a b : Dea} : a = b ↔ a.n = b.n ∧ a.reason = b.reason ∧ a.mail = b.mail := by
  cases a; cases b; simp only [Dea.mk.injEq]; exact ⟨fun h => ⟨h.1, h.2.2, h.2.1⟩, fun h => ⟨h.1, h.2.2, h.2.1⟩⟩
theorem evt_ext {a b : Evt} : a = b ↔ a.n = b.n ∧ a.tick = b.tick ∧ a.name = b.name ∧ a.item = b.item ∧ a.typ = b.typ ∧ a.state = b.state ∧ a.attrs = b.attrs := by cases a; cases b; simp
section
variable {H0 H : AH} {R : AEnd → AH → Prop}
set_option maxRecDepth 20000 in
set_option maxHeartbeats 1000000 in
theorem samedead_call (m n : Dea) {kb fb kb' fb' : Option Addr} {kc fc kc' fc' : Nat} (hm : MIs H m.mail kb fb) (hn : MIs H n.mail kb' fb') (hk : m.mail.key.length ≤ 4611686018427387903) (hf : m.mail.fields.length ≤ 4611686018427387903) (hl : MLw m.mail) (h : ∀ H', Fr [] H H' → R (.ret (.bool (decide (m = n)))) H') :
    ACall Try.prog 47 [.agg (deaC m kb kc fb fc).toArray, .agg (deaC n kb' kc' fb' fc').toArray] H R := by
  apply f47_call
  unfold f47_B
  refine wNew_at (wNew_at ?_)
  have s := L2.new (H := H) (deaC m kb kc fb fc) (deaC n kb' kc' fb' fc')
  generalize (H.push (.row (deaC m kb kc fb fc) 0)).push (.row (deaC n kb' kc' fb' fc') 0) = H1 at s ⊢
  generalize (H.push (.row (deaC m kb kc fb fc) 0)).next = q2 at s ⊢
  generalize H.next = q1 at s ⊢
  have hF : m ≠ n → ∀ H', Fr [] H H' → R (.ret (.bool false)) H' := fun e H' f => by
    have := h H' f
    rwa [decide_eq_false e] at this
  refine ldI_at s.ha rfl (ldI_at s.hb rfl (wIf_d (fun e1 => ?_) (fun e1 => hF (fun y => e1 (by rw [y])) _ s.fr)))
  refine ldI_at s.ha rfl (ldI_at s.hb rfl (wIf_d (fun e2 => ?_) (fun e2 => hF (fun y => e2 (by rw [y])) _ s.fr)))
  refine ldI_at s.ha rfl (ldS_at s.ha rfl (ldL_at s.ha rfl (ldL_at s.ha rfl (ldI_at s.hb rfl (ldS_at s.hb rfl (ldL_at s.hb rfl (ldL_at s.hb rfl ?_)))))))
  refine wCall_of (samemail_call m.mail n.mail (hm.fr s.fr) (hn.fr s.fr) hk hf hl.keys hl.fieldss (fun H4 f4 => opB_at ?_))
  replace s := s.fr1 f4
  have := h H4 s.fr
  by_cases e7 : m.mail = n.mail
  · rw [decide_eq_true (dea_ext.2 ⟨e1, e2, e7⟩)] at this
    rwa [decide_eq_true e7]
  · rw [decide_eq_false e7]
    exact hF (fun y => e7 (by rw [y])) _ s.fr
set_option maxRecDepth 20000 in
set_option maxHeartbeats 1000000 in
theorem sameevent_call (m n : Evt) {ab ab' : Option Addr} {ac ac' : Nat} (hm : RIs H ab m.attrs) (hn : RIs H ab' n.attrs) (hl : m.attrs.length ≤ 4611686018427387903) (hv : ∀ v ∈ m.attrs, VLs v) (h : ∀ H', Fr [] H H' → R (.ret (.bool (decide (m = n)))) H') :
    ACall Try.prog 48 [.agg (evtC m ab ac).toArray, .agg (evtC n ab' ac').toArray] H R := by
  apply f48_call
  unfold f48_B
  refine wNew_at (wNew_at ?_)
  have s := L2.new (H := H) (evtC m ab ac) (evtC n ab' ac')
  generalize (H.push (.row (evtC m ab ac) 0)).push (.row (evtC n ab' ac') 0) = H1 at s ⊢
  generalize (H.push (.row (evtC m ab ac) 0)).next = q2 at s ⊢
  generalize H.next = q1 at s ⊢
  have hF : m ≠ n → ∀ H', Fr [] H H' → R (.ret (.bool false)) H' := fun e H' f => by
    have := h H' f
    rwa [decide_eq_false e] at this
  refine ldI_at s.ha rfl (ldI_at s.hb rfl (wIf_d (fun e1 => ?_) (fun e1 => hF (fun y => e1 (by rw [y])) _ s.fr)))
  refine ldI_at s.ha rfl (ldI_at s.hb rfl (wIf_d (fun e2 => ?_) (fun e2 => hF (fun y => e2 (by rw [y])) _ s.fr)))
  refine ldS_at s.ha rfl (ldS_at s.hb rfl (wIf_d (fun e3 => ?_) (fun e3 => hF (fun y => e3 (by rw [y])) _ s.fr)))
  refine ldI_at s.ha rfl (ldI_at s.hb rfl (wIf_d (fun e4 => ?_) (fun e4 => hF (fun y => e4 (by rw [y])) _ s.fr)))
  refine ldS_at s.ha rfl (ldS_at s.hb rfl (wIf_d (fun e5 => ?_) (fun e5 => hF (fun y => e5 (by rw [y])) _ s.fr)))
  refine ldS_at s.ha rfl (ldS_at s.hb rfl (wIf_d (fun e6 => ?_) (fun e6 => hF (fun y => e6 (by rw [y])) _ s.fr)))
  refine ldL_at s.ha rfl (ldL_at s.hb rfl (wCall_of (sameall_call m.attrs n.attrs (hm.fr s.fr) (hn.fr s.fr) hl hv (fun H4 f4 => opB_at ?_))))
  replace s := s.fr1 f4
  have := h H4 s.fr
  by_cases e7 : m.attrs = n.attrs
  · rw [decide_eq_true (evt_ext.2 ⟨e1, e2, e3, e4, e5, e6, e7⟩)] at this
    rwa [decide_eq_true e7]
  · rw [decide_eq_false e7]
    exact hF (fun y => e7 (by rw [y])) _ s.fr
end
end Go.Proofs.Ytfghglacfjncmaa
