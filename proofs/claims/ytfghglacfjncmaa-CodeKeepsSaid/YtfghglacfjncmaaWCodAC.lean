/- CodeKeeps: the law. -/
import Derived.Test.YtfghglacfjncmaaWCodAB
import Derived.Test.YtfghglacfjncmaaWGenKb
namespace Go.Proofs.Ytfghglacfjncmaa
set_option linter.unusedVariables false
set_option linter.unusedSimpArgs false
open Go.RowKit
section
variable {H0 H : AH} {a b c : Nat} {A B C : List Value} {K : Value → AH → Prop} {P : Value → AH → Prop}
theorem L3.pd (s : L3 H0 H a b c A B C) {x : Dea} {kb fb : Option Addr} {kc fc : Nat} (h1 : i64ok x.n) (hm : MIs H0 x.mail kb fb) (h : ∀ H', L3 H0 H' a b c A B C → K (PutV (deadP x)) H') : wCall Try.prog 32 [.agg #[.int .i64 x.n, .int .i64 x.mail.id, .string x.mail.chan, .slice kb x.mail.key.length kc, .slice fb x.mail.fields.length fc, .int .i64 x.reason]] H K P :=
  wCall_of (xputd_call x h1 (hm.fr s.fr) fun H' f => h H' (s.fr1 f))
theorem L3.pe (s : L3 H0 H a b c A B C) {x : Evt} {ab : Option Addr} {ac : Nat} (h1 : i64ok x.n) (h2 : i64ok x.tick) (h3 : i64ok x.item) (ha : RIs H0 ab x.attrs) (h : ∀ H', L3 H0 H' a b c A B C → K (PutV (eventP x)) H') : wCall Try.prog 33 [.agg #[.int .i64 x.n, .int .i64 x.tick, .string x.name, .int .i64 x.item, .string x.typ, .string x.state, .slice ab x.attrs.length ac]] H K P :=
  wCall_of (xpute_call x h1 h2 h3 (ha.fr s.fr) fun H' f => h H' (s.fr1 f))
theorem L3.ps (s : L3 H0 H a b c A B C) {x : Sbs} (h1 : i64ok x.id) (h2 : i64ok x.past) (h : ∀ H', L3 H0 H' a b c A B C → K (PutV (subP x)) H') : wCall Try.prog 34 [.agg #[.int .i64 x.id, .string x.role, .int .i64 x.past]] H K P :=
  wCall_of (xputs_call x h1 h2 fun H' f => h H' (s.fr1 f))
theorem L3.rd (s : L3 H0 H a b c A B C) {x : Dea} {kb fb : Option Addr} {kc fc : Nat} (h1 : i64ok x.n) (hm : MIs H0 x.mail kb fb) (hs : MLs x.mail) (h : ∀ H', L3 H0 H' a b c A B C → K (.string (ofL (refDead x))) H') : wCall Try.prog 35 [.agg #[.int .i64 x.n, .int .i64 x.mail.id, .string x.mail.chan, .slice kb x.mail.key.length kc, .slice fb x.mail.fields.length fc, .int .i64 x.reason]] H K P :=
  wCall_of (refdead_call x h1 (hm.fr s.fr) hs fun H' f => h H' (s.fr1 f))
theorem L3.okd (s : L3 H0 H a b c A B C) {x : Dea} {kb fb : Option Addr} {kc fc : Nat} (hm : MIs H0 x.mail kb fb) (h : ∀ H', L3 H0 H' a b c A B C → K (.bool (decide (mailOK x.mail ∧ 0 ≤ x.reason ∧ x.reason ≤ 5))) H') : wCall Try.prog 36 [.agg #[.int .i64 x.n, .int .i64 x.mail.id, .string x.mail.chan, .slice kb x.mail.key.length kc, .slice fb x.mail.fields.length fc, .int .i64 x.reason]] H K P :=
  wCall_of (rightdead_call x (hm.fr s.fr) fun H' f => h H' (s.fr1 f))
theorem L3.re (s : L3 H0 H a b c A B C) {x : Evt} {ab : Option Addr} {ac : Nat} (h1 : i64ok x.n) (h2 : i64ok x.tick) (h3 : i64ok x.item) (ha : RIs H0 ab x.attrs) (hs : ELs x) (h : ∀ H', L3 H0 H' a b c A B C → K (.string (ofL (refEvent x))) H') : wCall Try.prog 37 [.agg #[.int .i64 x.n, .int .i64 x.tick, .string x.name, .int .i64 x.item, .string x.typ, .string x.state, .slice ab x.attrs.length ac]] H K P :=
  wCall_of (refevent_call x h1 h2 h3 (ha.fr s.fr) hs fun H' f => h H' (s.fr1 f))
theorem L3.oke (s : L3 H0 H a b c A B C) {x : Evt} {ab : Option Addr} {ac : Nat} (ha : RIs H0 ab x.attrs) (h : ∀ H', L3 H0 H' a b c A B C → K (.bool (decide (eventOK x))) H') : wCall Try.prog 38 [.agg #[.int .i64 x.n, .int .i64 x.tick, .string x.name, .int .i64 x.item, .string x.typ, .string x.state, .slice ab x.attrs.length ac]] H K P :=
  wCall_of (rightevent_call x (ha.fr s.fr) fun H' f => h H' (s.fr1 f))
theorem L3.rs (s : L3 H0 H a b c A B C) {x : Sbs} (h1 : i64ok x.id) (h2 : i64ok x.past) (hs : x.role.size ≤ 140737488351232) (h : ∀ H', L3 H0 H' a b c A B C → K (.string (ofL (refSub x))) H') : wCall Try.prog 39 [.agg #[.int .i64 x.id, .string x.role, .int .i64 x.past]] H K P :=
  wCall_of (refsub_call x h1 h2 hs fun H' f => h H' (s.fr1 f))
theorem L3.oks (s : L3 H0 H a b c A B C) {x : Sbs} (h : ∀ H', L3 H0 H' a b c A B C → K (.bool (decide ((x.role.size : Int) ≤ 24))) H') : wCall Try.prog 40 [.agg #[.int .i64 x.id, .string x.role, .int .i64 x.past]] H K P :=
  wCall_of (rightsub_call x fun H' f => h H' (s.fr1 f))
theorem L3.ckd (s : L3 H0 H a b c A B C) {x : Dea} (h : K (.bool true) H) : wCall Try.prog 25 [.string (putS (deadP x)), .int .i64 (putE (deadP x)), .string (ofL (refDead x)), .bool (decide (mailOK x.mail ∧ 0 ≤ x.reason ∧ x.reason ≤ 5))] H K P :=
  wCall_of (put_callD (deadP_ref x) h)
theorem L3.cke (s : L3 H0 H a b c A B C) {x : Evt} (h : K (.bool true) H) : wCall Try.prog 25 [.string (putS (eventP x)), .int .i64 (putE (eventP x)), .string (ofL (refEvent x)), .bool (decide (eventOK x))] H K P :=
  wCall_of (put_callD (eventP_ref x) h)
theorem L3.cks (s : L3 H0 H a b c A B C) {x : Sbs} (h : K (.bool true) H) : wCall Try.prog 25 [.string (putS (subP x)), .int .i64 (putE (subP x)), .string (ofL (refSub x)), .bool (decide ((x.role.size : Int) ≤ 24))] H K P :=
  wCall_of (put_callD (subP_ref x) h)
end
section
variable {H : AH} {R : AEnd → AH → Prop}
set_option maxRecDepth 20000 in
set_option maxHeartbeats 16000000 in
theorem keeps_walk (hT : ∀ H', R (.ret (.bool true)) H') (x : Dea) (y : Evt) (z : Sbs) {kb fb ab : Option Addr} {kc fc ac : Nat} (hn : i64ok x.n) (hm : MIs H x.mail kb fb) (hml : MLw x.mail) (e1 : i64ok y.n) (e2 : i64ok y.tick) (e3 : i64ok y.item) (ha : RIs H ab y.attrs) (hel : ELw y) (z1 : i64ok z.id) (z2 : i64ok z.past) (z3 : z.role.size ≤ 140737488351232) :
    ACall Try.prog 6 [.agg (deaC x kb kc fb fc).toArray, .agg (evtC y ab ac).toArray, .agg (sbsC z).toArray] H R := by
  apply f6_call
  unfold f6_B
  refine wNew_at (wNew_at (wNew_at ?_))
  have s : L3 H (((H.push (.row (deaC x kb kc fb fc) 0)).push (.row (evtC y ab ac) 0)).push (.row (sbsC z) 0)) H.next (H.push (.row (deaC x kb kc fb fc) 0)).next ((H.push (.row (deaC x kb kc fb fc) 0)).push (.row (evtC y ab ac) 0)).next (deaC x kb kc fb fc) (evtC y ab ac) (sbsC z) :=
    ⟨((Has.new _ _).push _).push _, (Has.new _ _).push _, Has.new _ _, (((Fr.refl [] H).push _).push _).push _⟩
  generalize ((H.push (.row (deaC x kb kc fb fc) 0)).push (.row (evtC y ab ac) 0)).push (.row (sbsC z) 0) = H1 at s ⊢
  generalize ((H.push (.row (deaC x kb kc fb fc) 0)).push (.row (evtC y ab ac) 0)).next = q3 at s ⊢
  generalize (H.push (.row (deaC x kb kc fb fc) 0)).next = q2 at s ⊢
  generalize H.next = q1 at s ⊢
  refine L3.aw s (fun H2 s => opB_at (wIf_f rfl ?_))
  refine ldI_at s.ha rfl (ldS_at s.ha rfl (ldL_at s.ha rfl (ldL_at s.ha rfl (wBs_at ?_))))
  have hbs := Has.new H2 (.row (maiC x.mail kb kc fb fc) 4)
  have fbs : Fr [] H2 (H2.push (.row (maiC x.mail kb kc fb fc) 4)) := (Fr.refl [] H2).push _
  replace s := s.fr1 fbs
  generalize H2.push (.row (maiC x.mail kb kc fb fc) 4) = H3 at s hbs ⊢
  generalize H2.next = q4 at hbs ⊢
  have hdead : ∀ H', L3 H H' q1 q2 q3 (deaC x kb kc fb fc) (evtC y ab ac) (sbsC z) → wCall Try.prog 10 [] H' (fun r1995 H1996 => opB r1995 fun b1999 => R (.ret (.bool b1999)) H1996) (fun v1998 H1997 => R (.panic v1998) H1997) := fun H' s => L3.aw s (fun H'' s => opB_at (hT _))
  refine wCall_of (few_call [x.mail] (BIs.one hbs (hm.fr s.fr)) (by simp) (fun H4 f4 => opB_at ?_))
  replace s := s.fr1 f4
  refine wIf_n (fun e => ?_) (fun hfm => ?_)
  · rw [f6_J0_eq]; unfold f6_J0_B
    exact wIf_t rfl (hdead _ s)
  replace hml := hml.few (hfm x.mail (by simp)).2.1 (hfm x.mail (by simp)).2.2
  clear hfm f4 fbs hbs
  refine ldL_at s.hb rfl ?_
  rw [f6_J0_eq]; unfold f6_J0_B
  refine wIf_d (fun e => hdead _ s) (fun hct => ?_)
  rw [f6_J1_eq]; unfold f6_J1_B
  have hes : ELs y := ⟨hel.name, hel.typ, hel.state, by omega, hel.vals⟩
  clear hdead hct hel
  repeat' (first
    | exact hT _
    | (with_reducible refine And.intro ?_ ?_)
    | (with_reducible refine wPt_at ?_)
    | (with_reducible refine ldI_at s.ha rfl ?_)
    | (with_reducible refine ldS_at s.ha rfl ?_)
    | (with_reducible refine ldL_at s.ha rfl ?_)
    | (with_reducible refine ldI_at s.hb rfl ?_)
    | (with_reducible refine ldS_at s.hb rfl ?_)
    | (with_reducible refine ldL_at s.hb rfl ?_)
    | (with_reducible refine ldI_at s.hc rfl ?_)
    | (with_reducible refine ldS_at s.hc rfl ?_)
    | (with_reducible refine ldL_at s.hc rfl ?_)
    | (with_reducible refine opS_at ?_)
    | (with_reducible refine opB_at ?_)
    | (with_reducible refine L3.ckd s ?_)
    | (with_reducible refine L3.cke s ?_)
    | (with_reducible refine L3.cks s ?_)
    | ((with_reducible refine L3.pd s hn hm (fun Hx s => ?_)); refine opT_at rfl (opS_at (opI_at ?_)))
    | ((with_reducible refine L3.pe s e1 e2 e3 ha (fun Hx s => ?_)); refine opT_at rfl (opS_at (opI_at ?_)))
    | ((with_reducible refine L3.ps s z1 z2 (fun Hx s => ?_)); refine opT_at rfl (opS_at (opI_at ?_)))
    | (with_reducible refine L3.aw s (fun Hx s => ?_))
    | (with_reducible refine L3.rd s hn hm hml (fun Hx s => ?_))
    | (with_reducible refine L3.okd s hm (fun Hx s => ?_))
    | (with_reducible refine L3.re s e1 e2 e3 ha hes (fun Hx s => ?_))
    | (with_reducible refine L3.oke s ha (fun Hx s => ?_))
    | (with_reducible refine L3.rs s z1 z2 z3 (fun Hx s => ?_))
    | (with_reducible refine L3.oks s (fun Hx s => ?_))
    | (with_reducible refine wIf_t (b := true) rfl ?_)
    | (with_reducible refine wIf_f (b := !true) rfl ?_))
end
theorem codeKeeps_law (H : AH) (a0 : List Value) (d0 : List CD) (l0 : Lies H d0 a0) (k0 : Kds DK d0) (a1 : List Value) (d1 : List CD) (l1 : Lies H d1 a1) (k1 : Kds EK d1) (a2 : List Value) (d2 : List CD) (l2 : Lies H d2 a2) (k2 : Kds SK3 d2) :
    ACall Try.prog 6 [.agg a0.toArray, .agg a1.toArray, .agg a2.toArray] H AllTrue := by
  obtain ⟨x, kb, kc, fb, fc, rfl, hn, hm, hml⟩ := deaC_of l0 k0
  obtain ⟨y, ab, ac, rfl, e1, e2, e3, ha, hel⟩ := evtC_of l1 k1
  obtain ⟨z, rfl, z1, z2, z3⟩ := sbsC_of l2 k2
  exact keeps_walk (fun _ => rfl) x y z hn hm hml e1 e2 e3 ha hel z1 z2 z3
end Go.Proofs.Ytfghglacfjncmaa
