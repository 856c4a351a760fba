/- CodePuts: the law. -/
import Derived.Test.YtfghglacfjncmaaWCdH
import Derived.Test.YtfghglacfjncmaaWGenKa
namespace Go.Proofs.Ytfghglacfjncmaa
set_option linter.unusedVariables false
set_option linter.unusedSimpArgs false
open Go.RowKit

/-- Three boxes, over memory that stays. -/
structure L3 (H0 H : AH) (a b c : Nat) (A B C : List Value) : Prop where
  ha : Has H a (.row A 0)
  hb : Has H b (.row B 0)
  hc : Has H c (.row C 0)
  fr : Fr [] H0 H
theorem L3.fr1 {H0 H H' : AH} {a b c : Nat} {A B C : List Value} (s : L3 H0 H a b c A B C) (f : Fr [] H H') : L3 H0 H' a b c A B C := ⟨s.ha.fr f (by simp), s.hb.fr f (by simp), s.hc.fr f (by simp), s.fr.trans f⟩
abbrev valC (v : Val) (b : Option Addr) (c : Nat) : List Value := [.int .i64 v.kind, .int .i64 v.num, .string v.text, .slice b v.list.length c]
abbrev maiC (m : Mai) (kb : Option Addr) (kc : Nat) (fb : Option Addr) (fc : Nat) : List Value := [.int .i64 m.id, .string m.chan, .slice kb m.key.length kc, .slice fb m.fields.length fc]
abbrev iteC (x : Ite) (ab : Option Addr) (ac : Nat) (cb : Option Addr) (cc : Nat) (bb : Option Addr) (bc : Nat) : List Value := [.int .i64 x.id, .string x.typ, .string x.state, .int .i64 x.since, .slice ab x.attrs.length ac, .slice cb x.counts.length cc, .slice bb x.box.length bc]
abbrev deaC (x : Dea) (kb : Option Addr) (kc : Nat) (fb : Option Addr) (fc : Nat) : List Value := [.int .i64 x.n, .int .i64 x.mail.id, .string x.mail.chan, .slice kb x.mail.key.length kc, .slice fb x.mail.fields.length fc, .int .i64 x.reason]
abbrev evtC (x : Evt) (ab : Option Addr) (ac : Nat) : List Value := [.int .i64 x.n, .int .i64 x.tick, .string x.name, .int .i64 x.item, .string x.typ, .string x.state, .slice ab x.attrs.length ac]
abbrev sbsC (x : Sbs) : List Value := [.int .i64 x.id, .string x.role, .int .i64 x.past]
theorem put_callD {H : AH} {R : AEnd → AH → Prop} {p : Prop} [Decidable p] {l : List UInt8} {r : Option (List UInt8)} (hr : r = if p then some l else none) (h : R (.ret (.bool true)) H) : ACall Try.prog 25 [.string (putS r), .int .i64 (putE r), .string (ofL l), .bool (decide p)] H R :=
  put_call (by rw [hr]; by_cases e : p <;> simp [e]) h
theorem BIs.one {H : AH} {i : Nat} {m : Mai} {kb fb : Option Addr} {kc fc : Nat} (h : Has H i (.row (maiC m kb kc fb fc) 4)) (hm : MIs H m kb fb) : BIs H (some ⟨i, 0, none⟩) [m] :=
  ⟨i, maiC m kb kc fb fc, ⟨rfl, fun _ => ⟨rfl, .inr h⟩⟩, fun k hk => by
    match k, hk with
    | 0, _ => exact ⟨kb, kc, fb, fc, rfl, rfl, rfl, rfl, hm⟩⟩
section
variable {H0 H : AH} {a b c : Nat} {A B C : List Value} {K : Value → AH → Prop} {P : Value → AH → Prop}
theorem L3.aw (s : L3 H0 H a b c A B C) (h : ∀ H', L3 H0 H' a b c A B C → K (.bool true) H') : wCall Try.prog 10 [] H K P := wCall_of (awake_call fun H' f => h H' (s.fr1 f))
theorem L3.pv (s : L3 H0 H a b c A B C) {v : Val} {vb : Option Addr} {vc : Nat} (hv : VIs H0 v vb) (h : ∀ H', L3 H0 H' a b c A B C → K (PutV (valP v)) H') : wCall Try.prog 12 [.agg #[.int .i64 v.kind, .int .i64 v.num, .string v.text, .slice vb v.list.length vc]] H K P :=
  wCall_of (xputv_call v (hv.fr s.fr) fun H' f => h H' (s.fr1 f))
theorem L3.rv (s : L3 H0 H a b c A B C) {v : Val} {vb : Option Addr} {vc : Nat} (hv : VIs H0 v vb) (hs : VLs v) (h : ∀ H', L3 H0 H' a b c A B C → K (.string (ofL (refV v))) H') : wCall Try.prog 26 [.agg #[.int .i64 v.kind, .int .i64 v.num, .string v.text, .slice vb v.list.length vc]] H K P :=
  wCall_of (refvalue_call v (hv.fr s.fr) hs fun H' f => h H' (s.fr1 f))
theorem L3.okv (s : L3 H0 H a b c A B C) {v : Val} {vb : Option Addr} {vc : Nat} (h : ∀ H', L3 H0 H' a b c A B C → K (.bool (rightV v)) H') : wCall Try.prog 27 [.agg #[.int .i64 v.kind, .int .i64 v.num, .string v.text, .slice vb v.list.length vc]] H K P :=
  wCall_of (rright_call v vb vc fun H' f => h H' (s.fr1 f))
theorem L3.ckv (s : L3 H0 H a b c A B C) {v : Val} (h : K (.bool true) H) : wCall Try.prog 25 [.string (putS (valP v)), .int .i64 (putE (valP v)), .string (ofL (refV v)), .bool (rightV v)] H K P :=
  wCall_of (put_call (valP_ref v) h)
theorem L3.pm (s : L3 H0 H a b c A B C) {m : Mai} {kb fb : Option Addr} {kc fc : Nat} (hm : MIs H0 m kb fb) (h : ∀ H', L3 H0 H' a b c A B C → K (PutV (mailP m)) H') : wCall Try.prog 13 [.agg #[.int .i64 m.id, .string m.chan, .slice kb m.key.length kc, .slice fb m.fields.length fc]] H K P :=
  wCall_of (xputm_call m (hm.fr s.fr) fun H' f => h H' (s.fr1 f))
theorem L3.rm (s : L3 H0 H a b c A B C) {m : Mai} {kb fb : Option Addr} {kc fc : Nat} (hm : MIs H0 m kb fb) (hs : MLs m) (h : ∀ H', L3 H0 H' a b c A B C → K (.string (ofL (refMail m))) H') : wCall Try.prog 28 [.agg #[.int .i64 m.id, .string m.chan, .slice kb m.key.length kc, .slice fb m.fields.length fc]] H K P :=
  wCall_of (refmail_call m (hm.fr s.fr) hs fun H' f => h H' (s.fr1 f))
theorem L3.okm (s : L3 H0 H a b c A B C) {m : Mai} {kb fb : Option Addr} {kc fc : Nat} (hm : MIs H0 m kb fb) (h : ∀ H', L3 H0 H' a b c A B C → K (.bool (decide (mailOK m))) H') : wCall Try.prog 29 [.agg #[.int .i64 m.id, .string m.chan, .slice kb m.key.length kc, .slice fb m.fields.length fc]] H K P :=
  wCall_of (rightmail_call m (hm.fr s.fr) fun H' f => h H' (s.fr1 f))
theorem L3.ckm (s : L3 H0 H a b c A B C) {m : Mai} (h : K (.bool true) H) : wCall Try.prog 25 [.string (putS (mailP m)), .int .i64 (putE (mailP m)), .string (ofL (refMail m)), .bool (decide (mailOK m))] H K P :=
  wCall_of (put_callD (mailP_ref m) h)
theorem L3.pi (s : L3 H0 H a b c A B C) {x : Ite} {ab cb bb : Option Addr} {ac cc bc : Nat} (hx : IIs H0 x ab cb bb) (h : ∀ H', L3 H0 H' a b c A B C → K (PutV (itemP x)) H') : wCall Try.prog 24 [.agg #[.int .i64 x.id, .string x.typ, .string x.state, .int .i64 x.since, .slice ab x.attrs.length ac, .slice cb x.counts.length cc, .slice bb x.box.length bc]] H K P :=
  wCall_of (xputi_call x (hx.fr s.fr) fun H' f => h H' (s.fr1 f))
theorem L3.ri (s : L3 H0 H a b c A B C) {x : Ite} {ab cb bb : Option Addr} {ac cc bc : Nat} (hx : IIs H0 x ab cb bb) (hs : ILs x) (h : ∀ H', L3 H0 H' a b c A B C → K (.string (ofL (refItem x))) H') : wCall Try.prog 30 [.agg #[.int .i64 x.id, .string x.typ, .string x.state, .int .i64 x.since, .slice ab x.attrs.length ac, .slice cb x.counts.length cc, .slice bb x.box.length bc]] H K P :=
  wCall_of (refitem_call x (hx.fr s.fr) hs fun H' f => h H' (s.fr1 f))
theorem L3.oki (s : L3 H0 H a b c A B C) {x : Ite} {ab cb bb : Option Addr} {ac cc bc : Nat} (hx : IIs H0 x ab cb bb) (h : ∀ H', L3 H0 H' a b c A B C → K (.bool (decide (itemOK x))) H') : wCall Try.prog 31 [.agg #[.int .i64 x.id, .string x.typ, .string x.state, .int .i64 x.since, .slice ab x.attrs.length ac, .slice cb x.counts.length cc, .slice bb x.box.length bc]] H K P :=
  wCall_of (rightitem_call x (hx.fr s.fr) fun H' f => h H' (s.fr1 f))
theorem L3.cki (s : L3 H0 H a b c A B C) {x : Ite} (h : K (.bool true) H) : wCall Try.prog 25 [.string (putS (itemP x)), .int .i64 (putE (itemP x)), .string (ofL (refItem x)), .bool (decide (itemOK x))] H K P :=
  wCall_of (put_callD (itemP_ref x) h)
end
section
variable {H : AH} {R : AEnd → AH → Prop}
set_option maxRecDepth 20000 in
set_option maxHeartbeats 16000000 in
theorem puts_walk (hT : ∀ H', R (.ret (.bool true)) H') (v : Val) (m : Mai) (x : Ite) {vb kb fb ab cb bb : Option Addr} {vc kc fc ac cc bc : Nat} (hv : VIs H v vb) (hvl : VLs v) (hm : MIs H m kb fb) (hml : MLw m) (hx : IIs H x ab cb bb) (hxl : ILw x) :
    ACall Try.prog 5 [.agg (valC v vb vc).toArray, .agg (maiC m kb kc fb fc).toArray, .agg (iteC x ab ac cb cc bb bc).toArray] H R := by
  apply f5_call
  unfold f5_B
  refine wNew_at (wNew_at (wNew_at ?_))
  have s : L3 H (((H.push (.row (valC v vb vc) 0)).push (.row (maiC m kb kc fb fc) 0)).push (.row (iteC x ab ac cb cc bb bc) 0)) H.next (H.push (.row (valC v vb vc) 0)).next ((H.push (.row (valC v vb vc) 0)).push (.row (maiC m kb kc fb fc) 0)).next (valC v vb vc) (maiC m kb kc fb fc) (iteC x ab ac cb cc bb bc) :=
    ⟨((Has.new _ _).push _).push _, (Has.new _ _).push _, Has.new _ _, (((Fr.refl [] H).push _).push _).push _⟩
  generalize ((H.push (.row (valC v vb vc) 0)).push (.row (maiC m kb kc fb fc) 0)).push (.row (iteC x ab ac cb cc bb bc) 0) = H1 at s ⊢
  generalize ((H.push (.row (valC v vb vc) 0)).push (.row (maiC m kb kc fb fc) 0)).next = q3 at s ⊢
  generalize (H.push (.row (valC v vb vc) 0)).next = q2 at s ⊢
  generalize H.next = q1 at s ⊢
  refine L3.aw s (fun H2 s => opB_at (wIf_f rfl ?_))
  refine ldI_at s.hb rfl (ldS_at s.hb rfl (ldL_at s.hb rfl (ldL_at s.hb rfl (wBs_at ?_))))
  have hbs := Has.new H2 (.row (maiC m kb kc fb fc) 4)
  have fbs : Fr [] H2 (H2.push (.row (maiC m kb kc fb fc) 4)) := (Fr.refl [] H2).push _
  replace s := s.fr1 fbs
  generalize H2.push (.row (maiC m kb kc fb fc) 4) = H3 at s hbs ⊢
  generalize H2.next = q4 at hbs ⊢
  have hdead : ∀ H', L3 H H' q1 q2 q3 (valC v vb vc) (maiC m kb kc fb fc) (iteC x ab ac cb cc bb bc) → wCall Try.prog 10 [] H' (fun r1995 H1996 => opB r1995 fun b1999 => R (.ret (.bool b1999)) H1996) (fun v1998 H1997 => R (.panic v1998) H1997) := fun H' s => L3.aw s (fun H'' s => opB_at (hT _))
  refine wCall_of (few_call [m] (BIs.one hbs (hm.fr s.fr)) (by simp) (fun H4 f4 => opB_at ?_))
  replace s := s.fr1 f4
  refine wIf_n (fun e => ?_) (fun hfm => ?_)
  · rw [f5_J0_eq]; unfold f5_J0_B
    exact wIf_t rfl (hdead _ s)
  replace hml := hml.few (hfm m (by simp)).2.1 (hfm m (by simp)).2.2
  clear hfm f4 fbs hbs
  refine ldL_at s.hc rfl (wCall_of (few_call x.box (hx.box.fr s.fr) (by have := hxl.box; omega) (fun H5 f5 => opB_at ?_)))
  replace s := s.fr1 f5
  have main : (x.box.length ≤ 4096 → fewOK x.box) → x.attrs.length ≤ 40 → x.counts.length ≤ 40 → ∀ (K : Prop), (∀ (hbig : (x.box.length : Int) > 4096 → putE (itemP x) = 4), (¬ (x.box.length : Int) > 4096 → ILs x) → K) → K := by
    intro h1 h2 h3 K hK
    refine hK (fun e => ?_) (fun e => ?_)
    · rw [itemP_ref, if_neg (fun y => by have := y.2.2.2.2.1; omega)]; rfl
    · have hf := h1 (by omega)
      refine ⟨hxl.typ, hxl.state, h2, hxl.vals, h3, ?_, fun m hm => (hxl.mails m hm).few (hf m hm).2.1 (hf m hm).2.2⟩
      cases hb : x.box with
      | nil => simp
      | cons y l => rw [← hb]; exact (hf y (by rw [hb]; simp)).1
  refine wIf_n (fun e => ?_) (fun hfb => ?_)
  refine ldL_at s.hc rfl (wIf_d (fun e => ?_) (fun hbg => ?_))
  · rw [f5_J0_eq]; unfold f5_J0_B
    exact wIf_t rfl (hdead _ s)
  replace main := main (fun y => by omega)
  rotate_left
  replace main := main (fun _ => hfb)
  all_goals
    refine ldL_at s.hc rfl (wIf_d (fun e => ?_) (fun hat => ?_))
    · rw [f5_J0_eq]; unfold f5_J0_B
      exact wIf_t rfl (hdead _ s)
    refine ldL_at s.hc rfl ?_
    rw [f5_J0_eq]; unfold f5_J0_B
    refine wIf_d (fun e => hdead _ s) (fun hct => ?_)
    rw [f5_J1_eq]; unfold f5_J1_B
    refine main (by omega) (by omega) _ (fun hbig hil => ?_)
    clear main hdead hat hct
    repeat' (first
      | exact hT _
      | (with_reducible refine And.intro ?_ ?_)
      | (with_reducible refine wPt_at ?_)
      | (with_reducible refine ldI_at s.ha rfl ?_)
      | (with_reducible refine ldS_at s.ha rfl ?_)
      | (with_reducible refine ldL_at s.ha rfl ?_)
      | (with_reducible refine ldI_at s.hb rfl ?_)
      | (with_reducible refine ldS_at s.hb rfl ?_)
      | (with_reducible refine ldL_at s.hb rfl ?_)
      | (with_reducible refine ldI_at s.hc rfl ?_)
      | (with_reducible refine ldS_at s.hc rfl ?_)
      | (with_reducible refine ldL_at s.hc rfl ?_)
      | (with_reducible refine opS_at ?_)
      | (with_reducible refine opB_at ?_)
      | (with_reducible refine L3.ckv s ?_)
      | (with_reducible refine L3.ckm s ?_)
      | (with_reducible refine L3.cki s ?_)
      | ((with_reducible refine L3.pv s hv (fun Hx s => ?_)); refine opT_at rfl (opS_at (opI_at ?_)))
      | ((with_reducible refine L3.pm s hm (fun Hx s => ?_)); refine opT_at rfl (opS_at (opI_at ?_)))
      | ((with_reducible refine L3.pi s hx (fun Hx s => ?_)); refine opT_at rfl (opS_at (opI_at ?_)))
      | (with_reducible refine L3.aw s (fun Hx s => ?_))
      | (with_reducible refine L3.rv s hv hvl (fun Hx s => ?_))
      | (with_reducible refine L3.okv s (fun Hx s => ?_))
      | (with_reducible refine L3.rm s hm hml (fun Hx s => ?_))
      | (with_reducible refine L3.okm s hm (fun Hx s => ?_))
      | (with_reducible refine L3.ri s hx (hil (by omega)) (fun Hx s => ?_))
      | (with_reducible refine L3.oki s hx (fun Hx s => ?_))
      | (with_reducible refine wIf_t (b := true) rfl ?_)
      | (with_reducible refine wIf_f (b := !true) rfl ?_)
      | ((with_reducible refine wIf_d (fun e => ?_) (fun e => ?_)) <;> try (exfalso; omega)))
end
end Go.Proofs.Ytfghglacfjncmaa
