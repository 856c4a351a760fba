/- Boxes of what came in. -/
import Derived.Test.YtfghglacfjncmaaWCdH
namespace Go.Proofs.Ytfghglacfjncmaa
set_option linter.unusedVariables false
set_option linter.unusedSimpArgs false
open Go.RowKit

/-- Three boxes, over memory that stays. -/
structure L3 (H0 H : AH) (a b c : Nat) (A B C : List Value) : Prop where
  ha : Has H a (.row A 0)
  hb : Has H b (.row B 0)
  hc : Has H c (.row C 0)
  fr : Fr [] H0 H
theorem L3.fr1 {H0 H H' : AH} {a b c : Nat} {A B C : List Value} (s : L3 H0 H a b c A B C) (f : Fr [] H H') : L3 H0 H' a b c A B C := ⟨s.ha.fr f (by simp), s.hb.fr f (by simp), s.hc.fr f (by simp), s.fr.trans f⟩
abbrev valC (v : Val) (b : Option Addr) (c : Nat) : List Value := [.int .i64 v.kind, .int .i64 v.num, .string v.text, .slice b v.list.length c]
abbrev maiC (m : Mai) (kb : Option Addr) (kc : Nat) (fb : Option Addr) (fc : Nat) : List Value := [.int .i64 m.id, .string m.chan, .slice kb m.key.length kc, .slice fb m.fields.length fc]
abbrev iteC (x : Ite) (ab : Option Addr) (ac : Nat) (cb : Option Addr) (cc : Nat) (bb : Option Addr) (bc : Nat) : List Value := [.int .i64 x.id, .string x.typ, .string x.state, .int .i64 x.since, .slice ab x.attrs.length ac, .slice cb x.counts.length cc, .slice bb x.box.length bc]
abbrev deaC (x : Dea) (kb : Option Addr) (kc : Nat) (fb : Option Addr) (fc : Nat) : List Value := [.int .i64 x.n, .int .i64 x.mail.id, .string x.mail.chan, .slice kb x.mail.key.length kc, .slice fb x.mail.fields.length fc, .int .i64 x.reason]
abbrev evtC (x : Evt) (ab : Option Addr) (ac : Nat) : List Value := [.int .i64 x.n, .int .i64 x.tick, .string x.name, .int .i64 x.item, .string x.typ, .string x.state, .slice ab x.attrs.length ac]
abbrev sbsC (x : Sbs) : List Value := [.int .i64 x.id, .string x.role, .int .i64 x.past]
theorem put_callD {H : AH} {R : AEnd → AH → Prop} {p : Prop} [Decidable p] {l : List UInt8} {r : Option (List UInt8)} (hr : r = if p then some l else none) (h : R (.ret (.bool true)) H) : ACall Try.prog 25 [.string (putS r), .int .i64 (putE r), .string (ofL l), .bool (decide p)] H R :=
  put_call (by rw [hr]; by_cases e : p <;> simp [e]) h
theorem BIs.one {H : AH} {i : Nat} {m : Mai} {kb fb : Option Addr} {kc fc : Nat} (h : Has H i (.row (maiC m kb kc fb fc) 4)) (hm : MIs H m kb fb) : BIs H (some ⟨i, 0, none⟩) [m] :=
  ⟨i, maiC m kb kc fb fc, ⟨rfl, fun _ => ⟨rfl, .inr h⟩⟩, fun k hk => by
    match k, hk with
    | 0, _ => exact ⟨kb, kc, fb, fc, rfl, rfl, rfl, rfl, hm⟩⟩
section
variable {H0 H : AH} {a b c : Nat} {A B C : List Value} {K : Value → AH → Prop} {P : Value → AH → Prop}
theorem L3.aw (s : L3 H0 H a b c A B C) (h : ∀ H', L3 H0 H' a b c A B C → K (.bool true) H') : wCall Try.prog 10 [] H K P := wCall_of (awake_call fun H' f => h H' (s.fr1 f))
end
theorem valC_of {H : AH} {a : List Value} {d : List CD} (l : Lies H d a) (k : Kds VK d) : ∃ v b c, a = valC v b c ∧ VIs H v b ∧ VLs v := by
  obtain ⟨v, b, c, g0, g1, g2, g3, h1, h2⟩ := val_of (Cl.of_lies l k)
  exact ⟨v, b, c, list_of (n := 4) (l.len.symm.trans k.len) _ rfl (fun k hk => by
    match k, hk with
    | 0, _ => exact g0
    | 1, _ => exact g1
    | 2, _ => exact g2
    | 3, _ => exact g3), h1, h2⟩
theorem maiC_of {H : AH} {a : List Value} {d : List CD} (l : Lies H d a) (k : Kds MK d) : ∃ m kb kc fb fc, a = maiC m kb kc fb fc ∧ MIs H m kb fb ∧ MLw m := by
  obtain ⟨m, kb, kc, fb, fc, g0, g1, g2, g3, h1, h2⟩ := mail_of (Cl.of_lies l k)
  exact ⟨m, kb, kc, fb, fc, list_of (n := 4) (l.len.symm.trans k.len) _ rfl (fun k hk => by
    match k, hk with
    | 0, _ => exact g0
    | 1, _ => exact g1
    | 2, _ => exact g2
    | 3, _ => exact g3), h1, h2⟩
theorem iteC_of {H : AH} {a : List Value} {d : List CD} (l : Lies H d a) (k : Kds IK d) : ∃ x ab ac cb cc bb bc, a = iteC x ab ac cb cc bb bc ∧ IIs H x ab cb bb ∧ ILw x := by
  obtain ⟨x, ab, ac, cb, cc, bb, bc, g0, g1, g2, g3, g4, g5, g6, h1, h2⟩ := item_of (Cl.of_lies l k)
  exact ⟨x, ab, ac, cb, cc, bb, bc, list_of (n := 7) (l.len.symm.trans k.len) _ rfl (fun k hk => by
    match k, hk with
    | 0, _ => exact g0
    | 1, _ => exact g1
    | 2, _ => exact g2
    | 3, _ => exact g3
    | 4, _ => exact g4
    | 5, _ => exact g5
    | 6, _ => exact g6), h1, h2⟩
theorem deaC_of {H : AH} {a : List Value} {d : List CD} (l : Lies H d a) (k : Kds DK d) : ∃ x kb kc fb fc, a = deaC x kb kc fb fc ∧ i64ok x.n ∧ MIs H x.mail kb fb ∧ MLw x.mail := by
  obtain ⟨x, kb, kc, fb, fc, g0, g1, g2, g3, g4, g5, h0, h1, h2⟩ := dead_of (Cl.of_lies l k)
  exact ⟨x, kb, kc, fb, fc, list_of (n := 6) (l.len.symm.trans k.len) _ rfl (fun k hk => by
    match k, hk with
    | 0, _ => exact g0
    | 1, _ => exact g1
    | 2, _ => exact g2
    | 3, _ => exact g3
    | 4, _ => exact g4
    | 5, _ => exact g5), h0, h1, h2⟩
theorem evtC_of {H : AH} {a : List Value} {d : List CD} (l : Lies H d a) (k : Kds EK d) : ∃ x ab ac, a = evtC x ab ac ∧ i64ok x.n ∧ i64ok x.tick ∧ i64ok x.item ∧ RIs H ab x.attrs ∧ ELw x := by
  obtain ⟨x, ab, ac, g0, g1, g2, g3, g4, g5, g6, h1⟩ := event_of (Cl.of_lies l k)
  exact ⟨x, ab, ac, list_of (n := 7) (l.len.symm.trans k.len) _ rfl (fun k hk => by
    match k, hk with
    | 0, _ => exact g0
    | 1, _ => exact g1
    | 2, _ => exact g2
    | 3, _ => exact g3
    | 4, _ => exact g4
    | 5, _ => exact g5
    | 6, _ => exact g6), h1⟩
theorem sbsC_of {H : AH} {a : List Value} {d : List CD} (l : Lies H d a) (k : Kds SK3 d) : ∃ x, a = sbsC x ∧ i64ok x.id ∧ i64ok x.past ∧ x.role.size ≤ 140737488351232 := by
  obtain ⟨x, g0, g1, g2, h1⟩ := sub_of (Cl.of_lies l k)
  exact ⟨x, list_of (n := 3) (l.len.symm.trans k.len) _ rfl (fun k hk => by
    match k, hk with
    | 0, _ => exact g0
    | 1, _ => exact g1
    | 2, _ => exact g2), h1⟩
end Go.Proofs.Ytfghglacfjncmaa
