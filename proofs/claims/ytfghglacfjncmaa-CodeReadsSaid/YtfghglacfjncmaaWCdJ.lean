/- Boxes of what came in. -/
import Derived.Test.YtfghglacfjncmaaWCdH
namespace Go.Proofs.Ytfghglacfjncmaa
set_option linter.unusedVariables false
set_option linter.unusedSimpArgs false
open Go.RowKit

/-- Three boxes, over memory that stays. -/
structure L3 (H0 H : AH) (a b c : Nat) (A B C : List Value) : Prop where
  ha : Has H a (.row A 0)
  hb : Has H b (.row B 0)
  hc : Has H c (.row C 0)
  fr : Fr [] H0 H
theorem L3.fr1 {H0 H H' : AH} {a b c : Nat} {A B C : List Value} (s : L3 H0 H a b c A B C) (f : Fr [] H H') : L3 H0 H' a b c A B C := ⟨s.ha.fr f (by simp), s.hb.fr f (by simp), s.hc.fr f (by simp), s.fr.trans f⟩
abbrev valC (v : Val) (b : Option Addr) (c : Nat) : List Value := [.int .i64 v.kind, .int .i64 v.num, .string v.text, .slice b v.list.length c]
abbrev maiC (m : Mai) (kb : Option Addr) (kc : Nat) (fb : Option Addr) (fc : Nat) : List Value := [.int .i64 m.id, .string m.chan, .slice kb m.key.length kc, .slice fb m.fields.length fc]
abbrev deaC (x : Dea) (kb : Option Addr) (kc : Nat) (fb : Option Addr) (fc : Nat) : List Value := [.int .i64 x.n, .int .i64 x.mail.id, .string x.mail.chan, .slice kb x.mail.key.length kc, .slice fb x.mail.fields.length fc, .int .i64 x.reason]
abbrev evtC (x : Evt) (ab : Option Addr) (ac : Nat) : List Value := [.int .i64 x.n, .int .i64 x.tick, .string x.name, .int .i64 x.item, .string x.typ, .string x.state, .slice ab x.attrs.length ac]
abbrev sbsC (x : Sbs) : List Value := [.int .i64 x.id, .string x.role, .int .i64 x.past]
theorem BIs.one {H : AH} {i : Nat} {m : Mai} {kb fb : Option Addr} {kc fc : Nat} (h : Has H i (.row (maiC m kb kc fb fc) 4)) (hm : MIs H m kb fb) : BIs H (some ⟨i, 0, none⟩) [m] :=
  ⟨i, maiC m kb kc fb fc, ⟨rfl, fun _ => ⟨rfl, .inr h⟩⟩, fun k hk => by
    match k, hk with
    | 0, _ => exact ⟨kb, kc, fb, fc, rfl, rfl, rfl, rfl, hm⟩⟩
section
variable {H0 H : AH} {a b c : Nat} {A B C : List Value} {K : Value → AH → Prop} {P : Value → AH → Prop}
end
end Go.Proofs.Ytfghglacfjncmaa
