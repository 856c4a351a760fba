/- CodePuts: the law, over what came in. -/
import Derived.Test.YtfghglacfjncmaaWCodAA
namespace Go.Proofs.Ytfghglacfjncmaa
set_option linter.unusedVariables false
open Go.RowKit
theorem valC_of {H : AH} {a : List Value} {d : List CD} (l : Lies H d a) (k : Kds VK d) : ∃ v b c, a = valC v b c ∧ VIs H v b ∧ VLs v := by
  obtain ⟨v, b, c, g0, g1, g2, g3, h1, h2⟩ := val_of (Cl.of_lies l k)
  exact ⟨v, b, c, list_of (n := 4) (l.len.symm.trans k.len) _ rfl (fun k hk => by
    match k, hk with
    | 0, _ => exact g0
    | 1, _ => exact g1
    | 2, _ => exact g2
    | 3, _ => exact g3), h1, h2⟩
theorem maiC_of {H : AH} {a : List Value} {d : List CD} (l : Lies H d a) (k : Kds MK d) : ∃ m kb kc fb fc, a = maiC m kb kc fb fc ∧ MIs H m kb fb ∧ MLw m := by
  obtain ⟨m, kb, kc, fb, fc, g0, g1, g2, g3, h1, h2⟩ := mail_of (Cl.of_lies l k)
  exact ⟨m, kb, kc, fb, fc, list_of (n := 4) (l.len.symm.trans k.len) _ rfl (fun k hk => by
    match k, hk with
    | 0, _ => exact g0
    | 1, _ => exact g1
    | 2, _ => exact g2
    | 3, _ => exact g3), h1, h2⟩
theorem iteC_of {H : AH} {a : List Value} {d : List CD} (l : Lies H d a) (k : Kds IK d) : ∃ x ab ac cb cc bb bc, a = iteC x ab ac cb cc bb bc ∧ IIs H x ab cb bb ∧ ILw x := by
  obtain ⟨x, ab, ac, cb, cc, bb, bc, g0, g1, g2, g3, g4, g5, g6, h1, h2⟩ := item_of (Cl.of_lies l k)
  exact ⟨x, ab, ac, cb, cc, bb, bc, list_of (n := 7) (l.len.symm.trans k.len) _ rfl (fun k hk => by
    match k, hk with
    | 0, _ => exact g0
    | 1, _ => exact g1
    | 2, _ => exact g2
    | 3, _ => exact g3
    | 4, _ => exact g4
    | 5, _ => exact g5
    | 6, _ => exact g6), h1, h2⟩
theorem deaC_of {H : AH} {a : List Value} {d : List CD} (l : Lies H d a) (k : Kds DK d) : ∃ x kb kc fb fc, a = deaC x kb kc fb fc ∧ i64ok x.n ∧ MIs H x.mail kb fb ∧ MLw x.mail := by
  obtain ⟨x, kb, kc, fb, fc, g0, g1, g2, g3, g4, g5, h0, h1, h2⟩ := dead_of (Cl.of_lies l k)
  exact ⟨x, kb, kc, fb, fc, list_of (n := 6) (l.len.symm.trans k.len) _ rfl (fun k hk => by
    match k, hk with
    | 0, _ => exact g0
    | 1, _ => exact g1
    | 2, _ => exact g2
    | 3, _ => exact g3
    | 4, _ => exact g4
    | 5, _ => exact g5), h0, h1, h2⟩
theorem evtC_of {H : AH} {a : List Value} {d : List CD} (l : Lies H d a) (k : Kds EK d) : ∃ x ab ac, a = evtC x ab ac ∧ i64ok x.n ∧ i64ok x.tick ∧ i64ok x.item ∧ RIs H ab x.attrs ∧ ELw x := by
  obtain ⟨x, ab, ac, g0, g1, g2, g3, g4, g5, g6, h1⟩ := event_of (Cl.of_lies l k)
  exact ⟨x, ab, ac, list_of (n := 7) (l.len.symm.trans k.len) _ rfl (fun k hk => by
    match k, hk with
    | 0, _ => exact g0
    | 1, _ => exact g1
    | 2, _ => exact g2
    | 3, _ => exact g3
    | 4, _ => exact g4
    | 5, _ => exact g5
    | 6, _ => exact g6), h1⟩
theorem sbsC_of {H : AH} {a : List Value} {d : List CD} (l : Lies H d a) (k : Kds SK3 d) : ∃ x, a = sbsC x ∧ i64ok x.id ∧ i64ok x.past ∧ x.role.size ≤ 140737488351232 := by
  obtain ⟨x, g0, g1, g2, h1⟩ := sub_of (Cl.of_lies l k)
  exact ⟨x, list_of (n := 3) (l.len.symm.trans k.len) _ rfl (fun k hk => by
    match k, hk with
    | 0, _ => exact g0
    | 1, _ => exact g1
    | 2, _ => exact g2), h1⟩
theorem codePuts_law (H : AH) (a0 : List Value) (d0 : List CD) (l0 : Lies H d0 a0) (k0 : Kds VK d0) (a1 : List Value) (d1 : List CD) (l1 : Lies H d1 a1) (k1 : Kds MK d1) (a2 : List Value) (d2 : List CD) (l2 : Lies H d2 a2) (k2 : Kds IK d2) :
    ACall Try.prog 5 [.agg a0.toArray, .agg a1.toArray, .agg a2.toArray] H AllTrue := by
  obtain ⟨v, vb, vc, rfl, hv, hvl⟩ := valC_of l0 k0
  obtain ⟨m, kb, kc, fb, fc, rfl, hm, hml⟩ := maiC_of l1 k1
  obtain ⟨x, ab, ac, cb, cc, bb, bc, rfl, hx, hxl⟩ := iteC_of l2 k2
  exact puts_walk (fun _ => rfl) v m x hv hvl hm hml hx hxl
end Go.Proofs.Ytfghglacfjncmaa
