/- The reader of a code: dead letters, events, subscriptions, artifacts. -/
import Derived.Test.YtfghglacfjncmaaWCdM
namespace Go.Proofs.Ytfghglacfjncmaa
set_option linter.unusedVariables false
set_option linter.unusedSimpArgs false
set_option maxRecDepth 20000
open Go.RowKit
section
variable {α β : Type} {H0 H : AH} {p q y x : Nat} {s : ByteArray} {Z X : List Value} {R : AEnd → AH → Prop} {V : AH → β → Value → Prop} {K : Value → AH → Prop}
theorem RB.mail (r : RB H0 H p q y x s Z X) {f : Mai → ByteArray → Rd β} (h : GetA H0 p (pBind (pMail s) f) V R) (hk : ∀ a s1 H' kb kc fb fc, GetA H0 p (f a s1) V R → MQ (fun j => x < j) H' a kb fb → RB H0 H' p q y x s1 Z X → Fr [p] H H' → K (.agg (maiC a kb kc fb fc).toArray) H') : wCall Try.prog 59 [.agg #[.pointer (some ⟨p, 0, none⟩)]] H K (fun v H' => R (.panic v) H') :=
  wCall_of (rmail_call r.hd r.size ⟨fun a s1 e H' val d f hv => by
    obtain ⟨kb, kc, fb, fc, rfl, hr⟩ := hv
    exact hk a s1 H' kb kc fb fc (h.bind e) (hr.mono (fun j hj => by have := r.hx.lt; omega)) (r.call d f (pMail_ok e).2.2) f, fun e he H' f => h.stop he H' (r.fr.trans f)⟩)
end
abbrev DeadV (n : Nat) (H : AH) (x : Dea) (val : Value) : Prop := ∃ kb kc fb fc, val = .agg (deaC x kb kc fb fc).toArray ∧ i64ok x.n ∧ MQ (fun j => n ≤ j) H x.mail kb fb
abbrev EvtV (n : Nat) (H : AH) (x : Evt) (val : Value) : Prop := ∃ ab ac, val = .agg (evtC x ab ac).toArray ∧ (i64ok x.n ∧ i64ok x.tick ∧ i64ok x.item) ∧ RQ (fun j => n ≤ j) H ab x.attrs
abbrev SbsV (n : Nat) (H : AH) (x : Sbs) (val : Value) : Prop := val = .agg (sbsC x).toArray ∧ (i64ok x.id ∧ i64ok x.past)
abbrev zeroD : List Value := [.int .i64 0, .int .i64 0, .string ⟨#[]⟩, .slice none 0 0, .slice none 0 0, .int .i64 0]
abbrev zeroE : List Value := [.int .i64 0, .int .i64 0, .string ⟨#[]⟩, .int .i64 0, .string ⟨#[]⟩, .string ⟨#[]⟩, .slice none 0 0]
abbrev zeroS : List Value := [.int .i64 0, .string ⟨#[]⟩, .int .i64 0]
section
variable {H : AH} {R : AEnd → AH → Prop} {p : Nat} {s : ByteArray}
theorem rdead_call (hd : Has H p (rdr s 0)) (hs : s.size ≤ 4611686018427387904) (h : GetA H p (pDead s) (DeadV H.next) R) : ACall Try.prog 81 [.agg #[.pointer (some ⟨p, 0, none⟩)]] H R := by
  apply f81_call
  unfold f81_B
  unfold pDead at h
  refine start (Z := zeroD) (X := fun n => [.int .i64 n, .int .i64 0, .string ⟨#[]⟩, .slice none 0 0, .slice none 0 0, .int .i64 0]) hd hs (fun n => by simp) h ?_
  intro a s1 H1 q y x h ha r
  refine ldP_at r.hq rfl (r.mail h fun b s2 H2 kb kc fb fc h hm r f2 => opA_at rfl (opI_at (opS_at (opL_at (opL_at (r.st (Nat.le_of_ble_eq_true rfl) fun H3 r f3 => ?_))))))
  replace hm := hm.fr f3 r.nx
  refine ldP_at r.hq rfl (r.cnt (by omega) h fun c s3 H4 h hc r f4 => opI_at (r.st (Nat.le_of_ble_eq_true rfl) fun H5 r f5 => ?_))
  replace hm := (hm.fr f4 r.np).fr f5 r.nx
  refine ldI_at r.hx rfl (ldI_at r.hx rfl (ldS_at r.hx rfl (ldL_at r.hx rfl (ldL_at r.hx rfl (ldI_at r.hx rfl (wSt_at r.hy (Nat.le_of_ble_eq_true rfl) ?_))))))
  have ho := r.ord
  have hy := r.hy.set (.row (setCells zeroD 0 (deaC ⟨a, b, c⟩ kb kc fb fc)) 0)
  have fy : Fr [y] H5 (H5.set y (.row (setCells zeroD 0 (deaC ⟨a, b, c⟩ kb kc fb fc)) 0)) := (Fr.refl _ _).set (.inl (by simp)) _
  have hd7 := r.hd.setne (show p ≠ y by omega) (.row (setCells zeroD 0 (deaC ⟨a, b, c⟩ kb kc fb fc)) 0)
  refine wPt_at (ldI_at hy rfl (ldI_at hy rfl (ldS_at hy rfl (ldL_at hy rfl (ldL_at hy rfl (ldI_at hy rfl ?_))))))
  exact h.yes ⟨a, b, c⟩ s3 rfl _ _ hd7 (r.fr.set (.inr (by omega)) _) ⟨kb, kc, fb, fc, rfl, ha, (hm.fr fy r.ny).mono (fun j hj => by omega)⟩
theorem revent_call (hd : Has H p (rdr s 0)) (hs : s.size ≤ 4611686018427387904) (h : GetA H p (pEvent s) (EvtV H.next) R) : ACall Try.prog 85 [.agg #[.pointer (some ⟨p, 0, none⟩)]] H R := by
  apply f85_call
  unfold f85_B
  unfold pEvent at h
  refine start (Z := zeroE) (X := fun n => [.int .i64 n, .int .i64 0, .string ⟨#[]⟩, .int .i64 0, .string ⟨#[]⟩, .string ⟨#[]⟩, .slice none 0 0]) hd hs (fun n => by simp) h ?_
  intro a s1 H1 q y x h ha r
  refine ldP_at r.hq rfl (r.num h fun b s2 H2 h hb r f2 => opI_at (r.st (Nat.le_of_ble_eq_true rfl) fun H3 r f3 => ?_))
  refine ldP_at r.hq rfl (r.num h fun c s2 H2 h hc r f2 => opI_at (r.st (Nat.le_of_ble_eq_true rfl) fun H3 r f3 => ?_))
  refine ldP_at r.hq rfl (r.txt (by omega) h fun d s2 H2 h r f2 => opS_at (r.st (Nat.le_of_ble_eq_true rfl) fun H3 r f3 => ?_))
  refine ldP_at r.hq rfl (r.txt (by omega) h fun e s2 H2 h r f2 => opS_at (r.st (Nat.le_of_ble_eq_true rfl) fun H3 r f3 => ?_))
  refine ldP_at r.hq rfl (r.txt (by omega) h fun f s2 H2 h r f2 => opS_at (r.st (Nat.le_of_ble_eq_true rfl) fun H3 r f3 => ?_))
  refine ldP_at r.hq rfl (r.row h fun g s3 H4 kb kc h hk r f4 => opL_at (r.st (Nat.le_of_ble_eq_true rfl) fun H5 r f5 => ?_))
  replace hk := hk.fr f5 r.nx
  refine ldI_at r.hx rfl (ldI_at r.hx rfl (ldS_at r.hx rfl (ldI_at r.hx rfl (ldS_at r.hx rfl (ldS_at r.hx rfl (ldL_at r.hx rfl (wSt_at r.hy (Nat.le_of_ble_eq_true rfl) ?_)))))))
  have ho := r.ord
  have hy := r.hy.set (.row (setCells zeroE 0 (evtC ⟨a, b, d, c, e, f, g⟩ kb kc)) 0)
  have fy : Fr [y] H5 (H5.set y (.row (setCells zeroE 0 (evtC ⟨a, b, d, c, e, f, g⟩ kb kc)) 0)) := (Fr.refl _ _).set (.inl (by simp)) _
  have hd7 := r.hd.setne (show p ≠ y by omega) (.row (setCells zeroE 0 (evtC ⟨a, b, d, c, e, f, g⟩ kb kc)) 0)
  refine wPt_at (ldI_at hy rfl (ldI_at hy rfl (ldS_at hy rfl (ldI_at hy rfl (ldS_at hy rfl (ldS_at hy rfl (ldL_at hy rfl ?_)))))))
  exact h.yes ⟨a, b, d, c, e, f, g⟩ s3 rfl _ _ hd7 (r.fr.set (.inr (by omega)) _) ⟨kb, kc, rfl, ⟨ha, hb, hc⟩, (hk.fr fy r.ny).mono (fun j hj => by omega)⟩
theorem rsub_call (hd : Has H p (rdr s 0)) (hs : s.size ≤ 4611686018427387904) (h : GetA H p (pSub s) (SbsV H.next) R) : ACall Try.prog 89 [.agg #[.pointer (some ⟨p, 0, none⟩)]] H R := by
  apply f89_call
  unfold f89_B
  unfold pSub at h
  refine start (Z := zeroS) (X := fun n => [.int .i64 n, .string ⟨#[]⟩, .int .i64 0]) hd hs (fun n => by simp) h ?_
  intro a s1 H1 q y x h ha r
  refine ldP_at r.hq rfl (r.num h fun b s2 H2 h hb r f2 => opI_at (r.st (Nat.le_of_ble_eq_true rfl) fun H3 r f3 => ?_))
  refine ldP_at r.hq rfl (r.txt (by omega) h fun c s3 H2 h r f2 => opS_at (r.st (Nat.le_of_ble_eq_true rfl) fun H5 r f5 => ?_))
  refine ldI_at r.hx rfl (ldS_at r.hx rfl (ldI_at r.hx rfl (wSt_at r.hy (Nat.le_of_ble_eq_true rfl) ?_)))
  have ho := r.ord
  have hy := r.hy.set (.row (setCells zeroS 0 (sbsC ⟨a, c, b⟩)) 0)
  have hd7 := r.hd.setne (show p ≠ y by omega) (.row (setCells zeroS 0 (sbsC ⟨a, c, b⟩)) 0)
  refine wPt_at (ldI_at hy rfl (ldS_at hy rfl (ldI_at hy rfl ?_)))
  exact h.yes ⟨a, c, b⟩ s3 rfl _ _ hd7 (r.fr.set (.inr (by omega)) _) ⟨rfl, ha, hb⟩
def NSeg (seg : List Value) (n : Int) : Prop := seg = [.int .i64 n]
theorem BQ.lt {Q : Nat → Prop} {H : AH} {b : Option Addr} {vs : List Mai} (h : BQ Q H b vs) : BQ (fun j => Q j ∧ j < H.next) H b vs :=
  let ⟨j, cs, h1, h2, h3⟩ := h; ⟨j, cs, h1, fun e => ⟨h2 e, (h1.at_ e).2.elim (fun y => y.lt) (fun y => y.lt)⟩, h3.mono fun s a ⟨b, c, d, e, g1, g2⟩ => ⟨b, c, d, e, g1, g2.lt⟩⟩
theorem NQ.lt {Q : Nat → Prop} {H : AH} {b : Option Addr} {l : List Int} (h : NQ Q H b l) : NQ (fun j => Q j ∧ j < H.next) H b l :=
  ⟨h.1, let ⟨j, h1, h2⟩ := h.2; ⟨j, h1, fun e => ⟨h2 e, (h1.at_ e).2.elim (fun y => y.lt) (fun y => y.lt)⟩⟩⟩
theorem ints_of {cs : List Value} {l : List Int} (h : Sg 1 NSeg cs l) : cs = l.map fun n => Value.int .i64 n := by
  refine list_of (n := l.length) (by have := h.len; omega) _ (by simp) (fun k hk => ?_)
  have := h.cell hk (h.at_ k hk) (i := 0) (by omega)
  rw [Nat.mul_one, Nat.add_zero] at this
  rw [this, List.getElem?_map, List.getElem?_eq_getElem hk]; rfl
end
end Go.Proofs.Ytfghglacfjncmaa
