/- The reader of a code: dead letters, events, subscriptions, artifacts. -/
import Derived.Test.YtfghglacfjncmaaWCdM
namespace Go.Proofs.Ytfghglacfjncmaa
set_option linter.unusedVariables false
set_option linter.unusedSimpArgs false
set_option maxRecDepth 20000
open Go.RowKit
section
variable {α β : Type} {H0 H : AH} {p q y x : Nat} {s : ByteArray} {Z X : List Value} {R : AEnd → AH → Prop} {V : AH → β → Value → Prop} {K : Value → AH → Prop}
end
abbrev IteV (n : Nat) (H : AH) (x : Ite) (val : Value) : Prop := ∃ ab ac cb cc bb bc, val = .agg (iteC x ab ac cb cc bb bc).toArray ∧ IQ (fun j => n ≤ j) H x ab cb bb
abbrev zeroI : List Value := [.int .i64 0, .string ⟨#[]⟩, .string ⟨#[]⟩, .int .i64 0, .slice none 0 0, .slice none 0 0, .slice none 0 0]
section
variable {H : AH} {R : AEnd → AH → Prop} {p : Nat} {s : ByteArray}
/-- An artifact's cells, its slices growing. -/
abbrev iteX (a b : Int) (c d : ByteArray) (ab : Option Addr) (al ac : Nat) (cb : Option Addr) (cl : Nat) (bb : Option Addr) (bl : Nat) : List Value := [.int .i64 a, .string c, .string d, .int .i64 b, .slice ab al ac, .slice cb cl 0, .slice bb bl 0]
def NSeg (seg : List Value) (n : Int) : Prop := seg = [.int .i64 n]
theorem BQ.lt {Q : Nat → Prop} {H : AH} {b : Option Addr} {vs : List Mai} (h : BQ Q H b vs) : BQ (fun j => Q j ∧ j < H.next) H b vs :=
  let ⟨j, cs, h1, h2, h3⟩ := h; ⟨j, cs, h1, fun e => ⟨h2 e, (h1.at_ e).2.elim (fun y => y.lt) (fun y => y.lt)⟩, h3.mono fun s a ⟨b, c, d, e, g1, g2⟩ => ⟨b, c, d, e, g1, g2.lt⟩⟩
theorem NQ.lt {Q : Nat → Prop} {H : AH} {b : Option Addr} {l : List Int} (h : NQ Q H b l) : NQ (fun j => Q j ∧ j < H.next) H b l :=
  ⟨h.1, let ⟨j, h1, h2⟩ := h.2; ⟨j, h1, fun e => ⟨h2 e, (h1.at_ e).2.elim (fun y => y.lt) (fun y => y.lt)⟩⟩⟩
theorem ints_of {cs : List Value} {l : List Int} (h : Sg 1 NSeg cs l) : cs = l.map fun n => Value.int .i64 n := by
  refine list_of (n := l.length) (by have := h.len; omega) _ (by simp) (fun k hk => ?_)
  have := h.cell hk (h.at_ k hk) (i := 0) (by omega)
  rw [Nat.mul_one, Nat.add_zero] at this
  rw [this, List.getElem?_map, List.getElem?_eq_getElem hk]; rfl
theorem pCnt_i64 {s s' : ByteArray} {m n : Int} (h : pCnt m s = .ok (n, s')) (hm : 0 ≤ m ∧ m ≤ 4096) : i64ok n := by
  have := pCnt_range hm.1 h
  unfold i64ok; omega
set_option maxHeartbeats 16000000 in
theorem ritem_call (hd : Has H p (rdr s 0)) (hs : s.size ≤ 4611686018427387904) (h : GetA H p (pItem s) (IteV H.next) R) : ACall Try.prog 62 [.agg #[.pointer (some ⟨p, 0, none⟩)]] H R := by
  apply f62_call
  unfold f62_B
  unfold pItem at h
  refine start (Z := zeroI) (X := fun n => [.int .i64 n, .string ⟨#[]⟩, .string ⟨#[]⟩, .int .i64 0, .slice none 0 0, .slice none 0 0, .slice none 0 0]) hd hs (fun n => by simp) h ?_
  intro a s1 H1 q y x h ha r
  refine ldP_at r.hq rfl (r.num h fun b s2 H2 h hb r f2 => opI_at (r.st (Nat.le_of_ble_eq_true rfl) fun H3 r f3 => ?_))
  refine ldP_at r.hq rfl (r.txt (by omega) h fun c s2 H2 h r f2 => opS_at (r.st (Nat.le_of_ble_eq_true rfl) fun H3 r f3 => ?_))
  refine ldP_at r.hq rfl (r.txt (by omega) h fun d s2 H2 h r f2 => opS_at (r.st (Nat.le_of_ble_eq_true rfl) fun H3 r f3 => ?_))
  refine ldP_at r.hq rfl (r.row h fun e s3 H4 ab ac h hk r f4 => opL_at (r.st (Nat.le_of_ble_eq_true rfl) fun H5 r f5 => ?_))
  replace hk := hk.fr f5 r.nx
  refine ldP_at r.hq rfl (r.cnt (by omega) h fun n s4 H6 h hn r f6 => opI_at ?_)
  replace hk := (hk.fr f6 r.np).lt
  replace r : RB H H6 p q y x s4 zeroI (iteX a b c d ab e.length ac none 0 none 0) := r
  clear f2 f3 f4 f5 f6
  generalize hn1 : H6.next = n1 at hk
  have hx1 : x < n1 := by have := r.hx.lt; omega
  have ho := r.ord
  refine f62_L0_rule (J := fun m r H' => ∃ (k : Nat) (l : List Int) (s' : ByteArray) (o : Nat) (cb : Option Addr), k ≤ n.toNat ∧ r = (k : Int) ∧ m = n.toNat - k ∧ pRep (pCnt 1000) k s4 = .ok (l, s') ∧ RB H H' p q y x s' zeroI (iteX a b c d ab e.length ac cb l.length none 0) ∧ n1 ≤ H'.next ∧ RQ (fun j => x < j ∧ j < n1) H' ab e ∧ (l.length ≠ 0 → n1 ≤ o ∧ o < H'.next) ∧ (∀ z ∈ l, i64ok z) ∧ Out 1 NSeg H' cb o l) n.toNat
    ⟨0, [], s4, 0, none, Nat.zero_le _, rfl, rfl, rfl, r, by omega, hk, fun e => absurd rfl e, fun z hz => by simp at hz, Out.nil⟩ ?_
  rintro m rr H7 ⟨k, l, s5, o, cb, hk5, rfl, rfl, hok, r5, hn5, hk, hol, hl64, hout⟩
  intros
  unfold f62_R0
  have hlen := pRep_len (fun s a s' e => pCnt_size e) hok
  refine wIf_d (fun hlt => ?_) (fun hge => ?_)
  · have tail : ∀ (K : Option Addr → Nat → Nat → AH → Prop) (v : Int) (s6 : ByteArray) (H8 : AH) (i : Nat), pCnt 1000 s5 = .ok (v, s6) → RB H H8 p q y x s6 zeroI (iteX a b c d ab e.length ac cb l.length none 0) → H7.next ≤ H8.next → Has H8 i (.row [.int .i64 v] 1) → RQ (fun j => x < j ∧ j < n1) H8 ab e → Out 1 NSeg H8 cb o l →
        (∀ H', (∃ (k' : Nat) (l' : List Int) (s' : ByteArray) (o : Nat) (cb : Option Addr), k' ≤ n.toNat ∧ IntKind.i64.wrap ((k : Int) + 1) = (k' : Int) ∧ n.toNat - (k + 1) = n.toNat - k' ∧ pRep (pCnt 1000) k' s4 = .ok (l', s') ∧ RB H H' p q y x s' zeroI (iteX a b c d ab e.length ac cb l'.length none 0) ∧ n1 ≤ H'.next ∧ RQ (fun j => x < j ∧ j < n1) H' ab e ∧ (l'.length ≠ 0 → n1 ≤ o ∧ o < H'.next) ∧ (∀ z ∈ l', i64ok z) ∧ Out 1 NSeg H' cb o l') → ∀ zb zl zc, K zb zl zc H') →
        wAppL 3 1 8 cb l.length 0 (some ⟨i, 0, none⟩) 1 0 H8 fun zb zl zc H9 => wSt x 5 [.slice zb zl zc] H9 (K zb zl zc) := by
      intro K v s6 H8 i hv r8 hn8 hi hq8 hout8 hK
      refine hout8.grow (a := v) rfl rfl hi (by omega) (by omega) rfl (fun H9 f9 hg => ?_)
      have hS : ∀ z ∈ (if l.length = 0 then [] else [o]), n1 ≤ z := fun z hz => by
        split at hz
        · cases hz
        · rename_i e; simp at hz; have := hol e; omega
      have n9 := f9.next
      have hg9 := hg NSeg (fun _ _ h => h)
      have hlt9 : H8.next < H9.next := by
        obtain ⟨cs, g1, g2, g3⟩ := hg9.ex
        exact (g3 (by simp)).2.lt
      have r9 : RB H H9 p q y x s6 zeroI (iteX a b c d ab e.length ac cb l.length none 0) :=
        ⟨r8.hd.fr f9 (fun z => by have := hS _ z; omega), r8.hq.fr f9 (fun z => by have := hS _ z; omega), r8.hy.fr f9 (fun z => by have := hS _ z; omega), r8.hx.fr f9 (fun z => by have := hS _ z; omega), r8.fr.trans' f9 (fun z hz => .inr (by have := hS z hz; omega)), r8.ord, r8.size⟩
      refine r9.st (Nat.le_of_ble_eq_true rfl) (fun H10 r10 f10 => hK H10 ⟨k + 1, l ++ [v], s6, H8.next, some ⟨H8.next, 0, none⟩, by omega, wi1 k (by omega), rfl, pRep_step hok hv, by rw [List.length_append]; exact r10, by have := f10.next; omega, ?_, fun _ => ⟨by omega, by have := f10.next; omega⟩, ?_, ?_⟩ _ _ _)
      · exact (hq8.fr f9 (fun z hz hh => by have := hS z hz; omega)).fr f10 (fun z hz => by simp at hz; omega)
      · intro z hz
        rcases List.mem_append.1 hz with hz | hz
        · exact hl64 z hz
        · rw [List.mem_singleton.1 hz]; exact pCnt_i64 hv (by omega)
      · exact hg9.fr f10 (fun _ => by simp; omega) (fun _ _ h => h)
    refine ldP_at r5.hq rfl ⟨?_, ?_⟩
    · refine ldL_at r5.hx rfl ⟨PinOK_has r5.hq (by simp) rfl, wCall_of (gcnt_call r5.hd r5.size 1000 (by omega) ⟨fun v s6 hv H8 d8 f8 => opI_at (wBs_at ?_), fun e he H8 f8 => h.stop (pRep_stop hok he (by omega)) H8 (r5.fr.trans f8)⟩)⟩
      have r8 := r5.call d8 f8 (pCnt_size hv)
      have fx : Fr [] H8 (H8.push (.row [.int .i64 v] 1)) := (Fr.refl _ _).push _
      have n8 := f8.next
      have hop : l.length ≠ 0 → o ∉ [p] := fun e => by have := hol e; simp; omega
      exact tail _ v s6 _ _ hv (r8.call (r8.hd.push _) ((Fr.refl _ _).push _) (Nat.le_refl _)) (by have := fx.next; omega) (Has.new _ _) ((hk.fr f8 (fun z hz => by simp at hz; omega)).fr fx (fun z hz => by cases hz)) ((hout.fr f8 hop (fun _ _ h => h)).fr fx (fun _ => by simp) (fun _ _ h => h))
        (fun H' hh zb zl zc => ⟨n.toNat - (k + 1), by omega, f62_I0_mk hh⟩)
    · refine wCall_of (gcnt_call r5.hd r5.size 1000 (by omega) ⟨fun v s6 hv H8 d8 f8 => opI_at ?_, fun e he H8 f8 => h.stop (pRep_stop hok he (by omega)) H8 (r5.fr.trans f8)⟩)
      have r8 := r5.call d8 f8 (pCnt_size hv)
      have fx : Fr [] H8 (H8.push (.row [.int .i64 v] 1)) := (Fr.refl _ _).push _
      have n8 := f8.next
      have hop : l.length ≠ 0 → o ∉ [p] := fun e => by have := hol e; simp; omega
      have r9 := r8.call (r8.hd.push (.row [.int .i64 v] 1)) ((Fr.refl _ _).push _) (Nat.le_refl _)
      constructor
      · refine ldL_at r8.hx rfl (wBs_at ?_)
        exact tail _ v s6 _ _ hv r9 (by have := fx.next; omega) (Has.new _ _) ((hk.fr f8 (fun z hz => by simp at hz; omega)).fr fx (fun z hz => by cases hz)) ((hout.fr f8 hop (fun _ _ h => h)).fr fx (fun _ => by simp) (fun _ _ h => h))
          (fun H' hh zb zl zc => ⟨n.toNat - (k + 1), by omega, f62_I0_mk hh⟩)
      · refine wBs_at (ldL_at r9.hx rfl ?_)
        exact tail _ v s6 _ _ hv r9 (by have := fx.next; omega) (Has.new _ _) ((hk.fr f8 (fun z hz => by simp at hz; omega)).fr fx (fun z hz => by cases hz)) ((hout.fr f8 hop (fun _ _ h => h)).fr fx (fun _ => by simp) (fun _ _ h => h))
          (fun H' hh zb zl zc => ⟨n.toNat - (k + 1), by omega, f62_I0_mk hh⟩)
  · have hkl : k = n.toNat := by omega
    subst hkl
    replace h := h.bind hok
    obtain ⟨ccs, cw, csg⟩ := hout.vw
    have hcq : NQ (fun j => n1 ≤ j ∧ j < H7.next) H7 cb l := ⟨hl64, o, by rw [← ints_of csg]; exact cw, fun e => hol e⟩
    rw [f62_J0_eq]
    unfold f62_J0_B
    refine ldP_at r5.hq rfl (r5.cnt (by omega) h fun n' s6 H8 h hn' r f8 => opI_at ?_)
    replace hk := hk.fr f8 (fun z hz => by simp at hz; omega)
    replace hcq := (hcq.fr f8 (fun z hz => by simp at hz; omega)).lt
    have n8 := f8.next
    generalize hn2 : H8.next = n2 at hcq
    have hq12 : RQ (fun j => x < j ∧ j < n2) H8 ab e := hk.mono (fun j hj => by omega)
    have hc12 : NQ (fun j => x < j ∧ j < n2) H8 cb l := hcq.mono (fun j hj => by omega)
    have hx2 : x < n2 := by omega
    clear hk hcq hout csg cw hol hn5 hn1 hx1
    refine f62_L1_rule (J := fun m rr H' => ∃ (k : Nat) (ms : List Mai) (s' : ByteArray) (o : Nat) (bb : Option Addr), k ≤ n'.toNat ∧ rr = (k : Int) ∧ m = n'.toNat - k ∧ pRep pMail k s6 = .ok (ms, s') ∧ RB H H' p q y x s' zeroI (iteX a b c d ab e.length ac cb l.length bb ms.length) ∧ n2 ≤ H'.next ∧ RQ (fun j => x < j ∧ j < n2) H' ab e ∧ NQ (fun j => x < j ∧ j < n2) H' cb l ∧ (ms.length ≠ 0 → n2 ≤ o ∧ o < H'.next) ∧ (ms.length = 0 → o = 0) ∧ Out 4 (MSeg (fun j => n2 ≤ j ∧ j ≠ o) H') H' bb o ms) n'.toNat
      ⟨0, [], s6, 0, none, Nat.zero_le _, rfl, rfl, rfl, r, by omega, hq12, hc12, fun e => absurd rfl e, fun _ => rfl, Out.nil⟩ ?_
    rintro m rr H9 ⟨k2, ms, s7, o2, bb, hk9, rfl, rfl, hok9, r9, hn9, hq9, hc9, hol, ho0, hout⟩
    intros
    unfold f62_R1
    have hlen9 := pRep_len (fun s a s' e => (pMail_ok e).2.2) hok9
    refine wIf_d (fun hlt => ?_) (fun hge => ?_)
    · have tail : ∀ (K : Option Addr → Nat → Nat → AH → Prop) (v : Mai) (s8 : ByteArray) (Ha : AH) (i : Nat) (kb : Option Addr) (kc : Nat) (fb : Option Addr) (fc : Nat), pMail s7 = .ok (v, s8) → RB H Ha p q y x s8 zeroI (iteX a b c d ab e.length ac cb l.length bb ms.length) → H9.next ≤ Ha.next → Has Ha i (.row (maiC v kb kc fb fc) 4) → RQ (fun j => x < j ∧ j < n2) Ha ab e → NQ (fun j => x < j ∧ j < n2) Ha cb l → MQ (fun j => n2 ≤ j ∧ j ≠ o2) Ha v kb fb → Out 4 (MSeg (fun j => n2 ≤ j ∧ j ≠ o2) Ha) Ha bb o2 ms →
          (∀ H', (∃ (k' : Nat) (ms' : List Mai) (s' : ByteArray) (o : Nat) (bb : Option Addr), k' ≤ n'.toNat ∧ IntKind.i64.wrap ((k2 : Int) + 1) = (k' : Int) ∧ n'.toNat - (k2 + 1) = n'.toNat - k' ∧ pRep pMail k' s6 = .ok (ms', s') ∧ RB H H' p q y x s' zeroI (iteX a b c d ab e.length ac cb l.length bb ms'.length) ∧ n2 ≤ H'.next ∧ RQ (fun j => x < j ∧ j < n2) H' ab e ∧ NQ (fun j => x < j ∧ j < n2) H' cb l ∧ (ms'.length ≠ 0 → n2 ≤ o ∧ o < H'.next) ∧ (ms'.length = 0 → o = 0) ∧ Out 4 (MSeg (fun j => n2 ≤ j ∧ j ≠ o) H') H' bb o ms') → ∀ zb zl zc, K zb zl zc H') →
          wAppL 27 4 72 bb ms.length 0 (some ⟨i, 0, none⟩) 1 0 Ha fun zb zl zc H9 => wSt x 6 [.slice zb zl zc] H9 (K zb zl zc) := by
        intro K v s8 Ha i kb kc fb fc hv ra hna hi hqa hca hma houta hK
        refine houta.grow (a := v) rfl rfl hi (by omega) (by omega) ⟨kb, kc, fb, fc, rfl, hma⟩ (fun Hb fbb hg => ?_)
        have hS : ∀ z ∈ (if ms.length = 0 then [] else [o2]), n2 ≤ z ∧ z = o2 := fun z hz => by
          split at hz
          · cases hz
          · rename_i e; simp at hz; have := hol e; omega
        have nb := fbb.next
        have hgb := hg (MSeg (fun j => n2 ≤ j ∧ j ≠ Ha.next) Hb) (fun sg a ⟨x, y, z, w, g1, g2⟩ => ⟨x, y, z, w, g1, (g2.lt.fr fbb (fun z hz y => y.1.2 (hS z hz).2)).mono (fun j hj => ⟨hj.1.1, by have := hj.2; omega⟩)⟩)
        have hltb : Ha.next < Hb.next := by
          obtain ⟨cs, g1, g2, g3⟩ := hgb.ex
          exact (g3 (by simp)).2.lt
        have rb : RB H Hb p q y x s8 zeroI (iteX a b c d ab e.length ac cb l.length bb ms.length) :=
          ⟨ra.hd.fr fbb (fun z => by have := hS _ z; omega), ra.hq.fr fbb (fun z => by have := hS _ z; omega), ra.hy.fr fbb (fun z => by have := hS _ z; omega), ra.hx.fr fbb (fun z => by have := hS _ z; omega), ra.fr.trans' fbb (fun z hz => .inr (by have := hS z hz; omega)), ra.ord, ra.size⟩
        refine rb.st (Nat.le_of_ble_eq_true rfl) (fun Hc rc fc2 => hK Hc ⟨k2 + 1, ms ++ [v], s8, Ha.next, some ⟨Ha.next, 0, none⟩, by omega, wi1 k2 (by omega), rfl, pRep_step hok9 hv, by rw [List.length_append]; exact rc, by have := fc2.next; omega, ?_, ?_, fun _ => ⟨by omega, by have := fc2.next; omega⟩, fun e => by simp at e, ?_⟩ _ _ _)
        · exact (hqa.fr fbb (fun z hz hh => by have := hS z hz; omega)).fr fc2 (fun z hz => by simp at hz; omega)
        · exact (hca.fr fbb (fun z hz hh => by have := hS z hz; omega)).fr fc2 (fun z hz => by simp at hz; omega)
        · exact hgb.fr fc2 (fun _ => by simp; omega) (fun sg a ⟨x, y, z, w, g1, g2⟩ => ⟨x, y, z, w, g1, g2.fr fc2 (fun z hz => by simp at hz; omega)⟩)
      have fin : ∀ (v : Mai) (s8 : ByteArray) (Ha : AH) (kb : Option Addr) (kc : Nat) (fb : Option Addr) (fc : Nat), pMail s7 = .ok (v, s8) → Has Ha p (rdr s8 0) → Fr [p] H9 Ha → MQ (fun j => H9.next ≤ j) Ha v kb fb →
          ∀ K : Option Addr → Nat → Nat → AH → Prop, (∀ H', (∃ (k' : Nat) (ms' : List Mai) (s' : ByteArray) (o : Nat) (bb : Option Addr), k' ≤ n'.toNat ∧ IntKind.i64.wrap ((k2 : Int) + 1) = (k' : Int) ∧ n'.toNat - (k2 + 1) = n'.toNat - k' ∧ pRep pMail k' s6 = .ok (ms', s') ∧ RB H H' p q y x s' zeroI (iteX a b c d ab e.length ac cb l.length bb ms'.length) ∧ n2 ≤ H'.next ∧ RQ (fun j => x < j ∧ j < n2) H' ab e ∧ NQ (fun j => x < j ∧ j < n2) H' cb l ∧ (ms'.length ≠ 0 → n2 ≤ o ∧ o < H'.next) ∧ (ms'.length = 0 → o = 0) ∧ Out 4 (MSeg (fun j => n2 ≤ j ∧ j ≠ o) H') H' bb o ms') → ∀ zb zl zc, K zb zl zc H') →
          wAppL 27 4 72 bb ms.length 0 (some ⟨Ha.next, 0, none⟩) 1 0 (Ha.push (.row (maiC v kb kc fb fc) 4)) fun zb zl zc H9 => wSt x 6 [.slice zb zl zc] H9 (K zb zl zc) := by
        intro v s8 Ha kb kc fb fc hv da fa hma K hK
        have ra := r9.call da fa (pMail_ok hv).2.2
        have na := fa.next
        have fx : Fr [] Ha (Ha.push (.row (maiC v kb kc fb fc) 4)) := (Fr.refl _ _).push _
        have hop : ms.length ≠ 0 → o2 ∉ [p] := fun e => by have := hol e; simp; omega
        have hnp : ∀ z ∈ [p], ¬ (n2 ≤ z ∧ z ≠ o2) := fun z hz => by simp at hz; omega
        have hno : ∀ j, H9.next ≤ j → n2 ≤ j ∧ j ≠ o2 := fun j hj => ⟨by omega, by
          by_cases e0 : ms.length = 0
          · have := ho0 e0; omega
          · have := hol e0; omega⟩
        have ho7 : Out 4 (MSeg (fun j => n2 ≤ j ∧ j ≠ o2) Ha) Ha bb o2 ms := hout.fr fa hop (fun sg a ⟨x, y, z, w, g1, g2⟩ => ⟨x, y, z, w, g1, g2.fr fa hnp⟩)
        have ho8 : Out 4 (MSeg (fun j => n2 ≤ j ∧ j ≠ o2) (Ha.push (.row (maiC v kb kc fb fc) 4))) (Ha.push (.row (maiC v kb kc fb fc) 4)) bb o2 ms := ho7.fr fx (fun _ => by simp) (fun sg a ⟨x, y, z, w, g1, g2⟩ => ⟨x, y, z, w, g1, g2.fr fx (fun z hz => by cases hz)⟩)
        exact tail K v s8 _ _ kb kc fb fc hv (ra.call (ra.hd.push _) ((Fr.refl _ _).push _) (Nat.le_refl _)) (by have := fx.next; omega) (Has.new _ _) ((hq9.fr fa (fun z hz => by simp at hz; omega)).fr fx (fun z hz => by cases hz)) ((hc9.fr fa (fun z hz => by simp at hz; omega)).fr fx (fun z hz => by cases hz)) ((hma.mono hno).fr fx (fun z hz => by cases hz))
          ho8 hK
      refine ldP_at r9.hq rfl ⟨?_, ?_⟩
      · refine ldL_at r9.hx rfl ⟨PinOK_has r9.hq (by simp) rfl, wCall_of (rmail_call r9.hd r9.size ⟨fun v s8 hv Ha val da fa hval => ?_, fun e he H8 f8 => h.stop (pRep_stop hok9 he (by omega)) H8 (r9.fr.trans f8)⟩)⟩
        obtain ⟨kb, kc, fb, fc, rfl, hma⟩ := hval
        refine opA_at rfl (opI_at (opS_at (opL_at (opL_at (wBs_at ?_)))))
        exact fin v s8 Ha kb kc fb fc hv da fa hma _ (fun H' hh zb zl zc => ⟨n'.toNat - (k2 + 1), by omega, f62_I1_mk hh⟩)
      · refine wCall_of (rmail_call r9.hd r9.size ⟨fun v s8 hv Ha val da fa hval => ?_, fun e he H8 f8 => h.stop (pRep_stop hok9 he (by omega)) H8 (r9.fr.trans f8)⟩)
        obtain ⟨kb, kc, fb, fc, rfl, hma⟩ := hval
        refine opA_at rfl (opI_at (opS_at (opL_at (opL_at ⟨?_, ?_⟩))))
        · refine ldL_at (r9.call da fa (pMail_ok hv).2.2).hx rfl (wBs_at ?_)
          exact fin v s8 Ha kb kc fb fc hv da fa hma _ (fun H' hh zb zl zc => ⟨n'.toNat - (k2 + 1), by omega, f62_I1_mk hh⟩)
        · refine wBs_at (ldL_at ((r9.call da fa (pMail_ok hv).2.2).hx.push _) rfl ?_)
          exact fin v s8 Ha kb kc fb fc hv da fa hma _ (fun H' hh zb zl zc => ⟨n'.toNat - (k2 + 1), by omega, f62_I1_mk hh⟩)
    · have hkl : k2 = n'.toNat := by omega
      subst hkl
      replace h := h.bind hok9
      obtain ⟨bcs, bw, bsg⟩ := hout.vw
      refine ldI_at r9.hx rfl (ldS_at r9.hx rfl (ldS_at r9.hx rfl (ldI_at r9.hx rfl (ldL_at r9.hx rfl (ldL_at r9.hx rfl (ldL_at r9.hx rfl (wSt_at r9.hy (Nat.le_of_ble_eq_true rfl) ?_)))))))
      have hbq : BQ (fun j => n2 ≤ j) H9 bb ms := ⟨o2, bcs, bw, fun e => (hol e).1, bsg.mono fun sg a ⟨x, y, z, w, g1, g2⟩ => ⟨x, y, z, w, g1, g2.mono (fun j hj => hj.1)⟩⟩
      have hy := r9.hy.set (.row (setCells zeroI 0 (iteC ⟨a, c, d, b, e, l, ms⟩ ab ac cb 0 bb 0)) 0)
      have fy : Fr [y] H9 (H9.set y (.row (setCells zeroI 0 (iteC ⟨a, c, d, b, e, l, ms⟩ ab ac cb 0 bb 0)) 0)) := (Fr.refl _ _).set (.inl (by simp)) _
      have hd7 := r9.hd.setne (show p ≠ y by omega) (.row (setCells zeroI 0 (iteC ⟨a, c, d, b, e, l, ms⟩ ab ac cb 0 bb 0)) 0)
      refine wPt_at (ldI_at hy rfl (ldS_at hy rfl (ldS_at hy rfl (ldI_at hy rfl (ldL_at hy rfl (ldL_at hy rfl (ldL_at hy rfl ?_)))))))
      have hny : ∀ z ∈ [y], z < n2 ∧ z ≤ x := fun z hz => by simp at hz; omega
      exact h.yes ⟨a, c, d, b, e, l, ms⟩ s7 rfl _ _ hd7 (r9.fr.set (.inr (by omega)) _) ⟨ab, ac, cb, 0, bb, 0, rfl, ha, hb, (hq9.fr fy (fun z hz hh => by have := hny z hz; omega)).mono (fun j hj => by omega), (hc9.fr fy (fun z hz hh => by have := hny z hz; omega)).mono (fun j hj => by omega), (hbq.fr fy (fun z hz hh => by have := hny z hz; omega)).mono (fun j hj => by omega)⟩
end
end Go.Proofs.Ytfghglacfjncmaa
