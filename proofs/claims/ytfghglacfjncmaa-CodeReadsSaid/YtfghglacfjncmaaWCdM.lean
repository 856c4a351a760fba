/- Rows, messages, artifacts that the reader makes: whose memory they are. The reader of a code: rows, messages, dead letters, events, subscriptions. The reader of a code: messages, dead letters, events, subscriptions. -/
import Derived.Test.YtfghglacfjncmaaWCdI
import Derived.Test.YtfghglacfjncmaaWCdJ
import Derived.Test.YtfghglacfjncmaaWGenF
/-! Rows, messages, artifacts that the reader makes: whose memory they are. -/
namespace Go.Proofs.Ytfghglacfjncmaa
set_option linter.unusedVariables false
set_option linter.unusedSimpArgs false
open Go.RowKit

theorem Vw.frS {S : List Nat} {H H' : AH} {b : Option Addr} {n j z : Nat} {cs : List Value} (h : Vw H b n j z cs) (x : Fr S H H') (hj : n ≠ 0 → j ∉ S) : Vw H' b n j z cs :=
  ⟨h.len, fun e => ⟨(h.at_ e).1, (h.at_ e).2.elim (fun y => .inl (y.fr x (hj e))) (fun y => .inr (y.fr x (hj e)))⟩⟩
/-- Cells in segments, each a thing. -/
structure Sg {α : Type} (z : Nat) (P : List Value → α → Prop) (cs : List Value) (ys : List α) : Prop where
  len : cs.length = ys.length * z
  at_ : ∀ k (hk : k < ys.length), P ((cs.drop (k * z)).take z) ys[k]
theorem Sg.nil {α : Type} {z : Nat} {P : List Value → α → Prop} : Sg z P [] [] := ⟨by simp, fun k hk => by simp at hk⟩
theorem Sg.mono {α : Type} {z : Nat} {P P' : List Value → α → Prop} {cs : List Value} {ys : List α} (h : Sg z P cs ys) (hp : ∀ s a, P s a → P' s a) : Sg z P' cs ys := ⟨h.len, fun k hk => hp _ _ (h.at_ k hk)⟩
theorem Sg.snoc {α : Type} {z : Nat} {P : List Value → α → Prop} {cs new : List Value} {ys : List α} {a : α} (h : Sg z P cs ys) (hn : new.length = z) (hp : P new a) : Sg z P (cs ++ new) (ys ++ [a]) := by
  refine ⟨by rw [List.length_append, h.len, List.length_append, hn, List.length_singleton, Nat.add_mul]; omega, fun k hk => ?_⟩
  have hl := h.len
  by_cases e : k < ys.length
  · rw [List.getElem_append_left e]
    have hb : (k + 1) * z ≤ ys.length * z := Nat.mul_le_mul_right z e
    rw [Nat.add_mul] at hb
    rw [List.drop_append_of_le_length (by omega), List.take_append_of_le_length (by rw [List.length_drop]; omega)]
    exact h.at_ k e
  · have : k = ys.length := by rw [List.length_append, List.length_singleton] at hk; omega
    subst this
    rw [List.getElem_append_right (Nat.le_refl _), ← hl, List.drop_left, List.take_of_length_le (by omega)]
    simpa using hp
theorem Sg.cell {α : Type} {z : Nat} {P : List Value → α → Prop} {cs : List Value} {ys : List α} (h : Sg z P cs ys) {k : Nat} (hk : k < ys.length) {seg : List Value} (hs : (cs.drop (k * z)).take z = seg) {i : Nat} (hi : i < z) : cs[k * z + i]? = seg[i]? := by
  rw [← hs, List.getElem?_take_of_lt hi, List.getElem?_drop]
def VQ (Q : Nat → Prop) (H : AH) (v : Val) (b : Option Addr) : Prop := VW v ∧ ∃ j, Vw H b v.list.length j 1 (v.list.map fun n => Value.int .i64 n) ∧ (v.list.length ≠ 0 → Q j)
def VSeg (Q : Nat → Prop) (H : AH) (seg : List Value) (v : Val) : Prop := ∃ b c, seg = valC v b c ∧ VQ Q H v b
def RQ (Q : Nat → Prop) (H : AH) (b : Option Addr) (vs : List Val) : Prop := ∃ j cs, Vw H b vs.length j 4 cs ∧ (vs.length ≠ 0 → Q j) ∧ Sg 4 (VSeg Q H) cs vs
def MQ (Q : Nat → Prop) (H : AH) (m : Mai) (kb fb : Option Addr) : Prop := i64ok m.id ∧ RQ Q H kb m.key ∧ RQ Q H fb m.fields
def MSeg (Q : Nat → Prop) (H : AH) (seg : List Value) (m : Mai) : Prop := ∃ kb kc fb fc, seg = maiC m kb kc fb fc ∧ MQ Q H m kb fb
def BQ (Q : Nat → Prop) (H : AH) (b : Option Addr) (ms : List Mai) : Prop := ∃ j cs, Vw H b ms.length j 4 cs ∧ (ms.length ≠ 0 → Q j) ∧ Sg 4 (MSeg Q H) cs ms
def NQ (Q : Nat → Prop) (H : AH) (b : Option Addr) (l : List Int) : Prop := (∀ n ∈ l, i64ok n) ∧ ∃ j, Vw H b l.length j 1 (l.map fun n => Value.int .i64 n) ∧ (l.length ≠ 0 → Q j)
def IQ (Q : Nat → Prop) (H : AH) (x : Ite) (ab cb bb : Option Addr) : Prop := i64ok x.id ∧ i64ok x.since ∧ RQ Q H ab x.attrs ∧ NQ Q H cb x.counts ∧ BQ Q H bb x.box
section
variable {Q Q' : Nat → Prop} {S : List Nat} {H H' : AH}
theorem VQ.fr {v : Val} {b : Option Addr} (h : VQ Q H v b) (f : Fr S H H') (hS : ∀ x ∈ S, ¬ Q x) : VQ Q H' v b := ⟨h.1, let ⟨j, h1, h2⟩ := h.2; ⟨j, h1.frS f (fun e x => hS j x (h2 e)), h2⟩⟩
theorem VQ.mono {v : Val} {b : Option Addr} (h : VQ Q H v b) (hq : ∀ j, Q j → Q' j) : VQ Q' H v b := ⟨h.1, let ⟨j, h1, h2⟩ := h.2; ⟨j, h1, fun e => hq j (h2 e)⟩⟩
theorem VQ.is {v : Val} {b : Option Addr} (h : VQ Q H v b) : VIs H v b := ⟨h.1.num, h.1.nums, let ⟨j, h1, _⟩ := h.2; ⟨j, h1⟩⟩
theorem RQ.fr {b : Option Addr} {vs : List Val} (h : RQ Q H b vs) (f : Fr S H H') (hS : ∀ x ∈ S, ¬ Q x) : RQ Q H' b vs :=
  let ⟨j, cs, h1, h2, h3⟩ := h; ⟨j, cs, h1.frS f (fun e x => hS j x (h2 e)), h2, h3.mono fun s a ⟨b, c, g1, g2⟩ => ⟨b, c, g1, g2.fr f hS⟩⟩
theorem RQ.mono {b : Option Addr} {vs : List Val} (h : RQ Q H b vs) (hq : ∀ j, Q j → Q' j) : RQ Q' H b vs :=
  let ⟨j, cs, h1, h2, h3⟩ := h; ⟨j, cs, h1, fun e => hq j (h2 e), h3.mono fun s a ⟨b, c, g1, g2⟩ => ⟨b, c, g1, g2.mono hq⟩⟩
theorem RQ.is {b : Option Addr} {vs : List Val} (h : RQ Q H b vs) : RIs H b vs := by
  obtain ⟨j, cs, h1, h2, h3⟩ := h
  refine ⟨j, cs, h1, fun k hk => ?_⟩
  obtain ⟨b', c', g1, g2⟩ := h3.at_ k hk
  have hc := fun i hi => h3.cell hk g1 (i := i) hi
  exact ⟨b', c', hc 0 (by omega), hc 1 (by omega), hc 2 (by omega), hc 3 (by omega), g2.is⟩
theorem MQ.fr {m : Mai} {kb fb : Option Addr} (h : MQ Q H m kb fb) (f : Fr S H H') (hS : ∀ x ∈ S, ¬ Q x) : MQ Q H' m kb fb := ⟨h.1, h.2.1.fr f hS, h.2.2.fr f hS⟩
theorem MQ.mono {m : Mai} {kb fb : Option Addr} (h : MQ Q H m kb fb) (hq : ∀ j, Q j → Q' j) : MQ Q' H m kb fb := ⟨h.1, h.2.1.mono hq, h.2.2.mono hq⟩
theorem MQ.is {m : Mai} {kb fb : Option Addr} (h : MQ Q H m kb fb) : MIs H m kb fb := ⟨h.1, h.2.1.is, h.2.2.is⟩
theorem BQ.fr {b : Option Addr} {vs : List Mai} (h : BQ Q H b vs) (f : Fr S H H') (hS : ∀ x ∈ S, ¬ Q x) : BQ Q H' b vs :=
  let ⟨j, cs, h1, h2, h3⟩ := h; ⟨j, cs, h1.frS f (fun e x => hS j x (h2 e)), h2, h3.mono fun s a ⟨b, c, d, e, g1, g2⟩ => ⟨b, c, d, e, g1, g2.fr f hS⟩⟩
theorem BQ.mono {b : Option Addr} {vs : List Mai} (h : BQ Q H b vs) (hq : ∀ j, Q j → Q' j) : BQ Q' H b vs :=
  let ⟨j, cs, h1, h2, h3⟩ := h; ⟨j, cs, h1, fun e => hq j (h2 e), h3.mono fun s a ⟨b, c, d, e, g1, g2⟩ => ⟨b, c, d, e, g1, g2.mono hq⟩⟩
theorem BQ.is {b : Option Addr} {vs : List Mai} (h : BQ Q H b vs) : BIs H b vs := by
  obtain ⟨j, cs, h1, h2, h3⟩ := h
  refine ⟨j, cs, h1, fun k hk => ?_⟩
  obtain ⟨b', c', d', e', g1, g2⟩ := h3.at_ k hk
  have hc := fun i hi => h3.cell hk g1 (i := i) hi
  exact ⟨b', c', d', e', hc 0 (by omega), hc 1 (by omega), hc 2 (by omega), hc 3 (by omega), g2.is⟩
theorem NQ.fr {b : Option Addr} {l : List Int} (h : NQ Q H b l) (f : Fr S H H') (hS : ∀ x ∈ S, ¬ Q x) : NQ Q H' b l := ⟨h.1, let ⟨j, h1, h2⟩ := h.2; ⟨j, h1.frS f (fun e x => hS j x (h2 e)), h2⟩⟩
theorem NQ.mono {b : Option Addr} {l : List Int} (h : NQ Q H b l) (hq : ∀ j, Q j → Q' j) : NQ Q' H b l := ⟨h.1, let ⟨j, h1, h2⟩ := h.2; ⟨j, h1, fun e => hq j (h2 e)⟩⟩
theorem NQ.is {b : Option Addr} {l : List Int} (h : NQ Q H b l) : NIs H b l := ⟨h.1, let ⟨j, h1, _⟩ := h.2; ⟨j, h1⟩⟩
theorem IQ.fr {x : Ite} {ab cb bb : Option Addr} (h : IQ Q H x ab cb bb) (f : Fr S H H') (hS : ∀ x ∈ S, ¬ Q x) : IQ Q H' x ab cb bb := ⟨h.1, h.2.1, h.2.2.1.fr f hS, h.2.2.2.1.fr f hS, h.2.2.2.2.fr f hS⟩
theorem IQ.mono {x : Ite} {ab cb bb : Option Addr} (h : IQ Q H x ab cb bb) (hq : ∀ j, Q j → Q' j) : IQ Q' H x ab cb bb := ⟨h.1, h.2.1, h.2.2.1.mono hq, h.2.2.2.1.mono hq, h.2.2.2.2.mono hq⟩
theorem IQ.is {x : Ite} {ab cb bb : Option Addr} (h : IQ Q H x ab cb bb) : IIs H x ab cb bb := ⟨h.1, h.2.1, h.2.2.1.is, h.2.2.2.1.is, h.2.2.2.2.is⟩
end
/-- A row that grows: a slice of it. -/
structure Out {α : Type} (z : Nat) (P : List Value → α → Prop) (H : AH) (b : Option Addr) (o : Nat) (ys : List α) : Prop where
  ex : ∃ cs, Sg z P cs ys ∧ (ys.length = 0 → b = none) ∧ (ys.length ≠ 0 → b = some ⟨o, 0, none⟩ ∧ Has H o (.row cs z))
theorem Out.nil {α : Type} {z : Nat} {P : List Value → α → Prop} {H : AH} {o : Nat} : Out z P H none o ([] : List α) := ⟨[], Sg.nil, fun _ => rfl, fun e => absurd rfl e⟩
theorem Out.fr {α : Type} {z : Nat} {P P' : List Value → α → Prop} {H H' : AH} {b : Option Addr} {o : Nat} {ys : List α} {S : List Nat} (h : Out z P H b o ys) (f : Fr S H H') (ho : ys.length ≠ 0 → o ∉ S) (hp : ∀ s a, P s a → P' s a) : Out z P' H' b o ys :=
  let ⟨cs, h1, h2, h3⟩ := h.ex; ⟨cs, h1.mono hp, h2, fun e => ⟨(h3 e).1, (h3 e).2.fr f (ho e)⟩⟩
theorem Out.set {α : Type} {z : Nat} {P : List Value → α → Prop} {H : AH} {b : Option Addr} {o i : Nat} {ys : List α} {x : AObj} (h : Out z P H b o ys) (hi : ys.length ≠ 0 → o ≠ i) : Out z P (H.set i x) b o ys :=
  let ⟨cs, h1, h2, h3⟩ := h.ex; ⟨cs, h1, h2, fun e => ⟨(h3 e).1, (h3 e).2.setne (hi e) _⟩⟩
theorem Out.vw {α : Type} {z : Nat} {P : List Value → α → Prop} {H : AH} {b : Option Addr} {o : Nat} {ys : List α} (h : Out z P H b o ys) : ∃ cs, Vw H b ys.length o z cs ∧ Sg z P cs ys :=
  let ⟨cs, h1, h2, h3⟩ := h.ex; ⟨cs, ⟨h1.len, fun e => ⟨(h3 e).1, .inr (h3 e).2⟩⟩, h1⟩
/-- It grows. -/
theorem Out.grow {α : Type} {z : Nat} {P : List Value → α → Prop} {e : TypeId} {H : AH} {b : Option Addr} {o by_ q : Nat} {ys : List α} {a : α} {new : List Value} {K : Option Addr → Nat → Nat → AH → Prop} (h : Out z P H b o ys) (hn : new.length = z) (h1 : new.all oneCell = true) (hq : Has H q (.row new z))
    (hb : (ys.length + 1) * by_ ≤ 140737488355328) (hl : ys.length + 1 ≤ 9223372036854775807) (ha : P new a)
    (hk : ∀ H', Fr (if ys.length = 0 then [] else [o]) H H' → (∀ P', (∀ s a, P s a → P' s a) → Out z P' H' (some ⟨H.next, 0, none⟩) H.next (ys ++ [a])) → K (some ⟨H.next, 0, none⟩) (ys.length + 1) 0 H') : wAppL e z by_ b ys.length 0 (some ⟨q, 0, none⟩) 1 0 H K := by
  have hsc := sliceCells_new H new z 1 0 (by omega) hq
  obtain ⟨cs, g1, g2, g3⟩ := h.ex
  have gl := g1.len
  have hne : (ys ++ [a]).length ≠ 0 := by simp
  by_cases e0 : ys.length = 0
  · obtain rfl := g2 e0
    have : cs = [] := List.eq_nil_of_length_eq_zero (by rw [gl, e0, Nat.zero_mul])
    subst this
    have hx := (Fr.refl (if ys.length = 0 then [] else [o]) H).pushT (.row new z) (some e)
    have h3 := hk _ hx (fun P' hp => ⟨[] ++ new, (g1.snoc hn ha).mono hp, fun e => absurd e hne, fun _ => ⟨rfl, Has.newT _ _ _⟩⟩)
    rw [e0] at h3 hb hl ⊢
    exact wAppL_nil (n := 0) hsc (by omega) h1 hb hl h3
  · obtain ⟨rfl, ho⟩ := g3 e0
    refine wAppL_own ho gl.symm hsc (by omega) h1 hb hl ?_
    refine hk _ (((Fr.refl _ _).drop (.inl (by simp [e0]))).pushT _ _) (fun P' hp => ⟨cs ++ new, (g1.snoc hn ha).mono hp, fun e => absurd e hne, fun _ => ⟨rfl, Has.newT (H.drop o) _ _⟩⟩)
theorem pRep_snoc {α : Type} (p : ByteArray → Rd α) (n : Nat) (s : ByteArray) : pRep p (n + 1) s = pBind (pRep p n s) fun l s1 => pBind (p s1) fun a s2 => .ok (l ++ [a], s2) := by
  induction n generalizing s with
  | zero =>
    show pBind (p s) (fun a s1 => pBind (.ok ([], s1)) fun l s2 => .ok (a :: l, s2)) = _
    rfl
  | succ n ih =>
    rw [pRep]
    conv => rhs; rw [pRep]
    cases p s with
    | error e => rfl
    | ok x =>
      obtain ⟨a, s1⟩ := x
      show pBind (pRep p (n + 1) s1) _ = pBind (pBind (pRep p n s1) _) _
      rw [ih]
      cases pRep p n s1 with
      | error e => rfl
      | ok y =>
        obtain ⟨l, s2⟩ := y
        show pBind (pBind (p s2) _) _ = pBind (p s2) _
        cases p s2 with
        | error e => rfl
        | ok z => rfl
theorem pRep_err {α : Type} {p : ByteArray → Rd α} {a : Nat} {s : ByteArray} {e : Int} (h : pRep p a s = .error e) (b : Nat) : pRep p (a + b) s = .error e := by
  induction b with
  | zero => exact h
  | succ b ih => rw [← Nat.add_assoc, pRep_snoc, ih]; rfl
theorem pRep_step {α : Type} {p : ByteArray → Rd α} {k : Nat} {s s1 s2 : ByteArray} {l : List α} {a : α} (h : pRep p k s = .ok (l, s1)) (h1 : p s1 = .ok (a, s2)) : pRep p (k + 1) s = .ok (l ++ [a], s2) := by
  rw [pRep_snoc, h]
  show pBind (p s1) _ = _
  rw [h1]; rfl
theorem pRep_stop {α : Type} {p : ByteArray → Rd α} {k n : Nat} {s s1 : ByteArray} {l : List α} {e : Int} (h : pRep p k s = .ok (l, s1)) (h1 : p s1 = .error e) (hk : k < n) : pRep p n s = .error e := by
  have : pRep p (k + 1) s = .error e := by
    rw [pRep_snoc, h]
    show pBind (p s1) _ = _
    rw [h1]; rfl
  have h2 := pRep_err this (n - (k + 1))
  rwa [show k + 1 + (n - (k + 1)) = n by omega] at h2
theorem pRep_len {α : Type} {p : ByteArray → Rd α} (hp : ∀ s a s', p s = .ok (a, s') → s'.size ≤ s.size) {k : Nat} {s s' : ByteArray} {l : List α} (h : pRep p k s = .ok (l, s')) : l.length = k ∧ s'.size ≤ s.size := by
  induction k generalizing s l with
  | zero => cases h; exact ⟨rfl, Nat.le_refl _⟩
  | succ k ih =>
    rw [pRep] at h
    cases h1 : p s with
    | error e => rw [h1] at h; cases h
    | ok x =>
      obtain ⟨n, s1⟩ := x
      rw [h1] at h
      replace h : pBind (pRep p k s1) (fun l s2 => .ok (n :: l, s2)) = .ok (l, s') := h
      cases h2 : pRep p k s1 with
      | error e => rw [h2] at h; cases h
      | ok y =>
        obtain ⟨t, s2⟩ := y
        rw [h2] at h
        cases h
        obtain ⟨z1, z2⟩ := ih h2
        have := hp _ _ _ h1
        exact ⟨by rw [List.length_cons, z1], by omega⟩
theorem pBind_ok {α β : Type} {x : Rd α} {f : α → ByteArray → Rd β} {b : β} {s : ByteArray} (h : pBind x f = .ok (b, s)) : ∃ a s1, x = .ok (a, s1) ∧ f a s1 = .ok (b, s) := by
  cases x with
  | error e => cases h
  | ok y => exact ⟨y.1, y.2, rfl, h⟩
theorem pNum_ok {s s' : ByteArray} {n : Int} (h : pNum s = .ok (n, s')) : i64ok n := by
  obtain ⟨_, rfl, _⟩ := ofRd_eq h
  exact uz_range _ (rdC_lt s 0)
theorem pNums_ok {n : Nat} {s s' : ByteArray} {l : List Int} (h : pNums n s = .ok (l, s')) : ∀ x ∈ l, i64ok x := by
  induction n generalizing s l with
  | zero => cases h; intro x hx; simp at hx
  | succ n ih =>
    rw [pNums] at h
    obtain ⟨a, s1, h1, h2⟩ := pBind_ok h
    obtain ⟨l', s2, h3, h4⟩ := pBind_ok h2
    cases h4
    intro x hx
    rcases List.mem_cons.1 hx with rfl | hx
    · exact pNum_ok h1
    · exact ih h3 x hx
theorem pVal_ok {s s' : ByteArray} {v : Val} (h : pVal s = .ok (v, s')) : VW v ∧ rightV v = true ∧ s'.size ≤ s.size := by
  unfold pVal at h
  obtain ⟨k, s1, h1, h2⟩ := pBind_ok h
  obtain ⟨w, s2, h3, h4⟩ := pBind_ok h2
  split at h4
  · rename_i hr
    cases h4
    have hz := pByte_size h1
    have z : i64ok 0 := by unfold i64ok; omega
    have key : VW v ∧ s'.size ≤ s1.size := by
      unfold pBody at h3
      split at h3
      · obtain ⟨a, s3, h5, h6⟩ := pBind_ok h3
        cases h6
        exact ⟨⟨pNum_ok h5, fun x hx => by simp at hx⟩, pNum_size h5⟩
      · split at h3
        · obtain ⟨a, s3, h5, h6⟩ := pBind_ok h3
          cases h6
          exact ⟨⟨by dsimp only; unfold i64ok; split <;> omega, fun x hx => by simp at hx⟩, pTru_size h5⟩
        · split at h3
          · obtain ⟨a, s3, h5, h6⟩ := pBind_ok h3
            cases h6
            exact ⟨⟨z, fun x hx => by simp at hx⟩, pTxt_size h5⟩
          · split at h3
            · obtain ⟨a, s3, h5, h6⟩ := pBind_ok h3
              cases h6
              exact ⟨⟨z, fun x hx => by simp at hx⟩, pTxt_size h5⟩
            · split at h3
              · obtain ⟨a, s3, h5, h6⟩ := pBind_ok h3
                obtain ⟨l, s4, h7, h8⟩ := pBind_ok h6
                cases h8
                exact ⟨⟨z, pNums_ok h7⟩, by have := pCnt_size h5; have := (pNums_len h7).2; omega⟩
              · cases h3
                exact ⟨⟨z, fun x hx => by simp at hx⟩, Nat.le_refl _⟩
    exact ⟨key.1, hr, by omega⟩
  · cases h4
end Go.Proofs.Ytfghglacfjncmaa

/-! The reader of a code: rows, messages, dead letters, events, subscriptions. -/
namespace Go.Proofs.Ytfghglacfjncmaa
set_option linter.unusedVariables false
set_option linter.unusedSimpArgs false
set_option maxRecDepth 20000
open Go.RowKit

/-- What a call that reads may end in. -/
structure GetA {α : Type} (H : AH) (p : Nat) (r : Rd α) (V : AH → α → Value → Prop) (R : AEnd → AH → Prop) : Prop where
  yes : ∀ a s', r = .ok (a, s') → ∀ H' val, Has H' p (rdr s' 0) → Fr [p] H H' → V H' a val → R (.ret val) H'
  no : ∀ e, r = .error e → ∀ H', Fr [p] H H' → R (.panic (STOP e)) H'
theorem GetA.bind {α β : Type} {H : AH} {p : Nat} {r : Rd α} {f : α → ByteArray → Rd β} {V : AH → β → Value → Prop} {R : AEnd → AH → Prop} (h : GetA H p (pBind r f) V R) {a : α} {s : ByteArray} (e : r = .ok (a, s)) : GetA H p (f a s) V R := by
  subst e; exact h
theorem GetA.stop {α β : Type} {H : AH} {p : Nat} {r : Rd α} {f : α → ByteArray → Rd β} {V : AH → β → Value → Prop} {R : AEnd → AH → Prop} (h : GetA H p (pBind r f) V R) {e : Int} (he : r = .error e) : ∀ H', Fr [p] H H' → R (.panic (STOP e)) H' := h.no e (by rw [he]; rfl)
theorem VQ.lt {Q : Nat → Prop} {H : AH} {v : Val} {b : Option Addr} (h : VQ Q H v b) : VQ (fun j => Q j ∧ j < H.next) H v b :=
  ⟨h.1, let ⟨j, h1, h2⟩ := h.2; ⟨j, h1, fun e => ⟨h2 e, (h1.at_ e).2.elim (fun y => y.lt) (fun y => y.lt)⟩⟩⟩
theorem RQ.lt {Q : Nat → Prop} {H : AH} {b : Option Addr} {vs : List Val} (h : RQ Q H b vs) : RQ (fun j => Q j ∧ j < H.next) H b vs :=
  let ⟨j, cs, h1, h2, h3⟩ := h; ⟨j, cs, h1, fun e => ⟨h2 e, (h1.at_ e).2.elim (fun y => y.lt) (fun y => y.lt)⟩, h3.mono fun s a ⟨b, c, g1, g2⟩ => ⟨b, c, g1, g2.lt⟩⟩
theorem MQ.lt {Q : Nat → Prop} {H : AH} {m : Mai} {kb fb : Option Addr} (h : MQ Q H m kb fb) : MQ (fun j => Q j ∧ j < H.next) H m kb fb := ⟨h.1, h.2.1.lt, h.2.2.lt⟩
abbrev RowV (n : Nat) (H : AH) (vs : List Val) (val : Value) : Prop := ∃ b c, val = .slice b vs.length c ∧ RQ (fun j => n ≤ j) H b vs
section
variable {H : AH} {R : AEnd → AH → Prop} {p : Nat} {s : ByteArray}
set_option maxHeartbeats 4000000 in
theorem rrow_call (hd : Has H p (rdr s 0)) (hs : s.size ≤ 4611686018427387904) (h : GetA H p (pRow s) (RowV H.next) R) : ACall Try.prog 116 [.agg #[.pointer (some ⟨p, 0, none⟩)]] H R := by
  apply f116_call
  unfold f116_B
  unfold pRow at h
  refine wNew_at ?_
  have hpl := hd.lt
  have hq := Has.new H (.row [.pointer (some ⟨p, 0, none⟩)] 0)
  have f1 : Fr [p] H (H.push (.row [.pointer (some ⟨p, 0, none⟩)] 0)) := (Fr.refl _ H).push _
  replace hd := hd.push (.row [.pointer (some ⟨p, 0, none⟩)] 0)
  generalize H.push (.row [.pointer (some ⟨p, 0, none⟩)] 0) = H1 at hq f1 hd ⊢
  have hql := hq.lt
  generalize hqe : H.next = q at hq ⊢
  refine ldP_at hq rfl (wCall_of (gcnt_call hd hs 16 (by omega) ⟨fun n s1 hn H2 d2 f2 => opI_at ?_, fun e he H2 f2 => h.stop he H2 (f1.trans f2)⟩))
  have hn16 := pCnt_range (by omega) hn
  have hs1 := pCnt_size hn
  replace h := h.bind hn
  replace hq := hq.fr f2 (by simp; omega)
  have f02 := f1.trans f2
  refine f116_L0_rule (J := fun m b l c r H' => ∃ (k : Nat) (vs : List Val) (s' : ByteArray) (o : Nat), k ≤ n.toNat ∧ r = (k : Int) ∧ m = n.toNat - k ∧ pRep pVal k s1 = .ok (vs, s') ∧ l = vs.length ∧ c = 0 ∧ Has H' p (rdr s' 0) ∧ Has H' q (.row [.pointer (some ⟨p, 0, none⟩)] 0) ∧ Fr [p] H H' ∧ (vs.length ≠ 0 → q < o ∧ o < H'.next) ∧ (vs.length = 0 → o = 0) ∧ Out 4 (VSeg (fun j => q < j ∧ j ≠ o) H') H' b o vs) n.toNat
    ⟨0, [], s1, 0, Nat.zero_le _, rfl, rfl, rfl, rfl, rfl, d2, hq, f02, fun e => absurd rfl e, fun _ => rfl, Out.nil⟩ ?_
  rintro m b l c r H5 ⟨k, vs, s5, o, hk, rfl, rfl, hok, rfl, rfl, d5, hq5, f5, ho, ho0, hout⟩
  intros
  unfold f116_R0
  have hlen := pRep_len (fun s a s' e => (pVal_ok e).2.2) hok
  have n5 := f5.next
  refine wIf_d (fun hlt => ?_) (fun hge => ?_)
  · refine ldP_at hq5 rfl (wCall_of (rvalue_call d5 (by omega) ⟨fun v s6 hv H6 b' c' j d6 f6 hw hj => ?_, fun e he H6 f6 => h.no e (pRep_stop hok he (by omega)) H6 (f5.trans f6)⟩))
    refine opA_at rfl (opI_at (opI_at (opS_at (opL_at (wBs_at ?_)))))
    have hn6 := Has.new H6 (.row (valC v b' c') 4)
    have f7 : Fr [p] H5 (H6.push (.row (valC v b' c') 4)) := f6.push _
    have fx : Fr [] H6 (H6.push (.row (valC v b' c') 4)) := (Fr.refl _ _).push _
    replace d6 := d6.push (.row (valC v b' c') 4)
    replace hw := hw.fr fx
    have n6 := f6.next
    have hq7 := hq5.fr f7 (by simp; omega)
    have hql5 := hq5.lt
    have hne6 : H6.next ≠ p ∧ H6.next ≠ q := by omega
    have ho2 : vs.length ≠ 0 → o ∉ [p] := fun e => by have := ho e; simp; omega
    have hout7 : Out 4 (VSeg (fun j => q < j ∧ j ≠ o) (H6.push (.row (valC v b' c') 4))) (H6.push (.row (valC v b' c') 4)) b o vs := hout.fr f7 ho2 (fun sg a ⟨x, y, g1, g2⟩ => ⟨x, y, g1, g2.fr f7 (fun z hz => by simp at hz; omega)⟩)
    have n7 : (H6.push (.row (valC v b' c') 4)).next = H6.next + 1 := rfl
    generalize H6.push (.row (valC v b' c') 4) = H7 at hn6 f7 d6 hw hq7 hout7 n7 ⊢
    generalize H6.next = bq at hn6 n6 n7 hne6 ⊢
    have hjo : v.list.length ≠ 0 → q < j ∧ j ≠ o := fun e => by
      have := hj e
      by_cases e0 : vs.length = 0
      · have := ho0 e0; omega
      · have := ho e0; omega
    have hvk := hlen.1
    refine hout7.grow (a := v) rfl rfl hn6 (by omega) (by omega) ⟨b', c', rfl, (pVal_ok hv).1, j, hw, hjo⟩ (fun H8 f8 hg => ?_)
    have hS : ∀ x ∈ (if vs.length = 0 then [] else [o]), q < x ∧ x = o := fun x hx => by
      split at hx
      · cases hx
      · rename_i e; simp at hx; have := ho e; omega
    have n8 := f8.next
    refine ⟨n.toNat - (k + 1), by omega, f116_I0_mk ⟨k + 1, vs ++ [v], s6, H7.next, by omega, wi1 k (by omega), rfl, pRep_step hok hv, by simp, rfl, d6.fr f8 (fun x => by have := hS _ x; omega), hq7.fr f8 (fun x => by have := hS _ x; omega), (f5.trans f7).trans' f8 (fun x hx => .inr (by have := hS x hx; omega)), fun _ => ⟨by omega, ?_⟩, fun e => by simp at e, ?_⟩⟩
    · obtain ⟨cs, g1, g2, g3⟩ := (hg (fun _ _ => True) (fun _ _ _ => trivial)).ex
      exact (g3 (by simp)).2.lt
    · exact hg _ (fun sg a ⟨x, y, g1, g2⟩ => ⟨x, y, g1, (g2.lt.fr f8 (fun z hz y => y.1.2 (hS z hz).2)).mono (fun j hj => ⟨hj.1.1, by have := hj.2; omega⟩)⟩)
  · have hkl : k = n.toNat := by omega
    subst hkl
    obtain ⟨cs, g1, g2⟩ := hout.vw
    exact h.yes vs s5 hok H5 _ d5 f5 ⟨b, 0, rfl, o, cs, g1, fun e => by have := ho e; omega, g2.mono fun sg a ⟨x, y, g3, g4⟩ => ⟨x, y, g3, g4.mono (fun j hj => by have := hj.1; omega)⟩⟩
end
end Go.Proofs.Ytfghglacfjncmaa

/-! The reader of a code: messages, dead letters, events, subscriptions. -/
namespace Go.Proofs.Ytfghglacfjncmaa
set_option linter.unusedVariables false
set_option linter.unusedSimpArgs false
set_option maxRecDepth 20000
open Go.RowKit

theorem pRow_ok {s s' : ByteArray} {vs : List Val} (h : pRow s = .ok (vs, s')) : rowOK vs ∧ VWs vs ∧ s'.size ≤ s.size := by
  unfold pRow at h
  obtain ⟨n, s1, h1, h2⟩ := pBind_ok h
  have hr := pCnt_range (by omega) h1
  have hz := pCnt_size h1
  have hl := pRep_len (fun s a s' e => (pVal_ok e).2.2) h2
  have hall : ∀ (k : Nat) (s s' : ByteArray) (vs : List Val), pRep pVal k s = .ok (vs, s') → ∀ v ∈ vs, VW v ∧ rightV v = true := by
    intro k
    induction k with
    | zero => intro s s' vs h v hv; cases h; simp at hv
    | succ k ih =>
      intro s s' vs h v hv
      rw [pRep] at h
      obtain ⟨a, s1, h1, h2⟩ := pBind_ok h
      obtain ⟨l, s2, h3, h4⟩ := pBind_ok h2
      cases h4
      rcases List.mem_cons.1 hv with rfl | hv
      · exact ⟨(pVal_ok h1).1, (pVal_ok h1).2.1⟩
      · exact ih _ _ _ h3 v hv
  have hx := hall _ _ _ _ h2
  exact ⟨⟨by omega, fun v hv => (hx v hv).2⟩, fun v hv => (hx v hv).1, by omega⟩
theorem pTxt_range {s s' t : ByteArray} {m : Int} (h : pTxt m s = .ok (t, s')) (hm : 0 ≤ m) : (t.size : Int) ≤ m := by
  obtain ⟨h1, rfl, _⟩ := ofRd_eq h
  unfold rdT at h1 ⊢
  rw [if_pos rfl] at h1 ⊢
  cases hp : pc s.data.toList with
  | error e => exact hm
  | ok w =>
    obtain ⟨n, k⟩ := w
    dsimp only
    split
    · exact hm
    · split
      · exact hm
      · rw [ByteArray.size_extract]; omega
theorem pMail_ok {s s' : ByteArray} {m : Mai} (h : pMail s = .ok (m, s')) : mailOK m ∧ MW m ∧ s'.size ≤ s.size := by
  unfold pMail at h
  obtain ⟨a, s1, h1, h⟩ := pBind_ok h
  obtain ⟨b, s2, h2, h⟩ := pBind_ok h
  obtain ⟨c, s3, h3, h⟩ := pBind_ok h
  obtain ⟨d, s4, h4, h⟩ := pBind_ok h
  cases h
  have := pNum_size h1
  have := pTxt_size h2
  have := (pRow_ok h3).2.2
  have := (pRow_ok h4).2.2
  exact ⟨⟨by have := pTxt_range h2 (by omega); dsimp only; omega, (pRow_ok h3).1, (pRow_ok h4).1⟩, ⟨pNum_ok h1, (pRow_ok h3).2.1, (pRow_ok h4).2.1⟩, by omega⟩
/-- A reader at work, its box, the result's box, the thing's box. -/
structure RB (H0 H : AH) (p q y x : Nat) (s : ByteArray) (Z X : List Value) : Prop where
  hd : Has H p (rdr s 0)
  hq : Has H q (.row [.pointer (some ⟨p, 0, none⟩)] 0)
  hy : Has H y (.row Z 0)
  hx : Has H x (.row X 0)
  fr : Fr [p] H0 H
  ord : p < H0.next ∧ H0.next ≤ q ∧ q < y ∧ y < x
  size : s.size ≤ 4611686018427387904
theorem RB.call {H0 H H' : AH} {p q y x : Nat} {s s' : ByteArray} {Z X : List Value} (r : RB H0 H p q y x s Z X) (d : Has H' p (rdr s' 0)) (f : Fr [p] H H') (hs : s'.size ≤ s.size) : RB H0 H' p q y x s' Z X := by
  have := r.ord
  have := r.size
  exact ⟨d, r.hq.fr f (by simp; omega), r.hy.fr f (by simp; omega), r.hx.fr f (by simp; omega), r.fr.trans f, r.ord, by omega⟩
theorem RB.set {H0 H : AH} {p q y x : Nat} {s : ByteArray} {Z X : List Value} (r : RB H0 H p q y x s Z X) (X' : List Value) : RB H0 (H.set x (.row X' 0)) p q y x s Z X' := by
  have := r.ord
  exact ⟨r.hd.setne (by omega) _, r.hq.setne (by omega) _, r.hy.setne (by omega) _, r.hx.set _, r.fr.set (.inr (by omega)) _, r.ord, r.size⟩
theorem RB.new0 {H0 H : AH} {p : Nat} {s s1 : ByteArray} {Z X : List Value} (hd : Has H0 p (rdr s 0)) (hs : s1.size ≤ 4611686018427387904) (d : Has H p (rdr s1 0)) (f : Fr [p] ((H0.push (.row [.pointer (some ⟨p, 0, none⟩)] 0)).push (.row Z 0)) H) :
    RB H0 ((H.push (.row Z 0)).set H.next (.row X 0)) p H0.next (H0.push (.row [.pointer (some ⟨p, 0, none⟩)] 0)).next H.next s1 Z X := by
  have hpl := hd.lt
  have n1 : (H0.push (.row [.pointer (some ⟨p, 0, none⟩)] 0)).next = H0.next + 1 := rfl
  have n2 : ((H0.push (.row [.pointer (some ⟨p, 0, none⟩)] 0)).push (.row Z 0)).next = H0.next + 2 := rfl
  have n3 := f.next
  have hq := (Has.new H0 (.row [.pointer (some ⟨p, 0, none⟩)] 0)).push (.row Z 0)
  have hy := Has.new (H0.push (.row [.pointer (some ⟨p, 0, none⟩)] 0)) (.row Z 0)
  exact ⟨(d.push _).setne (by omega) _, ((hq.fr f (by simp; omega)).push _).setne (by omega) _, ((hy.fr f (by simp; omega)).push _).setne (by omega) _, (Has.new _ _).set _, ((((((Fr.refl [p] H0).push _).push _).trans f).push _).set (.inr (by omega)) _), ⟨hpl, Nat.le_refl _, by omega, by omega⟩, hs⟩
section
variable {α β : Type} {H0 H : AH} {p q y x : Nat} {s : ByteArray} {Z X : List Value} {R : AEnd → AH → Prop} {V : AH → β → Value → Prop} {K : Value → AH → Prop}
/-- All begin with a number. -/
theorem start {f : Int → ByteArray → Rd β} {X : Int → List Value} {K : Nat → Nat → Nat → Option Addr → Int → AH → Prop} (hd : Has H p (rdr s 0)) (hs : s.size ≤ 4611686018427387904) (hX : ∀ n, (X n).length ≤ Z.length) (h : GetA H p (pBind (pNum s) f) V R)
    (hk : ∀ a s1 H' q y x, GetA H p (f a s1) V R → i64ok a → RB H H' p q y x s1 Z (setCells Z 0 (X a)) → K q y x (some ⟨p, 0, none⟩) a H') :
    wNew [.pointer (some ⟨p, 0, none⟩)] H fun q H2 => wNew Z H2 fun y H4 => ldP q 0 H4 fun a5 => wCall Try.prog 108 [(.agg #[(.pointer a5)])] H4 (fun r6 H7 => opI .i64 r6 fun n10 => wNew Z H7 fun x H12 => wSt x 0 (X n10) H12 fun H13 => K q y x a5 n10 H13) (fun v9 H8 => R (.panic v9) H8) := by
  refine wNew_at (wNew_at ?_)
  have hpl := hd.lt
  have hq := (Has.new H (.row [.pointer (some ⟨p, 0, none⟩)] 0)).push (.row Z 0)
  have f2 : Fr [p] H ((H.push (.row [.pointer (some ⟨p, 0, none⟩)] 0)).push (.row Z 0)) := ((Fr.refl _ H).push _).push _
  refine ldP_at hq rfl (wCall_of (gnum_call ((hd.push _).push _) ⟨fun a s1 e1 H3 d3 f3 => ?_, fun e he H3 f3 => h.stop he H3 (f2.trans f3)⟩))
  have hz := pNum_size e1
  exact opI_at (wNew_at (wSt_at (Has.new _ _) (by have := hX a; omega) (hk a s1 _ _ _ _ (h.bind e1) (pNum_ok e1) (RB.new0 hd (by omega) d3 f3))))
theorem RB.st (r : RB H0 H p q y x s Z X) {k : Nat} {vs : List Value} {K : AH → Prop} (hl : k + vs.length ≤ X.length) (h : ∀ H', RB H0 H' p q y x s Z (setCells X k vs) → Fr [x] H H' → K H') : wSt x k vs H K :=
  wSt_at r.hx hl (h _ (r.set _) ((Fr.refl _ _).set (.inl (by simp)) _))
theorem RB.num (r : RB H0 H p q y x s Z X) {f : Int → ByteArray → Rd β} (h : GetA H0 p (pBind (pNum s) f) V R) (hk : ∀ a s1 H', GetA H0 p (f a s1) V R → i64ok a → RB H0 H' p q y x s1 Z X → Fr [p] H H' → K (.int .i64 a) H') : wCall Try.prog 108 [.agg #[.pointer (some ⟨p, 0, none⟩)]] H K (fun v H' => R (.panic v) H') :=
  wCall_of (gnum_call r.hd ⟨fun a s1 e H' d f => hk a s1 H' (h.bind e) (pNum_ok e) (r.call d f (pNum_size e)) f, fun e he H' f => h.stop he H' (r.fr.trans f)⟩)
theorem RB.txt (r : RB H0 H p q y x s Z X) {f : ByteArray → ByteArray → Rd β} {most : Int} (hm : 0 ≤ most ∧ most ≤ 4096) (h : GetA H0 p (pBind (pTxt most s) f) V R) (hk : ∀ a s1 H', GetA H0 p (f a s1) V R → RB H0 H' p q y x s1 Z X → Fr [p] H H' → K (.string a) H') : wCall Try.prog 110 [.agg #[.pointer (some ⟨p, 0, none⟩)], .int .i64 most] H K (fun v H' => R (.panic v) H') :=
  wCall_of (gtext_call r.hd r.size most hm ⟨fun a s1 e H' d f => hk a s1 H' (h.bind e) (r.call d f (pTxt_size e)) f, fun e he H' f => h.stop he H' (r.fr.trans f)⟩)
theorem RB.cnt (r : RB H0 H p q y x s Z X) {f : Int → ByteArray → Rd β} {most : Int} (hm : 0 ≤ most ∧ most ≤ 4096) (h : GetA H0 p (pBind (pCnt most s) f) V R) (hk : ∀ a s1 H', GetA H0 p (f a s1) V R → 0 ≤ a ∧ a ≤ most → RB H0 H' p q y x s1 Z X → Fr [p] H H' → K (.int .i64 a) H') : wCall Try.prog 111 [.agg #[.pointer (some ⟨p, 0, none⟩)], .int .i64 most] H K (fun v H' => R (.panic v) H') :=
  wCall_of (gcnt_call r.hd r.size most hm ⟨fun a s1 e H' d f => hk a s1 H' (h.bind e) (pCnt_range hm.1 e) (r.call d f (pCnt_size e)) f, fun e he H' f => h.stop he H' (r.fr.trans f)⟩)
theorem RB.row (r : RB H0 H p q y x s Z X) {f : List Val → ByteArray → Rd β} (h : GetA H0 p (pBind (pRow s) f) V R) (hk : ∀ a s1 H' b c, GetA H0 p (f a s1) V R → RQ (fun j => x < j) H' b a → RB H0 H' p q y x s1 Z X → Fr [p] H H' → K (.slice b a.length c) H') : wCall Try.prog 116 [.agg #[.pointer (some ⟨p, 0, none⟩)]] H K (fun v H' => R (.panic v) H') :=
  wCall_of (rrow_call r.hd r.size ⟨fun a s1 e H' val d f hv => by
    obtain ⟨b, c, rfl, hr⟩ := hv
    exact hk a s1 H' b c (h.bind e) (hr.mono (fun j hj => by have := r.hx.lt; omega)) (r.call d f (pRow_ok e).2.2) f, fun e he H' f => h.stop he H' (r.fr.trans f)⟩)
theorem RB.np (r : RB H0 H p q y x s Z X) : ∀ z ∈ [p], ¬ x < z := fun z hz => by have := r.ord; simp at hz; omega
theorem RB.nx (r : RB H0 H p q y x s Z X) : ∀ z ∈ [x], ¬ x < z := fun z hz => by simp at hz; omega
theorem RB.ny (r : RB H0 H p q y x s Z X) : ∀ z ∈ [y], ¬ x < z := fun z hz => by have := r.ord; simp at hz; omega
end
abbrev MailV (n : Nat) (H : AH) (m : Mai) (val : Value) : Prop := ∃ kb kc fb fc, val = .agg (maiC m kb kc fb fc).toArray ∧ MQ (fun j => n ≤ j) H m kb fb
section
variable {H : AH} {R : AEnd → AH → Prop} {p : Nat} {s : ByteArray}
abbrev zeroM : List Value := [.int .i64 0, .string ⟨#[]⟩, .slice none 0 0, .slice none 0 0]
theorem rmail_call (hd : Has H p (rdr s 0)) (hs : s.size ≤ 4611686018427387904) (h : GetA H p (pMail s) (MailV H.next) R) : ACall Try.prog 59 [.agg #[.pointer (some ⟨p, 0, none⟩)]] H R := by
  apply f59_call
  unfold f59_B
  unfold pMail at h
  refine start (Z := zeroM) (X := fun n => [.int .i64 n, .string ⟨#[]⟩, .slice none 0 0, .slice none 0 0]) hd hs (fun n => by simp) h ?_
  intro a s1 H1 q y x h ha r
  refine ldP_at r.hq rfl (r.txt (by omega) h fun b s2 H2 h r f2 => opS_at (r.st (Nat.le_of_ble_eq_true rfl) fun H3 r f3 => ?_))
  refine ldP_at r.hq rfl (r.row h fun c s3 H4 kb kc h hk r f4 => opL_at (r.st (Nat.le_of_ble_eq_true rfl) fun H5 r f5 => ?_))
  replace hk := hk.fr f5 r.nx
  refine ldP_at r.hq rfl (r.row h fun d s4 H6 fb fc h hf r f6 => opL_at (r.st (Nat.le_of_ble_eq_true rfl) fun H7 r f7 => ?_))
  replace hk := (hk.fr f6 r.np).fr f7 r.nx
  replace hf := hf.fr f7 r.nx
  refine ldI_at r.hx rfl (ldS_at r.hx rfl (ldL_at r.hx rfl (ldL_at r.hx rfl (wSt_at r.hy (Nat.le_of_ble_eq_true rfl) ?_))))
  have ho := r.ord
  have hy := r.hy.set (.row (setCells zeroM 0 (maiC ⟨a, b, c, d⟩ kb kc fb fc)) 0)
  have fy : Fr [y] H7 (H7.set y (.row (setCells zeroM 0 (maiC ⟨a, b, c, d⟩ kb kc fb fc)) 0)) := (Fr.refl _ _).set (.inl (by simp)) _
  have hd7 := r.hd.setne (show p ≠ y by omega) (.row (setCells zeroM 0 (maiC ⟨a, b, c, d⟩ kb kc fb fc)) 0)
  refine wPt_at (ldI_at hy rfl (ldS_at hy rfl (ldL_at hy rfl (ldL_at hy rfl ?_))))
  exact h.yes ⟨a, b, c, d⟩ s4 rfl _ _ hd7 (r.fr.set (.inr (by omega)) _) ⟨kb, kc, fb, fc, rfl, ha, (hk.fr fy r.ny).mono (fun j hj => by omega), (hf.fr fy r.ny).mono (fun j hj => by omega)⟩
end
end Go.Proofs.Ytfghglacfjncmaa
