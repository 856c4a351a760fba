/- The writers: messages, artifacts, dead letters, events, subscriptions. The writers: artifacts. What is put: the bytes, or none. -/
import Derived.Test.YtfghglacfjncmaaWCdC
import Derived.Test.YtfghglacfjncmaaWGenD
/-! The writers: messages, artifacts, dead letters, events, subscriptions. -/
namespace Go.Proofs.Ytfghglacfjncmaa
set_option linter.unusedVariables false
set_option linter.unusedSimpArgs false
open Go.RowKit

/-- A writer at work, and a box beside it. -/
structure At (H0 H : AH) (i o q : Nat) (bs : List UInt8) (box : AObj) : Prop where
  ws : WS H0 H i o bs
  hq : Has H q box
  qi : q ≠ i
  qo : q ≠ o
theorem At.next {H0 H H' : AH} {i o o' q : Nat} {bs bs' : List UInt8} {box : AObj} (a : At H0 H i o q bs box) (w : WS H0 H' i o' bs') (f : Fr [i, o] H H') (ho : o' = o ∨ H.next ≤ o') : At H0 H' i o' q bs' box :=
  ⟨w, a.hq.fr f (by have := a.qi; have := a.qo; simp; omega), a.qi, by have := a.qo; have := a.hq.lt; omega⟩
theorem At.new {H0 H : AH} {i o : Nat} {bs : List UInt8} (ws : WS H0 H i o bs) (box : AObj) : At H0 (H.push box) i o H.next bs box :=
  ⟨ws.fr0 ((Fr.refl [] H).push _), Has.new _ _, by have := ws.bw.lt; omega, by have := ws.bw.olt; omega⟩
structure Mai where
  id : Int
  chan : ByteArray
  key : List Val
  fields : List Val
structure Ite where
  id : Int
  typ : ByteArray
  state : ByteArray
  since : Int
  attrs : List Val
  counts : List Int
  box : List Mai
structure Dea where
  n : Int
  mail : Mai
  reason : Int
structure Evt where
  n : Int
  tick : Int
  name : ByteArray
  item : Int
  typ : ByteArray
  state : ByteArray
  attrs : List Val
structure Sbs where
  id : Int
  role : ByteArray
  past : Int
/-- A message in memory. -/
structure MIs (H : AH) (m : Mai) (kb fb : Option Addr) : Prop where
  id : i64ok m.id
  key : RIs H kb m.key
  fields : RIs H fb m.fields
theorem MIs.fr {H H' : AH} {m : Mai} {kb fb : Option Addr} (h : MIs H m kb fb) (x : Fr [] H H') : MIs H' m kb fb := ⟨h.id, h.key.fr x, h.fields.fr x⟩
section
variable {H0 H : AH} {i o : Nat} {bs : List UInt8} {R : AEnd → AH → Prop}
end
end Go.Proofs.Ytfghglacfjncmaa

/-! The writers: artifacts. -/
namespace Go.Proofs.Ytfghglacfjncmaa
set_option linter.unusedVariables false
set_option linter.unusedSimpArgs false
open Go.RowKit

def mailOK (m : Mai) : Prop := m.chan.size ≤ 24 ∧ rowOK m.key ∧ rowOK m.fields
instance (m : Mai) : Decidable (mailOK m) := by unfold mailOK; infer_instance
def mailB (m : Mai) : List UInt8 := vb (zz m.id) ++ (tbl m.chan ++ (rowB m.key ++ rowB m.fields))
/-- Messages in memory. -/
structure BIs (H : AH) (b : Option Addr) (ms : List Mai) : Prop where
  ex : ∃ j cs, Vw H b ms.length j 4 cs ∧ ∀ k (hk : k < ms.length), ∃ kb kc fb fc, cs[k * 4]? = some (.int .i64 ms[k].id) ∧ cs[k * 4 + 1]? = some (.string ms[k].chan) ∧ cs[k * 4 + 2]? = some (.slice kb ms[k].key.length kc) ∧ cs[k * 4 + 3]? = some (.slice fb ms[k].fields.length fc) ∧ MIs H ms[k] kb fb
theorem BIs.fr {H H' : AH} {b : Option Addr} {ms : List Mai} (h : BIs H b ms) (x : Fr [] H H') : BIs H' b ms := by
  obtain ⟨j, cs, h1, h2⟩ := h.ex
  refine ⟨j, cs, h1.fr x, fun k hk => ?_⟩
  obtain ⟨kb, kc, fb, fc, g1, g2, g3, g4, g5⟩ := h2 k hk
  exact ⟨kb, kc, fb, fc, g1, g2, g3, g4, g5.fr x⟩
/-- Numbers in memory. -/
structure NIs (H : AH) (b : Option Addr) (l : List Int) : Prop where
  ok : ∀ n ∈ l, i64ok n
  view : ∃ j, Vw H b l.length j 1 (l.map fun n => Value.int .i64 n)
theorem NIs.fr {H H' : AH} {b : Option Addr} {l : List Int} (h : NIs H b l) (x : Fr [] H H') : NIs H' b l := ⟨h.ok, let ⟨j, hj⟩ := h.view; ⟨j, hj.fr x⟩⟩
/-- An artifact in memory. -/
structure IIs (H : AH) (x : Ite) (ab cb bb : Option Addr) : Prop where
  id : i64ok x.id
  since : i64ok x.since
  attrs : RIs H ab x.attrs
  counts : NIs H cb x.counts
  box : BIs H bb x.box
theorem IIs.fr {H H' : AH} {x : Ite} {ab cb bb : Option Addr} (h : IIs H x ab cb bb) (f : Fr [] H H') : IIs H' x ab cb bb := ⟨h.id, h.since, h.attrs.fr f, h.counts.fr f, h.box.fr f⟩
section
variable {H0 H : AH} {i o : Nat} {bs : List UInt8} {R : AEnd → AH → Prop}
end
end Go.Proofs.Ytfghglacfjncmaa

/-! What is put: the bytes, or none. -/
namespace Go.Proofs.Ytfghglacfjncmaa
set_option linter.unusedVariables false
set_option linter.unusedSimpArgs false
open Go.RowKit

/-- What put tells. -/
def putR (r : Option (List UInt8)) : Value :=
  match r with
  | some l => .tuple #[.string (ofL l), .int .i64 0]
  | none => .tuple #[.string ⟨#[]⟩, .int .i64 4]
theorem ne_val {v : Val} {l : List UInt8} (h : valP v = some l) : l ≠ [] := by
  unfold valP at h
  split at h
  · cases h; simp [valB]
  · cases h
section
variable {H : AH} {R : AEnd → AH → Prop}
/-- A writer that is new. -/
theorem BW.new {H : AH} : BW (H.pushT (.row [.pointer none, .slice none 0 0] 0) (some 163)) H.next H.next [] :=
  ⟨⟨none, Has.newT _ _ _, .inl ⟨rfl, by show (if H.next = H.next then some 163 else _) = _; rw [if_pos rfl]⟩⟩, fun e => absurd rfl e, by show H.next < H.next + 1; omega, by simp⟩
set_option maxRecDepth 20000 in
theorem putv_call (v : Val) {b : Option Addr} {c : Nat} (hv : VIs H v b) (h : ∀ H', Fr [] H H' → R (.ret (putR (valP v))) H') : ACall Try.prog 49 [.agg #[.int .i64 v.kind, .int .i64 v.num, .string v.text, .slice b v.list.length c], .func (.func 50) #[] #[]] H R := by
  apply f49_call
  unfold f49_B
  refine wNew_at (wNew_at (wNew_at (wNewT_at ?_)))
  have h1 := ((Has.new H (.row [.int .i64 v.kind, .int .i64 v.num, .string v.text, .slice b v.list.length c] 0)).push (.row [.string ⟨#[]⟩] 0)).push (.row [.int .i64 0] 0)
  have h2 := (Has.new (H.push (.row [.int .i64 v.kind, .int .i64 v.num, .string v.text, .slice b v.list.length c] 0)) (.row [.string ⟨#[]⟩] 0)).push (.row [.int .i64 0] 0)
  have h3 := Has.new ((H.push (.row [.int .i64 v.kind, .int .i64 v.num, .string v.text, .slice b v.list.length c] 0)).push (.row [.string ⟨#[]⟩] 0)) (.row [.int .i64 0] 0)
  have f3 : Fr [] H (((H.push (.row [.int .i64 v.kind, .int .i64 v.num, .string v.text, .slice b v.list.length c] 0)).push (.row [.string ⟨#[]⟩] 0)).push (.row [.int .i64 0] 0)) := (((Fr.refl [] H).push _).push _).push _
  have n1 : H.next ≤ H.next := Nat.le_refl _
  have n2 : (H.push (.row [.int .i64 v.kind, .int .i64 v.num, .string v.text, .slice b v.list.length c] 0)).next = H.next + 1 := rfl
  have n3 : ((H.push (.row [.int .i64 v.kind, .int .i64 v.num, .string v.text, .slice b v.list.length c] 0)).push (.row [.string ⟨#[]⟩] 0)).next = H.next + 2 := rfl
  have n4 : (((H.push (.row [.int .i64 v.kind, .int .i64 v.num, .string v.text, .slice b v.list.length c] 0)).push (.row [.string ⟨#[]⟩] 0)).push (.row [.int .i64 0] 0)).next = H.next + 3 := rfl
  generalize ((H.push (.row [.int .i64 v.kind, .int .i64 v.num, .string v.text, .slice b v.list.length c] 0)).push (.row [.string ⟨#[]⟩] 0)).push (.row [.int .i64 0] 0) = H3 at h1 h2 h3 f3 n4 ⊢
  generalize ((H.push (.row [.int .i64 v.kind, .int .i64 v.num, .string v.text, .slice b v.list.length c] 0)).push (.row [.string ⟨#[]⟩] 0)).next = i5 at h3 n3 ⊢
  generalize (H.push (.row [.int .i64 v.kind, .int .i64 v.num, .string v.text, .slice b v.list.length c] 0)).next = i3 at h2 n2 ⊢
  have bw := BW.new (H := H3)
  replace h1 := h1.pushT (.row [.pointer none, .slice none 0 0] 0) (some 163)
  replace h2 := h2.pushT (.row [.pointer none, .slice none 0 0] 0) (some 163)
  replace h3 := h3.pushT (.row [.pointer none, .slice none 0 0] 0) (some 163)
  replace f3 := f3.pushT (.row [.pointer none, .slice none 0 0] 0) (some 163)
  generalize H3.pushT (.row [.pointer none, .slice none 0 0] 0) (some 163) = H4 at bw h1 h2 h3 f3 ⊢
  have ws : WS H H4 H3.next H3.next [] := ⟨bw, f3, by omega, by omega⟩
  clear bw
  refine ldI_at h1 rfl (ldI_at h1 rfl (ldS_at h1 rfl (ldL_at h1 rfl (wCall_of (wvalue_call ws v hv (by simp) ⟨fun l el H5 o5 ws5 f5 ho5 => ?_, fun el H5 f05 f5 => ?_⟩)))))
  · rw [List.nil_append] at ws5
    have k2 := h2.lt
    have k3 := h3.lt
    replace h2 := h2.fr f5 (by simp; omega)
    replace h3 := h3.fr f5 (by simp; omega)
    refine wCall_of (bstring_call ws5.bw (ne_val el) (by have := ws5.bw.few; omega) (fun H6 f6 => opS_at ?_))
    replace h2 := h2.fr f6 (by simp; omega)
    replace h3 := h3.fr f6 (by simp; omega)
    have f06 : Fr [] H H6 := ws5.fr.trans' f6 (fun x hx => .inr (by simp at hx; have := ws5.go; omega))
    have n35 : i3 ≠ i5 := by omega
    refine wSt_at h2 (by simp) (wSt_at (h3.setne n35.symm _) (by simp) ?_)
    have g2 := (h2.set (.row (setCells [.string ⟨#[]⟩] 0 [.string (ofL l)]) 0)).setne n35 (.row (setCells [.int .i64 0] 0 [.int .i64 0]) 0)
    have g3 := (h3.setne n35.symm (.row (setCells [.string ⟨#[]⟩] 0 [.string (ofL l)]) 0)).set (.row (setCells [.int .i64 0] 0 [.int .i64 0]) 0)
    have ff := (f06.set (i := i3) (.inr (by omega)) (.row (setCells [.string ⟨#[]⟩] 0 [.string (ofL l)]) 0)).set (i := i5) (.inr (by omega)) (.row (setCells [.int .i64 0] 0 [.int .i64 0]) 0)
    refine f90_N _ _ _ _ ?_
    unfold f90_N_B
    refine wPt_at (ldS_at g2 rfl (wPt_at (ldI_at g3 rfl ?_)))
    have hh := h _ ff
    rw [el] at hh
    exact hh
  · have k2 := h2.lt
    have k3 := h3.lt
    replace h2 := h2.fr f5 (by simp; omega)
    replace h3 := h3.fr f5 (by simp; omega)
    have n35 : i3 ≠ i5 := by omega
    have n5 := f5.next
    refine f90_P _ _ 4 _ _ ?_
    unfold f90_P_B
    refine wNew_at (wSt_at (Has.new _ _) (by simp) ?_)
    have hq : Has ((H5.push (.row [.int .i64 0] 0)).set H5.next (.row (setCells [.int .i64 0] 0 [.int .i64 4]) 0)) H5.next (.row [.int .i64 4] 0) := (Has.new _ _).set _
    have fx : Fr [] H5 ((H5.push (.row [.int .i64 0] 0)).set H5.next (.row (setCells [.int .i64 0] 0 [.int .i64 4]) 0)) := ((Fr.refl [] H5).push _).set (.inr (Nat.le_refl _)) _
    generalize (H5.push (.row [.int .i64 0] 0)).set H5.next (.row (setCells [.int .i64 0] 0 [.int .i64 4]) 0) = H6 at hq fx ⊢
    replace h2 := h2.fr fx (by simp)
    replace h3 := h3.fr fx (by simp)
    refine ldI_at hq rfl (wPt_at (wSt_at h2 (by simp) ⟨PinOK_has (hq.setne (by omega) _) (by simp) rfl, wPt_at (wSt_at (h3.setne n35.symm _) (by simp) ?_)⟩))
    have g2 := (h2.set (.row (setCells [.string ⟨#[]⟩] 0 [.string ⟨#[]⟩]) 0)).setne n35 (.row (setCells [.int .i64 0] 0 [.int .i64 4]) 0)
    have g3 := (h3.setne n35.symm (.row (setCells [.string ⟨#[]⟩] 0 [.string ⟨#[]⟩]) 0)).set (.row (setCells [.int .i64 0] 0 [.int .i64 4]) 0)
    have ff := ((f05.trans fx).set (i := i3) (.inr (by omega)) (.row (setCells [.string ⟨#[]⟩] 0 [.string ⟨#[]⟩]) 0)).set (i := i5) (.inr (by omega)) (.row (setCells [.int .i64 0] 0 [.int .i64 4]) 0)
    refine wPt_at (ldS_at g2 rfl (wPt_at (ldI_at g3 rfl ?_)))
    have hh := h _ ff
    rw [el] at hh
    exact hh
end
end Go.Proofs.Ytfghglacfjncmaa
