/- The writers: messages, artifacts, dead letters, events, subscriptions. The writers: artifacts. What is put: the bytes, or none. -/
import Derived.Test.YtfghglacfjncmaaWCdC
import Derived.Test.YtfghglacfjncmaaWGenD
/-! The writers: messages, artifacts, dead letters, events, subscriptions. -/
namespace Go.Proofs.Ytfghglacfjncmaa
set_option linter.unusedVariables false
set_option linter.unusedSimpArgs false
open Go.RowKit

/-- A writer at work, and a box beside it. -/
structure At (H0 H : AH) (i o q : Nat) (bs : List UInt8) (box : AObj) : Prop where
  ws : WS H0 H i o bs
  hq : Has H q box
  qi : q ≠ i
  qo : q ≠ o
theorem At.next {H0 H H' : AH} {i o o' q : Nat} {bs bs' : List UInt8} {box : AObj} (a : At H0 H i o q bs box) (w : WS H0 H' i o' bs') (f : Fr [i, o] H H') (ho : o' = o ∨ H.next ≤ o') : At H0 H' i o' q bs' box :=
  ⟨w, a.hq.fr f (by have := a.qi; have := a.qo; simp; omega), a.qi, by have := a.qo; have := a.hq.lt; omega⟩
theorem At.new {H0 H : AH} {i o : Nat} {bs : List UInt8} (ws : WS H0 H i o bs) (box : AObj) : At H0 (H.push box) i o H.next bs box :=
  ⟨ws.fr0 ((Fr.refl [] H).push _), Has.new _ _, by have := ws.bw.lt; omega, by have := ws.bw.olt; omega⟩
theorem Puts.pre {H0 H H1 : AH} {i o : Nat} {bs : List UInt8} {r : Option (List UInt8)} {R : AEnd → AH → Prop} (h : Puts H0 H i o bs r R) (f : Fr [] H H1) : Puts H0 H1 i o bs r R := by
  have := f.next
  exact ⟨fun l e H' o' w f' ho => h.yes l e H' o' w ((f.mono (by simp)).trans f') (by omega), fun e H' x y => h.no e H' x ((f.mono (by simp)).trans y)⟩
structure Mai where
  id : Int
  chan : ByteArray
  key : List Val
  fields : List Val
structure Ite where
  id : Int
  typ : ByteArray
  state : ByteArray
  since : Int
  attrs : List Val
  counts : List Int
  box : List Mai
structure Dea where
  n : Int
  mail : Mai
  reason : Int
structure Evt where
  n : Int
  tick : Int
  name : ByteArray
  item : Int
  typ : ByteArray
  state : ByteArray
  attrs : List Val
structure Sbs where
  id : Int
  role : ByteArray
  past : Int
abbrev numP (n : Int) : Option (List UInt8) := some (vb (zz n))
def mailP (m : Mai) : Option (List UInt8) := cat (numP m.id) (cat (nameP m.chan) (cat (rowP m.key) (rowP m.fields)))
def deadP (x : Dea) : Option (List UInt8) := cat (numP x.n) (cat (mailP x.mail) (cntP x.reason 5))
def eventP (x : Evt) : Option (List UInt8) := cat (numP x.n) (cat (numP x.tick) (cat (numP x.item) (cat (nameP x.name) (cat (nameP x.typ) (cat (nameP x.state) (rowP x.attrs))))))
def subP (x : Sbs) : Option (List UInt8) := cat (numP x.id) (cat (numP x.past) (nameP x.role))
theorem mail_short (m : Mai) {l : List UInt8} (e : mailP m = some l) : l.length ≤ 13000 := by
  unfold mailP at e
  cases h1 : nameP m.chan with
  | none => rw [h1] at e; cases e
  | some a =>
    cases h2 : rowP m.key with
    | none => rw [h1, h2] at e; cases e
    | some b =>
      cases h3 : rowP m.fields with
      | none => rw [h1, h2, h3] at e; cases e
      | some c =>
        rw [h1, h2, h3] at e
        cases e
        have := short_name _ _ h1
        have := short_row _ _ h2
        have := short_row _ _ h3
        have := vb_length (zz m.id)
        simp only [List.length_append]; omega
/-- A message in memory. -/
structure MIs (H : AH) (m : Mai) (kb fb : Option Addr) : Prop where
  id : i64ok m.id
  key : RIs H kb m.key
  fields : RIs H fb m.fields
theorem MIs.fr {H H' : AH} {m : Mai} {kb fb : Option Addr} (h : MIs H m kb fb) (x : Fr [] H H') : MIs H' m kb fb := ⟨h.id, h.key.fr x, h.fields.fr x⟩
section
variable {H0 H : AH} {i o : Nat} {bs : List UInt8} {R : AEnd → AH → Prop}
set_option maxRecDepth 20000 in
set_option maxHeartbeats 1000000 in
theorem wmail_call (ws : WS H0 H i o bs) (m : Mai) {kb fb : Option Addr} {kc fc : Nat} (hm : MIs H0 m kb fb) (hl : bs.length ≤ 40000000000000) (h : Puts H0 H i o bs (mailP m) R) : ACall Try.prog 52 [.pointer (some ⟨i, 0, none⟩), .agg #[.int .i64 m.id, .string m.chan, .slice kb m.key.length kc, .slice fb m.fields.length fc]] H R := by
  apply f52_call
  unfold f52_B
  unfold mailP at h
  refine wNew_at ?_
  have a := At.new ws (.row [.int .i64 m.id, .string m.chan, .slice kb m.key.length kc, .slice fb m.fields.length fc] 0)
  replace h := h.pre ((Fr.refl [] H).push (.row [.int .i64 m.id, .string m.chan, .slice kb m.key.length kc, .slice fb m.fields.length fc] 0))
  generalize H.push (.row [.int .i64 m.id, .string m.chan, .slice kb m.key.length kc, .slice fb m.fields.length fc] 0) = H1 at a h ⊢
  generalize H.next = q at a ⊢
  refine ldI_at a.hq rfl (wCall_of (wnumber_call a.ws m.id hm.id (by omega) ⟨fun l el H1 o1 w f ho => ?_, h.noOf⟩))
  replace h := h.ret el w f ho
  have d0 := Short.add (short_num _) el bs
  replace a := a.next w f ho
  clear el w f ho
  generalize bs ++ l = bs2 at h a d0
  replace hl : bs2.length ≤ 40000000020000 := by omega
  clear d0
  try clear ws
  obtain ⟨bs, rfl⟩ : ∃ b, b = bs2 := ⟨_, rfl⟩
  refine ldS_at a.hq rfl (wCall_of (wname_call a.ws m.chan (by omega) ⟨fun l el H1 o1 w f ho => ?_, h.noOf⟩))
  replace h := h.ret el w f ho
  have d1 := Short.add (short_name _) el bs
  replace a := a.next w f ho
  clear el w f ho
  generalize bs ++ l = bs2 at h a d1
  replace hl : bs2.length ≤ 40000000040000 := by omega
  clear d1
  try clear ws
  obtain ⟨bs, rfl⟩ : ∃ b, b = bs2 := ⟨_, rfl⟩
  refine ldL_at a.hq rfl (wCall_of (wrow_call a.ws m.key hm.key (by omega) ⟨fun l el H1 o1 w f ho => ?_, h.noOf⟩))
  replace h := h.ret el w f ho
  have d2 := Short.add (short_row _) el bs
  replace a := a.next w f ho
  clear el w f ho
  generalize bs ++ l = bs2 at h a d2
  replace hl : bs2.length ≤ 40000000060000 := by omega
  clear d2
  try clear ws
  obtain ⟨bs, rfl⟩ : ∃ b, b = bs2 := ⟨_, rfl⟩
  exact ldL_at a.hq rfl (wCall_of (wrow_call a.ws m.fields hm.fields (by omega) ⟨h.yes, h.no⟩))
theorem add_mail {m : Mai} {l : List UInt8} (e : mailP m = some l) (bs : List UInt8) : (bs ++ l).length ≤ bs.length + 13000 := by
  rw [List.length_append]; have := mail_short m e; omega
set_option maxRecDepth 20000 in
set_option maxHeartbeats 1000000 in
theorem wdead_call (ws : WS H0 H i o bs) (x : Dea) {kb fb : Option Addr} {kc fc : Nat} (h1 : i64ok x.n) (hm : MIs H0 x.mail kb fb) (hl : bs.length ≤ 39999999900000) (h : Puts H0 H i o bs (deadP x) R) : ACall Try.prog 75 [.pointer (some ⟨i, 0, none⟩), .agg #[.int .i64 x.n, .int .i64 x.mail.id, .string x.mail.chan, .slice kb x.mail.key.length kc, .slice fb x.mail.fields.length fc, .int .i64 x.reason]] H R := by
  apply f75_call
  unfold f75_B
  unfold deadP at h
  refine wNew_at ?_
  have a := At.new ws (.row [.int .i64 x.n, .int .i64 x.mail.id, .string x.mail.chan, .slice kb x.mail.key.length kc, .slice fb x.mail.fields.length fc, .int .i64 x.reason] 0)
  replace h := h.pre ((Fr.refl [] H).push (.row [.int .i64 x.n, .int .i64 x.mail.id, .string x.mail.chan, .slice kb x.mail.key.length kc, .slice fb x.mail.fields.length fc, .int .i64 x.reason] 0))
  generalize H.push (.row [.int .i64 x.n, .int .i64 x.mail.id, .string x.mail.chan, .slice kb x.mail.key.length kc, .slice fb x.mail.fields.length fc, .int .i64 x.reason] 0) = H1 at a h ⊢
  generalize H.next = q at a ⊢
  refine ldI_at a.hq rfl (wCall_of (wnumber_call a.ws x.n h1 (by omega) ⟨fun l el H1 o1 w f ho => ?_, h.noOf⟩))
  replace h := h.ret el w f ho
  have d0 := Short.add (short_num _) el bs
  replace a := a.next w f ho
  clear el w f ho
  generalize bs ++ l = bs2 at h a d0
  replace hl : bs2.length ≤ 39999999920000 := by omega
  clear d0
  try clear ws
  obtain ⟨bs, rfl⟩ : ∃ b, b = bs2 := ⟨_, rfl⟩
  refine ldI_at a.hq rfl (ldS_at a.hq rfl (ldL_at a.hq rfl (ldL_at a.hq rfl (wCall_of (wmail_call a.ws x.mail hm (by omega) ⟨fun l el H1 o1 w f ho => ?_, h.noOf⟩)))))
  replace h := h.ret el w f ho
  have d1 := add_mail el bs
  replace a := a.next w f ho
  clear el w f ho
  generalize bs ++ l = bs2 at h a d1
  replace hl : bs2.length ≤ 39999999940000 := by omega
  clear d1
  try clear ws
  obtain ⟨bs, rfl⟩ : ∃ b, b = bs2 := ⟨_, rfl⟩
  exact ldI_at a.hq rfl (wCall_of (wcount_call a.ws x.reason 5 (by omega) (by omega) ⟨h.yes, h.no⟩))
set_option maxRecDepth 20000 in
set_option maxHeartbeats 1000000 in
theorem wevent_call (ws : WS H0 H i o bs) (x : Evt) {ab : Option Addr} {ac : Nat} (h1 : i64ok x.n) (h2 : i64ok x.tick) (h3 : i64ok x.item) (ha : RIs H0 ab x.attrs) (hl : bs.length ≤ 40000000000000) (h : Puts H0 H i o bs (eventP x) R) : ACall Try.prog 77 [.pointer (some ⟨i, 0, none⟩), .agg #[.int .i64 x.n, .int .i64 x.tick, .string x.name, .int .i64 x.item, .string x.typ, .string x.state, .slice ab x.attrs.length ac]] H R := by
  apply f77_call
  unfold f77_B
  unfold eventP at h
  refine wNew_at ?_
  have a := At.new ws (.row [.int .i64 x.n, .int .i64 x.tick, .string x.name, .int .i64 x.item, .string x.typ, .string x.state, .slice ab x.attrs.length ac] 0)
  replace h := h.pre ((Fr.refl [] H).push (.row [.int .i64 x.n, .int .i64 x.tick, .string x.name, .int .i64 x.item, .string x.typ, .string x.state, .slice ab x.attrs.length ac] 0))
  generalize H.push (.row [.int .i64 x.n, .int .i64 x.tick, .string x.name, .int .i64 x.item, .string x.typ, .string x.state, .slice ab x.attrs.length ac] 0) = H1 at a h ⊢
  generalize H.next = q at a ⊢
  refine ldI_at a.hq rfl (wCall_of (wnumber_call a.ws x.n h1 (by omega) ⟨fun l el H1 o1 w f ho => ?_, h.noOf⟩))
  replace h := h.ret el w f ho
  have d0 := Short.add (short_num _) el bs
  replace a := a.next w f ho
  clear el w f ho
  generalize bs ++ l = bs2 at h a d0
  replace hl : bs2.length ≤ 40000000020000 := by omega
  clear d0
  try clear ws
  obtain ⟨bs, rfl⟩ : ∃ b, b = bs2 := ⟨_, rfl⟩
  refine ldI_at a.hq rfl (wCall_of (wnumber_call a.ws x.tick h2 (by omega) ⟨fun l el H1 o1 w f ho => ?_, h.noOf⟩))
  replace h := h.ret el w f ho
  have d1 := Short.add (short_num _) el bs
  replace a := a.next w f ho
  clear el w f ho
  generalize bs ++ l = bs2 at h a d1
  replace hl : bs2.length ≤ 40000000040000 := by omega
  clear d1
  try clear ws
  obtain ⟨bs, rfl⟩ : ∃ b, b = bs2 := ⟨_, rfl⟩
  refine ldI_at a.hq rfl (wCall_of (wnumber_call a.ws x.item h3 (by omega) ⟨fun l el H1 o1 w f ho => ?_, h.noOf⟩))
  replace h := h.ret el w f ho
  have d2 := Short.add (short_num _) el bs
  replace a := a.next w f ho
  clear el w f ho
  generalize bs ++ l = bs2 at h a d2
  replace hl : bs2.length ≤ 40000000060000 := by omega
  clear d2
  try clear ws
  obtain ⟨bs, rfl⟩ : ∃ b, b = bs2 := ⟨_, rfl⟩
  refine ldS_at a.hq rfl (wCall_of (wname_call a.ws x.name (by omega) ⟨fun l el H1 o1 w f ho => ?_, h.noOf⟩))
  replace h := h.ret el w f ho
  have d3 := Short.add (short_name _) el bs
  replace a := a.next w f ho
  clear el w f ho
  generalize bs ++ l = bs2 at h a d3
  replace hl : bs2.length ≤ 40000000080000 := by omega
  clear d3
  try clear ws
  obtain ⟨bs, rfl⟩ : ∃ b, b = bs2 := ⟨_, rfl⟩
  refine ldS_at a.hq rfl (wCall_of (wname_call a.ws x.typ (by omega) ⟨fun l el H1 o1 w f ho => ?_, h.noOf⟩))
  replace h := h.ret el w f ho
  have d4 := Short.add (short_name _) el bs
  replace a := a.next w f ho
  clear el w f ho
  generalize bs ++ l = bs2 at h a d4
  replace hl : bs2.length ≤ 40000000100000 := by omega
  clear d4
  try clear ws
  obtain ⟨bs, rfl⟩ : ∃ b, b = bs2 := ⟨_, rfl⟩
  refine ldS_at a.hq rfl (wCall_of (wname_call a.ws x.state (by omega) ⟨fun l el H1 o1 w f ho => ?_, h.noOf⟩))
  replace h := h.ret el w f ho
  have d5 := Short.add (short_name _) el bs
  replace a := a.next w f ho
  clear el w f ho
  generalize bs ++ l = bs2 at h a d5
  replace hl : bs2.length ≤ 40000000120000 := by omega
  clear d5
  try clear ws
  obtain ⟨bs, rfl⟩ : ∃ b, b = bs2 := ⟨_, rfl⟩
  exact ldL_at a.hq rfl (wCall_of (wrow_call a.ws x.attrs ha (by omega) ⟨h.yes, h.no⟩))
set_option maxRecDepth 20000 in
set_option maxHeartbeats 1000000 in
theorem wsub_call (ws : WS H0 H i o bs) (x : Sbs) (h1 : i64ok x.id) (h2 : i64ok x.past) (hl : bs.length ≤ 40000000000000) (h : Puts H0 H i o bs (subP x) R) : ACall Try.prog 79 [.pointer (some ⟨i, 0, none⟩), .agg #[.int .i64 x.id, .string x.role, .int .i64 x.past]] H R := by
  apply f79_call
  unfold f79_B
  unfold subP at h
  refine wNew_at ?_
  have a := At.new ws (.row [.int .i64 x.id, .string x.role, .int .i64 x.past] 0)
  replace h := h.pre ((Fr.refl [] H).push (.row [.int .i64 x.id, .string x.role, .int .i64 x.past] 0))
  generalize H.push (.row [.int .i64 x.id, .string x.role, .int .i64 x.past] 0) = H1 at a h ⊢
  generalize H.next = q at a ⊢
  refine ldI_at a.hq rfl (wCall_of (wnumber_call a.ws x.id h1 (by omega) ⟨fun l el H1 o1 w f ho => ?_, h.noOf⟩))
  replace h := h.ret el w f ho
  have d0 := Short.add (short_num _) el bs
  replace a := a.next w f ho
  clear el w f ho
  generalize bs ++ l = bs2 at h a d0
  replace hl : bs2.length ≤ 40000000020000 := by omega
  clear d0
  try clear ws
  obtain ⟨bs, rfl⟩ : ∃ b, b = bs2 := ⟨_, rfl⟩
  refine ldI_at a.hq rfl (wCall_of (wnumber_call a.ws x.past h2 (by omega) ⟨fun l el H1 o1 w f ho => ?_, h.noOf⟩))
  replace h := h.ret el w f ho
  have d1 := Short.add (short_num _) el bs
  replace a := a.next w f ho
  clear el w f ho
  generalize bs ++ l = bs2 at h a d1
  replace hl : bs2.length ≤ 40000000040000 := by omega
  clear d1
  try clear ws
  obtain ⟨bs, rfl⟩ : ∃ b, b = bs2 := ⟨_, rfl⟩
  exact ldS_at a.hq rfl (wCall_of (wname_call a.ws x.role (by omega) ⟨h.yes, h.no⟩))
end
end Go.Proofs.Ytfghglacfjncmaa

/-! The writers: artifacts. -/
namespace Go.Proofs.Ytfghglacfjncmaa
set_option linter.unusedVariables false
set_option linter.unusedSimpArgs false
open Go.RowKit

def cntsB (l : List Int) : List UInt8 := (l.map fun n => vb n.toNat).flatten
def cntsOK (l : List Int) : Prop := ∀ n ∈ l, 0 ≤ n ∧ n ≤ 1000
instance (l : List Int) : Decidable (cntsOK l) := by unfold cntsOK; infer_instance
def cntsP (l : List Int) : Option (List UInt8) := if cntsOK l then some (cntsB l) else none
def mailOK (m : Mai) : Prop := m.chan.size ≤ 24 ∧ rowOK m.key ∧ rowOK m.fields
instance (m : Mai) : Decidable (mailOK m) := by unfold mailOK; infer_instance
def mailB (m : Mai) : List UInt8 := vb (zz m.id) ++ (tbl m.chan ++ (rowB m.key ++ rowB m.fields))
theorem mailP_eq (m : Mai) : mailP m = if mailOK m then some (mailB m) else none := by
  unfold mailP nameP rowP mailOK mailB
  by_cases h1 : m.chan.size ≤ 24 <;> by_cases h2 : rowOK m.key <;> by_cases h3 : rowOK m.fields <;> simp [h1, h2, h3, cat]
def boxB (l : List Mai) : List UInt8 := (l.map mailB).flatten
def boxOK (l : List Mai) : Prop := ∀ m ∈ l, mailOK m
instance (l : List Mai) : Decidable (boxOK l) := by unfold boxOK; infer_instance
def boxP (l : List Mai) : Option (List UInt8) := if boxOK l then some (boxB l) else none
theorem cntsB_snoc (l : List Int) (n : Int) : cntsB (l ++ [n]) = cntsB l ++ vb n.toNat := by simp [cntsB]
theorem boxB_snoc (l : List Mai) (m : Mai) : boxB (l ++ [m]) = boxB l ++ mailB m := by simp [boxB]
theorem cntsB_length (l : List Int) : (cntsB l).length ≤ 10 * l.length := by
  unfold cntsB
  induction l with
  | nil => simp
  | cons n l ih =>
    have := vb_length n.toNat
    simp only [List.map_cons, List.flatten_cons, List.length_append, List.length_cons]; omega
theorem boxB_length (l : List Mai) (h : boxOK l) : (boxB l).length ≤ 13000 * l.length := by
  unfold boxB
  induction l with
  | nil => simp
  | cons m l ih =>
    have h1 := mail_short m (l := mailB m) (by rw [mailP_eq, if_pos (h m (by simp))])
    have := ih (fun x hx => h x (by simp [hx]))
    simp only [List.map_cons, List.flatten_cons, List.length_append, List.length_cons]; omega
def itemP (x : Ite) : Option (List UInt8) :=
  cat (numP x.id) (cat (numP x.since) (cat (nameP x.typ) (cat (nameP x.state) (cat (rowP x.attrs) (cat (cntP x.counts.length 16) (cat (cntsP x.counts) (cat (cntP x.box.length 4096) (boxP x.box))))))))
/-- Messages in memory. -/
structure BIs (H : AH) (b : Option Addr) (ms : List Mai) : Prop where
  ex : ∃ j cs, Vw H b ms.length j 4 cs ∧ ∀ k (hk : k < ms.length), ∃ kb kc fb fc, cs[k * 4]? = some (.int .i64 ms[k].id) ∧ cs[k * 4 + 1]? = some (.string ms[k].chan) ∧ cs[k * 4 + 2]? = some (.slice kb ms[k].key.length kc) ∧ cs[k * 4 + 3]? = some (.slice fb ms[k].fields.length fc) ∧ MIs H ms[k] kb fb
theorem BIs.fr {H H' : AH} {b : Option Addr} {ms : List Mai} (h : BIs H b ms) (x : Fr [] H H') : BIs H' b ms := by
  obtain ⟨j, cs, h1, h2⟩ := h.ex
  refine ⟨j, cs, h1.fr x, fun k hk => ?_⟩
  obtain ⟨kb, kc, fb, fc, g1, g2, g3, g4, g5⟩ := h2 k hk
  exact ⟨kb, kc, fb, fc, g1, g2, g3, g4, g5.fr x⟩
/-- Numbers in memory. -/
structure NIs (H : AH) (b : Option Addr) (l : List Int) : Prop where
  ok : ∀ n ∈ l, i64ok n
  view : ∃ j, Vw H b l.length j 1 (l.map fun n => Value.int .i64 n)
theorem NIs.fr {H H' : AH} {b : Option Addr} {l : List Int} (h : NIs H b l) (x : Fr [] H H') : NIs H' b l := ⟨h.ok, let ⟨j, hj⟩ := h.view; ⟨j, hj.fr x⟩⟩
/-- An artifact in memory. -/
structure IIs (H : AH) (x : Ite) (ab cb bb : Option Addr) : Prop where
  id : i64ok x.id
  since : i64ok x.since
  attrs : RIs H ab x.attrs
  counts : NIs H cb x.counts
  box : BIs H bb x.box
theorem IIs.fr {H H' : AH} {x : Ite} {ab cb bb : Option Addr} (h : IIs H x ab cb bb) (f : Fr [] H H') : IIs H' x ab cb bb := ⟨h.id, h.since, h.attrs.fr f, h.counts.fr f, h.box.fr f⟩
theorem cnt_some {n m : Int} {l : List UInt8} (e : cntP n m = some l) : 0 ≤ n ∧ n ≤ m ∧ l = vb n.toNat := by
  unfold cntP at e
  split at e
  · rename_i h; cases e; exact ⟨h.1, h.2, rfl⟩
  · cases e
section
variable {H0 H : AH} {i o : Nat} {bs : List UInt8} {R : AEnd → AH → Prop}
set_option maxRecDepth 20000 in
set_option maxHeartbeats 4000000 in
theorem witem_call (ws : WS H0 H i o bs) (x : Ite) {ab cb bb : Option Addr} {ac cc bc : Nat} (hx : IIs H0 x ab cb bb) (hl : bs.length ≤ 10000000000000) (h : Puts H0 H i o bs (itemP x) R) :
    ACall Try.prog 67 [.pointer (some ⟨i, 0, none⟩), .agg #[.int .i64 x.id, .string x.typ, .string x.state, .int .i64 x.since, .slice ab x.attrs.length ac, .slice cb x.counts.length cc, .slice bb x.box.length bc]] H R := by
  apply f67_call
  unfold f67_B
  unfold itemP at h
  refine wNew_at ?_
  have a := At.new ws (.row [.int .i64 x.id, .string x.typ, .string x.state, .int .i64 x.since, .slice ab x.attrs.length ac, .slice cb x.counts.length cc, .slice bb x.box.length bc] 0)
  replace h := h.pre ((Fr.refl [] H).push (.row [.int .i64 x.id, .string x.typ, .string x.state, .int .i64 x.since, .slice ab x.attrs.length ac, .slice cb x.counts.length cc, .slice bb x.box.length bc] 0))
  generalize H.push (.row [.int .i64 x.id, .string x.typ, .string x.state, .int .i64 x.since, .slice ab x.attrs.length ac, .slice cb x.counts.length cc, .slice bb x.box.length bc] 0) = H1 at a h ⊢
  generalize H.next = q at a ⊢
  clear ws
  refine ldI_at a.hq rfl (wCall_of (wnumber_call a.ws x.id hx.id (by omega) ⟨fun l el H1 o1 w f ho => ?_, h.noOf⟩))
  replace h := h.ret el w f ho
  have d := Short.add (short_num _) el bs
  replace a := a.next w f ho
  clear el w f ho
  generalize bs ++ l = bs2 at h a d
  replace hl : bs2.length ≤ 10000000010000 := by omega
  clear d
  refine ldI_at a.hq rfl (wCall_of (wnumber_call a.ws x.since hx.since (by omega) ⟨fun l el H1 o1 w f ho => ?_, h.noOf⟩))
  replace h := h.ret el w f ho
  have d := Short.add (short_num _) el bs2
  replace a := a.next w f ho
  clear el w f ho
  generalize bs2 ++ l = bs at h a d
  replace hl : bs.length ≤ 10000000020000 := by omega
  clear d
  refine ldS_at a.hq rfl (wCall_of (wname_call a.ws x.typ (by omega) ⟨fun l el H1 o1 w f ho => ?_, h.noOf⟩))
  replace h := h.ret el w f ho
  have d := Short.add (short_name _) el bs
  replace a := a.next w f ho
  clear el w f ho
  generalize bs ++ l = bs2 at h a d
  replace hl : bs2.length ≤ 10000000030000 := by omega
  clear d
  refine ldS_at a.hq rfl (wCall_of (wname_call a.ws x.state (by omega) ⟨fun l el H1 o1 w f ho => ?_, h.noOf⟩))
  replace h := h.ret el w f ho
  have d := Short.add (short_name _) el bs2
  replace a := a.next w f ho
  clear el w f ho
  generalize bs2 ++ l = bs at h a d
  replace hl : bs.length ≤ 10000000040000 := by omega
  clear d
  refine ldL_at a.hq rfl (wCall_of (wrow_call a.ws x.attrs hx.attrs (by omega) ⟨fun l el H1 o1 w f ho => ?_, h.noOf⟩))
  replace h := h.ret el w f ho
  have d := Short.add (short_row _) el bs
  replace a := a.next w f ho
  clear el w f ho
  generalize bs ++ l = bs2 at h a d
  replace hl : bs2.length ≤ 10000000050000 := by omega
  clear d
  refine ldL_at a.hq rfl (wCall_of (wcount_call a.ws (x.counts.length : Int) 16 (by omega) (by omega) ⟨fun l el Hs o1 w f ho => ?_, h.noOf⟩))
  have h16 := (cnt_some el).2.1
  replace h := h.ret el w f ho
  have d := Short.add (short_cnt _ _) el bs2
  replace a := a.next w f ho
  clear el w f ho
  generalize bs2 ++ l = bs at h a d
  replace hl : bs.length ≤ 10000000060000 := by omega
  clear d
  refine ldL_at a.hq rfl ?_
  obtain ⟨j, hvw⟩ := hx.counts.view
  refine f67_L0_rule (J := fun m r H' => ∃ k o', k ≤ x.counts.length ∧ r = (k : Int) ∧ m = x.counts.length - k ∧ At H0 H' i o' q (bs ++ cntsB (x.counts.take k)) (.row [.int .i64 x.id, .string x.typ, .string x.state, .int .i64 x.since, .slice ab x.attrs.length ac, .slice cb x.counts.length cc, .slice bb x.box.length bc] 0) ∧
      Fr [i, o1] Hs H' ∧ (o' = o1 ∨ Hs.next ≤ o') ∧ cntsOK (x.counts.take k)) x.counts.length
    ⟨0, o1, Nat.zero_le _, rfl, rfl, by simpa [cntsB] using a, Fr.refl _ _, .inl rfl, fun n hn => by simp at hn⟩ ?_
  rintro m r H5 ⟨k, o5, hk, rfl, rfl, a5, f5, ho5, hall⟩
  intros
  unfold f67_R0
  refine wIf_d (fun hlt => ?_) (fun hge => ?_)
  · have hlt : k < x.counts.length := by omega
    have hn0 : x.counts.length ≠ 0 := by omega
    have hw5 := hvw.fr a5.ws.fr
    have hcell : (x.counts.map fun n => Value.int .i64 n)[k * 1]? = some (.int .i64 x.counts[k]) := by
      rw [Nat.mul_one, List.getElem?_map, List.getElem?_eq_getElem hlt]; rfl
    have hcb := cntsB_length (x.counts.take k)
    have hlt2 := List.length_take (i := k) (l := x.counts)
    have e6 : x.counts.take (k + 1) = x.counts.take k ++ [x.counts[k]] := by rw [List.take_add_one, List.getElem?_eq_getElem hlt]; rfl
    have n5 := f5.next
    refine hw5.ix rfl hlt (hw5.ldI hn0 hcell (wCall_of (wcount_call a5.ws x.counts[k] 1000 (by omega) (by rw [List.length_append]; omega) ⟨fun l el H7 o7 w7 f7 ho7 => ?_, fun el H' z y => ?_⟩)))
    · obtain ⟨c1, c2, rfl⟩ := cnt_some el
      have a7 := a5.next w7 f7 ho7
      refine ⟨x.counts.length - (k + 1), by omega, f67_I0_mk ⟨k + 1, o7, hlt, wi1 k (by omega), rfl, ?_, f5.trans' f7 (fun z hz => ?_), by omega, fun w hw => ?_⟩⟩
      · rw [e6, cntsB_snoc]
        simpa [List.append_assoc] using a7
      · simp at hz ⊢; omega
      · rw [e6] at hw
        rcases List.mem_append.1 hw with hw | hw
        · exact hall w hw
        · rw [List.mem_singleton.1 hw]; exact ⟨c1, c2⟩
    · have hno : ¬ cntsOK x.counts := fun z => by
        have := z _ (List.getElem_mem hlt)
        unfold cntP at el
        rw [if_pos this] at el
        cases el
      refine h.noOf (by unfold cntsP; rw [if_neg hno]) H' z (f5.trans' y (fun z hz => ?_))
      simp at hz ⊢; omega
  · have hkl : k = x.counts.length := by omega
    subst hkl
    rw [List.take_length] at a5 hall
    replace h := h.ret (by unfold cntsP; rw [if_pos hall]) a5.ws f5 ho5
    have d := cntsB_length x.counts
    have hl2 : (bs ++ cntsB x.counts).length ≤ 10000000070000 := by rw [List.length_append]; omega
    clear hl d hall f5 a
    generalize bs ++ cntsB x.counts = bs2 at h a5 hl2
    rw [f67_J0_eq]
    unfold f67_J0_B
    refine wPt_at (ldL_at a5.hq rfl (wCall_of (wcount_call a5.ws (x.box.length : Int) 4096 (by omega) (by omega) ⟨fun l el Hb o2 w f ho => ?_, h.noOf⟩)))
    have h4096 := (cnt_some el).2.1
    replace h := h.ret el w f ho
    have d := Short.add (short_cnt _ _) el bs2
    replace a5 := a5.next w f ho
    clear el w f ho
    generalize bs2 ++ l = bs3 at h a5 d
    replace hl2 : bs3.length ≤ 10000000080000 := by omega
    refine wPt_at (ldL_at a5.hq rfl ?_)
    obtain ⟨j, cs, hw, hcs⟩ := hx.box.ex
    refine f67_L1_rule (J := fun m r H' => ∃ k o', k ≤ x.box.length ∧ r = (k : Int) ∧ m = x.box.length - k ∧ WS H0 H' i o' (bs3 ++ boxB (x.box.take k)) ∧ Fr [i, o2] Hb H' ∧ (o' = o2 ∨ Hb.next ≤ o') ∧ boxOK (x.box.take k)) x.box.length
      ⟨0, o2, Nat.zero_le _, rfl, rfl, by simpa [boxB] using a5.ws, Fr.refl _ _, .inl rfl, fun n hn => by simp at hn⟩ ?_
    rintro m r H6 ⟨k, o6, hk, rfl, rfl, ws6, f6, ho6, hall⟩
    intros
    unfold f67_R1
    refine wIf_d (fun hlt => ?_) (fun hge => ?_)
    · have hlt : k < x.box.length := by omega
      have hn0 : x.box.length ≠ 0 := by omega
      obtain ⟨kb, kc, fb, fc, g1, g2, g3, g4, g5⟩ := hcs k hlt
      have hw5 := hw.fr ws6.fr
      have e6 : x.box.take (k + 1) = x.box.take k ++ [x.box[k]] := by rw [List.take_add_one, List.getElem?_eq_getElem hlt]; rfl
      have hbl := boxB_length (x.box.take k) hall
      have hlt2 := List.length_take (i := k) (l := x.box)
      have n6 := f6.next
      generalize hve : x.box[k] = v at g1 g2 g3 g4 g5 e6
      refine hw5.ix rfl hlt (hw5.ldI hn0 g1 (hw5.ldS hn0 g2 (hw5.ldL hn0 g3 (hw5.ldL hn0 g4 (wNew_at (wSt_at (Has.new _ _) (by simp) ?_))))))
      have hx6 : Fr [] H6 ((H6.push (.row [.int .i64 0, .string ⟨#[]⟩, .slice none 0 0, .slice none 0 0] 0)).set H6.next (.row (setCells [.int .i64 0, .string ⟨#[]⟩, .slice none 0 0, .slice none 0 0] 0 [.int .i64 v.id, .string v.chan, .slice kb v.key.length kc, .slice fb v.fields.length fc]) 0)) := ((Fr.refl [] H6).push _).set (.inr (Nat.le_refl _)) _
      have hb : Has ((H6.push (.row [.int .i64 0, .string ⟨#[]⟩, .slice none 0 0, .slice none 0 0] 0)).set H6.next (.row (setCells [.int .i64 0, .string ⟨#[]⟩, .slice none 0 0, .slice none 0 0] 0 [.int .i64 v.id, .string v.chan, .slice kb v.key.length kc, .slice fb v.fields.length fc]) 0)) H6.next (.row [.int .i64 v.id, .string v.chan, .slice kb v.key.length kc, .slice fb v.fields.length fc] 0) := (Has.new _ _).set _
      generalize (H6.push (.row [.int .i64 0, .string ⟨#[]⟩, .slice none 0 0, .slice none 0 0] 0)).set H6.next (.row (setCells [.int .i64 0, .string ⟨#[]⟩, .slice none 0 0, .slice none 0 0] 0 [.int .i64 v.id, .string v.chan, .slice kb v.key.length kc, .slice fb v.fields.length fc]) 0) = H7 at hx6 hb ⊢
      refine ldI_at hb rfl (ldS_at hb rfl (ldL_at hb rfl (ldL_at hb rfl (wCall_of (wmail_call (ws6.fr0 hx6) v g5 (by rw [List.length_append]; omega) ⟨fun l el H8 o8 w8 f8 ho8 => ?_, fun el H' z y => ?_⟩)))))
      · rw [mailP_eq] at el
        have hok : mailOK v ∧ l = mailB v := by
          split at el
          · rename_i e; cases el; exact ⟨e, rfl⟩
          · cases el
        obtain ⟨hok, rfl⟩ := hok
        have nx := hx6.next
        refine ⟨x.box.length - (k + 1), by omega, f67_I1_mk ⟨k + 1, o8, hlt, wi1 k (by omega), rfl, ?_, f6.trans' ((hx6.mono (by simp)).trans f8) (fun z hz => ?_), by omega, fun w hw => ?_⟩⟩
        · rw [e6, boxB_snoc]
          simpa [List.append_assoc] using w8
        · simp at hz ⊢; omega
        · rw [e6] at hw
          rcases List.mem_append.1 hw with hw | hw
          · exact hall w hw
          · rw [List.mem_singleton.1 hw]; exact hok
      · have hno : ¬ boxOK x.box := fun z => by
          have := z _ (List.getElem_mem hlt)
          rw [hve] at this
          rw [mailP_eq, if_pos this] at el
          cases el
        refine h.no (by unfold boxP; rw [if_neg hno]) H' z (f6.trans' ((hx6.mono (by simp)).trans y) (fun z hz => ?_))
        simp at hz ⊢; omega
    · have hkl : k = x.box.length := by omega
      subst hkl
      rw [List.take_length] at ws6 hall
      exact h.yes _ (by unfold boxP; rw [if_pos hall]) H6 o6 ws6 f6 ho6
end
end Go.Proofs.Ytfghglacfjncmaa

/-! What is put: the bytes, or none. -/
namespace Go.Proofs.Ytfghglacfjncmaa
set_option linter.unusedVariables false
set_option linter.unusedSimpArgs false
open Go.RowKit

/-- What put tells. -/
def putR (r : Option (List UInt8)) : Value :=
  match r with
  | some l => .tuple #[.string (ofL l), .int .i64 0]
  | none => .tuple #[.string ⟨#[]⟩, .int .i64 4]
theorem vb_ne (n : Nat) : vb n ≠ [] := by
  intro e
  have := (vbF_length 9 n).2
  unfold vb at e
  rw [e] at this
  simp at this
theorem ne_num {n : Int} {r : Option (List UInt8)} {l : List UInt8} (h : cat (numP n) r = some l) : l ≠ [] := by
  cases r with
  | none => cases h
  | some x => cases h; intro e; exact vb_ne _ (List.append_eq_nil_iff.1 e).1
theorem ne_val {v : Val} {l : List UInt8} (h : valP v = some l) : l ≠ [] := by
  unfold valP at h
  split at h
  · cases h; simp [valB]
  · cases h
section
variable {H : AH} {R : AEnd → AH → Prop}
/-- A writer that is new. -/
theorem BW.new {H : AH} : BW (H.pushT (.row [.pointer none, .slice none 0 0] 0) (some 163)) H.next H.next [] :=
  ⟨⟨none, Has.newT _ _ _, .inl ⟨rfl, by show (if H.next = H.next then some 163 else _) = _; rw [if_pos rfl]⟩⟩, fun e => absurd rfl e, by show H.next < H.next + 1; omega, by simp⟩
set_option maxRecDepth 20000 in
theorem putv_call (v : Val) {b : Option Addr} {c : Nat} (hv : VIs H v b) (h : ∀ H', Fr [] H H' → R (.ret (putR (valP v))) H') : ACall Try.prog 49 [.agg #[.int .i64 v.kind, .int .i64 v.num, .string v.text, .slice b v.list.length c], .func (.func 50) #[] #[]] H R := by
  apply f49_call
  unfold f49_B
  refine wNew_at (wNew_at (wNew_at (wNewT_at ?_)))
  have h1 := ((Has.new H (.row [.int .i64 v.kind, .int .i64 v.num, .string v.text, .slice b v.list.length c] 0)).push (.row [.string ⟨#[]⟩] 0)).push (.row [.int .i64 0] 0)
  have h2 := (Has.new (H.push (.row [.int .i64 v.kind, .int .i64 v.num, .string v.text, .slice b v.list.length c] 0)) (.row [.string ⟨#[]⟩] 0)).push (.row [.int .i64 0] 0)
  have h3 := Has.new ((H.push (.row [.int .i64 v.kind, .int .i64 v.num, .string v.text, .slice b v.list.length c] 0)).push (.row [.string ⟨#[]⟩] 0)) (.row [.int .i64 0] 0)
  have f3 : Fr [] H (((H.push (.row [.int .i64 v.kind, .int .i64 v.num, .string v.text, .slice b v.list.length c] 0)).push (.row [.string ⟨#[]⟩] 0)).push (.row [.int .i64 0] 0)) := (((Fr.refl [] H).push _).push _).push _
  have n1 : H.next ≤ H.next := Nat.le_refl _
  have n2 : (H.push (.row [.int .i64 v.kind, .int .i64 v.num, .string v.text, .slice b v.list.length c] 0)).next = H.next + 1 := rfl
  have n3 : ((H.push (.row [.int .i64 v.kind, .int .i64 v.num, .string v.text, .slice b v.list.length c] 0)).push (.row [.string ⟨#[]⟩] 0)).next = H.next + 2 := rfl
  have n4 : (((H.push (.row [.int .i64 v.kind, .int .i64 v.num, .string v.text, .slice b v.list.length c] 0)).push (.row [.string ⟨#[]⟩] 0)).push (.row [.int .i64 0] 0)).next = H.next + 3 := rfl
  generalize ((H.push (.row [.int .i64 v.kind, .int .i64 v.num, .string v.text, .slice b v.list.length c] 0)).push (.row [.string ⟨#[]⟩] 0)).push (.row [.int .i64 0] 0) = H3 at h1 h2 h3 f3 n4 ⊢
  generalize ((H.push (.row [.int .i64 v.kind, .int .i64 v.num, .string v.text, .slice b v.list.length c] 0)).push (.row [.string ⟨#[]⟩] 0)).next = i5 at h3 n3 ⊢
  generalize (H.push (.row [.int .i64 v.kind, .int .i64 v.num, .string v.text, .slice b v.list.length c] 0)).next = i3 at h2 n2 ⊢
  have bw := BW.new (H := H3)
  replace h1 := h1.pushT (.row [.pointer none, .slice none 0 0] 0) (some 163)
  replace h2 := h2.pushT (.row [.pointer none, .slice none 0 0] 0) (some 163)
  replace h3 := h3.pushT (.row [.pointer none, .slice none 0 0] 0) (some 163)
  replace f3 := f3.pushT (.row [.pointer none, .slice none 0 0] 0) (some 163)
  generalize H3.pushT (.row [.pointer none, .slice none 0 0] 0) (some 163) = H4 at bw h1 h2 h3 f3 ⊢
  have ws : WS H H4 H3.next H3.next [] := ⟨bw, f3, by omega, by omega⟩
  clear bw
  refine ldI_at h1 rfl (ldI_at h1 rfl (ldS_at h1 rfl (ldL_at h1 rfl (wCall_of (wvalue_call ws v hv (by simp) ⟨fun l el H5 o5 ws5 f5 ho5 => ?_, fun el H5 f05 f5 => ?_⟩)))))
  · rw [List.nil_append] at ws5
    have k2 := h2.lt
    have k3 := h3.lt
    replace h2 := h2.fr f5 (by simp; omega)
    replace h3 := h3.fr f5 (by simp; omega)
    refine wCall_of (bstring_call ws5.bw (ne_val el) (by have := ws5.bw.few; omega) (fun H6 f6 => opS_at ?_))
    replace h2 := h2.fr f6 (by simp; omega)
    replace h3 := h3.fr f6 (by simp; omega)
    have f06 : Fr [] H H6 := ws5.fr.trans' f6 (fun x hx => .inr (by simp at hx; have := ws5.go; omega))
    have n35 : i3 ≠ i5 := by omega
    refine wSt_at h2 (by simp) (wSt_at (h3.setne n35.symm _) (by simp) ?_)
    have g2 := (h2.set (.row (setCells [.string ⟨#[]⟩] 0 [.string (ofL l)]) 0)).setne n35 (.row (setCells [.int .i64 0] 0 [.int .i64 0]) 0)
    have g3 := (h3.setne n35.symm (.row (setCells [.string ⟨#[]⟩] 0 [.string (ofL l)]) 0)).set (.row (setCells [.int .i64 0] 0 [.int .i64 0]) 0)
    have ff := (f06.set (i := i3) (.inr (by omega)) (.row (setCells [.string ⟨#[]⟩] 0 [.string (ofL l)]) 0)).set (i := i5) (.inr (by omega)) (.row (setCells [.int .i64 0] 0 [.int .i64 0]) 0)
    refine f90_N _ _ _ _ ?_
    unfold f90_N_B
    refine wPt_at (ldS_at g2 rfl (wPt_at (ldI_at g3 rfl ?_)))
    have hh := h _ ff
    rw [el] at hh
    exact hh
  · have k2 := h2.lt
    have k3 := h3.lt
    replace h2 := h2.fr f5 (by simp; omega)
    replace h3 := h3.fr f5 (by simp; omega)
    have n35 : i3 ≠ i5 := by omega
    have n5 := f5.next
    refine f90_P _ _ 4 _ _ ?_
    unfold f90_P_B
    refine wNew_at (wSt_at (Has.new _ _) (by simp) ?_)
    have hq : Has ((H5.push (.row [.int .i64 0] 0)).set H5.next (.row (setCells [.int .i64 0] 0 [.int .i64 4]) 0)) H5.next (.row [.int .i64 4] 0) := (Has.new _ _).set _
    have fx : Fr [] H5 ((H5.push (.row [.int .i64 0] 0)).set H5.next (.row (setCells [.int .i64 0] 0 [.int .i64 4]) 0)) := ((Fr.refl [] H5).push _).set (.inr (Nat.le_refl _)) _
    generalize (H5.push (.row [.int .i64 0] 0)).set H5.next (.row (setCells [.int .i64 0] 0 [.int .i64 4]) 0) = H6 at hq fx ⊢
    replace h2 := h2.fr fx (by simp)
    replace h3 := h3.fr fx (by simp)
    refine ldI_at hq rfl (wPt_at (wSt_at h2 (by simp) ⟨PinOK_has (hq.setne (by omega) _) (by simp) rfl, wPt_at (wSt_at (h3.setne n35.symm _) (by simp) ?_)⟩))
    have g2 := (h2.set (.row (setCells [.string ⟨#[]⟩] 0 [.string ⟨#[]⟩]) 0)).setne n35 (.row (setCells [.int .i64 0] 0 [.int .i64 4]) 0)
    have g3 := (h3.setne n35.symm (.row (setCells [.string ⟨#[]⟩] 0 [.string ⟨#[]⟩]) 0)).set (.row (setCells [.int .i64 0] 0 [.int .i64 4]) 0)
    have ff := ((f05.trans fx).set (i := i3) (.inr (by omega)) (.row (setCells [.string ⟨#[]⟩] 0 [.string ⟨#[]⟩]) 0)).set (i := i5) (.inr (by omega)) (.row (setCells [.int .i64 0] 0 [.int .i64 4]) 0)
    refine wPt_at (ldS_at g2 rfl (wPt_at (ldI_at g3 rfl ?_)))
    have hh := h _ ff
    rw [el] at hh
    exact hh
set_option maxRecDepth 20000 in
theorem putm_call (m : Mai) {kb fb : Option Addr} {kc fc : Nat} (hm : MIs H m kb fb) (h : ∀ H', Fr [] H H' → R (.ret (putR (mailP m))) H') : ACall Try.prog 51 [.agg #[.int .i64 m.id, .string m.chan, .slice kb m.key.length kc, .slice fb m.fields.length fc], .func (.func 52) #[] #[]] H R := by
  apply f51_call
  unfold f51_B
  refine wNew_at (wNew_at (wNew_at (wNewT_at ?_)))
  have h1 := ((Has.new H (.row [.int .i64 m.id, .string m.chan, .slice kb m.key.length kc, .slice fb m.fields.length fc] 0)).push (.row [.string ⟨#[]⟩] 0)).push (.row [.int .i64 0] 0)
  have h2 := (Has.new (H.push (.row [.int .i64 m.id, .string m.chan, .slice kb m.key.length kc, .slice fb m.fields.length fc] 0)) (.row [.string ⟨#[]⟩] 0)).push (.row [.int .i64 0] 0)
  have h3 := Has.new ((H.push (.row [.int .i64 m.id, .string m.chan, .slice kb m.key.length kc, .slice fb m.fields.length fc] 0)).push (.row [.string ⟨#[]⟩] 0)) (.row [.int .i64 0] 0)
  have f3 : Fr [] H (((H.push (.row [.int .i64 m.id, .string m.chan, .slice kb m.key.length kc, .slice fb m.fields.length fc] 0)).push (.row [.string ⟨#[]⟩] 0)).push (.row [.int .i64 0] 0)) := (((Fr.refl [] H).push _).push _).push _
  have n1 : H.next ≤ H.next := Nat.le_refl _
  have n2 : (H.push (.row [.int .i64 m.id, .string m.chan, .slice kb m.key.length kc, .slice fb m.fields.length fc] 0)).next = H.next + 1 := rfl
  have n3 : ((H.push (.row [.int .i64 m.id, .string m.chan, .slice kb m.key.length kc, .slice fb m.fields.length fc] 0)).push (.row [.string ⟨#[]⟩] 0)).next = H.next + 2 := rfl
  have n4 : (((H.push (.row [.int .i64 m.id, .string m.chan, .slice kb m.key.length kc, .slice fb m.fields.length fc] 0)).push (.row [.string ⟨#[]⟩] 0)).push (.row [.int .i64 0] 0)).next = H.next + 3 := rfl
  generalize ((H.push (.row [.int .i64 m.id, .string m.chan, .slice kb m.key.length kc, .slice fb m.fields.length fc] 0)).push (.row [.string ⟨#[]⟩] 0)).push (.row [.int .i64 0] 0) = H3 at h1 h2 h3 f3 n4 ⊢
  generalize ((H.push (.row [.int .i64 m.id, .string m.chan, .slice kb m.key.length kc, .slice fb m.fields.length fc] 0)).push (.row [.string ⟨#[]⟩] 0)).next = i5 at h3 n3 ⊢
  generalize (H.push (.row [.int .i64 m.id, .string m.chan, .slice kb m.key.length kc, .slice fb m.fields.length fc] 0)).next = i3 at h2 n2 ⊢
  have bw := BW.new (H := H3)
  replace h1 := h1.pushT (.row [.pointer none, .slice none 0 0] 0) (some 163)
  replace h2 := h2.pushT (.row [.pointer none, .slice none 0 0] 0) (some 163)
  replace h3 := h3.pushT (.row [.pointer none, .slice none 0 0] 0) (some 163)
  replace f3 := f3.pushT (.row [.pointer none, .slice none 0 0] 0) (some 163)
  generalize H3.pushT (.row [.pointer none, .slice none 0 0] 0) (some 163) = H4 at bw h1 h2 h3 f3 ⊢
  have ws : WS H H4 H3.next H3.next [] := ⟨bw, f3, by omega, by omega⟩
  clear bw
  refine ldI_at h1 rfl (ldS_at h1 rfl (ldL_at h1 rfl (ldL_at h1 rfl (wCall_of (wmail_call ws m hm (by simp) ⟨fun l el H5 o5 ws5 f5 ho5 => ?_, fun el H5 f05 f5 => ?_⟩)))))
  · rw [List.nil_append] at ws5
    have k2 := h2.lt
    have k3 := h3.lt
    replace h2 := h2.fr f5 (by simp; omega)
    replace h3 := h3.fr f5 (by simp; omega)
    refine wCall_of (bstring_call ws5.bw (ne_num el) (by have := ws5.bw.few; omega) (fun H6 f6 => opS_at ?_))
    replace h2 := h2.fr f6 (by simp; omega)
    replace h3 := h3.fr f6 (by simp; omega)
    have f06 : Fr [] H H6 := ws5.fr.trans' f6 (fun x hx => .inr (by simp at hx; have := ws5.go; omega))
    have n35 : i3 ≠ i5 := by omega
    refine wSt_at h2 (by simp) (wSt_at (h3.setne n35.symm _) (by simp) ?_)
    have g2 := (h2.set (.row (setCells [.string ⟨#[]⟩] 0 [.string (ofL l)]) 0)).setne n35 (.row (setCells [.int .i64 0] 0 [.int .i64 0]) 0)
    have g3 := (h3.setne n35.symm (.row (setCells [.string ⟨#[]⟩] 0 [.string (ofL l)]) 0)).set (.row (setCells [.int .i64 0] 0 [.int .i64 0]) 0)
    have ff := (f06.set (i := i3) (.inr (by omega)) (.row (setCells [.string ⟨#[]⟩] 0 [.string (ofL l)]) 0)).set (i := i5) (.inr (by omega)) (.row (setCells [.int .i64 0] 0 [.int .i64 0]) 0)
    refine f100_N _ _ _ _ ?_
    unfold f100_N_B
    refine wPt_at (ldS_at g2 rfl (wPt_at (ldI_at g3 rfl ?_)))
    have hh := h _ ff
    rw [el] at hh
    exact hh
  · have k2 := h2.lt
    have k3 := h3.lt
    replace h2 := h2.fr f5 (by simp; omega)
    replace h3 := h3.fr f5 (by simp; omega)
    have n35 : i3 ≠ i5 := by omega
    have n5 := f5.next
    refine f100_P _ _ 4 _ _ ?_
    unfold f100_P_B
    refine wNew_at (wSt_at (Has.new _ _) (by simp) ?_)
    have hq : Has ((H5.push (.row [.int .i64 0] 0)).set H5.next (.row (setCells [.int .i64 0] 0 [.int .i64 4]) 0)) H5.next (.row [.int .i64 4] 0) := (Has.new _ _).set _
    have fx : Fr [] H5 ((H5.push (.row [.int .i64 0] 0)).set H5.next (.row (setCells [.int .i64 0] 0 [.int .i64 4]) 0)) := ((Fr.refl [] H5).push _).set (.inr (Nat.le_refl _)) _
    generalize (H5.push (.row [.int .i64 0] 0)).set H5.next (.row (setCells [.int .i64 0] 0 [.int .i64 4]) 0) = H6 at hq fx ⊢
    replace h2 := h2.fr fx (by simp)
    replace h3 := h3.fr fx (by simp)
    refine ldI_at hq rfl (wPt_at (wSt_at h2 (by simp) ⟨PinOK_has (hq.setne (by omega) _) (by simp) rfl, wPt_at (wSt_at (h3.setne n35.symm _) (by simp) ?_)⟩))
    have g2 := (h2.set (.row (setCells [.string ⟨#[]⟩] 0 [.string ⟨#[]⟩]) 0)).setne n35 (.row (setCells [.int .i64 0] 0 [.int .i64 4]) 0)
    have g3 := (h3.setne n35.symm (.row (setCells [.string ⟨#[]⟩] 0 [.string ⟨#[]⟩]) 0)).set (.row (setCells [.int .i64 0] 0 [.int .i64 4]) 0)
    have ff := ((f05.trans fx).set (i := i3) (.inr (by omega)) (.row (setCells [.string ⟨#[]⟩] 0 [.string ⟨#[]⟩]) 0)).set (i := i5) (.inr (by omega)) (.row (setCells [.int .i64 0] 0 [.int .i64 4]) 0)
    refine wPt_at (ldS_at g2 rfl (wPt_at (ldI_at g3 rfl ?_)))
    have hh := h _ ff
    rw [el] at hh
    exact hh
set_option maxRecDepth 20000 in
theorem puti_call (x : Ite) {ab cb bb : Option Addr} {ac cc bc : Nat} (hx : IIs H x ab cb bb) (h : ∀ H', Fr [] H H' → R (.ret (putR (itemP x))) H') : ACall Try.prog 66 [.agg #[.int .i64 x.id, .string x.typ, .string x.state, .int .i64 x.since, .slice ab x.attrs.length ac, .slice cb x.counts.length cc, .slice bb x.box.length bc], .func (.func 67) #[] #[]] H R := by
  apply f66_call
  unfold f66_B
  refine wNew_at (wNew_at (wNew_at (wNewT_at ?_)))
  have h1 := ((Has.new H (.row [.int .i64 x.id, .string x.typ, .string x.state, .int .i64 x.since, .slice ab x.attrs.length ac, .slice cb x.counts.length cc, .slice bb x.box.length bc] 0)).push (.row [.string ⟨#[]⟩] 0)).push (.row [.int .i64 0] 0)
  have h2 := (Has.new (H.push (.row [.int .i64 x.id, .string x.typ, .string x.state, .int .i64 x.since, .slice ab x.attrs.length ac, .slice cb x.counts.length cc, .slice bb x.box.length bc] 0)) (.row [.string ⟨#[]⟩] 0)).push (.row [.int .i64 0] 0)
  have h3 := Has.new ((H.push (.row [.int .i64 x.id, .string x.typ, .string x.state, .int .i64 x.since, .slice ab x.attrs.length ac, .slice cb x.counts.length cc, .slice bb x.box.length bc] 0)).push (.row [.string ⟨#[]⟩] 0)) (.row [.int .i64 0] 0)
  have f3 : Fr [] H (((H.push (.row [.int .i64 x.id, .string x.typ, .string x.state, .int .i64 x.since, .slice ab x.attrs.length ac, .slice cb x.counts.length cc, .slice bb x.box.length bc] 0)).push (.row [.string ⟨#[]⟩] 0)).push (.row [.int .i64 0] 0)) := (((Fr.refl [] H).push _).push _).push _
  have n1 : H.next ≤ H.next := Nat.le_refl _
  have n2 : (H.push (.row [.int .i64 x.id, .string x.typ, .string x.state, .int .i64 x.since, .slice ab x.attrs.length ac, .slice cb x.counts.length cc, .slice bb x.box.length bc] 0)).next = H.next + 1 := rfl
  have n3 : ((H.push (.row [.int .i64 x.id, .string x.typ, .string x.state, .int .i64 x.since, .slice ab x.attrs.length ac, .slice cb x.counts.length cc, .slice bb x.box.length bc] 0)).push (.row [.string ⟨#[]⟩] 0)).next = H.next + 2 := rfl
  have n4 : (((H.push (.row [.int .i64 x.id, .string x.typ, .string x.state, .int .i64 x.since, .slice ab x.attrs.length ac, .slice cb x.counts.length cc, .slice bb x.box.length bc] 0)).push (.row [.string ⟨#[]⟩] 0)).push (.row [.int .i64 0] 0)).next = H.next + 3 := rfl
  generalize ((H.push (.row [.int .i64 x.id, .string x.typ, .string x.state, .int .i64 x.since, .slice ab x.attrs.length ac, .slice cb x.counts.length cc, .slice bb x.box.length bc] 0)).push (.row [.string ⟨#[]⟩] 0)).push (.row [.int .i64 0] 0) = H3 at h1 h2 h3 f3 n4 ⊢
  generalize ((H.push (.row [.int .i64 x.id, .string x.typ, .string x.state, .int .i64 x.since, .slice ab x.attrs.length ac, .slice cb x.counts.length cc, .slice bb x.box.length bc] 0)).push (.row [.string ⟨#[]⟩] 0)).next = i5 at h3 n3 ⊢
  generalize (H.push (.row [.int .i64 x.id, .string x.typ, .string x.state, .int .i64 x.since, .slice ab x.attrs.length ac, .slice cb x.counts.length cc, .slice bb x.box.length bc] 0)).next = i3 at h2 n2 ⊢
  have bw := BW.new (H := H3)
  replace h1 := h1.pushT (.row [.pointer none, .slice none 0 0] 0) (some 163)
  replace h2 := h2.pushT (.row [.pointer none, .slice none 0 0] 0) (some 163)
  replace h3 := h3.pushT (.row [.pointer none, .slice none 0 0] 0) (some 163)
  replace f3 := f3.pushT (.row [.pointer none, .slice none 0 0] 0) (some 163)
  generalize H3.pushT (.row [.pointer none, .slice none 0 0] 0) (some 163) = H4 at bw h1 h2 h3 f3 ⊢
  have ws : WS H H4 H3.next H3.next [] := ⟨bw, f3, by omega, by omega⟩
  clear bw
  refine ldI_at h1 rfl (ldS_at h1 rfl (ldS_at h1 rfl (ldI_at h1 rfl (ldL_at h1 rfl (ldL_at h1 rfl (ldL_at h1 rfl (wCall_of (witem_call ws x hx (by simp) ⟨fun l el H5 o5 ws5 f5 ho5 => ?_, fun el H5 f05 f5 => ?_⟩))))))))
  · rw [List.nil_append] at ws5
    have k2 := h2.lt
    have k3 := h3.lt
    replace h2 := h2.fr f5 (by simp; omega)
    replace h3 := h3.fr f5 (by simp; omega)
    refine wCall_of (bstring_call ws5.bw (ne_num el) (by have := ws5.bw.few; omega) (fun H6 f6 => opS_at ?_))
    replace h2 := h2.fr f6 (by simp; omega)
    replace h3 := h3.fr f6 (by simp; omega)
    have f06 : Fr [] H H6 := ws5.fr.trans' f6 (fun x hx => .inr (by simp at hx; have := ws5.go; omega))
    have n35 : i3 ≠ i5 := by omega
    refine wSt_at h2 (by simp) (wSt_at (h3.setne n35.symm _) (by simp) ?_)
    have g2 := (h2.set (.row (setCells [.string ⟨#[]⟩] 0 [.string (ofL l)]) 0)).setne n35 (.row (setCells [.int .i64 0] 0 [.int .i64 0]) 0)
    have g3 := (h3.setne n35.symm (.row (setCells [.string ⟨#[]⟩] 0 [.string (ofL l)]) 0)).set (.row (setCells [.int .i64 0] 0 [.int .i64 0]) 0)
    have ff := (f06.set (i := i3) (.inr (by omega)) (.row (setCells [.string ⟨#[]⟩] 0 [.string (ofL l)]) 0)).set (i := i5) (.inr (by omega)) (.row (setCells [.int .i64 0] 0 [.int .i64 0]) 0)
    refine f118_N _ _ _ _ ?_
    unfold f118_N_B
    refine wPt_at (ldS_at g2 rfl (wPt_at (ldI_at g3 rfl ?_)))
    have hh := h _ ff
    rw [el] at hh
    exact hh
  · have k2 := h2.lt
    have k3 := h3.lt
    replace h2 := h2.fr f5 (by simp; omega)
    replace h3 := h3.fr f5 (by simp; omega)
    have n35 : i3 ≠ i5 := by omega
    have n5 := f5.next
    refine f118_P _ _ 4 _ _ ?_
    unfold f118_P_B
    refine wNew_at (wSt_at (Has.new _ _) (by simp) ?_)
    have hq : Has ((H5.push (.row [.int .i64 0] 0)).set H5.next (.row (setCells [.int .i64 0] 0 [.int .i64 4]) 0)) H5.next (.row [.int .i64 4] 0) := (Has.new _ _).set _
    have fx : Fr [] H5 ((H5.push (.row [.int .i64 0] 0)).set H5.next (.row (setCells [.int .i64 0] 0 [.int .i64 4]) 0)) := ((Fr.refl [] H5).push _).set (.inr (Nat.le_refl _)) _
    generalize (H5.push (.row [.int .i64 0] 0)).set H5.next (.row (setCells [.int .i64 0] 0 [.int .i64 4]) 0) = H6 at hq fx ⊢
    replace h2 := h2.fr fx (by simp)
    replace h3 := h3.fr fx (by simp)
    refine ldI_at hq rfl (wPt_at (wSt_at h2 (by simp) ⟨PinOK_has (hq.setne (by omega) _) (by simp) rfl, wPt_at (wSt_at (h3.setne n35.symm _) (by simp) ?_)⟩))
    have g2 := (h2.set (.row (setCells [.string ⟨#[]⟩] 0 [.string ⟨#[]⟩]) 0)).setne n35 (.row (setCells [.int .i64 0] 0 [.int .i64 4]) 0)
    have g3 := (h3.setne n35.symm (.row (setCells [.string ⟨#[]⟩] 0 [.string ⟨#[]⟩]) 0)).set (.row (setCells [.int .i64 0] 0 [.int .i64 4]) 0)
    have ff := ((f05.trans fx).set (i := i3) (.inr (by omega)) (.row (setCells [.string ⟨#[]⟩] 0 [.string ⟨#[]⟩]) 0)).set (i := i5) (.inr (by omega)) (.row (setCells [.int .i64 0] 0 [.int .i64 4]) 0)
    refine wPt_at (ldS_at g2 rfl (wPt_at (ldI_at g3 rfl ?_)))
    have hh := h _ ff
    rw [el] at hh
    exact hh
set_option maxRecDepth 20000 in
theorem putd_call (x : Dea) {kb fb : Option Addr} {kc fc : Nat} (h1x : i64ok x.n) (hm : MIs H x.mail kb fb) (h : ∀ H', Fr [] H H' → R (.ret (putR (deadP x))) H') : ACall Try.prog 74 [.agg #[.int .i64 x.n, .int .i64 x.mail.id, .string x.mail.chan, .slice kb x.mail.key.length kc, .slice fb x.mail.fields.length fc, .int .i64 x.reason], .func (.func 75) #[] #[]] H R := by
  apply f74_call
  unfold f74_B
  refine wNew_at (wNew_at (wNew_at (wNewT_at ?_)))
  have h1 := ((Has.new H (.row [.int .i64 x.n, .int .i64 x.mail.id, .string x.mail.chan, .slice kb x.mail.key.length kc, .slice fb x.mail.fields.length fc, .int .i64 x.reason] 0)).push (.row [.string ⟨#[]⟩] 0)).push (.row [.int .i64 0] 0)
  have h2 := (Has.new (H.push (.row [.int .i64 x.n, .int .i64 x.mail.id, .string x.mail.chan, .slice kb x.mail.key.length kc, .slice fb x.mail.fields.length fc, .int .i64 x.reason] 0)) (.row [.string ⟨#[]⟩] 0)).push (.row [.int .i64 0] 0)
  have h3 := Has.new ((H.push (.row [.int .i64 x.n, .int .i64 x.mail.id, .string x.mail.chan, .slice kb x.mail.key.length kc, .slice fb x.mail.fields.length fc, .int .i64 x.reason] 0)).push (.row [.string ⟨#[]⟩] 0)) (.row [.int .i64 0] 0)
  have f3 : Fr [] H (((H.push (.row [.int .i64 x.n, .int .i64 x.mail.id, .string x.mail.chan, .slice kb x.mail.key.length kc, .slice fb x.mail.fields.length fc, .int .i64 x.reason] 0)).push (.row [.string ⟨#[]⟩] 0)).push (.row [.int .i64 0] 0)) := (((Fr.refl [] H).push _).push _).push _
  have n1 : H.next ≤ H.next := Nat.le_refl _
  have n2 : (H.push (.row [.int .i64 x.n, .int .i64 x.mail.id, .string x.mail.chan, .slice kb x.mail.key.length kc, .slice fb x.mail.fields.length fc, .int .i64 x.reason] 0)).next = H.next + 1 := rfl
  have n3 : ((H.push (.row [.int .i64 x.n, .int .i64 x.mail.id, .string x.mail.chan, .slice kb x.mail.key.length kc, .slice fb x.mail.fields.length fc, .int .i64 x.reason] 0)).push (.row [.string ⟨#[]⟩] 0)).next = H.next + 2 := rfl
  have n4 : (((H.push (.row [.int .i64 x.n, .int .i64 x.mail.id, .string x.mail.chan, .slice kb x.mail.key.length kc, .slice fb x.mail.fields.length fc, .int .i64 x.reason] 0)).push (.row [.string ⟨#[]⟩] 0)).push (.row [.int .i64 0] 0)).next = H.next + 3 := rfl
  generalize ((H.push (.row [.int .i64 x.n, .int .i64 x.mail.id, .string x.mail.chan, .slice kb x.mail.key.length kc, .slice fb x.mail.fields.length fc, .int .i64 x.reason] 0)).push (.row [.string ⟨#[]⟩] 0)).push (.row [.int .i64 0] 0) = H3 at h1 h2 h3 f3 n4 ⊢
  generalize ((H.push (.row [.int .i64 x.n, .int .i64 x.mail.id, .string x.mail.chan, .slice kb x.mail.key.length kc, .slice fb x.mail.fields.length fc, .int .i64 x.reason] 0)).push (.row [.string ⟨#[]⟩] 0)).next = i5 at h3 n3 ⊢
  generalize (H.push (.row [.int .i64 x.n, .int .i64 x.mail.id, .string x.mail.chan, .slice kb x.mail.key.length kc, .slice fb x.mail.fields.length fc, .int .i64 x.reason] 0)).next = i3 at h2 n2 ⊢
  have bw := BW.new (H := H3)
  replace h1 := h1.pushT (.row [.pointer none, .slice none 0 0] 0) (some 163)
  replace h2 := h2.pushT (.row [.pointer none, .slice none 0 0] 0) (some 163)
  replace h3 := h3.pushT (.row [.pointer none, .slice none 0 0] 0) (some 163)
  replace f3 := f3.pushT (.row [.pointer none, .slice none 0 0] 0) (some 163)
  generalize H3.pushT (.row [.pointer none, .slice none 0 0] 0) (some 163) = H4 at bw h1 h2 h3 f3 ⊢
  have ws : WS H H4 H3.next H3.next [] := ⟨bw, f3, by omega, by omega⟩
  clear bw
  refine ldI_at h1 rfl (ldI_at h1 rfl (ldS_at h1 rfl (ldL_at h1 rfl (ldL_at h1 rfl (ldI_at h1 rfl (wCall_of (wdead_call ws x h1x hm (by simp) ⟨fun l el H5 o5 ws5 f5 ho5 => ?_, fun el H5 f05 f5 => ?_⟩)))))))
  · rw [List.nil_append] at ws5
    have k2 := h2.lt
    have k3 := h3.lt
    replace h2 := h2.fr f5 (by simp; omega)
    replace h3 := h3.fr f5 (by simp; omega)
    refine wCall_of (bstring_call ws5.bw (ne_num el) (by have := ws5.bw.few; omega) (fun H6 f6 => opS_at ?_))
    replace h2 := h2.fr f6 (by simp; omega)
    replace h3 := h3.fr f6 (by simp; omega)
    have f06 : Fr [] H H6 := ws5.fr.trans' f6 (fun x hx => .inr (by simp at hx; have := ws5.go; omega))
    have n35 : i3 ≠ i5 := by omega
    refine wSt_at h2 (by simp) (wSt_at (h3.setne n35.symm _) (by simp) ?_)
    have g2 := (h2.set (.row (setCells [.string ⟨#[]⟩] 0 [.string (ofL l)]) 0)).setne n35 (.row (setCells [.int .i64 0] 0 [.int .i64 0]) 0)
    have g3 := (h3.setne n35.symm (.row (setCells [.string ⟨#[]⟩] 0 [.string (ofL l)]) 0)).set (.row (setCells [.int .i64 0] 0 [.int .i64 0]) 0)
    have ff := (f06.set (i := i3) (.inr (by omega)) (.row (setCells [.string ⟨#[]⟩] 0 [.string (ofL l)]) 0)).set (i := i5) (.inr (by omega)) (.row (setCells [.int .i64 0] 0 [.int .i64 0]) 0)
    refine f120_N _ _ _ _ ?_
    unfold f120_N_B
    refine wPt_at (ldS_at g2 rfl (wPt_at (ldI_at g3 rfl ?_)))
    have hh := h _ ff
    rw [el] at hh
    exact hh
  · have k2 := h2.lt
    have k3 := h3.lt
    replace h2 := h2.fr f5 (by simp; omega)
    replace h3 := h3.fr f5 (by simp; omega)
    have n35 : i3 ≠ i5 := by omega
    have n5 := f5.next
    refine f120_P _ _ 4 _ _ ?_
    unfold f120_P_B
    refine wNew_at (wSt_at (Has.new _ _) (by simp) ?_)
    have hq : Has ((H5.push (.row [.int .i64 0] 0)).set H5.next (.row (setCells [.int .i64 0] 0 [.int .i64 4]) 0)) H5.next (.row [.int .i64 4] 0) := (Has.new _ _).set _
    have fx : Fr [] H5 ((H5.push (.row [.int .i64 0] 0)).set H5.next (.row (setCells [.int .i64 0] 0 [.int .i64 4]) 0)) := ((Fr.refl [] H5).push _).set (.inr (Nat.le_refl _)) _
    generalize (H5.push (.row [.int .i64 0] 0)).set H5.next (.row (setCells [.int .i64 0] 0 [.int .i64 4]) 0) = H6 at hq fx ⊢
    replace h2 := h2.fr fx (by simp)
    replace h3 := h3.fr fx (by simp)
    refine ldI_at hq rfl (wPt_at (wSt_at h2 (by simp) ⟨PinOK_has (hq.setne (by omega) _) (by simp) rfl, wPt_at (wSt_at (h3.setne n35.symm _) (by simp) ?_)⟩))
    have g2 := (h2.set (.row (setCells [.string ⟨#[]⟩] 0 [.string ⟨#[]⟩]) 0)).setne n35 (.row (setCells [.int .i64 0] 0 [.int .i64 4]) 0)
    have g3 := (h3.setne n35.symm (.row (setCells [.string ⟨#[]⟩] 0 [.string ⟨#[]⟩]) 0)).set (.row (setCells [.int .i64 0] 0 [.int .i64 4]) 0)
    have ff := ((f05.trans fx).set (i := i3) (.inr (by omega)) (.row (setCells [.string ⟨#[]⟩] 0 [.string ⟨#[]⟩]) 0)).set (i := i5) (.inr (by omega)) (.row (setCells [.int .i64 0] 0 [.int .i64 4]) 0)
    refine wPt_at (ldS_at g2 rfl (wPt_at (ldI_at g3 rfl ?_)))
    have hh := h _ ff
    rw [el] at hh
    exact hh
set_option maxRecDepth 20000 in
theorem pute_call (x : Evt) {ab : Option Addr} {ac : Nat} (h1x : i64ok x.n) (h2x : i64ok x.tick) (h3x : i64ok x.item) (ha : RIs H ab x.attrs) (h : ∀ H', Fr [] H H' → R (.ret (putR (eventP x))) H') : ACall Try.prog 76 [.agg #[.int .i64 x.n, .int .i64 x.tick, .string x.name, .int .i64 x.item, .string x.typ, .string x.state, .slice ab x.attrs.length ac], .func (.func 77) #[] #[]] H R := by
  apply f76_call
  unfold f76_B
  refine wNew_at (wNew_at (wNew_at (wNewT_at ?_)))
  have h1 := ((Has.new H (.row [.int .i64 x.n, .int .i64 x.tick, .string x.name, .int .i64 x.item, .string x.typ, .string x.state, .slice ab x.attrs.length ac] 0)).push (.row [.string ⟨#[]⟩] 0)).push (.row [.int .i64 0] 0)
  have h2 := (Has.new (H.push (.row [.int .i64 x.n, .int .i64 x.tick, .string x.name, .int .i64 x.item, .string x.typ, .string x.state, .slice ab x.attrs.length ac] 0)) (.row [.string ⟨#[]⟩] 0)).push (.row [.int .i64 0] 0)
  have h3 := Has.new ((H.push (.row [.int .i64 x.n, .int .i64 x.tick, .string x.name, .int .i64 x.item, .string x.typ, .string x.state, .slice ab x.attrs.length ac] 0)).push (.row [.string ⟨#[]⟩] 0)) (.row [.int .i64 0] 0)
  have f3 : Fr [] H (((H.push (.row [.int .i64 x.n, .int .i64 x.tick, .string x.name, .int .i64 x.item, .string x.typ, .string x.state, .slice ab x.attrs.length ac] 0)).push (.row [.string ⟨#[]⟩] 0)).push (.row [.int .i64 0] 0)) := (((Fr.refl [] H).push _).push _).push _
  have n1 : H.next ≤ H.next := Nat.le_refl _
  have n2 : (H.push (.row [.int .i64 x.n, .int .i64 x.tick, .string x.name, .int .i64 x.item, .string x.typ, .string x.state, .slice ab x.attrs.length ac] 0)).next = H.next + 1 := rfl
  have n3 : ((H.push (.row [.int .i64 x.n, .int .i64 x.tick, .string x.name, .int .i64 x.item, .string x.typ, .string x.state, .slice ab x.attrs.length ac] 0)).push (.row [.string ⟨#[]⟩] 0)).next = H.next + 2 := rfl
  have n4 : (((H.push (.row [.int .i64 x.n, .int .i64 x.tick, .string x.name, .int .i64 x.item, .string x.typ, .string x.state, .slice ab x.attrs.length ac] 0)).push (.row [.string ⟨#[]⟩] 0)).push (.row [.int .i64 0] 0)).next = H.next + 3 := rfl
  generalize ((H.push (.row [.int .i64 x.n, .int .i64 x.tick, .string x.name, .int .i64 x.item, .string x.typ, .string x.state, .slice ab x.attrs.length ac] 0)).push (.row [.string ⟨#[]⟩] 0)).push (.row [.int .i64 0] 0) = H3 at h1 h2 h3 f3 n4 ⊢
  generalize ((H.push (.row [.int .i64 x.n, .int .i64 x.tick, .string x.name, .int .i64 x.item, .string x.typ, .string x.state, .slice ab x.attrs.length ac] 0)).push (.row [.string ⟨#[]⟩] 0)).next = i5 at h3 n3 ⊢
  generalize (H.push (.row [.int .i64 x.n, .int .i64 x.tick, .string x.name, .int .i64 x.item, .string x.typ, .string x.state, .slice ab x.attrs.length ac] 0)).next = i3 at h2 n2 ⊢
  have bw := BW.new (H := H3)
  replace h1 := h1.pushT (.row [.pointer none, .slice none 0 0] 0) (some 163)
  replace h2 := h2.pushT (.row [.pointer none, .slice none 0 0] 0) (some 163)
  replace h3 := h3.pushT (.row [.pointer none, .slice none 0 0] 0) (some 163)
  replace f3 := f3.pushT (.row [.pointer none, .slice none 0 0] 0) (some 163)
  generalize H3.pushT (.row [.pointer none, .slice none 0 0] 0) (some 163) = H4 at bw h1 h2 h3 f3 ⊢
  have ws : WS H H4 H3.next H3.next [] := ⟨bw, f3, by omega, by omega⟩
  clear bw
  refine ldI_at h1 rfl (ldI_at h1 rfl (ldS_at h1 rfl (ldI_at h1 rfl (ldS_at h1 rfl (ldS_at h1 rfl (ldL_at h1 rfl (wCall_of (wevent_call ws x h1x h2x h3x ha (by simp) ⟨fun l el H5 o5 ws5 f5 ho5 => ?_, fun el H5 f05 f5 => ?_⟩))))))))
  · rw [List.nil_append] at ws5
    have k2 := h2.lt
    have k3 := h3.lt
    replace h2 := h2.fr f5 (by simp; omega)
    replace h3 := h3.fr f5 (by simp; omega)
    refine wCall_of (bstring_call ws5.bw (ne_num el) (by have := ws5.bw.few; omega) (fun H6 f6 => opS_at ?_))
    replace h2 := h2.fr f6 (by simp; omega)
    replace h3 := h3.fr f6 (by simp; omega)
    have f06 : Fr [] H H6 := ws5.fr.trans' f6 (fun x hx => .inr (by simp at hx; have := ws5.go; omega))
    have n35 : i3 ≠ i5 := by omega
    refine wSt_at h2 (by simp) (wSt_at (h3.setne n35.symm _) (by simp) ?_)
    have g2 := (h2.set (.row (setCells [.string ⟨#[]⟩] 0 [.string (ofL l)]) 0)).setne n35 (.row (setCells [.int .i64 0] 0 [.int .i64 0]) 0)
    have g3 := (h3.setne n35.symm (.row (setCells [.string ⟨#[]⟩] 0 [.string (ofL l)]) 0)).set (.row (setCells [.int .i64 0] 0 [.int .i64 0]) 0)
    have ff := (f06.set (i := i3) (.inr (by omega)) (.row (setCells [.string ⟨#[]⟩] 0 [.string (ofL l)]) 0)).set (i := i5) (.inr (by omega)) (.row (setCells [.int .i64 0] 0 [.int .i64 0]) 0)
    refine f121_N _ _ _ _ ?_
    unfold f121_N_B
    refine wPt_at (ldS_at g2 rfl (wPt_at (ldI_at g3 rfl ?_)))
    have hh := h _ ff
    rw [el] at hh
    exact hh
  · have k2 := h2.lt
    have k3 := h3.lt
    replace h2 := h2.fr f5 (by simp; omega)
    replace h3 := h3.fr f5 (by simp; omega)
    have n35 : i3 ≠ i5 := by omega
    have n5 := f5.next
    refine f121_P _ _ 4 _ _ ?_
    unfold f121_P_B
    refine wNew_at (wSt_at (Has.new _ _) (by simp) ?_)
    have hq : Has ((H5.push (.row [.int .i64 0] 0)).set H5.next (.row (setCells [.int .i64 0] 0 [.int .i64 4]) 0)) H5.next (.row [.int .i64 4] 0) := (Has.new _ _).set _
    have fx : Fr [] H5 ((H5.push (.row [.int .i64 0] 0)).set H5.next (.row (setCells [.int .i64 0] 0 [.int .i64 4]) 0)) := ((Fr.refl [] H5).push _).set (.inr (Nat.le_refl _)) _
    generalize (H5.push (.row [.int .i64 0] 0)).set H5.next (.row (setCells [.int .i64 0] 0 [.int .i64 4]) 0) = H6 at hq fx ⊢
    replace h2 := h2.fr fx (by simp)
    replace h3 := h3.fr fx (by simp)
    refine ldI_at hq rfl (wPt_at (wSt_at h2 (by simp) ⟨PinOK_has (hq.setne (by omega) _) (by simp) rfl, wPt_at (wSt_at (h3.setne n35.symm _) (by simp) ?_)⟩))
    have g2 := (h2.set (.row (setCells [.string ⟨#[]⟩] 0 [.string ⟨#[]⟩]) 0)).setne n35 (.row (setCells [.int .i64 0] 0 [.int .i64 4]) 0)
    have g3 := (h3.setne n35.symm (.row (setCells [.string ⟨#[]⟩] 0 [.string ⟨#[]⟩]) 0)).set (.row (setCells [.int .i64 0] 0 [.int .i64 4]) 0)
    have ff := ((f05.trans fx).set (i := i3) (.inr (by omega)) (.row (setCells [.string ⟨#[]⟩] 0 [.string ⟨#[]⟩]) 0)).set (i := i5) (.inr (by omega)) (.row (setCells [.int .i64 0] 0 [.int .i64 4]) 0)
    refine wPt_at (ldS_at g2 rfl (wPt_at (ldI_at g3 rfl ?_)))
    have hh := h _ ff
    rw [el] at hh
    exact hh
set_option maxRecDepth 20000 in
theorem puts_call (x : Sbs) (h1x : i64ok x.id) (h2x : i64ok x.past) (h : ∀ H', Fr [] H H' → R (.ret (putR (subP x))) H') : ACall Try.prog 78 [.agg #[.int .i64 x.id, .string x.role, .int .i64 x.past], .func (.func 79) #[] #[]] H R := by
  apply f78_call
  unfold f78_B
  refine wNew_at (wNew_at (wNew_at (wNewT_at ?_)))
  have h1 := ((Has.new H (.row [.int .i64 x.id, .string x.role, .int .i64 x.past] 0)).push (.row [.string ⟨#[]⟩] 0)).push (.row [.int .i64 0] 0)
  have h2 := (Has.new (H.push (.row [.int .i64 x.id, .string x.role, .int .i64 x.past] 0)) (.row [.string ⟨#[]⟩] 0)).push (.row [.int .i64 0] 0)
  have h3 := Has.new ((H.push (.row [.int .i64 x.id, .string x.role, .int .i64 x.past] 0)).push (.row [.string ⟨#[]⟩] 0)) (.row [.int .i64 0] 0)
  have f3 : Fr [] H (((H.push (.row [.int .i64 x.id, .string x.role, .int .i64 x.past] 0)).push (.row [.string ⟨#[]⟩] 0)).push (.row [.int .i64 0] 0)) := (((Fr.refl [] H).push _).push _).push _
  have n1 : H.next ≤ H.next := Nat.le_refl _
  have n2 : (H.push (.row [.int .i64 x.id, .string x.role, .int .i64 x.past] 0)).next = H.next + 1 := rfl
  have n3 : ((H.push (.row [.int .i64 x.id, .string x.role, .int .i64 x.past] 0)).push (.row [.string ⟨#[]⟩] 0)).next = H.next + 2 := rfl
  have n4 : (((H.push (.row [.int .i64 x.id, .string x.role, .int .i64 x.past] 0)).push (.row [.string ⟨#[]⟩] 0)).push (.row [.int .i64 0] 0)).next = H.next + 3 := rfl
  generalize ((H.push (.row [.int .i64 x.id, .string x.role, .int .i64 x.past] 0)).push (.row [.string ⟨#[]⟩] 0)).push (.row [.int .i64 0] 0) = H3 at h1 h2 h3 f3 n4 ⊢
  generalize ((H.push (.row [.int .i64 x.id, .string x.role, .int .i64 x.past] 0)).push (.row [.string ⟨#[]⟩] 0)).next = i5 at h3 n3 ⊢
  generalize (H.push (.row [.int .i64 x.id, .string x.role, .int .i64 x.past] 0)).next = i3 at h2 n2 ⊢
  have bw := BW.new (H := H3)
  replace h1 := h1.pushT (.row [.pointer none, .slice none 0 0] 0) (some 163)
  replace h2 := h2.pushT (.row [.pointer none, .slice none 0 0] 0) (some 163)
  replace h3 := h3.pushT (.row [.pointer none, .slice none 0 0] 0) (some 163)
  replace f3 := f3.pushT (.row [.pointer none, .slice none 0 0] 0) (some 163)
  generalize H3.pushT (.row [.pointer none, .slice none 0 0] 0) (some 163) = H4 at bw h1 h2 h3 f3 ⊢
  have ws : WS H H4 H3.next H3.next [] := ⟨bw, f3, by omega, by omega⟩
  clear bw
  refine ldI_at h1 rfl (ldS_at h1 rfl (ldI_at h1 rfl (wCall_of (wsub_call ws x h1x h2x (by simp) ⟨fun l el H5 o5 ws5 f5 ho5 => ?_, fun el H5 f05 f5 => ?_⟩))))
  · rw [List.nil_append] at ws5
    have k2 := h2.lt
    have k3 := h3.lt
    replace h2 := h2.fr f5 (by simp; omega)
    replace h3 := h3.fr f5 (by simp; omega)
    refine wCall_of (bstring_call ws5.bw (ne_num el) (by have := ws5.bw.few; omega) (fun H6 f6 => opS_at ?_))
    replace h2 := h2.fr f6 (by simp; omega)
    replace h3 := h3.fr f6 (by simp; omega)
    have f06 : Fr [] H H6 := ws5.fr.trans' f6 (fun x hx => .inr (by simp at hx; have := ws5.go; omega))
    have n35 : i3 ≠ i5 := by omega
    refine wSt_at h2 (by simp) (wSt_at (h3.setne n35.symm _) (by simp) ?_)
    have g2 := (h2.set (.row (setCells [.string ⟨#[]⟩] 0 [.string (ofL l)]) 0)).setne n35 (.row (setCells [.int .i64 0] 0 [.int .i64 0]) 0)
    have g3 := (h3.setne n35.symm (.row (setCells [.string ⟨#[]⟩] 0 [.string (ofL l)]) 0)).set (.row (setCells [.int .i64 0] 0 [.int .i64 0]) 0)
    have ff := (f06.set (i := i3) (.inr (by omega)) (.row (setCells [.string ⟨#[]⟩] 0 [.string (ofL l)]) 0)).set (i := i5) (.inr (by omega)) (.row (setCells [.int .i64 0] 0 [.int .i64 0]) 0)
    refine f122_N _ _ _ _ ?_
    unfold f122_N_B
    refine wPt_at (ldS_at g2 rfl (wPt_at (ldI_at g3 rfl ?_)))
    have hh := h _ ff
    rw [el] at hh
    exact hh
  · have k2 := h2.lt
    have k3 := h3.lt
    replace h2 := h2.fr f5 (by simp; omega)
    replace h3 := h3.fr f5 (by simp; omega)
    have n35 : i3 ≠ i5 := by omega
    have n5 := f5.next
    refine f122_P _ _ 4 _ _ ?_
    unfold f122_P_B
    refine wNew_at (wSt_at (Has.new _ _) (by simp) ?_)
    have hq : Has ((H5.push (.row [.int .i64 0] 0)).set H5.next (.row (setCells [.int .i64 0] 0 [.int .i64 4]) 0)) H5.next (.row [.int .i64 4] 0) := (Has.new _ _).set _
    have fx : Fr [] H5 ((H5.push (.row [.int .i64 0] 0)).set H5.next (.row (setCells [.int .i64 0] 0 [.int .i64 4]) 0)) := ((Fr.refl [] H5).push _).set (.inr (Nat.le_refl _)) _
    generalize (H5.push (.row [.int .i64 0] 0)).set H5.next (.row (setCells [.int .i64 0] 0 [.int .i64 4]) 0) = H6 at hq fx ⊢
    replace h2 := h2.fr fx (by simp)
    replace h3 := h3.fr fx (by simp)
    refine ldI_at hq rfl (wPt_at (wSt_at h2 (by simp) ⟨PinOK_has (hq.setne (by omega) _) (by simp) rfl, wPt_at (wSt_at (h3.setne n35.symm _) (by simp) ?_)⟩))
    have g2 := (h2.set (.row (setCells [.string ⟨#[]⟩] 0 [.string ⟨#[]⟩]) 0)).setne n35 (.row (setCells [.int .i64 0] 0 [.int .i64 4]) 0)
    have g3 := (h3.setne n35.symm (.row (setCells [.string ⟨#[]⟩] 0 [.string ⟨#[]⟩]) 0)).set (.row (setCells [.int .i64 0] 0 [.int .i64 4]) 0)
    have ff := ((f05.trans fx).set (i := i3) (.inr (by omega)) (.row (setCells [.string ⟨#[]⟩] 0 [.string ⟨#[]⟩]) 0)).set (i := i5) (.inr (by omega)) (.row (setCells [.int .i64 0] 0 [.int .i64 4]) 0)
    refine wPt_at (ldS_at g2 rfl (wPt_at (ldI_at g3 rfl ?_)))
    have hh := h _ ff
    rw [el] at hh
    exact hh
end
end Go.Proofs.Ytfghglacfjncmaa
