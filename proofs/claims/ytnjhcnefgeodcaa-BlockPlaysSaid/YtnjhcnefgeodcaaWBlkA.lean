/- The device of sectors: what its memory is, and the small calls. -/
import Derived.Test.YtnjhcnefgeodcaaWGenA
import Derived.Test.YtnjhcnefgeodcaaWAbsN
namespace Go.Proofs.Ytnjhcnefgeodcaa
set_option linter.unusedVariables false
set_option linter.unusedSimpArgs false
open Go.RowKit

structure Cr where
  keep : Int
  torn : Int
  at_ : Int
structure Dev where
  lasts : List ByteArray
  waits : List (Nat × ByteArray)
  off : Bool
  left : Int
  crash : Cr

def Cr.val (c : Cr) : List Value := [.int .u64 c.keep, .int .i64 c.torn, .int .i64 c.at_]
def strs (l : List ByteArray) : List Value := l.map Value.string
def wcells (l : List (Nat × ByteArray)) : List Value := (l.map fun w => [Value.int .i64 (w.1 : Int), .string w.2]).flatten
def wval (jw : Nat) : List (Nat × ByteArray) → Value
  | [] => .slice none 0 0
  | l => .slice (some ⟨jw, 0, none⟩) l.length 0
def devRow (jl jw : Nat) (d : Dev) : AObj :=
  .row [.slice (some ⟨jl, 0, none⟩) d.lasts.length 0, wval jw d.waits, .bool d.off, .int .i64 d.left, .int .u64 d.crash.keep, .int .i64 d.crash.torn, .int .i64 d.crash.at_] 0
/-- A device in memory: its block, its sectors', its writes'. -/
structure DevAt (H : AH) (i jl jw : Nat) (d : Dev) : Prop where
  own : Has H i (devRow jl jw d)
  lasts : Has H jl (.row (strs d.lasts) 1)
  waits : d.waits ≠ [] → Has H jw (.row (wcells d.waits) 2)
  ne : i ≠ jl
  emp : d.waits = [] → jw = i
  nw : d.waits ≠ [] → jw ≠ i ∧ jw ≠ jl
theorem DevAt.fr {S : List Nat} {H H' : AH} {i jl jw : Nat} {d : Dev} (h : DevAt H i jl jw d) (x : Fr S H H') (hs : i ∉ S ∧ jl ∉ S ∧ jw ∉ S) : DevAt H' i jl jw d :=
  ⟨h.own.fr x hs.1, h.lasts.fr x hs.2.1, fun e => (h.waits e).fr x hs.2.2, h.ne, h.emp, h.nw⟩

section
variable {H : AH} {i jl jw : Nat} {d : Dev} {R : AEnd → AH → Prop}
theorem refused_call (hd : DevAt H i jl jw d) (h : R (.ret (.int .i64 (if d.off then 10 else 0))) H) : ACall Try.prog 31 [.pointer (some ⟨i, 0, none⟩)] H R := by
  apply f31_call
  unfold f31_B
  refine wIf_f rfl (wPt_at (ldB_at hd.own rfl (wIf_b (fun e => ?_) (fun e => ?_))))
  · rw [e] at h; exact h
  · rw [e] at h; exact h
theorem refused_nil (h : R (.ret (.int .i64 1)) H) : ACall Try.prog 31 [.pointer none] H R := by
  apply f31_call
  unfold f31_B
  exact wIf_t rfl h
theorem sectors_call (hd : DevAt H i jl jw d) (h : R (.ret (.int .i64 d.lasts.length)) H) : ACall Try.prog 18 [.pointer (some ⟨i, 0, none⟩)] H R := by
  apply f18_call
  unfold f18_B
  exact wIf_f rfl (wPt_at (ldL_at hd.own rfl h))
theorem wval_eq (jw : Nat) (l : List (Nat × ByteArray)) : ∃ a, wval jw l = .slice a l.length 0 ∧ (l ≠ [] → a = some ⟨jw, 0, none⟩) ∧ (l = [] → a = none) := by
  cases l with
  | nil => exact ⟨none, rfl, fun h => absurd rfl h, fun _ => rfl⟩
  | cons w l => exact ⟨some ⟨jw, 0, none⟩, rfl, fun _ => rfl, fun h => by cases h⟩
theorem waits_call (hd : DevAt H i jl jw d) (h : R (.ret (.int .i64 d.waits.length)) H) : ACall Try.prog 14 [.pointer (some ⟨i, 0, none⟩)] H R := by
  apply f14_call
  unfold f14_B
  obtain ⟨a, ha, _⟩ := wval_eq jw d.waits
  have hk := hd.own
  unfold devRow at hk
  rw [ha] at hk
  exact wIf_f rfl (wPt_at (ldL_at hk rfl h))
theorem off_call (hd : DevAt H i jl jw d) (h : R (.ret (.bool d.off)) H) : ACall Try.prog 15 [.pointer (some ⟨i, 0, none⟩)] H R := by
  apply f15_call
  unfold f15_B
  exact wIf_t rfl (wPt_at (ldB_at hd.own rfl h))
theorem off_nil (h : R (.ret (.bool false)) H) : ACall Try.prog 15 [.pointer none] H R := by
  apply f15_call
  unfold f15_B
  exact wIf_f rfl h
/-- The device's own cells written anew. -/
theorem DevAt.upd (hd : DevAt H i jl jw d) (d' : Dev) (hl : d'.lasts = d.lasts) (hw : d'.waits = d.waits) : DevAt (H.set i (devRow jl jw d')) i jl jw d' :=
  ⟨hd.own.set _, by rw [hl]; exact hd.lasts.setne hd.ne.symm _, fun e => by rw [hw]; exact (hd.waits (by rw [← hw]; exact e)).setne (hd.nw (by rw [← hw]; exact e)).1 _, hd.ne, fun e => hd.emp (by rw [← hw]; exact e), fun e => hd.nw (by rw [← hw]; exact e)⟩
theorem AH.set_set (H : AH) (i : Nat) (a b : AObj) : (H.set i a).set i b = H.set i b := by
  unfold AH.set
  congr 1
  funext j
  by_cases h : j = i <;> simp [h]
theorem Fr.set1 (H : AH) (i : Nat) (o : AObj) : Fr [i] H (H.set i o) := (Fr.refl [i] H).set (.inl (by simp)) _
theorem up_call (hd : DevAt H i jl jw d) (h : ∀ H', DevAt H' i jl jw { d with off := false, left := 0 } → Fr [i] H H' → R (.ret (.tuple #[])) H') : ACall Try.prog 16 [.pointer (some ⟨i, 0, none⟩)] H R := by
  apply f16_call
  unfold f16_B
  refine wIf_t rfl (wPt_at (wSt_at hd.own (by simp) (wPt_at (wSt_at (hd.own.set _) (by simp [setCells]) ?_))))
  rw [AH.set_set]
  exact h _ (hd.upd { d with off := false, left := 0 } rfl rfl) (Fr.set1 _ _ _)
theorem up_nil (h : R (.ret (.tuple #[])) H) : ACall Try.prog 16 [.pointer none] H R := by
  apply f16_call
  unfold f16_B
  exact wIf_f rfl h
theorem PinOK_has {o k : Nat} {cells cs : List Value} {e : Nat} (h : Has H o (.row cs e)) (hl : k + cells.length ≤ cs.length) (hc : (cs.drop k).take cells.length = cells) : PinOK o k cells H :=
  ⟨cs, by simp only [AH.cells, h.get], hl, hc⟩
theorem fuse_call (hd : DevAt H i jl jw d) (n : Int) (c : Cr) (h : ∀ H', DevAt H' i jl jw { d with left := if 0 < n then n else 0, crash := c } → Fr [i] H H' → R (.ret (.tuple #[])) H') :
    ACall Try.prog 10 [.pointer (some ⟨i, 0, none⟩), .int .i64 n, .agg #[.int .u64 c.keep, .int .i64 c.torn, .int .i64 c.at_]] H R := by
  apply f10_call
  unfold f10_B
  refine wNew_at (wIf_t rfl (wPt_at ?_))
  have hn := Has.new H (.row [.int .u64 c.keep, .int .i64 c.torn, .int .i64 c.at_] 0)
  have ho := hd.own.push (.row [.int .u64 c.keep, .int .i64 c.torn, .int .i64 c.at_] 0)
  have hne : H.next ≠ i := hd.own.ne'
  refine ldI_at hn rfl (ldI_at hn rfl (ldI_at hn rfl (wSt_at ho (by simp) ⟨PinOK_has (hn.setne hne _) (by simp) rfl, wPt_at (wSt_at (ho.set _) (by simp [setCells]) ?_)⟩)))
  rw [AH.set_set]
  have hp : DevAt (H.push (.row [.int .u64 c.keep, .int .i64 c.torn, .int .i64 c.at_] 0)) i jl jw d := hd.fr (S := []) ((Fr.refl [] H).push _) (by simp)
  exact h _ (hp.upd { d with left := if 0 < n then n else 0, crash := c } rfl rfl) (((Fr.refl [i] H).push _).set (.inl (by simp)) _)
theorem fuse_nil (n a b c : Int) (h : ∀ H', Fr [] H H' → R (.ret (.tuple #[])) H') : ACall Try.prog 10 [.pointer none, .int .i64 n, .agg #[.int .u64 a, .int .i64 b, .int .i64 c]] H R := by
  apply f10_call
  unfold f10_B
  exact wNew_at (wIf_f rfl (h _ ((Fr.refl [] H).push _)))

/-! Reading. -/
theorem wcells_at (l : List (Nat × ByteArray)) (k : Nat) (h : k < l.length) : (wcells l)[2 * k]? = some (.int .i64 ((l[k]).1 : Int)) ∧ (wcells l)[2 * k + 1]? = some (.string (l[k]).2) := by
  unfold wcells
  induction l generalizing k with
  | nil => simp at h
  | cons w l ih =>
    cases k with
    | zero => exact ⟨rfl, rfl⟩
    | succ k =>
      have := ih k (by simpa using h)
      simp only [List.map_cons, List.flatten_cons, List.cons_append, List.nil_append]
      rw [show 2 * (k + 1) = 2 * k + 1 + 1 by omega, List.getElem?_cons_succ, List.getElem?_cons_succ, List.getElem?_cons_succ, List.getElem?_cons_succ]
      exact this
theorem wcells_length (l : List (Nat × ByteArray)) : (wcells l).length = 2 * l.length := by
  unfold wcells
  induction l with
  | nil => rfl
  | cons w l ih => simp only [List.map_cons, List.flatten_cons, List.cons_append, List.nil_append, List.length_cons, ih]; omega
theorem strs_at (l : List ByteArray) (k : Nat) (h : k < l.length) : (strs l)[k]? = some (.string l[k]) := by simp [strs, h]
/-- The last write to a sector that waits. -/
def lastW (i : Nat) : List (Nat × ByteArray) → Option ByteArray
  | [] => none
  | w :: l => match lastW i l with
    | some s => some s
    | none => if w.1 = i then some w.2 else none
def Dev.read (d : Dev) (k : Int) : ByteArray × Int :=
  if d.off then (ByteArray.empty, 10) else if k < 0 ∨ (d.lasts.length : Int) ≤ k then (ByteArray.empty, 2)
  else ((lastW k.toNat d.waits).getD (d.lasts.getD k.toNat ByteArray.empty), 0)
end
end Go.Proofs.Ytnjhcnefgeodcaa
