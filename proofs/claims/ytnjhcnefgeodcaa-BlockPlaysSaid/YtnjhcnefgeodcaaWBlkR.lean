/- The document's device: what its memory is, and the small calls. -/
import Derived.Test.YtnjhcnefgeodcaaWBlkA
import Derived.Test.YtnjhcnefgeodcaaWGenR
namespace Go.Proofs.Ytnjhcnefgeodcaa
set_option linter.unusedVariables false
set_option linter.unusedSimpArgs false
open Go.RowKit

/-- A slice that a function grows: none, or a row of its own. -/
def slV (j n : Nat) : Value := if n = 0 then .slice none 0 0 else .slice (some ⟨j, 0, none⟩) n 0
def refRow (jl jw jt n : Nat) (d : Dev) : AObj :=
  .row [slV jl d.lasts.length, slV jw d.waits.length, .bool d.off, .int .i64 d.left, .int .u64 d.crash.keep, .int .i64 d.crash.torn, .int .i64 d.crash.at_, slV jt n] 0
/-- The document's device in memory: its block, its sectors', its writes', its tears'. -/
structure RefAt (H : AH) (i jl jw jt n : Nat) (d : Dev) : Prop where
  own : Has H i (refRow jl jw jt n d)
  lasts : d.lasts.length ≠ 0 → Has H jl (.row (strs d.lasts) 1) ∧ jl ≠ i
  waits : d.waits.length ≠ 0 → Has H jw (.row (wcells d.waits) 2) ∧ jw ≠ i ∧ jw ≠ jl
  tears : n ≠ 0 → ∃ cs, cs.length = n * 4 ∧ cs.all oneCell = true ∧ Has H jt (.row cs 4) ∧ jt ≠ i ∧ jt ≠ jl ∧ (d.waits.length ≠ 0 → jt ≠ jw)
/-- What of a device's block alone changes. -/
theorem RefAt.upd {H : AH} {i jl jw jt n : Nat} {d : Dev} (h : RefAt H i jl jw jt n d) (d' : Dev) (e1 : d'.lasts = d.lasts) (e2 : d'.waits = d.waits) : RefAt (H.set i (refRow jl jw jt n d')) i jl jw jt n d' := by
  refine ⟨h.own.set _, fun x => ?_, fun x => ?_, fun x => ?_⟩
  · rw [e1] at x ⊢
    exact ⟨(h.lasts x).1.setne (h.lasts x).2 _, (h.lasts x).2⟩
  · rw [e2] at x ⊢
    exact ⟨(h.waits x).1.setne (h.waits x).2.1 _, (h.waits x).2⟩
  · rw [e2]
    obtain ⟨cs, c1, c2, c3, c4, c5⟩ := h.tears x
    exact ⟨cs, c1, c2, c3.setne c4 _, c4, c5⟩
section
variable {H : AH} {i jl jw jt n : Nat} {d : Dev} {R : AEnd → AH → Prop}
theorem rup_call (hd : RefAt H i jl jw jt n d) (h : ∀ H', RefAt H' i jl jw jt n { d with off := false, left := 0 } → Fr [i] H H' → R (.ret (.tuple #[])) H') : ACall Try.prog 26 [.pointer (some ⟨i, 0, none⟩)] H R := by
  apply f26_call
  unfold f26_B
  refine wPt_at (wSt_at hd.own (by simp) (wPt_at (wSt_at (hd.own.set _) (by simp [setCells]) ?_)))
  rw [AH.set_set]
  exact h _ (hd.upd { d with off := false, left := 0 } rfl rfl) (Fr.set1 _ _ _)
theorem rfuse_call (hd : RefAt H i jl jw jt n d) (m : Int) (c : Cr) (h : ∀ H', RefAt H' i jl jw jt n { d with left := if 0 < m then m else 0, crash := c } → Fr [i] H H' → R (.ret (.tuple #[])) H') :
    ACall Try.prog 25 [.pointer (some ⟨i, 0, none⟩), .int .i64 m, .agg #[.int .u64 c.keep, .int .i64 c.torn, .int .i64 c.at_]] H R := by
  apply f25_call
  unfold f25_B
  refine wNew_at (wPt_at ?_)
  have hn := Has.new H (.row [.int .u64 c.keep, .int .i64 c.torn, .int .i64 c.at_] 0)
  have ho := hd.own.push (.row [.int .u64 c.keep, .int .i64 c.torn, .int .i64 c.at_] 0)
  have hne : H.next ≠ i := hd.own.ne'
  refine wSt_at ho (by simp) (ldI_at (hn.setne hne _) rfl (ldI_at (hn.setne hne _) rfl (ldI_at (hn.setne hne _) rfl (wPt_at (wSt_at (ho.set _) (by simp [setCells]) ?_)))))
  rw [AH.set_set]
  have hp : RefAt (H.push (.row [.int .u64 c.keep, .int .i64 c.torn, .int .i64 c.at_] 0)) i jl jw jt n d := by
    refine ⟨ho, fun x => ⟨(hd.lasts x).1.push _, (hd.lasts x).2⟩, fun x => ⟨(hd.waits x).1.push _, (hd.waits x).2⟩, fun x => ?_⟩
    obtain ⟨cs, c1, c2, c3, c4⟩ := hd.tears x
    exact ⟨cs, c1, c2, c3.push _, c4⟩
  exact h _ (hp.upd { d with left := if 0 < m then m else 0, crash := c } rfl rfl) (((Fr.refl [i] H).push _).set (.inl (by simp)) _)
end
end Go.Proofs.Ytnjhcnefgeodcaa
