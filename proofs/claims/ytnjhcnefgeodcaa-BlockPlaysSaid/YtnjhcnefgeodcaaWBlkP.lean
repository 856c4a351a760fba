/- The statement: behind any calls, the device is what the document says. -/
import Derived.Test.YtnjhcnefgeodcaaWBlkW
import Derived.Test.YtnjhcnefgeodcaaWBlkI
import Derived.Test.YtnjhcnefgeodcaaWBlkK
import Derived.Test.YtnjhcnefgeodcaaWGenP6
namespace Go.Proofs.Ytnjhcnefgeodcaa
set_option linter.unusedVariables false
set_option linter.unusedSimpArgs false
open Go.RowKit

/-- The device and the document's, apart. -/
structure Pair (H : AH) (i jl jw p pl pw pt n : Nat) (d r : Dev) : Prop where
  a : DevAt H i jl jw d
  b : RefAt H p pl pw pt n r
  lt : pl < H.next ∧ pw < H.next ∧ pt < H.next
  ap : (i ≠ p ∧ i ≠ pl ∧ i ≠ pw ∧ i ≠ pt) ∧ (jl ≠ p ∧ jl ≠ pl ∧ jl ≠ pw ∧ jl ≠ pt) ∧ (jw ≠ p ∧ jw ≠ pl ∧ jw ≠ pw ∧ jw ≠ pt)
section
variable {H H' : AH} {i jl jw p pl pw pt n : Nat} {d r : Dev}
theorem Pair.stepA (h : Pair H i jl jw p pl pw pt n d r) {d' : Dev} {jw' : Nat} (hd : DevAt H' i jl jw' d') (hf : Fr [i, jl, jw] H H') (hj : jw' = i ∨ jw' = jw ∨ H.next ≤ jw') : Pair H' i jl jw' p pl pw pt n d' r := by
  obtain ⟨h1, h2, h3⟩ := h.ap
  have hn := hf.next
  obtain ⟨l1, l2, l3⟩ := h.lt
  have l0 := h.b.own.lt
  refine ⟨hd, h.b.fr hf ?_, ⟨by omega, by omega, by omega⟩, h1, h2, ?_⟩
  · simp only [List.mem_cons, List.not_mem_nil, or_false, not_or]; exact ⟨⟨h1.1.symm, h2.1.symm, h3.1.symm⟩, ⟨h1.2.1.symm, h2.2.1.symm, h3.2.1.symm⟩, ⟨h1.2.2.1.symm, h2.2.2.1.symm, h3.2.2.1.symm⟩, h1.2.2.2.symm, h2.2.2.2.symm, h3.2.2.2.symm⟩
  · rcases hj with rfl | rfl | hj
    · exact h1
    · exact h3
    · omega
theorem Pair.stepB (h : Pair H i jl jw p pl pw pt n d r) {r' : Dev} {pw' pt' n' : Nat} (hd : RefAt H' p pl pw' pt' n' r') (hf : Fr [p, pl, pw, pt] H H') (hw : pw' = pw ∨ H.next ≤ pw') (hw2 : pw' < H'.next ∨ pw' = pw) (ht : pt' = pt ∨ H.next ≤ pt') (ht2 : pt' < H'.next ∨ pt' = pt) :
    Pair H' i jl jw p pl pw' pt' n' d r' := by
  obtain ⟨h1, h2, h3⟩ := h.ap
  have hn := hf.next
  obtain ⟨l1, l2, l3⟩ := h.lt
  have a1 := h.a.own.lt; have a2 := h.a.lasts.lt; have a3 := h.a.jlt
  have kw : ∀ x, x < H.next → x ≠ pw → x ≠ pw' := fun x x1 x2 => by rcases hw with rfl | hw; exact x2; omega
  have kt : ∀ x, x < H.next → x ≠ pt → x ≠ pt' := fun x x1 x2 => by rcases ht with rfl | ht; exact x2; omega
  refine ⟨h.a.fr hf ?_, hd, ⟨by omega, by rcases hw2 with e | rfl; exact e; omega, by rcases ht2 with e | rfl; exact e; omega⟩, ?_⟩
  · simp only [List.mem_cons, List.not_mem_nil, or_false, not_or]; exact ⟨⟨h1.1, h1.2.1, h1.2.2.1, h1.2.2.2⟩, ⟨h2.1, h2.2.1, h2.2.2.1, h2.2.2.2⟩, h3.1, h3.2.1, h3.2.2.1, h3.2.2.2⟩
  · exact ⟨⟨h1.1, h1.2.1, kw _ a1 h1.2.2.1, kt _ a1 h1.2.2.2⟩, ⟨h2.1, h2.2.1, kw _ a2 h2.2.2.1, kt _ a2 h2.2.2.2⟩, h3.1, h3.2.1, kw _ a3 h3.2.2.1, kt _ a3 h3.2.2.2⟩
theorem Pair.frame (h : Pair H i jl jw p pl pw pt n d r) (hf : Fr [] H H') : Pair H' i jl jw p pl pw pt n d r := by
  have hn := hf.next
  obtain ⟨l1, l2, l3⟩ := h.lt
  exact ⟨h.a.fr hf (by simp), h.b.fr hf (by simp), ⟨by omega, by omega, by omega⟩, h.ap⟩
end
/-- What holds behind so many calls. -/
structure Leaf (H0 H : AH) (i jl p pl k : Nat) (d : Dev) : Prop where
  ex : ∃ jw pw pt n, Pair H i jl jw p pl pw pt n d d ∧ (H0.next ≤ i ∧ H0.next ≤ jl ∧ H0.next ≤ jw ∧ H0.next ≤ p ∧ H0.next ≤ pl ∧ H0.next ≤ pw ∧ H0.next ≤ pt) ∧ n ≤ 100 * k
  ok : d.OK
  cr : d.crash.ok
  wt : d.waits.length ≤ k
  fr : Fr [] H0 H
theorem Leaf.frame {H0 H H' : AH} {i jl p pl k : Nat} {d : Dev} (h : Leaf H0 H i jl p pl k d) (f : Fr [] H H') : Leaf H0 H' i jl p pl k d := by
  obtain ⟨jw, pw, pt, n, h1, h2, h3⟩ := h.ex
  exact ⟨⟨jw, pw, pt, n, h1.frame f, h2, h3⟩, h.ok, h.cr, h.wt, h.fr.trans f⟩
/-- Both behind a call each. -/
theorem Leaf.of {H0 H H1 H2 : AH} {i jl jw p pl pw pt n k : Nat} {d d' : Dev} (h0 : Fr [] H0 H) (hp : Pair H i jl jw p pl pw pt n d d) (hg : H0.next ≤ i ∧ H0.next ≤ jl ∧ H0.next ≤ jw ∧ H0.next ≤ p ∧ H0.next ≤ pl ∧ H0.next ≤ pw ∧ H0.next ≤ pt)
    {jw' pw' pt' n' : Nat} (h1 : DevAt H1 i jl jw' d') (f1 : Fr [i, jl, jw] H H1) (j1 : jw' = i ∨ jw' = jw ∨ H.next ≤ jw') (h2 : RefAt H2 p pl pw' pt' n' d') (f2 : Fr [p, pl, pw, pt] H1 H2) (hw : pw' = pw ∨ H1.next ≤ pw') (hw2 : pw' < H2.next ∨ pw' = pw) (ht : pt' = pt ∨ H1.next ≤ pt') (ht2 : pt' < H2.next ∨ pt' = pt)
    (hn : n' ≤ 100 * (k + 1)) (ok : d'.OK) (cr : d'.crash.ok) (wt : d'.waits.length ≤ k + 1) : Leaf H0 H2 i jl p pl (k + 1) d' := by
  have p1 := hp.stepA h1 f1 j1
  have p2 := p1.stepB h2 f2 hw hw2 ht ht2
  have n0 := h0.next
  have n1 := f1.next
  obtain ⟨g1, g2, g3, g4, g5, g6, g7⟩ := hg
  refine ⟨⟨jw', pw', pt', n', p2, ⟨g1, g2, by omega, g4, g5, by omega, by omega⟩, hn⟩, ok, cr, wt, (h0.trans' f1 (fun x hx => .inr ?_)).trans' f2 (fun x hx => .inr ?_)⟩
  · simp at hx; omega
  · simp at hx; omega
/-! What the calls leave of the rest. -/
theorem lost_crash (d : Dev) (c : Cr) : (d.lost c).crash = d.crash := rfl
theorem blow_crash (d : Dev) : d.blow.2.crash = d.crash := by unfold Dev.blow; split; rfl; split <;> rfl
theorem blow_waits (d : Dev) : d.blow.2.waits.length ≤ d.waits.length := by
  unfold Dev.blow; split
  · exact Nat.le_refl _
  · split
    · exact Nat.le_refl _
    · exact Nat.zero_le _
theorem write_crash (d : Dev) (k : Int) (s : ByteArray) : (d.write k s).2.crash = d.crash := by unfold Dev.write; split; rfl; split; rfl; exact blow_crash _
theorem write_waits (d : Dev) (k : Int) (s : ByteArray) : (d.write k s).2.waits.length ≤ d.waits.length + 1 := by
  unfold Dev.write; split
  · exact Nat.le_succ _
  · split
    · exact Nat.le_succ _
    · refine Nat.le_trans (blow_waits _) ?_
      simp
theorem flush_crash (d : Dev) : d.flush.2.crash = d.crash := by unfold Dev.flush; split; rfl; split <;> exact blow_crash _
theorem flush_waits (d : Dev) : d.flush.2.waits.length ≤ d.waits.length := by
  unfold Dev.flush; split
  · exact Nat.le_refl _
  · split
    · exact blow_waits _
    · exact Nat.zero_le _
theorem kill_crash (d : Dev) (c : Cr) : (d.kill c).crash = d.crash := by unfold Dev.kill; split <;> rfl
theorem kill_waits (d : Dev) (c : Cr) : (d.kill c).waits.length ≤ d.waits.length := by
  unfold Dev.kill; split
  · exact Nat.le_refl _
  · exact Nat.zero_le _
theorem Dev.OK.fill {d : Dev} (h : d.OK) (s : ByteArray) : (d.fill s).OK :=
  ⟨fillL_size _ _, fun w hw => (by cases hw), by show (fillL _ _).length ≤ _; rw [fillL_length]; exact h.few, by show 0 < _; omega, h.left⟩
theorem Dev.OK.up {d : Dev} (h : d.OK) : ({ d with off := false, left := 0 } : Dev).OK :=
  ⟨h.lasts, h.waits, h.few, h.many, by show (0 : Int) ≤ 0 ∧ (0 : Int) ≤ _; omega⟩
theorem Dev.OK.fuse {d : Dev} (h : d.OK) (m : Int) (hm : m ≤ 9223372036854775807) (c : Cr) : ({ d with left := if 0 < m then m else 0, crash := c } : Dev).OK :=
  ⟨h.lasts, h.waits, h.few, h.many, by show (0 : Int) ≤ (if 0 < m then m else 0) ∧ (if 0 < m then m else 0) ≤ _; split <;> omega⟩
end Go.Proofs.Ytnjhcnefgeodcaa
