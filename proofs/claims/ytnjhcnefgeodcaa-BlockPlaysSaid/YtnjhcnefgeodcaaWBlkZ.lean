/- The document's device: a loss of power (none waits), the fuse, Write, Flush, Kill. -/
import Derived.Test.YtnjhcnefgeodcaaWBlkY
import Derived.Test.YtnjhcnefgeodcaaWBlkC
namespace Go.Proofs.Ytnjhcnefgeodcaa
set_option linter.unusedVariables false
set_option linter.unusedSimpArgs false
open Go.RowKit
section
variable {H : AH} {i jl jw jt n : Nat} {d : Dev} {R : AEnd → AH → Prop}
/-- What a crash's numbers are. -/
def Cr.ok (c : Cr) : Prop := 0 ≤ c.keep ∧ c.keep < 18446744073709551616
theorem rlose_none (hd : RefAt H i jl jw jt n d) (hne0 : d.waits.length = 0) (c : Cr)
    (h : ∀ H', RefAt H' i jl jw jt n (d.lost c) → Fr [i, jl, jt] H H' → R (.ret (.tuple #[])) H') :
    ACall Try.prog 37 [.pointer (some ⟨i, 0, none⟩), .agg #[.int .u64 c.keep, .int .i64 c.torn, .int .i64 c.at_]] H R := by
  apply f37_call
  unfold f37_B
  refine wNew_at (wPt_at ?_)
  have hf0 : Fr [] H (H.push (.row c.val 0)) := (Fr.refl _ _).push _
  have hd0 := hd.fr0 hf0
  have own := hd0.own
  have e0 : slV jw d.waits.length = .slice none 0 0 := if_pos hne0
  rw [refRow_eq rfl e0 rfl] at own
  refine ldL_at own rfl ?_
  have hw : d.waits = [] := List.eq_nil_of_length_eq_zero hne0
  have hl : d.lost c = { d with waits := [] } := by unfold Dev.lost; rw [hw]; rfl
  refine f37_L0_rule (J := fun m r H' => m = 0 ∧ r = 0 ∧ H' = H.push (.row c.val 0)) 0 ⟨rfl, rfl, rfl⟩ ?_
  rintro m r H1 ⟨rfl, rfl, rfl⟩
  intros
  unfold f37_R0
  refine wIf_df (by simp) ?_
  rw [f37_J3_eq]
  unfold f37_J3_B
  refine wPt_at (wSt_at own (by simp) ?_)
  have e1 : d = { d with waits := [] } := by rw [← hw]
  refine h _ ?_ ((hf0.mono (by simp)).set (.inl (by simp)) _)
  have := hd0.upd d rfl rfl
  rw [refRow_eq rfl e0 rfl] at this
  rw [hl, ← e1]
  exact this
theorem rlose_call (hd : RefAt H i jl jw jt n d) (hok : d.OK) (hn : n + d.waits.length ≤ 1099511627776) (c : Cr) (hc : c.ok)
    (h : ∀ H' jt' n', RefAt H' i jl jw jt' n' (d.lost c) → Fr [i, jl, jt] H H' → (jt' = jt ∨ H.next ≤ jt') → n' ≤ n + d.waits.length → (jt' < H'.next ∨ jt' = jt) → R (.ret (.tuple #[])) H') :
    ACall Try.prog 37 [.pointer (some ⟨i, 0, none⟩), .agg #[.int .u64 c.keep, .int .i64 c.torn, .int .i64 c.at_]] H R := by
  by_cases e : d.waits.length = 0
  · exact rlose_none hd e c (fun H' h1 h2 => h H' jt n h1 h2 (.inl rfl) (by omega) (.inr rfl))
  · exact rlose_some hd hok e hn c hc.1 hc.2 h

set_option maxRecDepth 20000 in
theorem rblown_call (hd : RefAt H i jl jw jt n d) (hok : d.OK) (hn : n + d.waits.length ≤ 1099511627776) (hc : d.crash.ok)
    (h : ∀ H' jt' n', RefAt H' i jl jw jt' n' d.blow.2 → Fr [i, jl, jt] H H' → (jt' = jt ∨ H.next ≤ jt') → n' ≤ n + d.waits.length → (jt' < H'.next ∨ jt' = jt) → R (.ret (.bool d.blow.1)) H') :
    ACall Try.prog 36 [.pointer (some ⟨i, 0, none⟩)] H R := by
  apply f36_call
  unfold f36_B
  have hl := hok.left
  unfold Dev.blow at h
  refine wPt_at (ldI_at hd.own rfl (wIf_d (fun e => ?_) (fun e => ?_)))
  · rw [if_neg (by omega), if_neg (by omega)] at h
    have h1 := hd.upd { d with left := 0 } rfl rfl
    have hok1 : ({ d with left := 0 } : Dev).OK := ⟨hok.lasts, hok.waits, hok.few, hok.many, by show (0 : Int) ≤ 0 ∧ (0 : Int) ≤ _; omega⟩
    refine wPt_at (wSt_at hd.own (by simp) (wPt_at (ldI_at h1.own rfl (ldI_at h1.own rfl (ldI_at h1.own rfl (wCall_of (rlose_call h1 hok1 hn d.crash hc (fun H' jt' n' hd' hf' ho hn' hj => ?_))))))))
    refine wPt_at (wSt_at hd'.own (by simp) ?_)
    have e0 : d.left - 1 = 0 := by omega
    rw [e0] at h
    have hnx : H'.next = (H'.set i (refRow jl jw jt' n' { ({ d with left := 0 } : Dev).lost d.crash with off := true })).next := rfl
    exact h _ jt' n' (hd'.upd { ({ d with left := 0 } : Dev).lost d.crash with off := true } rfl rfl) ((((Fr.set1 _ _ _).mono (by simp)).trans hf').trans ((Fr.set1 _ _ _).mono (by simp))) ho hn' hj
  · refine wPt_at (ldI_at hd.own rfl (wIf_d (fun e2 => ?_) (fun e2 => ?_)))
    · rw [if_neg (by omega), if_pos (by omega)] at h
      refine wPt_at (ldI_at hd.own rfl (wPt_at (wSt_at hd.own (by simp) ?_)))
      rw [wi _ (by omega) (by omega)]
      exact h _ jt n (hd.upd { d with left := d.left - 1 } rfl rfl) ((Fr.set1 _ _ _).mono (by simp)) (.inl rfl) (by omega) (.inr rfl)
    · rw [if_pos (by omega)] at h
      exact h H jt n hd (Fr.refl _ _) (.inl rfl) (by omega) (.inr rfl)

set_option maxRecDepth 20000 in
theorem rkill_call (hd : RefAt H i jl jw jt n d) (hok : d.OK) (hn : n + d.waits.length ≤ 1099511627776) (c : Cr) (hc : c.ok)
    (h : ∀ H' jt' n', RefAt H' i jl jw jt' n' (d.kill c) → Fr [i, jl, jt] H H' → (jt' = jt ∨ H.next ≤ jt') → n' ≤ n + d.waits.length → (jt' < H'.next ∨ jt' = jt) → R (.ret (.tuple #[])) H') :
    ACall Try.prog 24 [.pointer (some ⟨i, 0, none⟩), .agg #[.int .u64 c.keep, .int .i64 c.torn, .int .i64 c.at_]] H R := by
  apply f24_call
  unfold f24_B
  have hq := Has.new H (.row c.val 0)
  have hf1 : Fr [] H (H.push (.row c.val 0)) := (Fr.refl [] H).push _
  have hd1 := hd.fr0 hf1
  have hnx := hf1.next
  unfold Dev.kill at h
  refine wNew_at (wPt_at (ldB_at hd1.own rfl (wIf_b (fun e => ?_) (fun e => ?_))))
  · have hoff : ¬ d.off = true := by simpa using e
    rw [if_neg hoff] at h
    refine ldI_at hq rfl (ldI_at hq rfl (ldI_at hq rfl (wCall_of (rlose_call hd1 hok hn c hc (fun H' jt' n' hd' hf' ho hn' hj => wCall_of (rup_call hd' (fun H2 hd2 hf2 => ?_)))))))
    have := hf2.next
    exact h _ jt' n' hd2 (((hf1.mono (by simp)).trans hf').trans (hf2.mono (by simp))) (by omega) hn' (by omega)
  · have hoff : d.off = true := by simpa using e
    rw [if_pos hoff] at h
    exact wCall_of (rup_call hd1 (fun H2 hd2 hf2 => h _ jt n hd2 ((hf1.mono (by simp)).trans (hf2.mono (by simp))) (.inl rfl) (by omega) (.inr rfl)))
end
end Go.Proofs.Ytnjhcnefgeodcaa
