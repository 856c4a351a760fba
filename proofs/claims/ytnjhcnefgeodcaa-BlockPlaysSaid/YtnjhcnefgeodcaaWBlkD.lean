/- The device of sectors: Flush, Read, Fill, New. -/
import Derived.Test.YtnjhcnefgeodcaaWBlkC
namespace Go.Proofs.Ytnjhcnefgeodcaa
set_option linter.unusedVariables false
set_option linter.unusedSimpArgs false
open Go.RowKit

def flushN (ws : List (Nat × ByteArray)) : Nat → List ByteArray → List ByteArray
  | 0, ls => ls
  | k + 1, ls => (flushN ws k ls).set (ws.getD k (0, ByteArray.empty)).1 (ws.getD k (0, ByteArray.empty)).2
def Dev.flush (d : Dev) : Int × Dev :=
  if d.off then (10, d) else if d.blow.1 then (10, d.blow.2) else (0, { d.blow.2 with lasts := flushN d.waits d.waits.length d.lasts, waits := [] })
theorem flushN_ok {ws : List (Nat × ByteArray)} {ls : List ByteArray} (h : ∀ s ∈ ls, s.size = 64) (hw : ∀ w ∈ ws, w.2.size = 64) (k : Nat) (hk : k ≤ ws.length) :
    (flushN ws k ls).length = ls.length ∧ ∀ s ∈ flushN ws k ls, s.size = 64 := by
  induction k with
  | zero => exact ⟨rfl, h⟩
  | succ k ih =>
    obtain ⟨h1, h2⟩ := ih (by omega)
    refine ⟨by rw [flushN, List.length_set]; exact h1, fun s hs => ?_⟩
    rw [flushN] at hs
    rcases List.mem_or_eq_of_mem_set hs with hs | rfl
    · exact h2 s hs
    · exact hw _ (getW_mem (show k < ws.length by omega))
theorem blow_false {d : Dev} (h : ¬ d.blow.1 = true) : d.blow.2.lasts = d.lasts ∧ d.blow.2.waits = d.waits := by
  unfold Dev.blow at h ⊢
  split
  · exact ⟨rfl, rfl⟩
  · rename_i e
    rw [if_neg e] at h
    split
    · exact ⟨rfl, rfl⟩
    · rename_i e2
      rw [if_neg e2] at h
      exact absurd rfl h
theorem Dev.OK.flush {d : Dev} (h : d.OK) : d.flush.2.OK := by
  unfold Dev.flush
  split
  · exact h
  · split
    · exact h.blow
    · rename_i hb
      have hb2 := h.blow
      obtain ⟨h1, h2⟩ := flushN_ok h.lasts (fun w hw => (h.waits w hw).2) d.waits.length (Nat.le_refl _)
      exact ⟨h2, fun w hw => (by cases hw), by show (flushN _ _ _).length ≤ _; rw [h1]; exact h.few, by show 0 < _; omega, hb2.left⟩

theorem lastW_snoc (i : Nat) (l : List (Nat × ByteArray)) (w : Nat × ByteArray) : lastW i (l ++ [w]) = if w.1 = i then some w.2 else lastW i l := by
  induction l with
  | nil => simp only [List.nil_append, lastW]
  | cons x l ih =>
    simp only [List.cons_append, lastW, ih]
    by_cases h : w.1 = i
    · simp [h]
    · simp [h]

section
variable {H : AH} {i jl jw : Nat} {d : Dev} {R : AEnd → AH → Prop}
set_option maxRecDepth 20000 in
theorem flush_call (hd : DevAt H i jl jw d) (hok : d.OK) (h : ∀ H' jw', DevAt H' i jl jw' d.flush.2 → Fr [i, jl] H H' → (jw' = i ∨ jw' = jw) → R (.ret (.int .i64 d.flush.1)) H') :
    ACall Try.prog 11 [.pointer (some ⟨i, 0, none⟩)] H R := by
  apply f11_call
  unfold f11_B
  refine wCall_of (refused_call hd ?_)
  unfold Dev.flush at h
  by_cases hoff : d.off = true
  · rw [if_pos hoff] at h
    rw [if_pos hoff]
    exact opI_at (wIf_nt (by omega) (h H jw hd (Fr.refl _ _) (.inr rfl)))
  · rw [if_neg hoff] at h
    rw [if_neg hoff]
    refine opI_at (wIf_nf rfl (wCall_of (blows_call hd hok (fun H1 jw1 hd1 hf1 hj => ?_))))
    by_cases hb : d.blow.1 = true
    · rw [if_pos hb] at h
      rw [hb]
      exact opB_at (wIf_t rfl (h H1 jw1 hd1 hf1 hj))
    · rw [if_neg hb] at h
      have hbf : d.blow.1 = false := by simpa using hb
      rw [hbf]
      obtain ⟨hbl, hbw⟩ := blow_false hb
      obtain ⟨a, ha, ha1, ha2⟩ := wval_eq jw1 d.waits
      have hk := hd1.own
      unfold devRow at hk
      rw [hbw, ha] at hk
      refine opB_at (wIf_f rfl (wPt_at (ldL_at hk rfl ?_)))
      have hmany := hok.many
      have hw1 : d.waits ≠ [] → Has H1 jw1 (.row (wcells d.waits) 2) := fun e => by have := hd1.waits (by rw [hbw]; exact e); rw [hbw] at this; exact this
      have hnw : d.waits ≠ [] → jw1 ≠ i ∧ jw1 ≠ jl := fun e => hd1.nw (by rw [hbw]; exact e)
      refine f11_L0_rule (J := fun m r H' => ∃ k : Nat, k ≤ d.waits.length ∧ r = (k : Int) ∧ m = d.waits.length - k ∧ Has H' i (devRow jl jw1 { d.blow.2 with lasts := flushN d.waits k d.lasts }) ∧
          Has H' jl (.row (strs (flushN d.waits k d.lasts)) 1) ∧ (d.waits ≠ [] → Has H' jw1 (.row (wcells d.waits) 2)) ∧ Fr [i, jl] H H') d.waits.length
        ⟨0, Nat.zero_le _, rfl, rfl, by have := hd1.own; unfold devRow at this ⊢; rw [hbl] at this; exact this, by have := hd1.lasts; rw [hbl] at this; exact this, hw1, hf1⟩ ?_
      rintro m r H2 ⟨k, hkl, rfl, rfl, ho, hl, hw, hf⟩
      intros
      unfold f11_R0
      obtain ⟨hlen, hsz⟩ := flushN_ok hok.lasts (fun w hw => (hok.waits w hw).2) k hkl
      refine wIf_d (fun hlt => ?_) (fun hge => ?_)
      · have hlt : k < d.waits.length := by omega
        have hne : d.waits ≠ [] := by intro e; rw [e] at hlt; simp at hlt
        obtain ⟨hc1, hc2⟩ := wcells_getD d.waits k hlt
        have hwk := hok.waits _ (getW_mem hlt)
        generalize hwv : d.waits.getD k (0, ByteArray.empty) = wv at hc1 hc2 hwk
        rw [ha1 hne]
        refine wIx_at (by omega) (by omega) (ldI_at (hw hne) hc1 (ldS_at (hw hne) hc2 (wNew_at (wSt_at (Has.new _ _) (by simp) ?_))))
        have hx : Fr [] H2 ((H2.push (.row [.int .i64 0, .string ⟨#[]⟩] 0)).set H2.next (.row (setCells [.int .i64 0, .string ⟨#[]⟩] 0 [.int .i64 (wv.1 : Int), .string wv.2]) 0)) := ((Fr.refl [] H2).push _).set (.inr (Nat.le_refl _)) _
        have hb := (Has.new H2 (.row [.int .i64 0, .string ⟨#[]⟩] 0)).set (.row (setCells [.int .i64 0, .string ⟨#[]⟩] 0 [.int .i64 (wv.1 : Int), .string wv.2]) 0)
        generalize hH3 : (H2.push (.row [.int .i64 0, .string ⟨#[]⟩] 0)).set H2.next (.row (setCells [.int .i64 0, .string ⟨#[]⟩] 0 [.int .i64 (wv.1 : Int), .string wv.2]) 0) = H3 at hx hb ⊢
        have ho2 := ho.fr hx (by simp)
        have hl2 := hl.fr hx (by simp)
        have hf2 : Fr [i, jl] H H3 := hf.trans (hx.mono (by simp))
        have hw2' : d.waits ≠ [] → Has H3 jw1 (.row (wcells d.waits) 2) := fun e => (hw e).fr hx (by simp)
        have hdl : ({ d.blow.2 with lasts := flushN d.waits k d.lasts } : Dev).lasts.length = d.lasts.length := hlen
        have hw1l : wv.1 < d.lasts.length := hwk.1
        refine wPt_at (ldL_at ho2 rfl (ldI_at hb rfl (ldS_at hb rfl (wIx_at (by omega) (by rw [hdl]; omega) (wSt_at hl2 ?_ ?_)))))
        · rw [strs_length, hlen]; simp; omega
        · have hN : flushN d.waits (k + 1) d.lasts = (flushN d.waits k d.lasts).set wv.1 wv.2 := by rw [flushN, hwv]
          refine ⟨d.waits.length - (k + 1), by omega, f11_I0_mk ⟨k + 1, hlt, wi1 k (by omega), rfl, ?_, ?_, fun e => (hw2' e).setne (hnw e).2 _, hf2.set (.inl (by simp)) _⟩⟩
          · have := ho2.setne hd.ne (.row (setCells (strs (flushN d.waits k d.lasts)) (0 + ((wv.1 : Nat) : Int).toNat * 1) [.string wv.2]) 1)
            unfold devRow at this ⊢
            rw [hN]
            simpa using this
          · rw [hN, Int.toNat_natCast, Nat.zero_add, Nat.mul_one, strs_set]
            exact hl2.set _
      · have hkk : k = d.waits.length := by omega
        rw [f11_J0_eq]
        unfold f11_J0_B
        refine wPt_at (wSt_at ho (by simp) ?_)
        rw [hkk] at hlen hl ho ⊢
        refine h _ i ⟨?_, hl.setne hd.ne.symm _, fun e => absurd rfl e, hd.ne, fun _ => rfl, fun e => absurd rfl e⟩ (hf.set (.inl (by simp)) _) (.inl rfl)
        exact ho.set _
theorem flush_nil (h : R (.ret (.int .i64 1)) H) : ACall Try.prog 11 [.pointer none] H R := by
  apply f11_call
  unfold f11_B
  exact wCall_of (refused_nil (opI_at (wIf_nt (by omega) h)))

set_option maxRecDepth 20000 in
theorem read_call (hd : DevAt H i jl jw d) (hok : d.OK) (k : Int) (h : R (.ret (.tuple #[.string (d.read k).1, .int .i64 (d.read k).2])) H) :
    ACall Try.prog 17 [.pointer (some ⟨i, 0, none⟩), .int .i64 k] H R := by
  apply f17_call
  unfold f17_B
  refine wCall_of (refused_call hd ?_)
  unfold Dev.read at h
  by_cases hoff : d.off = true
  · rw [if_pos hoff] at h
    rw [if_pos hoff]
    exact opI_at (wIf_nt (by omega) h)
  · rw [if_neg hoff] at h
    rw [if_neg hoff]
    refine opI_at (wIf_nf rfl ?_)
    refine wIf_d (fun hk => ?_) (fun hk => ?_)
    · rw [f17_J0_eq]
      unfold f17_J0_B
      rw [if_pos (.inl hk)] at h
      exact wIf_t rfl h
    · refine wPt_at (ldL_at hd.own rfl ?_)
      rw [f17_J0_eq]
      unfold f17_J0_B
      refine wIf_d (fun hk2 => ?_) (fun hk2 => ?_)
      · rw [if_pos (.inr hk2)] at h
        exact h
      · rw [if_neg (by omega)] at h
        rw [f17_J1_eq]
        unfold f17_J1_B
        obtain ⟨a, ha, ha1, ha2⟩ := wval_eq jw d.waits
        have hkk := hd.own
        unfold devRow at hkk
        rw [ha] at hkk
        refine wPt_at (ldL_at hkk rfl ?_)
        have hmany := hok.many
        rw [wi _ (by omega) (by omega)]
        refine f17_L0_rule (J := fun m r H' => H' = H ∧ m ≤ d.waits.length ∧ r = (m : Int) - 1 ∧ lastW k.toNat d.waits = lastW k.toNat (d.waits.take m)) d.waits.length
          ⟨rfl, Nat.le_refl _, rfl, by rw [List.take_length]⟩ ?_
        rintro m r H' ⟨rfl, hm, rfl, hlw⟩
        intros
        unfold f17_R0
        refine wIf_d (fun hge => ?_) (fun hlt => ?_)
        · obtain ⟨n, rfl⟩ : ∃ n, m = n + 1 := ⟨m - 1, by omega⟩
          have hn : ((n + 1 : Nat) : Int) - 1 = (n : Int) := by omega
          rw [hn]
          have hlt : n < d.waits.length := by omega
          have hne : d.waits ≠ [] := by intro e; rw [e] at hlt; simp at hlt
          obtain ⟨hc1, hc2⟩ := wcells_getD d.waits n hlt
          have htk : d.waits.take (n + 1) = d.waits.take n ++ [d.waits.getD n (0, ByteArray.empty)] := by
            rw [List.take_add_one, List.getD_eq_getElem?_getD, List.getElem?_eq_getElem hlt]; rfl
          rw [htk, lastW_snoc] at hlw
          generalize hwv : d.waits.getD n (0, ByteArray.empty) = wv at hc1 hc2 hlw
          rw [ha1 hne] at hkk ⊢
          refine wPt_at (ldL_at hkk rfl (wIx_at (by omega) (by omega) (ldI_at (hd.waits hne) hc1 (wIf_d (fun he => ?_) (fun he => ?_)))))
          · refine wPt_at (ldL_at hkk rfl (wIx_at (by omega) (by omega) (ldS_at (hd.waits hne) hc2 ?_)))
            rw [if_pos (by omega)] at hlw
            rw [hlw] at h
            exact h
          · rw [if_neg (by omega)] at hlw
            refine ⟨n, by omega, f17_I0_mk ⟨rfl, by omega, ?_, hlw⟩⟩
            rw [wi _ (by omega) (by omega)]
        · have hm0 : m = 0 := by omega
          rw [hm0] at hlw
          rw [f17_J2_eq]
          unfold f17_J2_B
          have hkl : k.toNat < d.lasts.length := by omega
          refine wPt_at (ldL_at hkk rfl (wIx_at (by omega) (by omega) (ldS_at hd.lasts (by rw [Nat.zero_add, Nat.mul_one]; exact strs_getD _ _ hkl) ?_)))
          rw [hlw] at h
          exact h
theorem read_nil (k : Int) (h : R (.ret (.tuple #[.string ⟨#[]⟩, .int .i64 1])) H) : ACall Try.prog 17 [.pointer none, .int .i64 k] H R := by
  apply f17_call
  unfold f17_B
  exact wCall_of (refused_nil (opI_at (wIf_nt (by omega) h)))
end
end Go.Proofs.Ytnjhcnefgeodcaa
