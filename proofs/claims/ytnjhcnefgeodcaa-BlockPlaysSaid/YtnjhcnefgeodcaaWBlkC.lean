/- The device of sectors: the calls that write, and a loss of power by hand. -/
import Derived.Test.YtnjhcnefgeodcaaWBlkB
namespace Go.Proofs.Ytnjhcnefgeodcaa
set_option linter.unusedVariables false
set_option linter.unusedSimpArgs false
open Go.RowKit

def Dev.blow (d : Dev) : Bool × Dev :=
  if d.left = 0 then (false, d) else if 0 < d.left - 1 then (false, { d with left := d.left - 1 }) else (true, { d.lost d.crash with off := true, left := d.left - 1 })
def Dev.write (d : Dev) (k : Int) (s : ByteArray) : Int × Dev :=
  if d.off then (10, d) else if k < 0 ∨ (d.lasts.length : Int) ≤ k ∨ s.size ≠ 64 then (2, d)
  else (if ({ d with waits := d.waits ++ [(k.toNat, s)] } : Dev).blow.1 then 10 else 0, ({ d with waits := d.waits ++ [(k.toNat, s)] } : Dev).blow.2)
def Dev.kill (d : Dev) (c : Cr) : Dev := if d.off then { d with off := false, left := 0 } else { d.lost c with off := false, left := 0 }

theorem Dev.OK.blow {d : Dev} (h : d.OK) : d.blow.2.OK := by
  unfold Dev.blow
  split
  · exact h
  · split
    · exact ⟨h.lasts, h.waits, h.few, h.many, by have := h.left; show 0 ≤ d.left - 1 ∧ d.left - 1 ≤ _; omega⟩
    · have := h.lost d.crash
      have hl := h.left
      exact ⟨this.lasts, this.waits, this.few, this.many, by show 0 ≤ d.left - 1 ∧ d.left - 1 ≤ _; omega⟩
theorem Dev.OK.write {d : Dev} (h : d.OK) (hm : d.waits.length < 1099511627775) (k : Int) (s : ByteArray) : (d.write k s).2.OK := by
  unfold Dev.write
  split
  · exact h
  · split
    · exact h
    · rename_i hk
      refine Dev.OK.blow ⟨h.lasts, fun w hw => ?_, h.few, by simp; omega, h.left⟩
      rcases List.mem_append.1 hw with hw | hw
      · exact h.waits w hw
      · rw [List.mem_singleton] at hw
        subst hw
        have h1 : ¬ k < 0 := fun e => hk (.inl e)
        have h2 : ¬ (d.lasts.length : Int) ≤ k := fun e => hk (.inr (.inl e))
        have h3 : s.size = 64 := Decidable.byContradiction fun e => hk (.inr (.inr e))
        exact ⟨by show k.toNat < d.lasts.length; omega, h3⟩
theorem Dev.OK.kill {d : Dev} (h : d.OK) (c : Cr) : (d.kill c).OK := by
  unfold Dev.kill
  split
  · exact ⟨h.lasts, h.waits, h.few, h.many, ⟨by show (0 : Int) ≤ 0; omega, by show (0 : Int) ≤ _; omega⟩⟩
  · have := h.lost c
    exact ⟨this.lasts, this.waits, this.few, this.many, ⟨by show (0 : Int) ≤ 0; omega, by show (0 : Int) ≤ _; omega⟩⟩

section
variable {H : AH} {i jl jw : Nat} {d : Dev} {R : AEnd → AH → Prop}
set_option maxRecDepth 20000 in
theorem blows_call (hd : DevAt H i jl jw d) (hok : d.OK) (h : ∀ H' jw', DevAt H' i jl jw' d.blow.2 → Fr [i, jl] H H' → (jw' = i ∨ jw' = jw) → R (.ret (.bool d.blow.1)) H') :
    ACall Try.prog 32 [.pointer (some ⟨i, 0, none⟩)] H R := by
  apply f32_call
  unfold f32_B
  have hl := hok.left
  unfold Dev.blow at h
  refine wPt_at (ldI_at hd.own rfl (wIf_d (fun e => ?_) (fun e => ?_)))
  · rw [if_pos e] at h
    exact h _ jw hd (Fr.refl _ _) (.inr rfl)
  · rw [if_neg e] at h
    have h1 := hd.upd { d with left := d.left - 1 } rfl rfl
    refine wPt_at (ldI_at hd.own rfl (wPt_at (wSt_at hd.own (by simp) ?_)))
    rw [wi _ (by omega) (by omega)]
    refine wPt_at (ldI_at h1.own rfl (wIf_d (fun e2 => ?_) (fun e2 => ?_)))
    · rw [if_pos (by omega)] at h
      exact h _ jw h1 ((Fr.set1 _ _ _).mono (by simp)) (.inr rfl)
    · rw [if_neg (by omega)] at h
      refine wPt_at (ldI_at h1.own rfl (ldI_at h1.own rfl (ldI_at h1.own rfl (wCall_of (lose_call h1 ⟨hok.lasts, hok.waits, hok.few, hok.many, by show 0 ≤ d.left - 1 ∧ d.left - 1 ≤ _; omega⟩ d.crash (fun H' hd' hf' => ?_))))))
      refine wPt_at (wSt_at hd'.own (by simp) ?_)
      exact h _ i (hd'.upd { d.lost d.crash with off := true, left := d.left - 1 } rfl rfl) ((((Fr.set1 _ _ _).mono (by simp)).trans hf').trans ((Fr.set1 _ _ _).mono (by simp))) (.inl rfl)

set_option maxRecDepth 20000 in
theorem write_call (hd : DevAt H i jl jw d) (hok : d.OK) (hm : d.waits.length < 1099511627775) (k : Int) (s : ByteArray)
    (h : ∀ H' jw', DevAt H' i jl jw' (d.write k s).2 → Fr [i, jl, jw] H H' → (jw' = i ∨ jw' = jw ∨ H.next ≤ jw') → R (.ret (.int .i64 (d.write k s).1)) H') :
    ACall Try.prog 12 [.pointer (some ⟨i, 0, none⟩), .int .i64 k, .string s] H R := by
  apply f12_call
  unfold f12_B
  refine wCall_of (refused_call hd ?_)
  unfold Dev.write at h
  by_cases hoff : d.off = true
  · rw [if_pos hoff] at h
    rw [if_pos hoff]
    refine opI_at (wIf_nt (by omega) ?_)
    exact h H jw hd (Fr.refl _ _) (.inr (.inl rfl))
  · rw [if_neg hoff] at h
    rw [if_neg hoff]
    refine opI_at (wIf_nf rfl ?_)
    have bad : (k < 0 ∨ (d.lasts.length : Int) ≤ k ∨ s.size ≠ 64) → R (.ret (.int .i64 2)) H := by
      intro e
      rw [if_pos e] at h
      exact h H jw hd (Fr.refl _ _) (.inr (.inl rfl))
    refine wIf_d (fun hk => ?_) (fun hk => ?_)
    · rw [f12_J0_eq]
      unfold f12_J0_B
      exact wIf_t rfl (bad (.inl hk))
    · refine wPt_at (ldL_at hd.own rfl (wIf_d (fun hk2 => ?_) (fun hk2 => ?_)))
      · rw [f12_J0_eq]
        unfold f12_J0_B
        exact wIf_t rfl (bad (.inr (.inl hk2)))
      · rw [f12_J0_eq]
        unfold f12_J0_B
        refine wIf_n (fun hs => bad (.inr (.inr (fun e => hs (by rw [e]; rfl))))) (fun hs => ?_)
        have hs : s.size = 64 := by omega
        rw [if_neg (by omega)] at h
        rw [f12_J1_eq]
        unfold f12_J1_B
        obtain ⟨a, ha, ha1, ha2⟩ := wval_eq jw d.waits
        have hk := hd.own
        unfold devRow at hk
        rw [ha] at hk
        refine wPt_at (ldL_at hk rfl (wBs_at ?_))
        have hkn : k = ((k.toNat : Nat) : Int) := by omega
        generalize hkk : k.toNat = kn at hkn h
        subst hkn
        have hx := Has.new H (.row [.int .i64 (kn : Int), .string s] 2)
        have hf1 : Fr [] H (H.push (.row [.int .i64 (kn : Int), .string s] 2)) := (Fr.refl [] H).push _
        have hd1 := hd.fr hf1 (by simp)
        have hsc := sliceCells_new (H.push (.row [.int .i64 (kn : Int), .string s] 2)) [.int .i64 (kn : Int), .string s] 2 1 0 rfl hx
        generalize hH1 : H.push (.row [.int .i64 (kn : Int), .string s] 2) = H1 at hx hf1 hd1 hsc ⊢
        have hn1 : H.next < H1.next := hx.lt
        have hwc : wcells (d.waits ++ [(kn, s)]) = wcells d.waits ++ [.int .i64 (kn : Int), .string s] := by simp [wcells]
        -- what stands behind the append
        have hrest : ∀ (H3 : AH), H1.next < H3.next → Has H3 i (devRow jl jw d) → Has H3 jl (.row (strs d.lasts) 1) → Has H3 H1.next (.row (wcells (d.waits ++ [(kn, s)])) 2) → Fr [i, jl, jw] H H3 →
            (wPt (some ⟨i, 0, none⟩) fun i8 k9 => wSt i8 (k9 + 1) [(.slice (some ⟨H1.next, 0, none⟩) (d.waits ++ [(kn, s)]).length 0)] H3 fun H10 =>
              wCall Try.prog 32 [(.pointer (some ⟨i, 0, none⟩))] H10 (fun r11 H12 => opB r11 fun b15 => wIf b15 (R (.ret (.int .i64 10)) H12) (R (.ret (.int .i64 0)) H12)) (fun v14 H13 => R (.panic v14) H13)) := by
          intro H3 hn3 h1 h2 h3 h4
          refine wPt_at (wSt_at h1 (by simp) ?_)
          have hni : H1.next ≠ i := by have := hd1.own.lt; omega
          have hnl : H1.next ≠ jl := by have := hd1.lasts.lt; omega
          have hwv : wval H1.next (d.waits ++ [(kn, s)]) = .slice (some ⟨H1.next, 0, none⟩) (d.waits ++ [(kn, s)]).length 0 := by
            cases hq : d.waits ++ [(kn, s)] with
            | nil => simp at hq
            | cons w l => rfl
          have hdn : DevAt (H3.set i (devRow jl H1.next { d with waits := d.waits ++ [(kn, s)] })) i jl H1.next { d with waits := d.waits ++ [(kn, s)] } :=
            ⟨h1.set _, h2.setne hd.ne.symm _, fun _ => h3.setne hni _, hd.ne, fun e => by simp at e, fun _ => ⟨hni, hnl⟩⟩
          have he : (AObj.row (setCells [.slice (some ⟨jl, 0, none⟩) d.lasts.length 0, wval jw d.waits, .bool d.off, .int .i64 d.left, .int .u64 d.crash.keep, .int .i64 d.crash.torn, .int .i64 d.crash.at_] (0 + 1) [.slice (some ⟨H1.next, 0, none⟩) (d.waits ++ [(kn, s)]).length 0]) 0) =
              devRow jl H1.next { d with waits := d.waits ++ [(kn, s)] } := by
            rw [← hwv]; rfl
          show wCall _ _ _ (H3.set i (AObj.row (setCells _ (0 + 1) _) 0)) _ _
          rw [he]
          have hok1 : ({ d with waits := d.waits ++ [(kn, s)] } : Dev).OK := ⟨hok.lasts, fun w hw => by
            rcases List.mem_append.1 hw with hw | hw
            · exact hok.waits w hw
            · rw [List.mem_singleton] at hw
              subst hw
              exact ⟨by show kn < d.lasts.length; omega, hs⟩, hok.few, by simp; omega, hok.left⟩
          refine wCall_of (blows_call hdn hok1 (fun H' jw' hd' hf' hj => ?_))
          have hR := h H' jw' hd' ((h4.set (.inl (by simp)) _).trans (hf'.mono (by simp))) (by rcases hj with e | e; exact .inl e; exact .inr (.inr (by have := hf1.next; omega)))
          refine wIf_b (fun e => ?_) (fun e => ?_)
          · rw [e] at hR; exact hR
          · rw [e] at hR; exact hR
        by_cases hwe : d.waits = []
        · rw [ha2 hwe, hwe]
          refine wAppL_nil (n := 0) hsc rfl rfl (by omega) (by omega) ?_
          have hl : (d.waits ++ [(kn, s)]).length = 1 := by rw [hwe]; rfl
          have := hrest (H1.push (.row [.int .i64 (kn : Int), .string s] 2)) (by rw [AH.next_push]; omega) (hd1.own.push _) (hd1.lasts.push _) (by rw [hwc, hwe]; exact Has.new _ _) ((hf1.mono (by simp)).push _)
          rw [hl] at this
          exact this
        · rw [ha1 hwe]
          have hw1 := hd1.waits hwe
          refine wAppL_own hw1 (by rw [wcells_length]; omega) hsc rfl rfl (by omega) (by omega) ?_
          have hl : (d.waits ++ [(kn, s)]).length = d.waits.length + 1 := by simp
          have := hrest ((H1.drop jw).push (.row (wcells d.waits ++ [.int .i64 (kn : Int), .string s]) 2)) (by rw [AH.next_push, AH.next_drop]; omega) ((hd1.own.dropne (hd.nw hwe).1.symm).push _) ((hd1.lasts.dropne (hd.nw hwe).2.symm).push _)
            (by rw [hwc]; exact Has.new (H1.drop jw) _) (((hf1.mono (by simp)).drop (.inl (by simp))).push _)
          rw [hl] at this
          exact this
theorem write_nil (k : Int) (s : ByteArray) (h : R (.ret (.int .i64 1)) H) : ACall Try.prog 12 [.pointer none, .int .i64 k, .string s] H R := by
  apply f12_call
  unfold f12_B
  exact wCall_of (refused_nil (opI_at (wIf_nt (by omega) h)))

set_option maxRecDepth 20000 in
theorem kill_call (hd : DevAt H i jl jw d) (hok : d.OK) (c : Cr) (h : ∀ H' jw', DevAt H' i jl jw' (d.kill c) → Fr [i, jl] H H' → (jw' = i ∨ jw' = jw) → R (.ret (.tuple #[])) H') :
    ACall Try.prog 20 [.pointer (some ⟨i, 0, none⟩), .agg #[.int .u64 c.keep, .int .i64 c.torn, .int .i64 c.at_]] H R := by
  apply f20_call
  unfold f20_B
  have hn := Has.new H (.row c.val 0)
  have hf1 : Fr [] H (H.push (.row c.val 0)) := (Fr.refl [] H).push _
  have hd1 := hd.fr hf1 (by simp)
  unfold Dev.kill at h
  refine wNew_at (wIf_f rfl (wPt_at (ldB_at hd1.own rfl (wIf_b (fun e => ?_) (fun e => ?_)))))
  · have hoff : ¬ d.off = true := by simpa using e
    rw [if_neg hoff] at h
    refine ldI_at hn rfl (ldI_at hn rfl (ldI_at hn rfl (wCall_of (lose_call hd1 hok c (fun H' hd' hf' => wCall_of (up_call hd' (fun H2 hd2 hf2 => ?_)))))))
    exact h _ i hd2 (((hf1.mono (by simp)).trans hf').trans (hf2.mono (by simp))) (.inl rfl)
  · have hoff : d.off = true := by simpa using e
    rw [if_pos hoff] at h
    exact wCall_of (up_call hd1 (fun H2 hd2 hf2 => h _ jw hd2 ((hf1.mono (by simp)).trans (hf2.mono (by simp))) (.inr rfl)))
theorem kill_nil (a b c : Int) (h : ∀ H', Fr [] H H' → R (.ret (.tuple #[])) H') : ACall Try.prog 20 [.pointer none, .agg #[.int .u64 a, .int .i64 b, .int .i64 c]] H R := by
  apply f20_call
  unfold f20_B
  exact wNew_at (wIf_t rfl (h _ ((Fr.refl [] H).push _)))
end
end Go.Proofs.Ytnjhcnefgeodcaa
