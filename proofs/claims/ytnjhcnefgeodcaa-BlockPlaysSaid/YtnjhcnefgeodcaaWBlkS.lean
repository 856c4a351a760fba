/- The document's device: Read. -/
import Derived.Test.YtnjhcnefgeodcaaWBlkD
import Derived.Test.YtnjhcnefgeodcaaWBlkR
namespace Go.Proofs.Ytnjhcnefgeodcaa
set_option linter.unusedVariables false
set_option linter.unusedSimpArgs false
open Go.RowKit

theorem slV_eq (j n : Nat) : ∃ a, slV j n = .slice a n 0 ∧ (n ≠ 0 → a = some ⟨j, 0, none⟩) ∧ (n = 0 → a = none) := by
  unfold slV
  by_cases h : n = 0
  · subst h; exact ⟨none, rfl, fun x => absurd rfl x, fun _ => rfl⟩
  · rw [if_neg h]; exact ⟨_, rfl, fun _ => rfl, fun x => absurd x h⟩
theorem RefAt.fr {S : List Nat} {H H' : AH} {i jl jw jt n : Nat} {d : Dev} (h : RefAt H i jl jw jt n d) (x : Fr S H H') (hs : i ∉ S ∧ jl ∉ S ∧ jw ∉ S ∧ jt ∉ S) : RefAt H' i jl jw jt n d := by
  refine ⟨h.own.fr x hs.1, fun y => ⟨(h.lasts y).1.fr x hs.2.1, (h.lasts y).2⟩, fun y => ⟨(h.waits y).1.fr x hs.2.2.1, (h.waits y).2⟩, fun y => ?_⟩
  obtain ⟨cs, c1, c2, c3, c4⟩ := h.tears y
  exact ⟨cs, c1, c2, c3.fr x hs.2.2.2, c4⟩
theorem RefAt.fr0 {H H' : AH} {i jl jw jt n : Nat} {d : Dev} (h : RefAt H i jl jw jt n d) (x : Fr [] H H') : RefAt H' i jl jw jt n d := h.fr x (by simp)
/-- What the later writes leave. -/
theorem lastW_take (i : Nat) (l : List (Nat × ByteArray)) (k : Nat) (h : k < l.length) : lastW i (l.take (k + 1)) = if (l[k]).1 = i then some (l[k]).2 else lastW i (l.take k) := by
  induction l generalizing k with
  | nil => simp at h
  | cons w l ih =>
    cases k with
    | zero => simp [lastW]
    | succ k =>
      have hk : k < l.length := by simpa using h
      rw [List.take_succ_cons, List.take_succ_cons]
      show lastW i (w :: l.take (k + 1)) = if ((w :: l)[k + 1]).1 = i then some ((w :: l)[k + 1]).2 else lastW i (w :: l.take k)
      rw [List.getElem_cons_succ]
      unfold lastW
      rw [ih k hk]
      by_cases e : (l[k]).1 = i
      · rw [if_pos e, if_pos e]
      · rw [if_neg e, if_neg e]
section
variable {H : AH} {i jl jw jt n : Nat} {d : Dev} {R : AEnd → AH → Prop}
theorem rread_call (hd : RefAt H i jl jw jt n d) (hok : d.OK) (k : Int) (h : ∀ H', Fr [] H H' → R (.ret (.tuple #[.string (d.read k).1, .int .i64 (d.read k).2])) H') :
    ACall Try.prog 22 [.pointer (some ⟨i, 0, none⟩), .int .i64 k] H R := by
  apply f22_call
  unfold f22_B
  unfold Dev.read at h
  obtain ⟨al, hal, al1, al2⟩ := slV_eq jl d.lasts.length
  obtain ⟨aw, haw, aw1, aw2⟩ := slV_eq jw d.waits.length
  have own := hd.own
  unfold refRow at own
  rw [hal, haw] at own
  refine wPt_at (ldB_at own rfl (wIf_b (fun e => ?_) (fun e => ?_)))
  · rw [if_pos e] at h; exact h _ (Fr.refl _ _)
  · rw [if_neg (by rw [e]; decide)] at h
    refine wIf_d (fun hk => ?_) (fun hk => ?_)
    · rw [f22_J0_eq]
      unfold f22_J0_B
      rw [if_pos (.inl hk)] at h
      exact wIf_t rfl (h _ (Fr.refl _ _))
    · refine wPt_at (ldL_at own rfl ?_)
      rw [f22_J0_eq]
      unfold f22_J0_B
      refine wIf_d (fun hk2 => ?_) (fun hk2 => ?_)
      · rw [if_pos (.inr hk2)] at h
        exact h _ (Fr.refl _ _)
      · rw [if_neg (by omega)] at h
        rw [f22_J1_eq]
        unfold f22_J1_B
        have hl0 : d.lasts.length ≠ 0 := by omega
        obtain ⟨hl, hli⟩ := hd.lasts hl0
        rw [al1 hl0] at own
        have hkl : k.toNat < d.lasts.length := by omega
        have hmany := hok.many
        refine wPt_at (ldL_at own rfl (wIx_at (by omega) (by omega) (ldS_at hl (by rw [Nat.zero_add, Nat.mul_one]; exact strs_getD _ _ hkl) (wPt_at (ldL_at own rfl ?_)))))
        refine f22_L0_rule (J := fun m s r H' => ∃ q : Nat, q ≤ d.waits.length ∧ m = d.waits.length - q ∧ r = (q : Int) ∧ s = (lastW k.toNat (d.waits.take q)).getD (d.lasts.getD k.toNat ByteArray.empty) ∧ Fr [] H H') d.waits.length
          ⟨0, by omega, by omega, rfl, rfl, Fr.refl _ _⟩ ?_
        rintro m s r H' ⟨q, hq, rfl, rfl, rfl, f⟩
        intros
        unfold f22_R0
        refine wIf_d (fun hlt => ?_) (fun hge => ?_)
        · have hlt : q < d.waits.length := by omega
          have hw := ((hd.waits (by omega)).1).fr f (by simp)
          obtain ⟨hc1, hc2⟩ := wcells_getD d.waits q hlt
          have htk : d.waits.take (q + 1) = d.waits.take q ++ [d.waits.getD q (0, ByteArray.empty)] := by
            rw [List.take_add_one, List.getD_eq_getElem?_getD, List.getElem?_eq_getElem hlt]; rfl
          have hs := lastW_snoc k.toNat (d.waits.take q) (d.waits.getD q (0, ByteArray.empty))
          rw [← htk] at hs
          generalize d.waits.getD q (0, ByteArray.empty) = wv at hc1 hc2 hs
          rw [aw1 (by omega)]
          refine wIx_at (by omega) (by omega) (ldI_at hw hc1 (ldS_at hw hc2 (wNew_at (wSt_at (Has.new _ _) (by simp) (ldI_at ((Has.new _ _).set _) rfl ?_)))))
          have f2 := (f.push (.row [.int .i64 0, .string ⟨#[]⟩] 0)).set (i := H'.next) (.inr f.next) (.row (setCells [.int .i64 0, .string ⟨#[]⟩] 0 [.int .i64 (wv.1 : Int), .string wv.2]) 0)
          refine wIf_d (fun he => ?_) (fun he => ?_)
          · refine ldS_at ((Has.new _ _).set _) rfl ⟨d.waits.length - (q + 1), by omega, f22_I0_mk ⟨q + 1, by omega, rfl, wi1 q (by omega), ?_, f2⟩⟩
            rw [hs, if_pos (by omega)]; rfl
          · refine ⟨d.waits.length - (q + 1), by omega, f22_I0_mk ⟨q + 1, by omega, rfl, wi1 q (by omega), ?_, f2⟩⟩
            rw [hs, if_neg (by omega)]
        · have hq : q = d.waits.length := by omega
          subst hq
          rw [f22_J2_eq]
          unfold f22_J2_B
          rw [List.take_length]
          exact h _ f
end
end Go.Proofs.Ytnjhcnefgeodcaa
