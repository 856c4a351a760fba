/- The rules of the small program logic are right: cuts, append, literals. -/
import Derived.Test.YtfghglacfjncmaaWAbsF
namespace Go.Proofs.Ytfghglacfjncmaa
set_option linter.unusedVariables false
set_option linter.unusedSimpArgs false
open Go.RowKit

def OR (μ : Mu) (v v' : Option Value) : Prop := (v = none ∧ v' = none) ∨ ∃ x x', v = some x ∧ v' = some x' ∧ VR μ x x'

theorem OR.none' {μ : Mu} {v' : Option Value} (h : OR μ none v') : v' = none := by
  rcases h with ⟨_, h⟩ | ⟨_, _, h, _⟩
  · exact h
  · cases h
theorem OR.some' {μ : Mu} {x : Value} {v' : Option Value} (h : OR μ (some x) v') : ∃ x', v' = some x' ∧ VR μ x x' := by
  rcases h with ⟨h, _⟩ | ⟨y, y', h, h2, h3⟩
  · cases h
  · cases h; exact ⟨y', h2, h3⟩

section
variable {P : Program} {B : Nat} {w0 : World} {μ : Mu} {H : AH} {w : World}

theorem bound_some {d : Nat} {x x' : Value} {n : Int} (hx : VR μ x x') (h : bound d (some x) = some n) : ∃ k, x' = .int k n := by
  cases hx <;> simp [bound] at h
  subst h
  exact ⟨_, rfl⟩
theorem bound_none {d : Nat} {n : Int} (h : bound d none = some n) : n = d := by simp [bound] at h; exact h.symm
theorem run_sb {k : IntKind} {n : Int} {y : Nat} {code : BoundsCode} (h0 : 0 ≤ n) (h1 : n ≤ y) : (Instr.sliceBound (.int k n) y code).run P w = .ok n.toNat w := by
  simp only [Instr.sliceBound, asIntOf, Sem.run_bind, Sem.run_pure, Result.andThen_ok]
  rw [if_pos ⟨h0, h1⟩]
  rfl

theorem bounds_ok {lo hi lo' hi' : Option Value} (hlo : OR μ lo lo') (hhi : OR μ hi hi') {len cap : Nat} (is : Bool) {l h : Int} (h1 : bound 0 lo = some l) (h2 : bound len hi = some h)
    (h3 : 0 ≤ l) (h4 : l ≤ h) (h5 : h ≤ len) (h6 : len ≤ cap) : (Instr.sliceBounds is len cap lo' hi' none).run P w = .ok (l.toNat, h.toNat, cap) w := by
  have e0 : ((h.toNat : Nat) : Int) = h := by omega
  have eb : l ≤ ((h.toNat : Nat) : Int) := by omega
  have ec : h ≤ ((cap : Nat) : Int) := by omega
  rcases hlo with ⟨rfl, rfl⟩ | ⟨x, x', rfl, rfl, hx⟩
  · have := bound_none h1
    subst this
    rcases hhi with ⟨rfl, rfl⟩ | ⟨y, y', rfl, rfl, hy⟩
    · have := bound_none h2
      subst this
      simp [Instr.sliceBounds]
    · obtain ⟨k, rfl⟩ := bound_some hy h2
      simp [Instr.sliceBounds, run_sb (show 0 ≤ h by omega) ec]
  · obtain ⟨k, rfl⟩ := bound_some hx h1
    rcases hhi with ⟨rfl, rfl⟩ | ⟨y, y', rfl, rfl, hy⟩
    · have := bound_none h2
      subst this
      simp [Instr.sliceBounds, run_sb h3 h4]
    · obtain ⟨k, rfl⟩ := bound_some hy h2
      simp [Instr.sliceBounds, run_sb (show 0 ≤ h by omega) ec, run_sb h3 eb]

theorem bounds3_ok {lo hi lo' hi' : Option Value} (hlo : OR μ lo lo') (hhi : OR μ hi hi') {len cap : Nat} (is : Bool) {l h m : Int} {k : IntKind} (h1 : bound 0 lo = some l) (h2 : bound len hi = some h) (hs : hi.isSome = true)
    (h3 : 0 ≤ l) (h4 : l ≤ h) (h5 : h ≤ m) (h6 : m ≤ cap) : (Instr.sliceBounds is len cap lo' hi' (some (.int k m))).run P w = .ok (l.toNat, h.toNat, m.toNat) w := by
  have eb : l ≤ ((h.toNat : Nat) : Int) := by omega
  have em : h ≤ ((m.toNat : Nat) : Int) := by omega
  rcases hhi with ⟨rfl, rfl⟩ | ⟨y, y', rfl, rfl, hy⟩
  · simp at hs
  · obtain ⟨k, rfl⟩ := bound_some hy h2
    rcases hlo with ⟨rfl, rfl⟩ | ⟨x, x', rfl, rfl, hx⟩
    · have := bound_none h1
      subst this
      simp [Instr.sliceBounds, run_sb (show 0 ≤ m by omega) h6, run_sb (show 0 ≤ h by omega) em]
    · obtain ⟨k, rfl⟩ := bound_some hx h1
      simp [Instr.sliceBounds, run_sb (show 0 ≤ m by omega) h6, run_sb (show 0 ≤ h by omega) em, run_sb h3 eb]

theorem capOf_le {p : Pl} {k c cap : Nat} (h : capOf p k c cap) (hc : c = 0) : cap = (p.cap - k) / p.esz := by subst hc; exact h

theorem slice_ok (hr : Rel B w0 μ H w) {t : TypeId} {x x' : Value} {lo hi mx lo' hi' mx' : Option Value} (hx : VR μ x x') (hlo : OR μ lo lo') (hhi : OR μ hi hi') (hmx : OR μ mx mx') {K : Value → Prop}
    (h : aSlice P t x lo hi mx H K) : PureOK P μ (Instr.sliceAt t x' lo' hi' mx') K := by
  unfold aSlice at h
  split at h
  · rename_i ht
    split at h
    · rename_i s
      cases hx
      obtain rfl := hmx.none'
      split at h
      · rename_i l hh hl hhe
        obtain ⟨h1, h2, h3, h4⟩ := h
        refine ⟨_, _, fun w => ?_, h4, .string _⟩
        have := bounds_ok (P := P) (w := w) hlo hhi (cap := s.size) false hl hhe h1 h2 h3 (Nat.le_refl _)
        simp [Instr.sliceAt, Instr.slice, run_und ht, this]
      · exact h.elim
    · exact h.elim
  · rename_i e ht
    split at h
    · cases hx with
      | nilslice =>
        split at h
        · rename_i l hh hl hhe
          obtain ⟨hte, rfl, rfl, h⟩ := h
          have hsz := run_infoA hte
          obtain rfl := hmx.none'
          have := fun w => bounds_ok (P := P) (w := w) hlo hhi (cap := 0) true hl hhe (by omega) (by omega) (by omega) (Nat.le_refl _)
          refine ⟨_, _, fun w => ?_, h, .nilslice⟩
          simp [Instr.sliceAt, Instr.slice, run_und ht, this, hsz]
        · rename_i l hh kk m hl hhe
          obtain ⟨hte, rfl, rfl, rfl, hs, h⟩ := h
          have hsz := run_infoA hte
          obtain ⟨y', rfl, hy⟩ := hmx.some'
          cases hy
          have := fun w => bounds3_ok (P := P) (w := w) hlo hhi (cap := 0) (k := kk) (m := 0) true hl hhe hs (by omega) (by omega) (by omega) (by omega)
          refine ⟨_, _, fun w => ?_, h, .nilslice⟩
          simp [Instr.sliceAt, Instr.slice, run_und ht, this, hsz]
        · exact h.elim
    · rename_i i k len c
      cases hx with
      | slice hp hcap ha =>
        rename_i p a cap
        split at h
        · rename_i l hh hl hhe
          obtain ⟨h1, h2, h3, h4, h5, ⟨cs, hcs, hlen⟩, h⟩ := h
          have hsz := run_infoA h1
          have hpe : p.esz = P.cellsOf e ∧ cs.length ≤ p.cap := by
            rcases hcs with hcs | hcs
            · obtain ⟨q, hq, hk⟩ := hr.obj _ _ hcs
              rw [hp] at hq; cases hq
              obtain ⟨g1, _, c', ty, fz, _, _, g5, _⟩ := hk
              exact ⟨g1, g5⟩
            · obtain ⟨q, hq, hk⟩ := hr.obj _ _ hcs
              rw [hp] at hq; cases hq
              obtain ⟨g1, c', ty, fz, _, _, g5, _⟩ := hk
              exact ⟨g1, g5⟩
          obtain ⟨hpe, hpc⟩ := hpe
          have hpos : 0 < P.cellsOf e := by omega
          split at h
          · obtain rfl := hmx.none'
            obtain ⟨hc0, h⟩ := h
            have hcapv := capOf_le hcap hc0
            have hlc : len ≤ cap := by
              rw [hcapv, hpe, Nat.le_div_iff_mul_le hpos]; omega
            have hb := fun w => bounds_ok (P := P) (w := w) hlo hhi (cap := cap) true hl hhe h3 h4 h5 hlc
            refine ⟨_, .slice (some (if cap = l.toNat then a else a.add (l.toNat * P.cellsOf e))) (hh.toNat - l.toNat) (cap - l.toNat), fun w => ?_, h, ?_⟩
            · simp [Instr.sliceAt, Instr.slice, run_und ht, hb, hsz]
              split <;> rfl
            · have hn : (hh - l).toNat = hh.toNat - l.toNat := by omega
              rw [hn]
              refine .slice hp ?_ ?_
              · show _ = _
                rw [hcapv, hpe, Nat.sub_add_eq, Nat.mul_comm l.toNat, Nat.sub_mul_div]
              · by_cases e1 : cap = l.toNat
                · exact .inr ⟨by omega, by omega⟩
                · refine .inl ?_
                  rw [if_neg e1]
                  rcases ha with rfl | ⟨g1, g2⟩
                  · rw [add_at _ _ rfl]; simp [Nat.add_assoc]
                  · omega
          · rename_i kk m
            obtain ⟨y', rfl, hy⟩ := hmx.some'
            cases hy
            obtain ⟨g1, g2, g3, hc0, h⟩ := h
            have hcapv := capOf_le hcap hc0
            have hlc : len ≤ cap := by
              rw [hcapv, hpe, Nat.le_div_iff_mul_le hpos]; omega
            have hb := fun w => bounds3_ok (P := P) (w := w) hlo hhi (cap := cap) (k := kk) true hl hhe g3 h3 h4 g1 (by omega)
            refine ⟨_, .slice (some (if m.toNat = l.toNat then a else a.add (l.toNat * P.cellsOf e))) (hh.toNat - l.toNat) (m.toNat - l.toNat), fun w => ?_, h, ?_⟩
            · simp only [Instr.sliceAt, Instr.slice, Sem.run_bind, run_und ht, Result.andThen_ok, hb, hsz, Sem.run_pure]
              split <;> rfl
            · have hn : (hh - l).toNat = hh.toNat - l.toNat := by omega
              rw [hn]
              refine .slice hp ?_ ?_
              · show _ = _
                omega
              · by_cases e1 : m.toNat = l.toNat
                · exact .inr ⟨by omega, by omega⟩
                · refine .inl ?_
                  rw [if_neg e1]
                  rcases ha with rfl | ⟨g1, g2⟩
                  · rw [add_at _ _ rfl]; simp [Nat.add_assoc]
                  · omega
          · exact h.elim
        · exact h.elim
    · exact h.elim
  · exact h.elim

end
end Go.Proofs.Ytfghglacfjncmaa
