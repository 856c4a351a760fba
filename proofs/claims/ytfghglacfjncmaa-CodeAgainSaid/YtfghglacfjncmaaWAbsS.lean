/- Contracts of the library as calls of the abstract memory. -/
import Derived.Test.YtfghglacfjncmaaWAbsN
import Derived.Lib.Join
namespace Go.Proofs.Ytfghglacfjncmaa
set_option linter.unusedVariables false
set_option linter.unusedSimpArgs false
open Go.RowKit
section
variable {P : Program} {B : Nat} {w0 : World} {μ : Mu} {H : AH} {w w' : World}

/-- What leaves memory below its end as it was, leaves what is told of it. -/
theorem Rel.keep (hr : Rel B w0 μ H w) (h : Below w.heap.size w w') : Rel B w0 μ H w' := by
  refine ⟨hr.below.trans (h.mono hr.size), Nat.le_trans hr.size h.size, hr.fresh, fun i o hi => ?_, hr.excl, fun i x hx => let ⟨q, n, a, b, c⟩ := hr.tys i x hx; ⟨q, n, a, b, (shape_of (h.block _ (shape_lt c))).trans c⟩⟩
  obtain ⟨p, hp, ho⟩ := hr.obj i o hi
  exact ⟨p, hp, ho.mono (Mu.le_refl _) (h.block _ ho.lt)⟩

/-- A call that hands back a value and leaves memory below its end as it was. -/
theorem acall_keep {f : FuncId} {args : List Value} {R : AEnd → AH → Prop} (v : Value)
    (h : ∀ B w0 μ w cargs, Rel B w0 μ H w → LR μ args cargs → Calls P f cargs w fun e w' => (∃ cv, e = .returned cv ∧ VR μ v cv) ∧ Below w.heap.size w w') (hR : R (.ret v) H) : ACall P f args H R := by
  intro B w0 μ w cargs hr ha
  refine (h B w0 μ w cargs hr ha).mono ?_
  rintro e w' ⟨⟨cv, rfl, hv⟩, hb⟩
  exact ⟨.ret v, H, μ, hR, Mu.le_refl _, hr.keep hb, hv⟩

/-- Texts in a row, in the machine's memory. -/
theorem strs_in (hr : Rel B w0 μ H w) {j : Nat} {l : List ByteArray} (h : Has H j (.row (l.map Value.string) 1)) {cv : Value} (hv : VR μ (.slice (some ⟨j, 0, none⟩) l.length 0) cv) :
    (l = [] ∧ ∃ a c, cv = .slice a 0 c) ∨ ∃ bk o c, cv = .slice (some ⟨bk, o, none⟩) l.length c ∧ bk < w.heap.size ∧ l.length ≤ c ∧ ∀ (k : Nat) x, l[k]? = some x → w.cell? ⟨bk, o + k, none⟩ = some (.string x) := by
  cases hv with
  | slice hp hc ha =>
    rename_i p a cap
    obtain ⟨q, hq, hE, hB, c, ty, fz, h1, h2, h3, h4, h5⟩ := hr.obj j _ h.get
    rw [hp] at hq
    cases hq
    have hcap : cap = (p.cap - 0) / p.esz := hc
    rw [hE, Nat.div_one, Nat.sub_zero] at hcap
    rw [List.length_map] at h3
    rcases ha with rfl | ⟨h0, h00⟩
    · refine .inr ⟨_, _, _, rfl, ?_, by omega, fun k x hk => ?_⟩
      · exact (Array.getElem?_eq_some_iff.1 h1).1
      · obtain ⟨v', g1, g2⟩ := h5 k (.string x) (by rw [List.getElem?_map, hk]; rfl)
        cases g2
        rw [cell_of h1, Nat.add_zero]
        exact g1
    · have hn : l = [] := List.eq_nil_of_length_eq_zero h0
      subst hn
      exact .inl ⟨rfl, _, _, rfl⟩
end
end Go.Proofs.Ytfghglacfjncmaa
