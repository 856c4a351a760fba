/- The rules of the small program logic are right: literals, calls, code. -/
import Derived.Test.YtfghglacfjncmaaWAbsH
namespace Go.Proofs.Ytfghglacfjncmaa
set_option linter.unusedVariables false
set_option linter.unusedSimpArgs false
open Go.RowKit

section
variable {P : Program} {B : Nat} {w0 : World} {μ : Mu} {H : AH} {w : World}

/-- Parts of a literal. -/
def PR (μ : Mu) (ps ps' : List (Nat × Value)) : Prop := ps.length = ps'.length ∧ ∀ (j : Nat) q, ps[j]? = some q → ∃ q', ps'[j]? = some q' ∧ q.1 = q'.1 ∧ VR μ q.2 q'.2

theorem setCells_foldl (vs : List Value) : ∀ (vs' : List Value) (cs : List Value) (cs' : Array Value) (off i : Nat), LR μ cs cs' → LR μ vs vs'.toArray →
    LR μ (setCells cs (off + i) vs) ((vs'.zipIdx i).foldl (fun cs (x : Value × Nat) => cs.setIfInBounds (off + x.2) x.1) cs') := by
  induction vs with
  | nil =>
    intro vs' cs cs' off i h1 h2
    have : vs' = [] := List.length_eq_zero_iff.1 (by have := h2.1; simpa using this.symm)
    subst this
    simpa [setCells] using h1
  | cons v vs ih =>
    intro vs' cs cs' off i h1 h2
    cases vs' with
    | nil => have := h2.1; simp at this
    | cons v' vs' =>
      obtain ⟨x, g1, g2⟩ := h2.2 0 v rfl
      simp at g1; subst g1
      have h2' : LR μ vs vs'.toArray := ⟨by have := h2.1; simpa using this, fun j y hy => by
        obtain ⟨z, k1, k2⟩ := h2.2 (j + 1) y (by simpa using hy)
        exact ⟨z, by simpa using k1, k2⟩⟩
      have := ih vs' (cs.set (off + i) v) (cs'.setIfInBounds (off + i) v') off (i + 1) (h1.set _ g2) h2'
      simpa [setCells, List.zipIdx_cons, Nat.add_assoc] using this

theorem fill_ok {place : Nat → Option (Nat × Nat)} : ∀ (ps ps' : List (Nat × Value)) (cs : List Value) (cs' : Array Value) (r : List Value), PR μ ps ps' → LR μ cs cs' → aFill cs place ps = some r →
    ∃ r', Instr.fill place cs' ps' = some r' ∧ LR μ r r' := by
  intro ps
  induction ps with
  | nil =>
    intro ps' cs cs' r hp hc h
    have : ps' = [] := List.length_eq_zero_iff.1 hp.1.symm
    subst this
    simp [aFill] at h; subst h
    exact ⟨cs', rfl, hc⟩
  | cons q ps ih =>
    intro ps' cs cs' r hp hc h
    cases ps' with
    | nil => have := hp.1; simp at this
    | cons q' ps' =>
      obtain ⟨x, g1, g2, g3⟩ := hp.2 0 q rfl
      simp at g1; subst g1
      obtain ⟨i, v⟩ := q
      obtain ⟨i', v'⟩ := q'
      simp only at g2 g3
      subst g2
      have hp' : PR μ ps ps' := ⟨by have := hp.1; simpa using this, fun j y hy => by
        obtain ⟨z, k1, k2⟩ := hp.2 (j + 1) y (by simpa using hy)
        exact ⟨z, by simpa using k1, k2⟩⟩
      simp only [aFill] at h
      simp only [Instr.fill]
      split at h
      · cases h
      · rename_i off size hpl
        rw [hpl]
        have hl := vr_cells g3
        have hsz : v'.cells.size = v.cells.size := by have := hl.1; simp at this; exact this.symm
        simp only [hsz, ← hc.1]
        split at h
        · cases h
        · rename_i hcond
          rw [if_neg hcond]
          have hs := setCells_foldl (μ := μ) v.cells.toList v'.cells.toList cs cs' off 0 hc (by simpa using hl)
          rw [Nat.add_zero] at hs
          obtain ⟨r', k1, k2⟩ := ih ps' _ _ r hp' hs h
          refine ⟨r', ?_, k2⟩
          rw [← k1]
          congr 1
          rw [← Array.foldl_toList]
          congr 1
          simp [Array.toList_zipIdx]

theorem mapM_sizes (fs : List Field) : ∀ (w : World), (fs.all fun f => tyOK P f.type) = true →
    (fs.mapM fun f => do pure (f.offset, ← sizeOf f.type) : Sem (List (Nat × Nat))).run P w = .ok (fs.map fun f => (f.offset, P.cellsOf f.type)) w := by
  induction fs with
  | nil => intro w _; simp
  | cons f fs ih =>
    intro w h
    simp only [List.all_cons, Bool.and_eq_true] at h
    obtain ⟨ti, _, _, _, _, hsz⟩ := run_info (w := w) h.1
    simp only [List.mapM_cons, Sem.run_bind, hsz, Result.andThen_ok, Sem.run_pure, ih w h.2, List.map_cons]

theorem build_ok {t : TypeId} {ps : List (Nat × Value)} {ps' : Array (Nat × Value)} (hp : PR μ ps ps'.toList) {K : Value → Prop} (h : aBuild P t ps K) : PureOK P μ (Instr.build t ps') K := by
  unfold aBuild at h
  split at h
  · rename_i z fs hz hfs
    obtain ⟨h1, h2, h⟩ := h
    split at h
    · rename_i cs hcs
      obtain ⟨i, hi, hz⟩ := Option.bind_eq_some_iff.1 hz
      have hzr : ∀ w, (zeroValue t).run P w = .ok z w := by intro w; simp [zeroValue, typeInfo, hi, hz]
      obtain ⟨r', k1, k2⟩ := fill_ok (μ := μ) ps ps'.toList z.cells.toList z.cells cs hp (vr_cells (VR.const h1)) hcs
      refine ⟨_, .agg r', fun w => ?_, h, ?_⟩
      · have hm := mapM_sizes (P := P) fs.toList w (by simpa using h2)
        have hm' : (fs.mapM fun f => do pure (f.offset, ← sizeOf f.type) : Sem (Array (Nat × Nat))).run P w = .ok (fs.map fun f => (f.offset, P.cellsOf f.type)) w := by
          rw [Array.mapM_eq_mapM_toList]
          simp only [bind_pure_comp] at hm ⊢
          rw [Sem.run_map, hm]
          simp only [Result.andThen_ok]
          congr 1
          apply Array.ext'
          simp
        simp only [Instr.build, Sem.run_bind, hzr, Result.andThen_ok, run_und hfs, hm']
        have hpl : (fun x : Nat => (fs.map fun f => (f.offset, P.cellsOf f.type))[x]?) = fun (i : Nat) => (fs[i]?).map fun f : Field => (f.offset, P.cellsOf f.type) := by
          funext x; simp
        rw [hpl, k1]
        rfl
      · refine .agg (by simpa using k2.1) fun j v v' hv hv' => ?_
        obtain ⟨v'', g1, g2⟩ := k2.2 j v (by simpa using hv)
        rw [g1] at hv'; cases hv'; exact g2
    · exact h.elim
  · exact h.elim

theorem aFill_length {place : Nat → Option (Nat × Nat)} : ∀ (ps : List (Nat × Value)) (cs r : List Value), aFill cs place ps = some r → r.length = cs.length := by
  intro ps
  induction ps with
  | nil => intro cs r h; simp [aFill] at h; rw [h]
  | cons q ps ih =>
    intro cs r h
    obtain ⟨i, v⟩ := q
    simp only [aFill] at h
    split at h
    · cases h
    · split at h
      · cases h
      · rw [ih _ _ h, setCells_length]

theorem rep_at (l : List Value) : ∀ (n j : Nat), j < n * l.length → ((List.replicate n l).flatten)[j]? = l[j % l.length]? := by
  intro n
  induction n with
  | zero => intro j h; simp at h
  | succ n ih =>
    intro j h
    rw [List.replicate_succ, List.flatten_cons]
    by_cases hj : j < l.length
    · rw [List.getElem?_append_left hj, Nat.mod_eq_of_lt hj]
    · have hb : j - l.length < n * l.length := by rw [Nat.add_mul] at h; omega
      rw [List.getElem?_append_right (by omega), ih _ hb, ← Nat.mod_eq_sub_mod (by omega)]

theorem buildSlice_ok (hr : Rel B w0 μ H w) {t : TypeId} {len : Nat} {ps : List (Nat × Value)} {ps' : Array (Nat × Value)} (hp : PR μ ps ps'.toList) {K : KV} (h : aBuildSlice P t len ps H K) :
    SemOK P B w0 μ w (Instr.buildSlice t len ps') K := by
  unfold aBuildSlice at h
  split at h
  · rename_i e ht
    split at h
    · rename_i z hz
      obtain ⟨h1, h2, h3, h4, h5, h⟩ := h
      split at h
      · rename_i cs hcs
        obtain ⟨h6, h7⟩ := h
        obtain ⟨i, hi, hz⟩ := Option.bind_eq_some_iff.1 hz
        have hzr : (zeroValue e).run P w = .ok z w := by simp [zeroValue, typeInfo, hi, hz]
        have hsz : (sizeOf e).run P w = .ok (P.cellsOf e) w := by simp [sizeOf, typeInfo, hi, Program.cellsOf]
        have hne : ¬ (len * P.cellsOf e = 0) := Nat.mul_ne_zero h4 h3
        have hz0 : LR μ ((List.replicate len z.cells.toList).flatten) ((Array.range (len * P.cellsOf e)).map (z.cells[· % z.cells.size]!)) := by
          have hpos : 0 < z.cells.size := by omega
          refine ⟨by simp [h2], fun j v hj => ?_⟩
          have hlt : j < len * P.cellsOf e := by have := (List.getElem?_eq_some_iff.1 hj).1; simpa [h2] using this
          rw [rep_at _ _ _ (by simpa [h2] using hlt)] at hj
          have hzc := (vr_cells (VR.const (μ := μ) h1)).2
          have hmod : j % z.cells.size < z.cells.size := Nat.mod_lt _ hpos
          rw [Array.length_toList] at hj
          obtain ⟨v', g1, g2⟩ := hzc _ v hj
          refine ⟨v', ?_, g2⟩
          rw [Array.getElem?_map, Array.getElem?_range, if_pos hlt]
          simp only [Option.map_some]
          rw [← g1, getElem!_pos z.cells (j % z.cells.size) hmod, Array.getElem?_eq_getElem hmod]
        obtain ⟨r', k1, k2⟩ := fill_ok (μ := μ) ps ps'.toList _ _ cs hp hz0 hcs
        have hcl : cs.length = len * P.cellsOf e := by rw [aFill_length _ _ _ hcs]; simp [h2]
        refine ⟨_, .slice (some ⟨w.heap.size, 0, none⟩) len len, _, _, w.alloc (.cells r' e), ?_, h7, Mu.put_le hr.fresh ⟨w.heap.size, 0, len * P.cellsOf e, P.cellsOf e⟩, ?_, ?_⟩
        · simp only [Instr.buildSlice, Sem.run_bind, run_und ht, Result.andThen_ok, hsz]
          rw [if_neg (by omega)]
          simp [hne, hzr, k1, newRow]
        · refine Rel.push (w := w) hr rfl rfl rfl rfl rfl ⟨rfl, hr.size, _, e, (0, 0), Array.getElem?_push_size, ?_, ?_, by intro j _; simp, (k2.mono (Mu.put_le hr.fresh _)).cellsAt⟩
          · have := k2.1; simp only; omega
          · simp only; omega
        · refine .slice (Mu.put_self _ _) ?_ (.inl (by simp))
          show len = _
          simp only [Nat.sub_zero]
          exact (Nat.mul_div_cancel _ (by omega)).symm
      · exact h.elim
    · exact h.elim
  · exact h.elim

end
end Go.Proofs.Ytfghglacfjncmaa
