/- Arguments that are slices: the cells that came in lie as objects that are only read. -/
import Derived.Test.YtfghglacfjncmaaWAbsR
import Derived.Deep.Slices
import Derived.Deep.Fields
import Derived.ChangeSame
namespace Go.Proofs.Ytfghglacfjncmaa
set_option linter.unusedVariables false
set_option linter.unusedSimpArgs false
open Go.RowKit Go.ChangeShapes Go.WideShapes Go.Deep

/-- One row that came in, of element size esz; none where it has no cells. -/
def AHro (cs : List Value) (esz : Nat) : AH := ⟨1, fun i => if i = 0 then (if cs = [] then none else some (.ro cs esz)) else none, fun _ => none⟩
def muRo (p : Pl) : Mu := fun i => if i = 0 then some p else none

theorem add_block (a : Addr) (j : Nat) : (a.add j).block = a.block := by unfold Addr.add; split <;> rfl
theorem add_off (a : Addr) (j : Nat) : (a.add j).off = a.off + j := by
  unfold Addr.add
  split
  · rename_i h; subst h; rfl
  · rfl
theorem cell_at {w : World} {a : Addr} {j : Nat} {v : Value} (h : w.cell? (a.add j) = some v) : ∃ c ty fz, w.heap[a.block]? = some (.cells c ty fz) ∧ c[a.off + j]? = some v := by
  unfold World.cell? at h
  rw [add_block, add_off] at h
  split at h
  · rename_i c ty fz hb
    split at h
    · cases h
    · exact ⟨c, ty, fz, hb, h⟩
  · cases h
theorem rel_ro (w : World) (a : Addr) (cs : List Value) (esz : Nat) (hp : cs.all plainV = true) (hc : ∀ j v, cs[j]? = some v → w.cell? (a.add j) = some v) :
    Rel w.heap.size w (muRo ⟨a.block, a.off, cs.length, esz⟩) (AHro cs esz) w := by
  refine ⟨Below.refl _ _, Nat.le_refl _, fun i p h => ?_, fun i o h => ?_, fun i j o o' p q _ h hrw => ?_, fun i x h => by simp [AHro] at h⟩
  · unfold muRo at h
    split at h
    · rename_i hi; subst hi; exact Nat.zero_lt_one
    · cases h
  · have hi : i = 0 := by
      by_cases hi : i = 0
      · exact hi
      · simp [AHro, hi] at h
    subst hi
    have hne : cs ≠ [] := by intro hn; simp [AHro, hn] at h
    have ho : o = .ro cs esz := by simpa [AHro, hne] using h.symm
    subst ho
    refine ⟨_, rfl, rfl, ?_⟩
    have hl : 0 < cs.length := List.length_pos_iff.2 hne
    obtain ⟨c, ty, fz, hb, hlast⟩ := cell_at (hc (cs.length - 1) _ (List.getElem?_eq_getElem (by omega)))
    refine ⟨c, ty, fz, hb, ?_, Nat.le_refl _, fun j v hj => ?_⟩
    · have := (Array.getElem?_eq_some_iff.1 hlast).1
      show a.off + cs.length ≤ c.size
      omega
    · obtain ⟨c', ty', fz', hb', hat⟩ := cell_at (hc j v hj)
      have : (Obj.cells c ty fz) = Obj.cells c' ty' fz' := Option.some.inj (hb.symm.trans hb')
      cases this
      exact ⟨v, hat, VR.plain (List.all_eq_true.1 hp v (List.mem_of_getElem? hj))⟩
  · have hi : i = 0 := by
      by_cases hi : i = 0
      · exact hi
      · simp [AHro, hi] at h
    subst hi
    by_cases hn : cs = []
    · simp [AHro, hn] at h
    · have ho : o = .ro cs esz := by simpa [AHro, hn] using h.symm
      subst ho
      cases hrw
theorem addr_eq {w : World} {a : Addr} {j : Nat} {v : Value} (h : w.cell? (a.add j) = some v) (h0 : j = 0) : a = ⟨a.block, a.off, none⟩ := by
  subst h0
  have := World.cell?_spot h
  have e : a.add 0 = a := rfl
  rw [e] at this
  cases a; simp_all
/-- The abstract slice for one that came in. -/
def inSlice (len cap : Nat) : Value := .slice (some ⟨0, 0, none⟩) len (cap + 1)
theorem vr_in {a : Addr} {len cap n esz : Nat} (h : a = ⟨a.block, a.off, none⟩ ∨ (len = 0 ∧ cap = 0)) : VR (muRo ⟨a.block, a.off, n, esz⟩) (inSlice len cap) (.slice (some a) len cap) :=
  .slice (p := ⟨a.block, a.off, n, esz⟩) rfl rfl (h.elim (fun x => .inl x) .inr)
/-- A call with one slice that came in among plain arguments. -/
theorem calls_in {P : Program} {f : FuncId} (w : World) (a : Addr) (len cap : Nat) (cs : List Value) (esz : Nat) (pre post : List Value) (hp : cs.all plainV = true)
    (hpre : pre.all plainV = true) (hpost : post.all plainV = true) (hc : ∀ j v, cs[j]? = some v → w.cell? (a.add j) = some v) (hs : cs ≠ [] ∨ (len = 0 ∧ cap = 0))
    (h : ACall P f (pre ++ inSlice len cap :: post) (AHro cs esz) AllTrue) :
    Calls P f (pre ++ (.slice (some a) len cap) :: post).toArray w fun e w' => e = .returned (.bool true) ∧ Below w.heap.size w w' := by
  refine calls_of (rel_ro w a cs esz hp hc) ⟨by simp, fun j v hj => ?_⟩ h
  have key : ∀ (l : List Value) (j : Nat) v, l.all plainV = true → l[j]? = some v → ∃ v', l[j]? = some v' ∧ VR (muRo ⟨a.block, a.off, cs.length, esz⟩) v v' := fun l j v hl hj =>
    ⟨v, hj, VR.plain (List.all_eq_true.1 hl v (List.mem_of_getElem? hj))⟩
  rw [List.getElem?_toArray]
  by_cases hlt : j < pre.length
  · rw [List.getElem?_append_left hlt] at hj ⊢
    exact key pre j v hpre hj
  · rw [List.getElem?_append_right (by omega)] at hj ⊢
    cases hk : j - pre.length with
    | zero =>
      try rw [hk] at hj
      simp only [List.getElem?_cons_zero, Option.some.injEq] at hj
      subst hj
      refine ⟨_, rfl, vr_in ?_⟩
      rcases hs with hne | hz
      · obtain ⟨v, l, rfl⟩ := List.exists_cons_of_ne_nil hne
        exact .inl (addr_eq (hc 0 v rfl) rfl)
      · exact .inr hz
    | succ k =>
      try rw [hk] at hj
      simp only [List.getElem?_cons_succ] at hj
      exact key post k v hpost hj

section
variable {H : Type} {enc : TypeId × Value → H} {P : Program} {w : World} {base : Nat} {held : Bool}
/-- A slice of structs that came in: the cells of its elements, field by field, and what each field reads as. -/
theorem open_elems {t e : TypeId} {fs : Array Field} {fuel : Nat} {cs : List Value} {x : DataW H × List MemPlace} (ht : P.underlying t = some (.slice e)) (he : P.underlying e = some (.struct fs))
    (hone : oneCellFields P fs = true) (hC : P.cellsOf e = fs.size) (h : DataW.trod enc P w base (fun _ => true) held fuel t cs = some x) :
    cs = [.slice none 0 0] ∨ ∃ (a : Addr) (len cap : Nat) (F : Nat → Nat → Value), cs = [.slice (some a) len cap] ∧ len ≤ cap ∧ cap ≤ maxLen ∧
      ∀ i, i < cap → ∀ (j : Nat) f, fs[j]? = some f → w.cell? (a.add (i * fs.size + j)) = some (F i j) ∧ ∃ n y, DataW.trod enc P w base (fun _ => true) held n f.type [F i j] = some y := by
  rcases open_slice ht h with h0 | ⟨a, len, cap, m, n, D, Pl, hcs, _, hl, hm, hmm, _, hi⟩
  · exact .inl h0.1
  · refine .inr ⟨a, len, cap, fun i j => (w.cell? (a.add (i * fs.size + j))).getD undef, hcs, hl, hm, fun i hic j f hj => ?_⟩
    obtain ⟨cs', hc, ht'⟩ := hi i (by rw [hmm, if_pos rfl]; exact hic)
    rw [hC] at hc
    obtain ⟨xs, n', _, _, _, hxl, hf⟩ := DataW.trod_struct he ht'
    obtain ⟨_, hcl, hat⟩ := World.cells?_some hc
    obtain ⟨ho, hk⟩ := hone_of hone j f hj
    have hjl : j < fs.size := (Array.getElem?_eq_some_iff.1 hj).1
    have hcell := hat j hjl
    have hv : cs'[j]? = some (cs'[j]'(by omega)) := List.getElem?_eq_getElem (by omega)
    have hw : w.cell? (a.add (i * fs.size + j)) = some (cs'[j]'(by omega)) := by rw [← Go.Deep.add_add, hcell, hv]
    dsimp only
    rw [hw]
    have h1 := hf j f hj
    rw [ho, hk, List.drop_eq_getElem_cons (by omega)] at h1
    have hx : xs[j]? = some (xs[j]'(by omega)) := List.getElem?_eq_getElem (by omega)
    exact ⟨rfl, n', _, h1.trans hx⟩
end
/-- Elements' cells in a row. -/
def cellsOf (k cap : Nat) (F : Nat → Nat → Value) : List Value := (List.range (cap * k)).map fun x => F (x / k) (x % k)
theorem cellsOf_length {k cap : Nat} {F : Nat → Nat → Value} : (cellsOf k cap F).length = cap * k := by simp [cellsOf]
theorem cellsOf_some {k cap : Nat} {F : Nat → Nat → Value} {x : Nat} {v : Value} (h : (cellsOf k cap F)[x]? = some v) : ∃ i j, i < cap ∧ j < k ∧ x = i * k + j ∧ v = F i j := by
  have hl : x < cap * k := by
    have := (List.getElem?_eq_some_iff.1 h).1
    rwa [cellsOf_length] at this
  have hk : 0 < k := by
    rcases Nat.eq_zero_or_pos k with h0 | h0
    · subst h0; omega
    · exact h0
  refine ⟨x / k, x % k, Nat.div_lt_of_lt_mul (by rwa [Nat.mul_comm]), Nat.mod_lt _ hk, ?_, ?_⟩
  · rw [Nat.mul_comm]; exact (Nat.div_add_mod x k).symm
  · simp only [cellsOf, List.getElem?_map, List.getElem?_range hl, Option.map_some, Option.some.injEq] at h
    exact h.symm
theorem cellsOf_at {k cap : Nat} {F : Nat → Nat → Value} {i j : Nat} (hi : i < cap) (hj : j < k) : (cellsOf k cap F)[i * k + j]? = some (F i j) := by
  have hl : i * k + j < cap * k := by
    have := Nat.mul_le_mul_right k (show i + 1 ≤ cap from hi)
    rw [Nat.add_mul] at this
    omega
  simp only [cellsOf, List.getElem?_map, List.getElem?_range hl, Option.map_some]
  have h1 : (i * k + j) / k = i := by rw [Nat.mul_comm, Nat.mul_add_div (by omega), Nat.div_eq_of_lt hj]; omega
  have h2 : (i * k + j) % k = j := by rw [Nat.mul_comm, Nat.mul_add_mod, Nat.mod_eq_of_lt hj]
  rw [h1, h2]
theorem cellsOf_nil {k cap : Nat} {F : Nat → Nat → Value} (hk : 0 < k) (h : cap ≠ 0) : cellsOf k cap F ≠ [] := by
  intro hn
  have := congrArg List.length hn
  rw [cellsOf_length] at this
  have h2 : 0 < cap * k := Nat.mul_pos (by omega) hk
  simp at this
  omega
end Go.Proofs.Ytfghglacfjncmaa
