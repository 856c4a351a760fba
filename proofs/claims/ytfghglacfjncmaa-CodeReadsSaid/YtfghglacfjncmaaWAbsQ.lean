/- Arguments of whatever shape (numbers, texts, truths, structs, slices of such): what came in lies as objects that are only read. -/
import Derived.Test.YtfghglacfjncmaaWAbsO
import Derived.SizedLaws
namespace Go.Proofs.Ytfghglacfjncmaa
set_option linter.unusedVariables false
set_option linter.unusedSimpArgs false
open Go.RowKit Go.ChangeShapes Go.WideShapes Go.Deep

/-- Kinds of cells. -/
inductive SK
  | int (k : IntKind)
  | str
  | bool
  | sl (esz : Nat) (ks : List SK)

/-- How many bytes cells take in memory. -/
def SK.bw : SK → Nat
  | .int k => k.bits / 8
  | .str => 16
  | .bool => 1
  | .sl _ _ => 24
def bw (ks : List SK) : Nat := (ks.map SK.bw).sum

/-- What cells hold. -/
inductive CD
  | i (k : IntKind) (n : Int)
  | s (b : ByteArray)
  | b (b : Bool)
  | n
  | l (esz : Nat) (es : List (List CD))

inductive Kd : SK → CD → Prop
  | i {k : IntKind} {n : Int} : (Lit.int k n).wf = true → Kd (.int k) (.i k n)
  | s {b : ByteArray} : b.size ≤ reachBytes → Kd .str (.s b)
  | b {b : Bool} : Kd .bool (.b b)
  | n {z : Nat} {ks : List SK} : Kd (.sl z ks) .n
  | l {z : Nat} {ks : List SK} {es : List (List CD)} : es.length * bw ks ≤ reachBytes → (∀ e ∈ es, e.length = ks.length) → (∀ e ∈ es, ∀ (j : Nat) k d, ks[j]? = some k → e[j]? = some d → Kd k d) → Kd (.sl z ks) (.l z es)

/-- A value that holds it, in a memory. -/
inductive Lie (H : AH) : CD → Value → Prop
  | i {k : IntKind} {n : Int} : Lie H (.i k n) (.int k n)
  | s {b : ByteArray} : Lie H (.s b) (.string b)
  | b {b : Bool} : Lie H (.b b) (.bool b)
  | n : Lie H .n (.slice none 0 0)
  | l {z i c : Nat} {es : List (List CD)} {vs : List Value} : (es ≠ [] → Has H i (.ro vs z)) → vs.length = es.length * z → es.flatten.length = es.length * z → (∀ (j : Nat) d v, es.flatten[j]? = some d → vs[j]? = some v → Lie H d v) →
      Lie H (.l z es) (.slice (some ⟨i, 0, none⟩) es.length (c + 1))

theorem Lie.fr {H H' : AH} (x : Fr [] H H') {d : CD} {v : Value} (h : Lie H d v) : Lie H' d v := by
  induction h with
  | i => exact .i
  | s => exact .s
  | b => exact .b
  | n => exact .n
  | l h1 h2 h3 _ ih => exact .l (fun e => (h1 e).fr x (by simp)) h2 h3 ih

/-- Cells that hold a row. -/
structure Lies (H : AH) (ds : List CD) (vs : List Value) : Prop where
  len : ds.length = vs.length
  at_ : ∀ (j : Nat) d v, ds[j]? = some d → vs[j]? = some v → Lie H d v
structure Kds (ks : List SK) (ds : List CD) : Prop where
  len : ds.length = ks.length
  at_ : ∀ (j : Nat) k d, ks[j]? = some k → ds[j]? = some d → Kd k d
theorem Lies.fr {H H' : AH} (x : Fr [] H H') {d : List CD} {v : List Value} (h : Lies H d v) : Lies H' d v := ⟨h.len, fun j d v h1 h2 => (h.at_ j d v h1 h2).fr x⟩
theorem Lies.nil (H : AH) : Lies H [] [] := ⟨rfl, fun j d v h => by simp at h⟩
theorem Kds.nil : Kds [] [] := ⟨rfl, fun j d v h => by simp at h⟩
/-! Opening. -/
def AllRo (H : AH) : Prop := ∀ i o, H.get i = some o → o.rw = false

section
variable {E : Type} {enc : TypeId × Value → E} {P : Program} {w : World} {held : Bool} {B : Nat}

/-- What an opening gives. -/
structure Opened (P : Program) (B : Nat) (w : World) (H : AH) (μ : Mu) (H' : AH) (μ' : Mu) (cs : List Value) (vs : List Value) (ks : List SK) (ds : List CD) : Prop where
  fr : Fr [] H H'
  le : Mu.le μ μ'
  rel : Rel B w μ' H' w
  ro : AllRo H'
  lr : LR μ' vs cs.toArray
  lies : Lies H' ds vs
  kds : Kds ks ds

theorem LR.nil' (μ : Mu) : LR μ [] ([] : List Value).toArray := ⟨rfl, fun j v h => by simp at h⟩
theorem LR.app' {μ : Mu} {a b c d : List Value} (h1 : LR μ a c.toArray) (h2 : LR μ b d.toArray) : LR μ (a ++ b) (c ++ d).toArray := by
  have := h1.append h2
  simpa using this
theorem LR.one {μ : Mu} {v v' : Value} (h : VR μ v v') : LR μ [v] [v'].toArray := ⟨rfl, fun j x hj => by
  cases j with
  | zero => simp at hj; subst hj; exact ⟨v', rfl, h⟩
  | succ j => simp at hj⟩

theorem Lies.one {H : AH} {d : CD} {v : Value} (h : Lie H d v) : Lies H [d] [v] := ⟨rfl, fun j d' v' h1 h2 => by
  cases j with
  | zero => simp at h1 h2; subst h1; subst h2; exact h
  | succ j => simp at h1⟩
theorem Kds.one {k : SK} {d : CD} (h : Kd k d) : Kds [k] [d] := ⟨rfl, fun j d' v' h1 h2 => by
  cases j with
  | zero => simp at h1 h2; subst h1; subst h2; exact h
  | succ j => simp at h1⟩

theorem Opened.plain {H : AH} {μ : Mu} {v : Value} {k : SK} {d : CD} (hr : Rel B w μ H w) (ha : AllRo H) (hv : VR μ v v) (hl : Lie H d v) (hk : Kd k d) : Opened P B w H μ H μ [v] [v] [k] [d] :=
  ⟨Fr.refl _ _, Mu.le_refl _, hr, ha, LR.one hv, Lies.one hl, Kds.one hk⟩

end
section
variable {E : Type} {enc : TypeId × Value → E} {P : Program} {w : World} {held : Bool} {B : Nat}
theorem LR.cons {μ : Mu} {v v' : Value} {l l' : List Value} (h : VR μ v v') (k : LR μ l l'.toArray) : LR μ (v :: l) (v' :: l').toArray := (LR.one h).app' k
theorem AllRo0 : AllRo AH0 := fun i o h => by simp [AH0] at h
end

/-! Reading what came in. -/
theorem flat_at {α : Type} {z : Nat} : ∀ (es : List (List α)), (∀ e ∈ es, e.length = z) → ∀ (k : Nat) e, es[k]? = some e → ∀ (j : Nat) d, e[j]? = some d → es.flatten[k * z + j]? = some d := by
  intro es
  induction es with
  | nil => intro _ k e h; simp at h
  | cons x es ih =>
    intro h k e hk j d hj
    have hx := h x (by simp)
    have hjl := (List.getElem?_eq_some_iff.1 hj).1
    rw [List.flatten_cons]
    cases k with
    | zero =>
      simp only [List.getElem?_cons_zero, Option.some.injEq] at hk
      subst hk
      rw [Nat.zero_mul, Nat.zero_add, List.getElem?_append_left hjl]
      exact hj
    | succ k =>
      simp only [List.getElem?_cons_succ] at hk
      rw [List.getElem?_append_right (by rw [Nat.add_mul]; omega), show (k + 1) * z + j - x.length = k * z + j by rw [Nat.add_mul]; omega]
      exact ih (fun y hy => h y (by simp [hy])) k e hk j d hj

/-- A slice that came in: its elements' cells. -/
structure Sl (H : AH) (ks : List SK) (z : Nat) (b : Option Addr) (len cap i : Nat) (vs : List Value) : Prop where
  b : 0 < len → b = some ⟨i, 0, none⟩
  has : 0 < len → Has H i (.ro vs z)
  size : vs.length = len * z
  max : len * bw ks ≤ reachBytes
  at_ : ∀ k, k < len → ∀ (j : Nat) kk, ks[j]? = some kk → ∃ d v, vs[k * z + j]? = some v ∧ Lie H d v ∧ Kd kk d
theorem sl_of {H : AH} {z : Nat} {ks : List SK} {d : CD} {v : Value} (hl : Lie H d v) (hk : Kd (.sl z ks) d) (hz : ks.length = z) : ∃ b len cap i vs, v = .slice b len cap ∧ Sl H ks z b len cap i vs := by
  cases hk with
  | n =>
    cases hl
    exact ⟨none, 0, 0, 0, [], rfl, fun h => absurd h (Nat.lt_irrefl _), fun h => absurd h (Nat.lt_irrefl _), by simp, by rw [Nat.zero_mul]; exact Nat.zero_le _, fun k hk => absurd hk (Nat.not_lt_zero _)⟩
  | l h1 h2 h3 =>
    rename_i es
    cases hl with
    | l g1 g2 g3 g4 =>
      rename_i i c vs
      refine ⟨_, _, _, i, vs, rfl, fun _ => rfl, fun h => g1 (List.length_pos_iff.1 h), g2, h1, fun k hk j kk hj => ?_⟩
      have he : es[k]? = some es[k] := List.getElem?_eq_getElem hk
      have hel := h2 _ (List.getElem_mem hk)
      have hjl := (List.getElem?_eq_some_iff.1 hj).1
      have hd : es[k][j]? = some (es[k][j]'(by omega)) := List.getElem?_eq_getElem (by omega)
      have hf := flat_at es (fun e he => (h2 e he).trans hz) k _ he j _ hd
      have hfl := (List.getElem?_eq_some_iff.1 hf).1
      have hv : vs[k * z + j]? = some (vs[k * z + j]'(by omega)) := List.getElem?_eq_getElem (by omega)
      exact ⟨_, _, hv, g4 _ _ _ hf hv, h3 _ (List.getElem_mem hk) j kk _ hj hd⟩
section
variable {H H' : AH} {ks : List SK} {z : Nat} {b : Option Addr} {len cap i : Nat} {vs : List Value}
theorem Sl.fr (h : Sl H ks z b len cap i vs) (x : Fr [] H H') : Sl H' ks z b len cap i vs :=
  ⟨h.b, fun e => (h.has e).fr x (by simp), h.size, h.max, fun k hk j kk hj => let ⟨d, v, a, b, c⟩ := h.at_ k hk j kk hj; ⟨d, v, a, b.fr x, c⟩⟩
theorem Sl.int (h : Sl H ks z b len cap i vs) {k : Nat} (hk : k < len) (j : Nat) {kd : IntKind} (hj : ks[j]? = some (.int kd)) : ∃ n, vs[k * z + j]? = some (.int kd n) ∧ (Lit.int kd n).wf = true := by
  obtain ⟨d, v, h1, h2, h3⟩ := h.at_ k hk j _ hj
  cases h3 with
  | i hw => cases h2; exact ⟨_, h1, hw⟩
theorem Sl.str (h : Sl H ks z b len cap i vs) {k : Nat} (hk : k < len) (j : Nat) (hj : ks[j]? = some .str) : ∃ s, vs[k * z + j]? = some (.string s) ∧ s.size ≤ reachBytes := by
  obtain ⟨d, v, h1, h2, h3⟩ := h.at_ k hk j _ hj
  cases h3 with
  | s hw => cases h2; exact ⟨_, h1, hw⟩
theorem Sl.bool (h : Sl H ks z b len cap i vs) {k : Nat} (hk : k < len) (j : Nat) (hj : ks[j]? = some .bool) : ∃ s, vs[k * z + j]? = some (.bool s) := by
  obtain ⟨d, v, h1, h2, h3⟩ := h.at_ k hk j _ hj
  cases h3 with
  | b => cases h2; exact ⟨_, h1⟩
theorem Sl.sl (h : Sl H ks z b len cap i vs) {k : Nat} (hk : k < len) (j : Nat) {z' : Nat} {ks' : List SK} (hj : ks[j]? = some (.sl z' ks')) (hz : ks'.length = z') :
    ∃ b' len' cap' i' vs', vs[k * z + j]? = some (.slice b' len' cap') ∧ Sl H ks' z' b' len' cap' i' vs' := by
  obtain ⟨d, v, h1, h2, h3⟩ := h.at_ k hk j _ hj
  obtain ⟨b', len', cap', i', vs', rfl, hS⟩ := sl_of h2 h3 hz
  exact ⟨b', len', cap', i', vs', h1, hS⟩
/-- The cells of a struct that came in. -/
theorem Lies.int {ds : List CD} (h : Lies H ds vs) (k : Kds ks ds) (j : Nat) {kd : IntKind} (hj : ks[j]? = some (.int kd)) : ∃ n, vs[j]? = some (.int kd n) ∧ (Lit.int kd n).wf = true := by
  have hjl := (List.getElem?_eq_some_iff.1 hj).1
  have hd : ds[j]? = some (ds[j]'(by have := k.len; omega)) := List.getElem?_eq_getElem _
  have hv : vs[j]? = some (vs[j]'(by have := k.len; have := h.len; omega)) := List.getElem?_eq_getElem _
  have h1 := k.at_ j _ _ hj hd
  have h2 := h.at_ j _ _ hd hv
  generalize ds[j]'(by have := k.len; omega) = d at h1 h2
  generalize vs[j]'(by have := k.len; have := h.len; omega) = v at h2 hv
  cases h1 with
  | i hw => cases h2; exact ⟨_, hv, hw⟩
theorem Lies.str {ds : List CD} (h : Lies H ds vs) (k : Kds ks ds) (j : Nat) (hj : ks[j]? = some .str) : ∃ s, vs[j]? = some (.string s) ∧ s.size ≤ reachBytes := by
  have hjl := (List.getElem?_eq_some_iff.1 hj).1
  have hd : ds[j]? = some (ds[j]'(by have := k.len; omega)) := List.getElem?_eq_getElem _
  have hv : vs[j]? = some (vs[j]'(by have := k.len; have := h.len; omega)) := List.getElem?_eq_getElem _
  have h1 := k.at_ j _ _ hj hd
  have h2 := h.at_ j _ _ hd hv
  generalize ds[j]'(by have := k.len; omega) = d at h1 h2
  generalize vs[j]'(by have := k.len; have := h.len; omega) = v at h2 hv
  cases h1 with
  | s hw => cases h2; exact ⟨_, hv, hw⟩
theorem Lies.sl {ds : List CD} (h : Lies H ds vs) (k : Kds ks ds) (j : Nat) {z' : Nat} {ks' : List SK} (hj : ks[j]? = some (.sl z' ks')) (hz : ks'.length = z') :
    ∃ b' len' cap' i' vs', vs[j]? = some (.slice b' len' cap') ∧ Sl H ks' z' b' len' cap' i' vs' := by
  have hjl := (List.getElem?_eq_some_iff.1 hj).1
  have hd : ds[j]? = some (ds[j]'(by have := k.len; omega)) := List.getElem?_eq_getElem _
  have hv : vs[j]? = some (vs[j]'(by have := k.len; have := h.len; omega)) := List.getElem?_eq_getElem _
  have h1 := k.at_ j _ _ hj hd
  have h2 := h.at_ j _ _ hd hv
  generalize ds[j]'(by have := k.len; omega) = d at h1 h2
  generalize vs[j]'(by have := k.len; have := h.len; omega) = v at h2 hv
  obtain ⟨b', len', cap', i', vs', rfl, hS⟩ := sl_of h2 h1 hz
  exact ⟨b', len', cap', i', vs', hv, hS⟩
end
end Go.Proofs.Ytfghglacfjncmaa
