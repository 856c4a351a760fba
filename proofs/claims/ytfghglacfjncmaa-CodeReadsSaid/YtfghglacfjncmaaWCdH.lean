/- The exported calls; awake; few; put. What came in: values, messages, artifacts, dead letters, events, subscriptions. -/
import Derived.Test.YtfghglacfjncmaaWCdK
import Derived.Test.YtfghglacfjncmaaWCdD
import Derived.Test.YtfghglacfjncmaaWCdF
import Derived.Test.YtfghglacfjncmaaWGenL
/-! The exported calls; awake; few; put. -/
namespace Go.Proofs.Ytfghglacfjncmaa
set_option linter.unusedVariables false
set_option linter.unusedSimpArgs false
open Go.RowKit

def putS (r : Option (List UInt8)) : ByteArray := match r with | some l => ofL l | none => ⟨#[]⟩
def putE (r : Option (List UInt8)) : Int := match r with | some _ => 0 | none => 4
theorem putR_eq (r : Option (List UInt8)) : putR r = .tuple #[.string (putS r), .int .i64 (putE r)] := by cases r <;> rfl
abbrev PutV (r : Option (List UInt8)) : Value := .tuple #[.string (putS r), .int .i64 (putE r)]
section
variable {H : AH} {R : AEnd → AH → Prop}
theorem xputv_call (v : Val) {b : Option Addr} {c : Nat} (hv : VIs H v b) (h : ∀ H', Fr [] H H' → R (.ret (PutV (valP v))) H') : ACall Try.prog 12 [.agg #[.int .i64 v.kind, .int .i64 v.num, .string v.text, .slice b v.list.length c]] H R := by
  apply f12_call
  unfold f12_B
  refine wNew_at ?_
  have st := St.new H [.int .i64 v.kind, .int .i64 v.num, .string v.text, .slice b v.list.length c]
  refine ldI_at st.hq rfl (ldI_at st.hq rfl (ldS_at st.hq rfl (ldL_at st.hq rfl (wCall_of (putv_call v (hv.fr st.fr) (fun H2 f2 => ?_))))))
  rw [putR_eq]
  exact opT_at rfl (opS_at (opI_at (h H2 (st.fr.trans f2))))
theorem xgetv_call {s : ByteArray} (hs : s.size ≤ 4611686018427387904)
    (h1 : ∀ v, pAll (pVal s) = .ok v → ∀ H' b c j, Fr [] H H' → Vw H' b v.list.length j 1 (v.list.map fun n => Value.int .i64 n) → (v.list.length ≠ 0 → H.next ≤ j) → R (.ret (.tuple #[.agg #[.int .i64 v.kind, .int .i64 v.num, .string v.text, .slice b v.list.length c], .int .i64 0])) H')
    (h2 : ∀ e, pAll (pVal s) = .error e → ∀ H', Fr [] H H' → R (.ret (.tuple #[.agg #[.int .i64 0, .int .i64 0, .string ⟨#[]⟩, .slice none 0 0], .int .i64 e])) H') :
    ACall Try.prog 17 [.string s] H R := by
  apply f17_call
  unfold f17_B
  refine wNew_at ?_
  have st := St.new H zeroV
  generalize H.push (.row zeroV 0) = H1 at st ⊢
  generalize hq : H.next = q at st ⊢
  have nx0 := st.fr.next
  refine wCall_of (getv_call hs (fun v hv H2 b c j f2 hw hj => ?_) (fun e he H2 f2 => ?_))
  · replace st := st.fr1 f2
    refine opT_at rfl (opA_at rfl (opI_at (opI_at (opS_at (opL_at (opI_at (wSt_at st.hq (by simp) (wPt_at ?_))))))))
    have hx := st.hq.set (.row (setCells zeroV 0 [.int .i64 v.kind, .int .i64 v.num, .string v.text, .slice b v.list.length c]) 0)
    have f3 := st.fr.set (i := q) (.inr (by omega)) (.row (setCells zeroV 0 [.int .i64 v.kind, .int .i64 v.num, .string v.text, .slice b v.list.length c]) 0)
    refine ldI_at hx rfl (ldI_at hx rfl (ldS_at hx rfl (ldL_at hx rfl ?_)))
    refine h1 v hv _ b c j f3 ⟨hw.len, fun e => ⟨(hw.at_ e).1, ?_⟩⟩ (fun e => by have := hj e; have := st.fr.next; have := f2.next; omega)
    rcases (hw.at_ e).2 with y | y
    · exact .inl (y.setne (y.diff st.hq (by simp)) _)
    · exact .inr (y.setne (fun e2 => by have := hj e; have h5 := f2.next; subst e2; exact absurd (y.get.symm.trans st.hq.get) (by
        intro e3
        have := (AObj.row.inj (Option.some.inj e3)).2
        omega)) _)
  · replace st := st.fr1 f2
    refine opT_at rfl (opA_at rfl (opI_at (opI_at (opS_at (opL_at (opI_at (wSt_at st.hq (by simp) (wPt_at ?_))))))))
    have hx := st.hq.set (.row (setCells zeroV 0 [.int .i64 0, .int .i64 0, .string ⟨#[]⟩, .slice none 0 0]) 0)
    have f3 := st.fr.set (i := q) (.inr (by omega)) (.row (setCells zeroV 0 [.int .i64 0, .int .i64 0, .string ⟨#[]⟩, .slice none 0 0]) 0)
    refine ldI_at hx rfl (ldI_at hx rfl (ldS_at hx rfl (ldL_at hx rfl ?_)))
    exact h2 e he _ f3
theorem awake_a : valP ⟨1, -1, ⟨#[]⟩, []⟩ = some [1, 1] := by decide +kernel
theorem awake_b : valP ⟨5, 0, ⟨#[]⟩, [1, 2]⟩ = some [5, 2, 2, 4] := by decide +kernel
theorem awake_c : (match pAll (pVal (ofL [5, 2, 2, 4])) with | .ok v => v.list.length == 2 | .error _ => false) = true := by decide +kernel
set_option maxRecDepth 20000 in
/-- The chapter's examples. -/
theorem awake_call (h : ∀ H', Fr [] H H' → R (.ret (.bool true)) H') : ACall Try.prog 10 [] H R := by
  apply f10_call
  unfold f10_B
  refine wCall_of (xputv_call ⟨1, -1, ⟨#[]⟩, []⟩ (b := none) (c := 0) ⟨⟨by decide, by decide⟩, fun n hn => by simp at hn, 0, Vw.nil _ _⟩ (fun H1 f1 => ?_))
  rw [awake_a]
  refine opT_at rfl (opS_at (opI_at (wBs_at ?_)))
  have hb := Has.new H1 (.row [.int .i64 1, .int .i64 2] 1)
  have f2 := f1.push (.row [.int .i64 1, .int .i64 2] 1)
  generalize H1.push (.row [.int .i64 1, .int .i64 2] 1) = H2 at hb f2 ⊢
  refine wCall_of (xputv_call ⟨5, 0, ⟨#[]⟩, [1, 2]⟩ (c := 0) ⟨⟨by decide, by decide⟩, fun n hn => by simp at hn; unfold i64ok; omega, H1.next, rfl, fun _ => ⟨rfl, .inr hb⟩⟩ (fun H3 f3 => ?_))
  rw [awake_b]
  refine opT_at rfl (opS_at (opI_at ?_))
  have f03 := f2.trans f3
  refine wCall_of (xgetv_call (by decide) (fun v hv H4 b c j f4 hw hj => ?_) (fun e he H4 f4 => ?_))
  · have hl : v.list.length = 2 := by
      have hc := awake_c
      rw [show pAll (pVal (ofL [5, 2, 2, 4])) = .ok v from hv] at hc
      simpa using hc
    refine opT_at rfl (opA_at rfl (opI_at (opI_at (opS_at (opL_at (opI_at (wNew_at (wSt_at (Has.new _ _) (by simp) ?_))))))))
    refine wIf_dt rfl (wIf_dt rfl (wIf_dt rfl (wIf_dt rfl (wIf_dt rfl (ldL_at ((Has.new _ _).set _) rfl ?_)))))
    rw [decide_eq_true (by omega)]
    exact h _ (((f03.trans f4).push _).set (.inr (by have := (f03.trans f4).next; omega)) _)
  · have hc := awake_c
    rw [show pAll (pVal (ofL [5, 2, 2, 4])) = .error e from he] at hc
    cases hc
end
end Go.Proofs.Ytfghglacfjncmaa

/-! What came in: values, messages, artifacts, dead letters, events, subscriptions. -/
namespace Go.Proofs.Ytfghglacfjncmaa
set_option linter.unusedVariables false
set_option linter.unusedSimpArgs false
open Go.RowKit

/-- Cells of kinds. -/
def Cl (H : AH) (ks : List SK) (g : Nat → Option Value) : Prop := ∀ (j : Nat) kk, ks[j]? = some kk → ∃ d v, g j = some v ∧ Lie H d v ∧ Kd kk d
section
variable {H : AH} {ks : List SK} {g : Nat → Option Value}
theorem Cl.int (h : Cl H ks g) (j : Nat) (hj : ks[j]? = some (.int .i64)) : ∃ n, g j = some (.int .i64 n) ∧ i64ok n := by
  obtain ⟨d, v, h1, h2, h3⟩ := h j _ hj
  cases h3 with
  | i hw =>
    cases h2
    refine ⟨_, h1, ?_⟩
    unfold i64ok
    simpa [Lit.wf, IntKind.min, IntKind.max, IntKind.signed, IntKind.bits] using hw
theorem Cl.str (h : Cl H ks g) (j : Nat) (hj : ks[j]? = some .str) : ∃ s, g j = some (.string s) ∧ s.size ≤ 140737488351232 := by
  obtain ⟨d, v, h1, h2, h3⟩ := h j _ hj
  cases h3 with
  | s hw => cases h2; exact ⟨_, h1, hw⟩
theorem Cl.sl (h : Cl H ks g) (j : Nat) {z' : Nat} {ks' : List SK} (hj : ks[j]? = some (.sl z' ks')) (hz : ks'.length = z') :
    ∃ b' len' cap' i' vs', g j = some (.slice b' len' cap') ∧ Sl H ks' z' b' len' cap' i' vs' := by
  obtain ⟨d, v, h1, h2, h3⟩ := h j _ hj
  obtain ⟨b', len', cap', i', vs', rfl, hS⟩ := sl_of h2 h3 hz
  exact ⟨b', len', cap', i', vs', h1, hS⟩
end
section
variable {H : AH} {b : Option Addr} {len cap i : Nat} {vs : List Value}
theorem Sl.vw {ks : List SK} {z : Nat} (h : Sl H ks z b len cap i vs) : Vw H b len i z vs := ⟨h.size, fun e => ⟨h.b (by omega), .inl (h.has (by omega))⟩⟩
/-- A message that memory holds. -/
structure MLw (m : Mai) : Prop where
  chan : m.chan.size ≤ 140737488351232
  keys : ∀ v ∈ m.key, VLs v
  fieldss : ∀ v ∈ m.fields, VLs v
theorem MLw.few {m : Mai} (h : MLw m) (h1 : m.key.length ≤ 40) (h2 : m.fields.length ≤ 40) : MLs m := ⟨h.chan, h1, h2, h.keys, h.fieldss⟩
end
/-- A list by its cells. -/
theorem list_of {vs : List Value} {n : Nat} (hl : vs.length = n) (w : List Value) (hw : w.length = n) (h : ∀ k, k < n → vs[k]? = w[k]?) : vs = w := by
  apply List.ext_getElem?
  intro k
  by_cases hk : k < n
  · exact h k hk
  · rw [List.getElem?_eq_none (by omega), List.getElem?_eq_none (by omega)]
end Go.Proofs.Ytfghglacfjncmaa
