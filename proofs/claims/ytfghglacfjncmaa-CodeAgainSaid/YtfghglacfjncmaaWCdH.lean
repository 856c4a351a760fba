/- The exported calls; awake; few; put. What came in: values, messages, artifacts, dead letters, events, subscriptions. -/
import Derived.Test.YtfghglacfjncmaaWCdK
import Derived.Test.YtfghglacfjncmaaWCdD
import Derived.Test.YtfghglacfjncmaaWCdF
import Derived.Test.YtfghglacfjncmaaWGenL
/-! The exported calls; awake; few; put. -/
namespace Go.Proofs.Ytfghglacfjncmaa
set_option linter.unusedVariables false
set_option linter.unusedSimpArgs false
open Go.RowKit

def putS (r : Option (List UInt8)) : ByteArray := match r with | some l => ofL l | none => ⟨#[]⟩
def putE (r : Option (List UInt8)) : Int := match r with | some _ => 0 | none => 4
theorem putR_eq (r : Option (List UInt8)) : putR r = .tuple #[.string (putS r), .int .i64 (putE r)] := by cases r <;> rfl
abbrev PutV (r : Option (List UInt8)) : Value := .tuple #[.string (putS r), .int .i64 (putE r)]
section
variable {H : AH} {R : AEnd → AH → Prop}
theorem xputv_call (v : Val) {b : Option Addr} {c : Nat} (hv : VIs H v b) (h : ∀ H', Fr [] H H' → R (.ret (PutV (valP v))) H') : ACall Try.prog 12 [.agg #[.int .i64 v.kind, .int .i64 v.num, .string v.text, .slice b v.list.length c]] H R := by
  apply f12_call
  unfold f12_B
  refine wNew_at ?_
  have st := St.new H [.int .i64 v.kind, .int .i64 v.num, .string v.text, .slice b v.list.length c]
  refine ldI_at st.hq rfl (ldI_at st.hq rfl (ldS_at st.hq rfl (ldL_at st.hq rfl (wCall_of (putv_call v (hv.fr st.fr) (fun H2 f2 => ?_))))))
  rw [putR_eq]
  exact opT_at rfl (opS_at (opI_at (h H2 (st.fr.trans f2))))
theorem xputm_call (m : Mai) {kb fb : Option Addr} {kc fc : Nat} (hm : MIs H m kb fb) (h : ∀ H', Fr [] H H' → R (.ret (PutV (mailP m))) H') : ACall Try.prog 13 [.agg #[.int .i64 m.id, .string m.chan, .slice kb m.key.length kc, .slice fb m.fields.length fc]] H R := by
  apply f13_call
  unfold f13_B
  refine wNew_at ?_
  have st := St.new H [.int .i64 m.id, .string m.chan, .slice kb m.key.length kc, .slice fb m.fields.length fc]
  refine ldI_at st.hq rfl (ldS_at st.hq rfl (ldL_at st.hq rfl (ldL_at st.hq rfl (wCall_of (putm_call m (hm.fr st.fr) (fun H2 f2 => ?_))))))
  rw [putR_eq]
  exact opT_at rfl (opS_at (opI_at (h H2 (st.fr.trans f2))))
theorem xputi_call (x : Ite) {ab cb bb : Option Addr} {ac cc bc : Nat} (hx : IIs H x ab cb bb) (h : ∀ H', Fr [] H H' → R (.ret (PutV (itemP x))) H') : ACall Try.prog 24 [.agg #[.int .i64 x.id, .string x.typ, .string x.state, .int .i64 x.since, .slice ab x.attrs.length ac, .slice cb x.counts.length cc, .slice bb x.box.length bc]] H R := by
  apply f24_call
  unfold f24_B
  refine wNew_at ?_
  have st := St.new H [.int .i64 x.id, .string x.typ, .string x.state, .int .i64 x.since, .slice ab x.attrs.length ac, .slice cb x.counts.length cc, .slice bb x.box.length bc]
  refine ldI_at st.hq rfl (ldS_at st.hq rfl (ldS_at st.hq rfl (ldI_at st.hq rfl (ldL_at st.hq rfl (ldL_at st.hq rfl (ldL_at st.hq rfl (wCall_of (puti_call x (hx.fr st.fr) (fun H2 f2 => ?_)))))))))
  rw [putR_eq]
  exact opT_at rfl (opS_at (opI_at (h H2 (st.fr.trans f2))))
theorem xputd_call (x : Dea) {kb fb : Option Addr} {kc fc : Nat} (h1x : i64ok x.n) (hm : MIs H x.mail kb fb) (h : ∀ H', Fr [] H H' → R (.ret (PutV (deadP x))) H') : ACall Try.prog 32 [.agg #[.int .i64 x.n, .int .i64 x.mail.id, .string x.mail.chan, .slice kb x.mail.key.length kc, .slice fb x.mail.fields.length fc, .int .i64 x.reason]] H R := by
  apply f32_call
  unfold f32_B
  refine wNew_at ?_
  have st := St.new H [.int .i64 x.n, .int .i64 x.mail.id, .string x.mail.chan, .slice kb x.mail.key.length kc, .slice fb x.mail.fields.length fc, .int .i64 x.reason]
  refine ldI_at st.hq rfl (ldI_at st.hq rfl (ldS_at st.hq rfl (ldL_at st.hq rfl (ldL_at st.hq rfl (ldI_at st.hq rfl (wCall_of (putd_call x h1x (hm.fr st.fr) (fun H2 f2 => ?_))))))))
  rw [putR_eq]
  exact opT_at rfl (opS_at (opI_at (h H2 (st.fr.trans f2))))
theorem xpute_call (x : Evt) {ab : Option Addr} {ac : Nat} (h1x : i64ok x.n) (h2x : i64ok x.tick) (h3x : i64ok x.item) (ha : RIs H ab x.attrs) (h : ∀ H', Fr [] H H' → R (.ret (PutV (eventP x))) H') : ACall Try.prog 33 [.agg #[.int .i64 x.n, .int .i64 x.tick, .string x.name, .int .i64 x.item, .string x.typ, .string x.state, .slice ab x.attrs.length ac]] H R := by
  apply f33_call
  unfold f33_B
  refine wNew_at ?_
  have st := St.new H [.int .i64 x.n, .int .i64 x.tick, .string x.name, .int .i64 x.item, .string x.typ, .string x.state, .slice ab x.attrs.length ac]
  refine ldI_at st.hq rfl (ldI_at st.hq rfl (ldS_at st.hq rfl (ldI_at st.hq rfl (ldS_at st.hq rfl (ldS_at st.hq rfl (ldL_at st.hq rfl (wCall_of (pute_call x h1x h2x h3x (ha.fr st.fr) (fun H2 f2 => ?_)))))))))
  rw [putR_eq]
  exact opT_at rfl (opS_at (opI_at (h H2 (st.fr.trans f2))))
theorem xputs_call (x : Sbs) (h1x : i64ok x.id) (h2x : i64ok x.past) (h : ∀ H', Fr [] H H' → R (.ret (PutV (subP x))) H') : ACall Try.prog 34 [.agg #[.int .i64 x.id, .string x.role, .int .i64 x.past]] H R := by
  apply f34_call
  unfold f34_B
  refine wNew_at ?_
  have st := St.new H [.int .i64 x.id, .string x.role, .int .i64 x.past]
  refine ldI_at st.hq rfl (ldS_at st.hq rfl (ldI_at st.hq rfl (wCall_of (puts_call x h1x h2x (fun H2 f2 => ?_)))))
  rw [putR_eq]
  exact opT_at rfl (opS_at (opI_at (h H2 (st.fr.trans f2))))
theorem xgetv_call {s : ByteArray} (hs : s.size ≤ 4611686018427387904)
    (h1 : ∀ v, pAll (pVal s) = .ok v → ∀ H' b c j, Fr [] H H' → Vw H' b v.list.length j 1 (v.list.map fun n => Value.int .i64 n) → (v.list.length ≠ 0 → H.next ≤ j) → R (.ret (.tuple #[.agg #[.int .i64 v.kind, .int .i64 v.num, .string v.text, .slice b v.list.length c], .int .i64 0])) H')
    (h2 : ∀ e, pAll (pVal s) = .error e → ∀ H', Fr [] H H' → R (.ret (.tuple #[.agg #[.int .i64 0, .int .i64 0, .string ⟨#[]⟩, .slice none 0 0], .int .i64 e])) H') :
    ACall Try.prog 17 [.string s] H R := by
  apply f17_call
  unfold f17_B
  refine wNew_at ?_
  have st := St.new H zeroV
  generalize H.push (.row zeroV 0) = H1 at st ⊢
  generalize hq : H.next = q at st ⊢
  have nx0 := st.fr.next
  refine wCall_of (getv_call hs (fun v hv H2 b c j f2 hw hj => ?_) (fun e he H2 f2 => ?_))
  · replace st := st.fr1 f2
    refine opT_at rfl (opA_at rfl (opI_at (opI_at (opS_at (opL_at (opI_at (wSt_at st.hq (by simp) (wPt_at ?_))))))))
    have hx := st.hq.set (.row (setCells zeroV 0 [.int .i64 v.kind, .int .i64 v.num, .string v.text, .slice b v.list.length c]) 0)
    have f3 := st.fr.set (i := q) (.inr (by omega)) (.row (setCells zeroV 0 [.int .i64 v.kind, .int .i64 v.num, .string v.text, .slice b v.list.length c]) 0)
    refine ldI_at hx rfl (ldI_at hx rfl (ldS_at hx rfl (ldL_at hx rfl ?_)))
    refine h1 v hv _ b c j f3 ⟨hw.len, fun e => ⟨(hw.at_ e).1, ?_⟩⟩ (fun e => by have := hj e; have := st.fr.next; have := f2.next; omega)
    rcases (hw.at_ e).2 with y | y
    · exact .inl (y.setne (y.diff st.hq (by simp)) _)
    · exact .inr (y.setne (fun e2 => by have := hj e; have h5 := f2.next; subst e2; exact absurd (y.get.symm.trans st.hq.get) (by
        intro e3
        have := (AObj.row.inj (Option.some.inj e3)).2
        omega)) _)
  · replace st := st.fr1 f2
    refine opT_at rfl (opA_at rfl (opI_at (opI_at (opS_at (opL_at (opI_at (wSt_at st.hq (by simp) (wPt_at ?_))))))))
    have hx := st.hq.set (.row (setCells zeroV 0 [.int .i64 0, .int .i64 0, .string ⟨#[]⟩, .slice none 0 0]) 0)
    have f3 := st.fr.set (i := q) (.inr (by omega)) (.row (setCells zeroV 0 [.int .i64 0, .int .i64 0, .string ⟨#[]⟩, .slice none 0 0]) 0)
    refine ldI_at hx rfl (ldI_at hx rfl (ldS_at hx rfl (ldL_at hx rfl ?_)))
    exact h2 e he _ f3
theorem awake_a : valP ⟨1, -1, ⟨#[]⟩, []⟩ = some [1, 1] := by decide +kernel
theorem awake_b : valP ⟨5, 0, ⟨#[]⟩, [1, 2]⟩ = some [5, 2, 2, 4] := by decide +kernel
theorem awake_c : (match pAll (pVal (ofL [5, 2, 2, 4])) with | .ok v => v.list.length == 2 | .error _ => false) = true := by decide +kernel
set_option maxRecDepth 20000 in
/-- The chapter's examples. -/
theorem awake_call (h : ∀ H', Fr [] H H' → R (.ret (.bool true)) H') : ACall Try.prog 10 [] H R := by
  apply f10_call
  unfold f10_B
  refine wCall_of (xputv_call ⟨1, -1, ⟨#[]⟩, []⟩ (b := none) (c := 0) ⟨⟨by decide, by decide⟩, fun n hn => by simp at hn, 0, Vw.nil _ _⟩ (fun H1 f1 => ?_))
  rw [awake_a]
  refine opT_at rfl (opS_at (opI_at (wBs_at ?_)))
  have hb := Has.new H1 (.row [.int .i64 1, .int .i64 2] 1)
  have f2 := f1.push (.row [.int .i64 1, .int .i64 2] 1)
  generalize H1.push (.row [.int .i64 1, .int .i64 2] 1) = H2 at hb f2 ⊢
  refine wCall_of (xputv_call ⟨5, 0, ⟨#[]⟩, [1, 2]⟩ (c := 0) ⟨⟨by decide, by decide⟩, fun n hn => by simp at hn; unfold i64ok; omega, H1.next, rfl, fun _ => ⟨rfl, .inr hb⟩⟩ (fun H3 f3 => ?_))
  rw [awake_b]
  refine opT_at rfl (opS_at (opI_at ?_))
  have f03 := f2.trans f3
  refine wCall_of (xgetv_call (by decide) (fun v hv H4 b c j f4 hw hj => ?_) (fun e he H4 f4 => ?_))
  · have hl : v.list.length = 2 := by
      have hc := awake_c
      rw [show pAll (pVal (ofL [5, 2, 2, 4])) = .ok v from hv] at hc
      simpa using hc
    refine opT_at rfl (opA_at rfl (opI_at (opI_at (opS_at (opL_at (opI_at (wNew_at (wSt_at (Has.new _ _) (by simp) ?_))))))))
    refine wIf_dt rfl (wIf_dt rfl (wIf_dt rfl (wIf_dt rfl (wIf_dt rfl (ldL_at ((Has.new _ _).set _) rfl ?_)))))
    rw [decide_eq_true (by omega)]
    exact h _ (((f03.trans f4).push _).set (.inr (by have := (f03.trans f4).next; omega)) _)
  · have hc := awake_c
    rw [show pAll (pVal (ofL [5, 2, 2, 4])) = .error e from he] at hc
    cases hc
def fewOK (ms : List Mai) : Prop := ∀ m ∈ ms, ms.length ≤ 200 ∧ m.key.length ≤ 40 ∧ m.fields.length ≤ 40
instance (ms : List Mai) : Decidable (fewOK ms) := by unfold fewOK; infer_instance
set_option maxRecDepth 20000 in
theorem few_call (ms : List Mai) {b : Option Addr} {c : Nat} (hb : BIs H b ms) (hn : ms.length ≤ 4611686018427387904) (h : ∀ H', Fr [] H H' → R (.ret (.bool (decide (fewOK ms)))) H') : ACall Try.prog 11 [.slice b ms.length c] H R := by
  apply f11_call
  unfold f11_B
  obtain ⟨j2, cs2, hw2, hcs⟩ := hb.ex
  have hF : ∀ m ∈ ms, ¬ (ms.length ≤ 200 ∧ m.key.length ≤ 40 ∧ m.fields.length ≤ 40) → ∀ H', Fr [] H H' → R (.ret (.bool false)) H' := fun m hm e H' s => by
    have := h H' s
    rwa [decide_eq_false (fun y => e (y m hm))] at this
  refine f11_L0_rule (J := fun m r H' => ∃ k, k ≤ ms.length ∧ r = (k : Int) ∧ m = ms.length - k ∧ Fr [] H H' ∧ ∀ m ∈ ms.take k, ms.length ≤ 200 ∧ m.key.length ≤ 40 ∧ m.fields.length ≤ 40) ms.length
    ⟨0, Nat.zero_le _, rfl, rfl, Fr.refl _ _, fun n hn => by simp at hn⟩ ?_
  rintro m r H5 ⟨k, hk, rfl, rfl, f5, hall2⟩
  intros
  unfold f11_R0
  refine wIf_d (fun hlt => ?_) (fun hge => ?_)
  · have hlt : k < ms.length := by omega
    have hn0 : ms.length ≠ 0 := by omega
    obtain ⟨kb, kc, fb, fc, g1, g2, g3, g4, g5⟩ := hcs k hlt
    have hw5 := hw2.fr f5
    refine hw5.ix rfl hlt (hw5.ldI hn0 g1 (hw5.ldS hn0 g2 (hw5.ldL hn0 g3 (hw5.ldL hn0 g4 (wNew_at (wSt_at (Has.new _ _) (by simp) ?_))))))
    have e6 : ms.take (k + 1) = ms.take k ++ [ms[k]] := by rw [List.take_add_one, List.getElem?_eq_getElem hlt]; rfl
    have hmem := List.getElem_mem hlt
    generalize hve : ms[k] = m at g1 g2 g3 g4 g5 e6 hmem
    have hx5 : Fr [] H5 ((H5.push (.row [.int .i64 0, .string ⟨#[]⟩, .slice none 0 0, .slice none 0 0] 0)).set H5.next (.row (setCells [.int .i64 0, .string ⟨#[]⟩, .slice none 0 0, .slice none 0 0] 0 [.int .i64 m.id, .string m.chan, .slice kb m.key.length kc, .slice fb m.fields.length fc]) 0)) := ((Fr.refl [] H5).push _).set (.inr (Nat.le_refl _)) _
    have hb : Has ((H5.push (.row [.int .i64 0, .string ⟨#[]⟩, .slice none 0 0, .slice none 0 0] 0)).set H5.next (.row (setCells [.int .i64 0, .string ⟨#[]⟩, .slice none 0 0, .slice none 0 0] 0 [.int .i64 m.id, .string m.chan, .slice kb m.key.length kc, .slice fb m.fields.length fc]) 0)) H5.next (.row [.int .i64 m.id, .string m.chan, .slice kb m.key.length kc, .slice fb m.fields.length fc] 0) := (Has.new _ _).set _
    generalize (H5.push (.row [.int .i64 0, .string ⟨#[]⟩, .slice none 0 0, .slice none 0 0] 0)).set H5.next (.row (setCells [.int .i64 0, .string ⟨#[]⟩, .slice none 0 0, .slice none 0 0] 0 [.int .i64 m.id, .string m.chan, .slice kb m.key.length kc, .slice fb m.fields.length fc]) 0) = H6 at hx5 hb ⊢
    have f6 := f5.trans hx5
    refine wIf_d (fun e => ?_) (fun e => ?_)
    · rw [f11_J0_eq]; unfold f11_J0_B
      exact wIf_t rfl (hF m hmem (by omega) _ f6)
    · refine ldL_at hb rfl (wIf_d (fun e2 => ?_) (fun e2 => ldL_at hb rfl ?_))
      · rw [f11_J0_eq]; unfold f11_J0_B
        exact wIf_t rfl (hF m hmem (by omega) _ f6)
      · rw [f11_J0_eq]; unfold f11_J0_B
        refine wIf_d (fun e3 => hF m hmem (by omega) _ f6) (fun e3 => ?_)
        refine ⟨ms.length - (k + 1), by omega, f11_I0_mk ⟨k + 1, hlt, wi1 k (by omega), rfl, f6, fun w hw => ?_⟩⟩
        rw [e6] at hw
        rcases List.mem_append.1 hw with hw | hw
        · exact hall2 w hw
        · rw [List.mem_singleton.1 hw]; omega
  · have hkl : k = ms.length := by omega
    subst hkl
    rw [List.take_length] at hall2
    have := h H5 f5
    rwa [decide_eq_true (show fewOK ms from hall2)] at this
/-- Is what is put what the document puts? -/
theorem put_call {ok : Bool} {l : List UInt8} {r : Option (List UInt8)} (hr : r = if ok = true then some l else none) (h : R (.ret (.bool true)) H) : ACall Try.prog 25 [.string (putS r), .int .i64 (putE r), .string (ofL l), .bool ok] H R := by
  apply f25_call
  unfold f25_B
  subst hr
  cases ok with
  | true => exact wIf_t rfl (wIf_t rfl (wIf_dt rfl h))
  | false => exact wIf_t rfl (wIf_f rfl (wIf_t rfl (wIf_dt rfl (by rw [decide_eq_true (show putE (if false = true then some l else none) = 4 from rfl)]; exact h))))
end
end Go.Proofs.Ytfghglacfjncmaa

/-! What came in: values, messages, artifacts, dead letters, events, subscriptions. -/
namespace Go.Proofs.Ytfghglacfjncmaa
set_option linter.unusedVariables false
set_option linter.unusedSimpArgs false
open Go.RowKit

abbrev NK : List SK := [.int .i64]
abbrev VK : List SK := [.int .i64, .int .i64, .str, .sl 1 NK]
abbrev MK : List SK := [.int .i64, .str, .sl 4 VK, .sl 4 VK]
abbrev IK : List SK := [.int .i64, .str, .str, .int .i64, .sl 4 VK, .sl 1 NK, .sl 4 MK]
abbrev DK : List SK := [.int .i64, .int .i64, .str, .sl 4 VK, .sl 4 VK, .int .i64]
abbrev EK : List SK := [.int .i64, .int .i64, .str, .int .i64, .str, .str, .sl 4 VK]
abbrev SK3 : List SK := [.int .i64, .str, .int .i64]
/-- Cells of kinds. -/
def Cl (H : AH) (ks : List SK) (g : Nat → Option Value) : Prop := ∀ (j : Nat) kk, ks[j]? = some kk → ∃ d v, g j = some v ∧ Lie H d v ∧ Kd kk d
theorem Cl.of_sl {H : AH} {ks : List SK} {z : Nat} {b : Option Addr} {len cap i : Nat} {vs : List Value} (h : Sl H ks z b len cap i vs) {k : Nat} (hk : k < len) : Cl H ks (fun j => vs[k * z + j]?) := fun j kk hj => h.at_ k hk j kk hj
theorem Cl.of_lies {H : AH} {ks : List SK} {ds : List CD} {vs : List Value} (h : Lies H ds vs) (k : Kds ks ds) : Cl H ks (fun j => vs[j]?) := fun j kk hj => by
  have hjl := (List.getElem?_eq_some_iff.1 hj).1
  have hd : ds[j]? = some (ds[j]'(by have := k.len; omega)) := List.getElem?_eq_getElem _
  have hv : vs[j]? = some (vs[j]'(by have := k.len; have := h.len; omega)) := List.getElem?_eq_getElem _
  exact ⟨_, _, hv, h.at_ j _ _ hd hv, k.at_ j _ _ hj hd⟩
section
variable {H : AH} {ks : List SK} {g : Nat → Option Value}
theorem Cl.int (h : Cl H ks g) (j : Nat) (hj : ks[j]? = some (.int .i64)) : ∃ n, g j = some (.int .i64 n) ∧ i64ok n := by
  obtain ⟨d, v, h1, h2, h3⟩ := h j _ hj
  cases h3 with
  | i hw =>
    cases h2
    refine ⟨_, h1, ?_⟩
    unfold i64ok
    simpa [Lit.wf, IntKind.min, IntKind.max, IntKind.signed, IntKind.bits] using hw
theorem Cl.str (h : Cl H ks g) (j : Nat) (hj : ks[j]? = some .str) : ∃ s, g j = some (.string s) ∧ s.size ≤ 140737488351232 := by
  obtain ⟨d, v, h1, h2, h3⟩ := h j _ hj
  cases h3 with
  | s hw => cases h2; exact ⟨_, h1, hw⟩
theorem Cl.sl (h : Cl H ks g) (j : Nat) {z' : Nat} {ks' : List SK} (hj : ks[j]? = some (.sl z' ks')) (hz : ks'.length = z') :
    ∃ b' len' cap' i' vs', g j = some (.slice b' len' cap') ∧ Sl H ks' z' b' len' cap' i' vs' := by
  obtain ⟨d, v, h1, h2, h3⟩ := h j _ hj
  obtain ⟨b', len', cap', i', vs', rfl, hS⟩ := sl_of h2 h3 hz
  exact ⟨b', len', cap', i', vs', h1, hS⟩
end
theorem exists_list {α : Type} (n : Nat) (P : Nat → α → Prop) (h : ∀ k, k < n → ∃ x, P k x) : ∃ l : List α, l.length = n ∧ ∀ k (hk : k < l.length), P k l[k] := by
  induction n with
  | zero => exact ⟨[], rfl, fun k hk => absurd hk (Nat.not_lt_zero _)⟩
  | succ n ih =>
    obtain ⟨l, hl, hp⟩ := ih (fun k hk => h k (by omega))
    obtain ⟨x, hx⟩ := h n (by omega)
    refine ⟨l ++ [x], by simp [hl], fun k hk => ?_⟩
    by_cases e : k < l.length
    · rw [List.getElem_append_left e]; exact hp k e
    · have : k = n := by simp at hk; omega
      subst this
      rw [List.getElem_append_right (by omega)]
      simpa [hl] using hx
section
variable {H : AH} {b : Option Addr} {len cap i : Nat} {vs : List Value}
theorem Sl.vw {ks : List SK} {z : Nat} (h : Sl H ks z b len cap i vs) : Vw H b len i z vs := ⟨h.size, fun e => ⟨h.b (by omega), .inl (h.has (by omega))⟩⟩
theorem nums_of (h : Sl H NK 1 b len cap i vs) : ∃ l : List Int, l.length = len ∧ NIs H b l ∧ l.length * 8 ≤ 140737488351232 := by
  obtain ⟨l, hl, hp⟩ := exists_list len (fun k n => vs[k]? = some (.int .i64 n) ∧ i64ok n) (fun k hk => by
    have := (Cl.of_sl h hk).int 0 rfl
    simpa using this)
  have he : (l.map fun n => Value.int .i64 n) = vs := by
    apply List.ext_getElem?
    intro k
    by_cases hk : k < l.length
    · rw [(hp k hk).1, List.getElem?_map, List.getElem?_eq_getElem hk]; rfl
    · have := h.size
      rw [List.getElem?_eq_none (by simp; omega), List.getElem?_eq_none (by omega)]
  have hw := h.vw
  refine ⟨l, hl, ⟨fun n hn => ?_, i, by rw [he, hl]; exact hw⟩, ?_⟩
  · obtain ⟨k, hk, rfl⟩ := List.getElem_of_mem hn
    exact (hp k hk).2
  · have := h.max
    rw [hl]
    exact this
theorem val_of {g : Nat → Option Value} (h : Cl H VK g) : ∃ v b c, g 0 = some (.int .i64 v.kind) ∧ g 1 = some (.int .i64 v.num) ∧ g 2 = some (.string v.text) ∧ g 3 = some (.slice b v.list.length c) ∧ VIs H v b ∧ VLs v := by
  obtain ⟨k, h0, _⟩ := h.int 0 rfl
  obtain ⟨n, h1, hn⟩ := h.int 1 rfl
  obtain ⟨t, h2, ht⟩ := h.str 2 rfl
  obtain ⟨b, len, cap, i, vs, h3, hS⟩ := h.sl 3 rfl rfl
  obtain ⟨l, hl, hN, hm⟩ := nums_of hS
  subst hl
  exact ⟨⟨k, n, t, l⟩, b, cap, h0, h1, h2, h3, ⟨hn, hN.ok, hN.view⟩, ⟨ht, hm⟩⟩
theorem vals_of (h : Sl H VK 4 b len cap i vs) : ∃ l : List Val, l.length = len ∧ RIs H b l ∧ ∀ v ∈ l, VLs v := by
  obtain ⟨l, hl, hp⟩ := exists_list len (fun k v => ∃ b' c', vs[k * 4]? = some (.int .i64 v.kind) ∧ vs[k * 4 + 1]? = some (.int .i64 v.num) ∧ vs[k * 4 + 2]? = some (.string v.text) ∧ vs[k * 4 + 3]? = some (.slice b' v.list.length c') ∧ VIs H v b' ∧ VLs v) (fun k hk => by
    obtain ⟨v, b', c', h0⟩ := val_of (Cl.of_sl h hk)
    exact ⟨v, b', c', h0⟩)
  have hw := h.vw
  refine ⟨l, hl, ⟨i, vs, by rw [hl]; exact hw, fun k hk => ?_⟩, fun v hv => ?_⟩
  · obtain ⟨b', c', g0, g1, g2, g3, g4, g5⟩ := hp k hk
    exact ⟨b', c', g0, g1, g2, g3, g4⟩
  · obtain ⟨k, hk, rfl⟩ := List.getElem_of_mem hv
    obtain ⟨b', c', g0, g1, g2, g3, g4, g5⟩ := hp k hk
    exact g5
/-- A message that memory holds. -/
structure MLw (m : Mai) : Prop where
  chan : m.chan.size ≤ 140737488351232
  keys : ∀ v ∈ m.key, VLs v
  fieldss : ∀ v ∈ m.fields, VLs v
theorem MLw.few {m : Mai} (h : MLw m) (h1 : m.key.length ≤ 40) (h2 : m.fields.length ≤ 40) : MLs m := ⟨h.chan, h1, h2, h.keys, h.fieldss⟩
theorem mail_of {g : Nat → Option Value} (h : Cl H MK g) : ∃ m kb kc fb fc, g 0 = some (.int .i64 m.id) ∧ g 1 = some (.string m.chan) ∧ g 2 = some (.slice kb m.key.length kc) ∧ g 3 = some (.slice fb m.fields.length fc) ∧ MIs H m kb fb ∧ MLw m := by
  obtain ⟨n, h0, hn⟩ := h.int 0 rfl
  obtain ⟨t, h1, ht⟩ := h.str 1 rfl
  obtain ⟨b, len, cap, i, vs, h2, hS⟩ := h.sl 2 rfl rfl
  obtain ⟨b', len', cap', i', vs', h3, hS'⟩ := h.sl 3 rfl rfl
  obtain ⟨l, hl, hN, hm⟩ := vals_of hS
  obtain ⟨l', hl', hN', hm'⟩ := vals_of hS'
  subst hl hl'
  exact ⟨⟨n, t, l, l'⟩, b, cap, b', cap', h0, h1, h2, h3, ⟨hn, hN, hN'⟩, ⟨ht, hm, hm'⟩⟩
theorem mails_of (h : Sl H MK 4 b len cap i vs) : ∃ l : List Mai, l.length = len ∧ BIs H b l ∧ (∀ v ∈ l, MLw v) ∧ l.length ≤ 140737488351232 := by
  obtain ⟨l, hl, hp⟩ := exists_list len (fun k m => ∃ kb kc fb fc, vs[k * 4]? = some (.int .i64 m.id) ∧ vs[k * 4 + 1]? = some (.string m.chan) ∧ vs[k * 4 + 2]? = some (.slice kb m.key.length kc) ∧ vs[k * 4 + 3]? = some (.slice fb m.fields.length fc) ∧ MIs H m kb fb ∧ MLw m) (fun k hk => mail_of (Cl.of_sl h hk))
  have hw := h.vw
  refine ⟨l, hl, ⟨i, vs, by rw [hl]; exact hw, fun k hk => ?_⟩, fun v hv => ?_, ?_⟩
  · obtain ⟨kb, kc, fb, fc, g0, g1, g2, g3, g4, g5⟩ := hp k hk
    exact ⟨kb, kc, fb, fc, g0, g1, g2, g3, g4⟩
  · obtain ⟨k, hk, rfl⟩ := List.getElem_of_mem hv
    obtain ⟨kb, kc, fb, fc, g0, g1, g2, g3, g4, g5⟩ := hp k hk
    exact g5
  · have h1 : len * 72 ≤ 140737488351232 := h.max
    omega
structure ILw (x : Ite) : Prop where
  typ : x.typ.size ≤ 140737488351232
  state : x.state.size ≤ 140737488351232
  vals : ∀ v ∈ x.attrs, VLs v
  box : x.box.length ≤ 140737488351232
  mails : ∀ m ∈ x.box, MLw m
theorem item_of {g : Nat → Option Value} (h : Cl H IK g) : ∃ (x : Ite) (ab : Option Addr) (ac : Nat) (cb : Option Addr) (cc : Nat) (bb : Option Addr) (bc : Nat), g 0 = some (.int .i64 x.id) ∧ g 1 = some (.string x.typ) ∧ g 2 = some (.string x.state) ∧ g 3 = some (.int .i64 x.since) ∧ g 4 = some (.slice ab x.attrs.length ac) ∧ g 5 = some (.slice cb x.counts.length cc) ∧ g 6 = some (.slice bb x.box.length bc) ∧ IIs H x ab cb bb ∧ ILw x := by
  obtain ⟨n, h0, hn⟩ := h.int 0 rfl
  obtain ⟨t, h1, ht⟩ := h.str 1 rfl
  obtain ⟨s, h2, hs⟩ := h.str 2 rfl
  obtain ⟨n3, h3, hn3⟩ := h.int 3 rfl
  obtain ⟨b, len, cap, i, vs, h4, hS⟩ := h.sl 4 rfl rfl
  obtain ⟨b', len', cap', i', vs', h5, hS'⟩ := h.sl 5 rfl rfl
  obtain ⟨b2, len2, cap2, i2, vs2, h6, hS2⟩ := h.sl 6 rfl rfl
  obtain ⟨l, hl, hN, hm⟩ := vals_of hS
  obtain ⟨l', hl', hN', hm'⟩ := nums_of hS'
  obtain ⟨l2, hl2, hN2, hm2, hm3⟩ := mails_of hS2
  subst hl hl' hl2
  exact ⟨⟨n, t, s, n3, l, l', l2⟩, b, cap, b', cap', b2, cap2, h0, h1, h2, h3, h4, h5, h6, ⟨hn, hn3, hN, hN', hN2⟩, ⟨ht, hs, hm, hm3, hm2⟩⟩
theorem dead_of {g : Nat → Option Value} (h : Cl H DK g) : ∃ (x : Dea) (kb : Option Addr) (kc : Nat) (fb : Option Addr) (fc : Nat), g 0 = some (.int .i64 x.n) ∧ g 1 = some (.int .i64 x.mail.id) ∧ g 2 = some (.string x.mail.chan) ∧ g 3 = some (.slice kb x.mail.key.length kc) ∧ g 4 = some (.slice fb x.mail.fields.length fc) ∧ g 5 = some (.int .i64 x.reason) ∧ i64ok x.n ∧ MIs H x.mail kb fb ∧ MLw x.mail := by
  obtain ⟨n, h0, hn⟩ := h.int 0 rfl
  have hm : Cl H MK (fun j => g (1 + j)) := fun j kk hj => h (1 + j) kk (by
    match j, hj with
    | 0, hj => exact hj
    | 1, hj => exact hj
    | 2, hj => exact hj
    | 3, hj => exact hj)
  obtain ⟨m, kb, kc, fb, fc, h1, h2, h3, h4, h5, h6⟩ := mail_of hm
  obtain ⟨r, h7, hr⟩ := h.int 5 rfl
  exact ⟨⟨n, m, r⟩, kb, kc, fb, fc, h0, h1, h2, h3, h4, h7, hn, h5, h6⟩
structure ELw (x : Evt) : Prop where
  name : x.name.size ≤ 140737488351232
  typ : x.typ.size ≤ 140737488351232
  state : x.state.size ≤ 140737488351232
  vals : ∀ v ∈ x.attrs, VLs v
theorem event_of {g : Nat → Option Value} (h : Cl H EK g) : ∃ (x : Evt) (ab : Option Addr) (ac : Nat), g 0 = some (.int .i64 x.n) ∧ g 1 = some (.int .i64 x.tick) ∧ g 2 = some (.string x.name) ∧ g 3 = some (.int .i64 x.item) ∧ g 4 = some (.string x.typ) ∧ g 5 = some (.string x.state) ∧ g 6 = some (.slice ab x.attrs.length ac) ∧ i64ok x.n ∧ i64ok x.tick ∧ i64ok x.item ∧ RIs H ab x.attrs ∧ ELw x := by
  obtain ⟨n, h0, hn⟩ := h.int 0 rfl
  obtain ⟨n1, h1, hn1⟩ := h.int 1 rfl
  obtain ⟨t, h2, ht⟩ := h.str 2 rfl
  obtain ⟨n3, h3, hn3⟩ := h.int 3 rfl
  obtain ⟨t4, h4, ht4⟩ := h.str 4 rfl
  obtain ⟨t5, h5, ht5⟩ := h.str 5 rfl
  obtain ⟨b, len, cap, i, vs, h6, hS⟩ := h.sl 6 rfl rfl
  obtain ⟨l, hl, hN, hm⟩ := vals_of hS
  subst hl
  exact ⟨⟨n, n1, t, n3, t4, t5, l⟩, b, cap, h0, h1, h2, h3, h4, h5, h6, hn, hn1, hn3, hN, ⟨ht, ht4, ht5, hm⟩⟩
theorem sub_of {g : Nat → Option Value} (h : Cl H SK3 g) : ∃ x : Sbs, g 0 = some (.int .i64 x.id) ∧ g 1 = some (.string x.role) ∧ g 2 = some (.int .i64 x.past) ∧ i64ok x.id ∧ i64ok x.past ∧ x.role.size ≤ 140737488351232 := by
  obtain ⟨n, h0, hn⟩ := h.int 0 rfl
  obtain ⟨t, h1, ht⟩ := h.str 1 rfl
  obtain ⟨n2, h2, hn2⟩ := h.int 2 rfl
  exact ⟨⟨n, t, n2⟩, h0, h1, h2, hn, hn2, ht⟩
end
/-- A list by its cells. -/
theorem list_of {vs : List Value} {n : Nat} (hl : vs.length = n) (w : List Value) (hw : w.length = n) (h : ∀ k, k < n → vs[k]? = w[k]?) : vs = w := by
  apply List.ext_getElem?
  intro k
  by_cases hk : k < n
  · exact h k hk
  · rw [List.getElem?_eq_none (by omega), List.getElem?_eq_none (by omega)]
end Go.Proofs.Ytfghglacfjncmaa
