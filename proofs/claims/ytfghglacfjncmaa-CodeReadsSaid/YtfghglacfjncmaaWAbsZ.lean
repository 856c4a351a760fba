/- Calls that are deferred, and recover. -/
import Derived.Test.YtfghglacfjncmaaWAbsL
import Derived.Test.YtfghglacfjncmaaWAbsK
import Derived.Defers
import Derived.Recover
namespace Go.Proofs.Ytfghglacfjncmaa
set_option linter.unusedVariables false
set_option linter.unusedSimpArgs false
open Go.RowKit

/-- An operation of a region. -/
def opAt (c : Code) (k : Nat) : Oper := ((opsOf c)[k]?).getD ⟨none, .move (.const undef), 0, "", #[], none⟩
/-- In what state a caller is left: by a return, or by a panic. -/
def UR (μ : Mu) (r : Option Value) (u : FrameMode) : Prop :=
  match r with
  | none => u = .returning
  | some v => ∃ v', u = .panicking [{ v := v', recovered := false }] ∧ VR μ v v'
/-- A call of g that was deferred: it recovers. -/
def ADef (P : Program) (g : FuncId) (args : List Value) (r : Option Value) (H : AH) (R : AH → Prop) : Prop :=
  ∀ B w0 μ w cargs u, Rel B w0 μ H w → LR μ args cargs → UR μ r u →
    CallsD P g cargs u w fun e u' w' => (∃ x, e = .returned x) ∧ settle u' = .returning ∧ ∃ H' μ', R H' ∧ Mu.le μ μ' ∧ Rel B w0 μ' H' w'
/-- How a function ends that has deferred a call. -/
def DPost (P : Program) (fn : Func) (g : FuncId) (caps : List Value) (R : AEnd → AH → Prop) : AExit → List Value → AH → Prop
  | .normal, tm, H => ADef P g caps none H fun H' => aPost P fn R .ret tm H'
  | .ret, tm, H => ADef P g caps none H fun H' => aPost P fn R .ret tm H'
  | .panic v, tm, H => ADef P g caps (some v) H fun H' => aPost P fn R .ret tm H'
  | _, _, _ => False
def aCap (tm : List Value) (caps : List Tmp) : List Value := caps.map fun t => tm.getD t undef
section
variable {P : Program}
theorem acall_defer {f g : FuncId} {fn : Func} {c0 c2 : Code} {id : Nat} {o0 o1 : Oper} {t7 : Tmp} {cp : List Tmp} {args : List Value} {H : AH} {R : AEnd → AH → Prop} (hm : P.follows .mixedOrders = true) (hf : P.funcs[f]? = some fn)
    (hb : fn.body = some (.seq c0 (.seq (.region id #[o0, o1] false) c2))) (hc0 : codeOK c0 = true) (hc2 : codeOK c2 = true) (hd2 : noDraw c2 = true)
    (ho0 : o0.op = .makeFunc (.func g) #[] (cp.map Operand.tmp).toArray) (hd0 : o0.dst = some t7) (hg0 : o0.guard = none)
    (ho1 : o1.op = .defer { callee := .value (.tmp t7), args := #[], argTypes := #[] }) (hd1 : o1.dst = none) (hg1 : o1.guard = none) (hcall : callable P g = true)
    (h : awp P c0 (fun e tm H => match e with
      | .normal => t7 < tm.length ∧ awp P c2 (DPost P fn g (aCap tm cp) R) (tm.set t7 (.func (.func g) #[] (aCap tm cp).toArray)) H
      | _ => False) (args ++ List.replicate (fn.ntmps - args.length) undef) H) : ACall P f args H R := by
  intro B w0 μ w cargs hr ha
  refine calls_of_wp_defers hf hb (wp_seq (wp_mono (awp_ok hm c0 hc0 _ _ _ h [] B w0 μ w _ (.inl rfl) hr (lr_args ha fn.ntmps)) ?_))
  rintro e ⟨ca, ds⟩ w1 ⟨e', tm, H1, μ1, h1, h2, h3, h4, rfl, h5⟩
  cases e' with
  | normal =>
    cases e <;> simp only [exitR] at h5
    obtain ⟨h7, h1⟩ := h1
    have h4 : LR μ1 tm ca := h4
    have h7c : t7 < ca.size := by rw [← h4.1]; exact h7
    -- what is captured
    let cc : Array Value := (cp.map fun t => ca.getD t undef).toArray
    have hcc : LR μ1 (aCap tm cp) cc := by
      refine ⟨by simp [aCap, cc], fun j v hj => ?_⟩
      unfold aCap at hj
      rw [List.getElem?_map, Option.map_eq_some_iff] at hj
      obtain ⟨t, ht, rfl⟩ := hj
      exact ⟨ca.getD t undef, by simp [cc, ht], h4.getD t⟩
    have hfv : VR μ1 (.func (.func g) #[] (aCap tm cp).toArray) (.func (.func g) #[] cc) :=
      .func rfl (by simp [aCap, cc]) (fun j v v' hv _ => by simp at hv) (fun j v v' hv hv' => by
        obtain ⟨x, x1, x2⟩ := hcc.2 j v (by simpa using hv)
        rw [x1] at hv'; cases hv'; exact x2)
    have hset : LR μ1 (tm.set t7 (.func (.func g) #[] (aCap tm cp).toArray)) (ca.setIfInBounds t7 (.func (.func g) #[] cc)) := h4.set t7 hfv
    refine wp_seq (wp_region ?_)
    have hcaps : ((cp.map Operand.tmp).toArray.map (Act.eval { tmps := ca, defers := [] })) = cc := by
      simp [cc, Act.eval, Function.comp_def]
    have hr0 : (execOp (Act.eval { tmps := ca, defers := [] }) o0).run P w1 = .ok (.value (.func (.func g) #[] cc)) w1 := by
      simp [execOp, ho0, Instr.makeFunc, ← hcaps]
    have hev : Act.eval { tmps := ca.setIfInBounds t7 (.func (.func g) #[] cc), defers := [] } (.tmp t7) = .func (.func g) #[] cc := by
      simp [Act.eval, Array.getD_eq_getD_getElem?, h7c]
    have hr1 : (execOp (Act.eval { tmps := ca.setIfInBounds t7 (.func (.func g) #[] cc), defers := [] }) o1).run P w1 = .ok (.defer { target := .fn (.func g) cc, args := #[] }) w1 := by
      simp only [execOp, ho1, resolve, hev, Deferred.ofValue]
      simp
    have hw0 : ∀ y, Region.wanted o0 y = true := fun y => by simp [Region.wanted, hg0]
    have hw1 : ∀ y, Region.wanted o1 y = true := fun y => by simp [Region.wanted, hg1]
    have hp0 : (({ tmps := ca, defers := [] } : Act).put o0.dst (.func (.func g) #[] cc)) = { tmps := ca.setIfInBounds t7 (.func (.func g) #[] cc), defers := [] } := by rw [hd0]; rfl
    show wpOps P #[o0, o1] _ [0, 1] _ _
    have e0 : (#[o0, o1] : Array Oper)[0]? = some o0 := rfl
    have e1 : (#[o0, o1] : Array Oper)[1]? = some o1 := rfl
    simp only [wpOps, e0, hw0, if_true]
    unfold Oper.wp
    rw [hr0]
    simp only [Oper.upon]
    rw [hp0]
    simp only [e1, hw1, if_true]
    rw [hr1]
    simp only [Oper.upon]
    rw [hd1]
    refine .inl (.inl ?_)
    show Code.wp P c2 _ { tmps := ca.setIfInBounds t7 (.func (.func g) #[] cc), defers := [⟨.fn (.func g) cc, #[]⟩] } w1
    refine wp_mono (awp_ok hm c2 hc2 _ _ _ h1 [⟨.fn (.func g) cc, #[]⟩] B w0 μ1 w1 _ (.inr hd2) h3 hset) ?_
    rintro e ⟨ca2, ds2⟩ w2 ⟨e', tm2, H2, μ2, g1, g2, g3, g4, g5, g6⟩
    simp only at g5
    subst g5
    have hinv : ∀ w, (invoke (.fn (.func g) cc) #[]).run P w = .ok (.enter g cc) w := fun w => by simp [invoke, callable_run hcall]
    have fin : ∀ (r : Option Value) (u : FrameMode), UR μ2 r u → u ≠ .run → LR μ2 tm2 ca2 → ADef P g (aCap tm cp) r H2 (fun H' => aPost P fn R .ret tm2 H') →
        Leaves P fn ca2 (fun e w' => ∃ e' H' μ', R e' H' ∧ Mu.le μ μ' ∧ Rel B w0 μ' H' w' ∧ endR μ' e' e) [⟨.fn (.func g) cc, #[]⟩] u w2 := by
      intro r u hu hrun hlr hdef
      refine ⟨hrun, .func g, cc, g, cc, rfl, hinv _, (hdef B w0 μ2 w2 cc u g3 (hcc.mono g2) hu).mono ?_⟩
      rintro e u' w3 ⟨⟨x, rfl⟩, hs, H3, μ3, k1, k2, k3⟩
      show Leaves P fn ca2 _ [] (settle u') w3
      rw [hs]
      obtain ⟨v, cv, z1, z2, z3⟩ := results_ok k3 (hlr.mono k2) k1
      exact ⟨cv, z1, .ret v, H3, μ3, z2, Mu.le_trans h2 (Mu.le_trans g2 k2), k3, z3⟩
    cases e' with
    | normal =>
      cases e <;> simp only [exitR] at g6
      exact fin none .returning rfl (by simp) g4 g1
    | ret =>
      cases e <;> simp only [exitR] at g6
      exact fin none .returning rfl (by simp) g4 g1
    | panic v =>
      cases e <;> simp only [exitR] at g6
      obtain ⟨v', rfl, g7⟩ := g6
      exact fin (some v) (.panicking _) ⟨v', rfl, g7⟩ (by simp) (g4 (by simp)) g1
    | exit i => exact g1.elim
    | goto l => exact g1.elim
  | _ => exact h1.elim
/-- A closure that recovers: its first operations ask what there is to recover; the rest is as other code. -/
theorem adef_of {g : FuncId} {fn : Func} {c2 : Code} {id : Nat} {o0 o1 : Oper} {t5 t2 : Tmp} {args : List Value} {r : Option Value} {H : AH} {R : AH → Prop} (hm : P.follows .mixedOrders = true) (hf : P.funcs[g]? = some fn)
    (hb : fn.body = some (.seq (.region id #[o0, o1] false) c2)) (hc2 : codeOK c2 = true) (hres : fn.results = #[])
    (ho0 : o0.op = .call { callee := .builtin .recover, args := #[], argTypes := #[] }) (hd0 : o0.dst = some t5) (hg0 : o0.guard = none)
    (ho1 : o1.op = .assign (.tmp t5)) (hd1 : o1.dst = some t2) (hg1 : o1.guard = none) (h5 : t5 < args.length + (fn.ntmps - args.length))
    (h : awp P c2 (fun e tm H' => match e with
      | .normal => R H'
      | .ret => R H'
      | _ => False) (((args ++ List.replicate (fn.ntmps - args.length) undef).set t5 (r.getD .nilIface)).set t2 (r.getD .nilIface)) H) : ADef P g args r H R := by
  intro B w0 μ w cargs u hr ha hu
  refine callsD_of_wpS hf hb (fun fr cs hfr => wpS_seq (wpS_region ?_))
  have hl := lr_args ha fn.ntmps
  have hsz : t5 < (cargs ++ Array.replicate (fn.ntmps - cargs.size) undef).size := by
    rw [← hl.1]; simpa using h5
  generalize hca : cargs ++ Array.replicate (fn.ntmps - cargs.size) undef = ca at hl hsz
  have hw0 : ∀ y, Region.wanted o0 y = true := fun y => by simp [Region.wanted, hg0]
  have hw1 : ∀ y, Region.wanted o1 y = true := fun y => by simp [Region.wanted, hg1]
  have hr0 : ∀ ρ, (execOp ρ o0).run P w = .ok .recover w := fun ρ => by
    simp only [execOp, ho0, resolve]
    simp [invoke]
    rfl
  show wpOpsS P #[o0, o1] _ [0, 1] _ _ _
  have e0 : (#[o0, o1] : Array Oper)[0]? = some o0 := rfl
  have e1 : (#[o0, o1] : Array Oper)[1]? = some o1 := rfl
  -- behind the two operations
  have tail : ∀ (cv : Value) (fr' : Frame), VR μ (r.getD .nilIface) cv → (∃ u', fr' = { fr with mode := u' } ∧ settle u' = .returning) →
      wpOpsS P #[o0, o1] (Exit.thenS (c2.wpS P (bodyPostS P fn fr cs fun e u' w' => (∃ x, e = .returned x) ∧ settle u' = .returning ∧ ∃ H' μ', R H' ∧ Mu.le μ μ' ∧ Rel B w0 μ' H' w')) (bodyPostS P fn fr cs fun e u' w' => (∃ x, e = .returned x) ∧ settle u' = .returning ∧ ∃ H' μ', R H' ∧ Mu.le μ μ' ∧ Rel B w0 μ' H' w')) [1] { tmps := ca.setIfInBounds t5 cv, defers := [] } (fr' :: cs) w := by
    rintro cv fr' hcv ⟨u', rfl, hs⟩
    have hr1 : (execOp (Act.eval { tmps := ca.setIfInBounds t5 cv, defers := [] }) o1).run P w = .ok (.value cv) w := by
      have : Act.eval { tmps := ca.setIfInBounds t5 cv, defers := [] } (.tmp t5) = cv := by simp [Act.eval, Array.getD_eq_getD_getElem?, hsz]
      simp only [execOp, ho1, this]
      rfl
    simp only [wpOpsS, e1, hw1, if_true]
    rw [hr1]
    simp only [Oper.upon]
    rw [hd1]
    show Code.wpS P c2 _ { tmps := (ca.setIfInBounds t5 cv).setIfInBounds t2 cv, defers := [] } _ w
    refine wpS_of_wp (wp_mono (awp_ok hm c2 hc2 _ _ _ h [] B w0 μ w _ (.inl rfl) hr ((hl.set t5 hcv).set t2 hcv)) ?_)
    rintro e ⟨ca2, ds2⟩ w2 ⟨e', tm2, H2, μ2, g1, g2, g3, g4, g5, g6⟩
    simp only at g5
    subst g5
    have hres2 : ∀ tm : Array Value, (results fn tm).run P w2 = .ok (.tuple #[]) w2 := fun tm => by
      unfold results
      rw [hres]
      simp
    cases e' with
    | normal =>
      cases e <;> simp only [exitR] at g6
      exact ⟨rfl, u', rfl, _, hres2 _, ⟨_, rfl⟩, hs, H2, μ2, g1, g2, g3⟩
    | ret =>
      cases e <;> simp only [exitR] at g6
      exact ⟨rfl, u', rfl, _, hres2 _, ⟨_, rfl⟩, hs, H2, μ2, g1, g2, g3⟩
    | panic v => exact g1.elim
    | exit i => exact g1.elim
    | goto l => exact g1.elim
  have hdst : ∀ cv, (({ tmps := ca, defers := [] } : Act).put o0.dst cv) = { tmps := ca.setIfInBounds t5 cv, defers := [] } := fun cv => by rw [hd0]; rfl
  rw [wpOpsS]
  simp only [e0, hw0, if_true]
  rw [hr0]
  cases r with
  | none =>
    have hu : u = .returning := hu
    have hrec : recoverD (fr :: cs) = none := by simp only [recoverD, hfr, hu]
    simp only [hrec]
    rw [hdst]
    exact tail .nilIface fr .nilIface ⟨.returning, by rw [← hu, ← hfr], rfl⟩
  | some v =>
    obtain ⟨v', hu, hv⟩ := hu
    have hrec : recoverD (fr :: cs) = some (v', { fr with mode := .panicking ({ v := v', recovered := true } :: []) } :: cs) := by simp only [recoverD, hfr, hu]
    simp only [hrec]
    rw [hdst]
    exact tail v' { fr with mode := .panicking ({ v := v', recovered := true } :: []) } hv ⟨_, rfl, rfl⟩
/-- The same, for the kernel. -/
noncomputable def D0 (P : Program) (fn : Func) (g : FuncId) (c2 : Code) (t7 : Tmp) (cp : List Tmp) (R : AEnd → AH → Prop) (e : AExit) (tm : List Value) (H : AH) : Prop := (fun (_ : Unit) =>
  match e with
  | .normal => wSt_ (decide (t7 < tm.length)) (forceL (tm.set t7 (.func (.func g) #[] (aCap tm cp).toArray)) fun tm' => awpF P c2 (DPost P fn g (aCap tm cp) R) tm' H)
  | _ => False) tag2
theorem acall_deferF {f g : FuncId} {fn : Func} {c c0 c2 : Code} {id : Nat} {o0 o1 : Oper} {t7 : Tmp} {cp : List Tmp} {args : List Value} {H : AH} {R : AEnd → AH → Prop} (hm : P.follows .mixedOrders = true) (hf : P.funcs[f]? = some fn)
    (hb : fn.body = some c) (hc : c = .seq c0 (.seq (.region id #[o0, o1] false) c2)) (hc0 : codeOK c0 = true) (hc2 : codeOK c2 = true) (hd2 : noDraw c2 = true)
    (ho0 : o0.op = .makeFunc (.func g) #[] (cp.map Operand.tmp).toArray) (hd0 : o0.dst = some t7) (hg0 : o0.guard = none)
    (ho1 : o1.op = .defer { callee := .value (.tmp t7), args := #[], argTypes := #[] }) (hd1 : o1.dst = none) (hg1 : o1.guard = none) (hcall : callable P g = true)
    (h : awpF P c0 (D0 P fn g c2 t7 cp R) (args ++ List.replicate (fn.ntmps - args.length) undef) H) : ACall P f args H R := by
  refine acall_defer hm hf (hb.trans (congrArg some hc)) hc0 hc2 hd2 ho0 hd0 hg0 ho1 hd1 hg1 hcall ?_
  have e : (D0 P fn g c2 t7 cp R) = (fun e tm H => match e with
      | .normal => wSt_ (decide (t7 < tm.length)) (awp P c2 (DPost P fn g (aCap tm cp) R) (tm.set t7 (.func (.func g) #[] (aCap tm cp).toArray)) H)
      | _ => False) := by
    funext e tm H
    cases e with
    | normal =>
      show wSt_ _ (forceL _ _) = _
      rw [forceL_eq, awpF_eq]
    | _ => rfl
  rw [awpF_eq, e] at h
  have e2 : (fun e tm H => match e with
      | .normal => wSt_ (decide (t7 < tm.length)) (awp P c2 (DPost P fn g (aCap tm cp) R) (tm.set t7 (.func (.func g) #[] (aCap tm cp).toArray)) H)
      | _ => False : AExit → List Value → AH → Prop) = (fun e tm H => match e with
      | .normal => t7 < tm.length ∧ awp P c2 (DPost P fn g (aCap tm cp) R) (tm.set t7 (.func (.func g) #[] (aCap tm cp).toArray)) H
      | _ => False) := by
    funext e tm H
    cases e with
    | normal =>
      apply propext
      exact ⟨fun x => ⟨of_decide_eq_true (wSt_of x).1, (wSt_of x).2⟩, fun x => by
        show wSt_ _ _
        rw [decide_eq_true x.1]
        exact x.2⟩
    | _ => rfl
  rw [e2] at h
  exact h
def C0 (R : AH → Prop) (e : AExit) (tm : List Value) (H : AH) : Prop := (fun (_ : Unit) =>
  match e with
  | .normal => R H
  | .ret => R H
  | _ => False) tag2
theorem adef_ofF {g : FuncId} {fn : Func} {c c2 : Code} {id : Nat} {o0 o1 : Oper} {t5 t2 : Tmp} {args : List Value} {r : Option Value} {H : AH} {R : AH → Prop} (hm : P.follows .mixedOrders = true) (hf : P.funcs[g]? = some fn)
    (hb : fn.body = some c) (hc : c = .seq (.region id #[o0, o1] false) c2) (hc2 : codeOK c2 = true) (hres : fn.results = #[])
    (ho0 : o0.op = .call { callee := .builtin .recover, args := #[], argTypes := #[] }) (hd0 : o0.dst = some t5) (hg0 : o0.guard = none)
    (ho1 : o1.op = .assign (.tmp t5)) (hd1 : o1.dst = some t2) (hg1 : o1.guard = none) (h5 : t5 < args.length + (fn.ntmps - args.length))
    (tm : List Value) (htm : tm = ((args ++ List.replicate (fn.ntmps - args.length) undef).set t5 (r.getD .nilIface)).set t2 (r.getD .nilIface))
    (h : awpF P c2 (C0 R) tm H) : ADef P g args r H R := by
  refine adef_of hm hf (hb.trans (congrArg some hc)) hc2 hres ho0 hd0 hg0 ho1 hd1 hg1 h5 ?_
  rw [awpF_eq, htm] at h
  have e : C0 R = (fun e tm H' => match e with
      | .normal => R H'
      | .ret => R H'
      | _ => False) := by
    funext e tm H
    cases e <;> rfl
  rw [e] at h
  exact h
end
end Go.Proofs.Ytfghglacfjncmaa
