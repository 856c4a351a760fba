/- The rules of the small program logic are right: codes and calls. -/
import Derived.Test.YtfghglacfjncmaaWAbsT
import Derived.Deep.LoopGhost
namespace Go.Proofs.Ytfghglacfjncmaa
set_option linter.unusedVariables false
set_option linter.unusedSimpArgs false
open Go.RowKit

section
variable {D : List Deferred} {P : Program} {B : Nat} {w0 : World} {μ : Mu} {H : AH} {w : World}

/-- Code. -/
theorem awp_ok (hm : P.follows .mixedOrders = true) (c : Code) : codeOK c = true → ∀ (Q : AExit → List Value → AH → Prop) (tm : List Value) (H : AH), awp P c Q tm H → AWP P c Q tm H := by
  induction c with
  | skip =>
    intro hc Q tm H h D B w0 μ w ca hD hr ht
    exact wp_skip ⟨_, _, _, _, h, Mu.le_refl _, hr, ht, rfl, trivial⟩
  | region id ops draw =>
    intro hc Q tm H h D B w0 μ w ca hD hr ht
    simp only [codeOK, Bool.and_eq_true] at hc
    cases draw with
    | true =>
      obtain rfl : D = [] := hD.resolve_right (by simp [noDraw])
      exact wp_region_any hm (Tree.any _ _ _ _ _ _ _ _ _ (adraw_ok ops hc.1 (by simpa using hc.2) _ _ 0 [] tm ca μ H _ (MaskR.init _) (fun _ hp => by cases hp) h (hr.drawn (w.drawn + 1)) ht) (Mu.le_refl _) (hr.drawn (w.drawn + 1)) ht)
    | false =>
      refine wp_region ?_
      have := aops_ok (D := D) (B := B) (w0 := w0) ops ops.toList 0 tm ca μ H w hc.1 rfl h hr ht
      rw [Array.length_toList, ← List.range_eq_range'] at this
      exact this
  | seq a b iha ihb =>
    intro hc Q tm H h D B w0 μ w ca hD hr ht
    simp only [codeOK, Bool.and_eq_true] at hc
    refine wp_seq (wp_mono (iha hc.1 _ _ _ h D B w0 μ w ca (hD.imp id fun e => by simp [noDraw] at e; exact e.1) hr ht) ?_)
    rintro e ⟨ca', ds⟩ w' ⟨e', tm', H', μ', h1, h2, h3, h4, rfl, h5⟩
    cases e' with
    | normal =>
      cases e <;> simp only [exitR] at h5
      exact wp_mono (ihb hc.2 _ _ _ h1 _ B w0 μ' w' ca' (hD.imp id fun e => by simp [noDraw] at e; exact e.2) h3 h4) fun _ _ _ hh => lift.le h2 hh
    | _ =>
      cases e <;> simp only [exitR] at h5 <;> exact ⟨_, _, _, _, h1, h2, h3, h4, rfl, h5⟩
  | cond c a b iha ihb =>
    intro hc Q tm H h D B w0 μ w ca hD hr ht
    simp only [codeOK, Bool.and_eq_true] at hc
    simp only [awp] at h
    split at h
    · rename_i t
      rcases aIf_cases h with ⟨hb, h⟩ | ⟨hb, h⟩
      · have hx := getD_bool hb
        obtain ⟨v', g1, g2⟩ := ht.2 t _ hx
        cases g2
        have hev : Act.eval { tmps := ca, defers := D } (.tmp t) = .bool true := by simp [Act.eval, Array.getD_eq_getD_getElem?, g1]
        rw [set_bool hx] at h
        exact wp_cond hev (iha hc.1 _ _ _ h D B w0 μ w ca (hD.imp id fun e => by simp [noDraw] at e; exact e.1) hr ht)
      · have hx := getD_bool hb
        obtain ⟨v', g1, g2⟩ := ht.2 t _ hx
        cases g2
        have hev : Act.eval { tmps := ca, defers := D } (.tmp t) = .bool false := by simp [Act.eval, Array.getD_eq_getD_getElem?, g1]
        rw [set_bool hx] at h
        exact wp_cond hev (ihb hc.2 _ _ _ h D B w0 μ w ca (hD.imp id fun e => by simp [noDraw] at e; exact e.2) hr ht)
    · rename_i v
      rcases aIf_cases h with ⟨rfl, h⟩ | ⟨rfl, h⟩
      · exact wp_cond (t := true) rfl (iha hc.1 _ _ _ h D B w0 μ w ca (hD.imp id fun e => by simp [noDraw] at e; exact e.1) hr ht)
      · exact wp_cond (t := false) rfl (ihb hc.2 _ _ _ h D B w0 μ w ca (hD.imp id fun e => by simp [noDraw] at e; exact e.2) hr ht)
    · exact h.elim
  | block id c ih =>
    intro hc Q tm H h D B w0 μ w ca hD hr ht
    refine wp_block (wp_mono (ih hc _ _ _ h D B w0 μ w ca hD hr ht) ?_)
    rintro e ⟨ca', ds⟩ w' ⟨e', tm', H', μ', h1, h2, h3, h4, rfl, h5⟩
    cases e' with
    | exit id' =>
      cases e <;> simp only [exitR] at h5
      subst h5
      simp only [AExit.inBlock] at h1
      simp only [Exit.inBlock]
      split
      · rename_i e; rw [e, beq_self_eq_true] at h1; exact ⟨_, _, _, _, h1, h2, h3, h4, rfl, trivial⟩
      · rename_i e
        rw [beq_eq_false_iff_ne.2 e] at h1
        exact ⟨_, _, _, _, h1, h2, h3, h4, rfl, rfl⟩
    | _ =>
      cases e <;> simp only [exitR] at h5 <;> exact ⟨_, _, _, _, h1, h2, h3, h4, rfl, h5⟩
  | loop c ih =>
    intro hc Q tm H h D B w0 μ w ca hD hr ht
    obtain ⟨I, ⟨n, hn⟩, hI⟩ := h
    refine wp_loop_ghost (fun n a w => ∃ tm H μ', I n tm H ∧ Mu.le μ μ' ∧ Rel B w0 μ' H w ∧ LR μ' tm a.tmps ∧ a.defers = D) n ⟨tm, H, μ, hn, Mu.le_refl _, hr, ht, rfl⟩ ?_
    rintro n ⟨ca', ds⟩ w' ⟨tm', H', μ', h1, h2, h3, h4, rfl⟩
    refine wp_mono (ih hc _ _ _ (hI n tm' H' h1) _ B w0 μ' w' ca' hD h3 h4) ?_
    rintro e ⟨ca'', ds⟩ w'' ⟨e', tm'', H'', μ'', g1, g2, g3, g4, rfl, g5⟩
    cases e' with
    | normal =>
      cases e <;> simp only [exitR] at g5
      obtain ⟨m, hm, g1⟩ := g1
      exact ⟨m, hm, tm'', H'', μ'', g1, Mu.le_trans h2 g2, g3, g4, rfl⟩
    | _ =>
      cases e <;> simp only [exitR] at g5 <;> exact ⟨_, _, _, _, g1, Mu.le_trans h2 g2, g3, g4, rfl, g5⟩
  | exit id =>
    intro hc Q tm H h D B w0 μ w ca hD hr ht
    exact wp_exit ⟨_, _, _, _, h, Mu.le_refl _, hr, ht, rfl, rfl⟩
  | ret =>
    intro hc Q tm H h D B w0 μ w ca hD hr ht
    exact wp_ret ⟨_, _, _, _, h, Mu.le_refl _, hr, ht, rfl, trivial⟩
  | _ => intro _ Q tm H h; exact h.elim

theorem lr_args {args : List Value} {cargs : Array Value} (h : LR μ args cargs) (n : Nat) : LR μ (args ++ List.replicate (n - args.length) undef) (cargs ++ Array.replicate (n - cargs.size) undef) := by
  have e := h.1
  rw [← e]
  refine h.append ⟨by simp, fun j v hv => ?_⟩
  have hlt := (List.getElem?_eq_some_iff.1 hv).1
  rw [List.getElem?_replicate] at hv
  simp at hlt
  rw [if_pos hlt] at hv
  cases hv
  exact ⟨undef, by simp [hlt], VR.undef⟩

theorem results_ok (hr : Rel B w0 μ H w) {fn : Func} {tm : List Value} {ca : Array Value} (ht : LR μ tm ca) {R : AEnd → AH → Prop} (h2 : aPost P fn R .ret tm H) :
    ∃ v cv, (results fn ca).run P w = .ok cv w ∧ R (.ret v) H ∧ VR μ v cv := by
  simp only [aPost] at h2
  have hm : ∀ (l : List ResultVar) (K : List Value → Prop), aRes P tm H l K →
      ∃ l' L : List Value, (l.mapM (m := Sem) fun
        | .tmp t => pure (ca.getD t undef)
        | .cell a t => do loadVar t (← asAddr (ca.getD a undef))).run P w = .ok l' w ∧ LR μ L l'.toArray ∧ K L ∧ L.length = l.length := by
    intro l
    induction l with
    | nil => intro K h; exact ⟨[], [], by simp, by simp [LR], h, rfl⟩
    | cons x l ih =>
      intro K h
      have one : ∀ (v cv : Value), VR μ v cv → LR μ [v] #[cv] := fun v cv hv => ⟨rfl, fun j v' hj => by
        cases j with
        | zero => simp at hj; subst hj; exact ⟨_, rfl, hv⟩
        | succ j => simp at hj⟩
      cases x with
      | tmp t =>
        obtain ⟨l', L, g1, g2, g3, g4⟩ := ih _ h
        refine ⟨ca.getD t undef :: l', tm.getD t undef :: L, ?_, ?_, g3, by simp [g4]⟩
        · simp only [List.mapM_cons, Sem.run_bind, Sem.run_pure, Result.andThen_ok, g1]
        · have := (one _ _ (by simpa using ht.getD t)).append g2
          simpa using this
      | cell a t =>
        have hl : aLoad P t (tm.getD a undef) H fun v => aRes P tm H l fun vs => K (v :: vs) := wLoad_of h
        have hx : VR μ (tm.getD a undef) (ca.getD a undef) := ht.getD a
        obtain ⟨v, cv, r1, r2, r3⟩ := load_ok (P := P) hr hx hl
        obtain ⟨l', L, g1, g2, g3, g4⟩ := ih _ r2
        obtain ⟨ad, had⟩ : ∃ ad, ca.getD a undef = .pointer (some ad) := by
          generalize hcx : ca.getD a undef = cx at hx r1
          generalize tm.getD a undef = ax at hx hl
          unfold aLoad at hl
          split at hl
          · cases hx; exact ⟨_, rfl⟩
          · exact hl.elim
        refine ⟨cv :: l', v :: L, ?_, ?_, g3, by simp [g4]⟩
        · rw [had] at r1
          simp only [Instr.loadAt, Instr.sureAddr, Sem.run_bind, Sem.run_pure, Result.andThen_ok] at r1
          have ha : (asAddr (.pointer (some ad))).run P w = .ok ad w := by simp [asAddr]
          simp only [List.mapM_cons, Sem.run_bind, Sem.run_pure]
          rw [had, ha, Result.andThen_ok, r1, Result.andThen_ok, g1, Result.andThen_ok]
        · have := (one _ _ r3).append g2
          simpa using this
  obtain ⟨l', L, g1, g2, h2, g4⟩ := hm fn.results.toList _ h2
  have hrun : (fn.results.mapM (m := Sem) fun
        | .tmp t => pure (ca.getD t undef)
        | .cell a t => do loadVar t (← asAddr (ca.getD a undef))).run P w = .ok l'.toArray w := by
    rw [Array.mapM_eq_mapM_toList, Sem.run_map, g1]
    rfl
  have hLl : L.length = l'.length := by have := g2.1; simpa using this
  have hres : (results fn ca).run P w = .ok (if h : l'.toArray.size = 1 then l'.toArray[0] else .tuple l'.toArray) w := by
    unfold results
    rw [Sem.run_bind]
    exact congrArg (fun r : Result (Array Value) => r.andThen fun a w' => (pure (if h : a.size = 1 then a[0] else .tuple a) : Sem Value).run P w') hrun
  by_cases h1l : l'.length = 1
  · obtain ⟨cv, rfl⟩ := List.length_eq_one_iff.1 h1l
    obtain ⟨v, rfl⟩ := List.length_eq_one_iff.1 (hLl.trans h1l)
    refine ⟨v, cv, hres, h2, ?_⟩
    obtain ⟨v', k1, k2⟩ := g2.2 0 v rfl
    simp at k1; subst k1; exact k2
  · have hsz : ¬ l'.toArray.size = 1 := by simpa using h1l
    refine ⟨.tuple L.toArray, .tuple l'.toArray, by rw [hres, dif_neg hsz], ?_, ?_⟩
    · match L, hLl, h2 with
      | [], _, h2 => exact h2
      | [v], hLl, _ => exact absurd hLl.symm h1l
      | a :: b :: L, _, h2 => exact h2
    · refine .tuple (by simpa using g2.1) fun j v v' hv hv' => ?_
      obtain ⟨v'', k1, k2⟩ := g2.2 j v (by simpa using hv)
      rw [k1] at hv'; cases hv'; exact k2

/-- A function by its text. -/
theorem acall_of {f : FuncId} {fn : Func} {c : Code} {args : List Value} {R : AEnd → AH → Prop} (hm : P.follows .mixedOrders = true) (hf : P.funcs[f]? = some fn) (hb : fn.body = some c) (hc : codeOK c = true) (ho : resOK fn = true)
    (h : awp P c (aPost P fn R) (args ++ List.replicate (fn.ntmps - args.length) undef) H) : ACall P f args H R := by
  intro B w0 μ w cargs hr ha
  refine calls_of_wp hf hb (wp_mono (awp_ok hm c hc _ _ _ h [] B w0 μ w _ (.inl rfl) hr (lr_args ha fn.ntmps)) ?_)
  rintro e ⟨ca, ds⟩ w' ⟨e', tm, H', μ', h1, h2, h3, h4, rfl, h5⟩
  cases e' with
  | normal =>
    cases e <;> simp only [exitR] at h5
    obtain ⟨v, cv, k1, k2, k3⟩ := results_ok (P := P) h3 h4 h1
    exact ⟨rfl, cv, k1, .ret v, H', μ', k2, h2, h3, k3⟩
  | ret =>
    cases e <;> simp only [exitR] at h5
    obtain ⟨v, cv, k1, k2, k3⟩ := results_ok (P := P) h3 h4 h1
    exact ⟨rfl, cv, k1, .ret v, H', μ', k2, h2, h3, k3⟩
  | panic v =>
    cases e <;> simp only [exitR] at h5
    obtain ⟨v', rfl, h6⟩ := h5
    exact ⟨rfl, .panic v, H', μ', h1, h2, h3, v', rfl, h6⟩
  | exit i => exact h1.elim
  | goto l => exact h1.elim

end
end Go.Proofs.Ytfghglacfjncmaa
