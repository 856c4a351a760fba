/- The rules of the small program logic are right: operations, code, calls. -/
import Derived.Test.YtmidgfmopmpppaaVAbsI
import Derived.Deep.LoopGhost
namespace Go.Proofs.Ytmidgfmopmpppaa
set_option linter.unusedVariables false
set_option linter.unusedSimpArgs false
open Go.RowKit

section
variable {P : Program} {B : Nat} {w0 : World} {μ : Mu} {H : AH} {w : World}

/-- What an operation's value leads to. -/
theorem wp_of_sem {o : Oper} {ca : Array Value} {s : Sem Value} {K : KV} (h : SemOK P B w0 μ w s K) (he : execOp (Act.eval { tmps := ca, defers := [] }) o = (do pure (.value (← s)))) {next : Act → World → Prop} {Q : Exit → Act → World → Prop}
    (hK : ∀ v H' μ' w' cv, K v H' → Mu.le μ μ' → Rel B w0 μ' H' w' → VR μ' v cv → next (({ tmps := ca, defers := [] } : Act).put o.dst cv) w') : o.wp P { tmps := ca, defers := [] } w next Q := by
  obtain ⟨v, cv, H', μ', w', h1, h2, h3, h4, h5⟩ := h
  unfold Oper.wp
  rw [he]
  simp only [Sem.run_bind, h1, Result.andThen_ok, Sem.run_pure, Oper.upon]
  exact hK v H' μ' w' cv h2 h3 h4 h5

theorem or_of {tm : List Value} {ca : Array Value} (ht : LR μ tm ca) (x : Option Operand) (h : x.all operOK = true) : OR μ (x.map (ev tm)) (x.map (Act.eval { tmps := ca, defers := [] })) := by
  cases x with
  | none => exact .inl ⟨rfl, rfl⟩
  | some x => exact .inr ⟨_, _, rfl, rfl, ev_ok ht (by simpa using h)⟩

theorem lr_map {tm : List Value} {ca : Array Value} (ht : LR μ tm ca) (xs : Array Operand) (h : xs.all operOK = true) : LR μ (xs.toList.map (ev tm)) (xs.map (Act.eval { tmps := ca, defers := [] })) := by
  refine ⟨by simp, fun j v hj => ?_⟩
  rw [List.getElem?_map, Option.map_eq_some_iff] at hj
  obtain ⟨x, hx, rfl⟩ := hj
  rw [Array.getElem?_toList] at hx
  refine ⟨_, by rw [Array.getElem?_map, hx]; rfl, ev_ok ht ?_⟩
  rw [Array.all_eq_true] at h
  obtain ⟨hlt, he⟩ := Array.getElem?_eq_some_iff.1 hx
  rw [← he]; exact h j hlt

theorem pr_map {tm : List Value} {ca : Array Value} (ht : LR μ tm ca) (xs : Array (Nat × Operand)) (h : (xs.toList.map (·.2)).all operOK = true) :
    PR μ (xs.toList.map fun p => (p.1, ev tm p.2)) (xs.map fun (i, x) => (i, Act.eval { tmps := ca, defers := [] } x)).toList := by
  refine ⟨by simp, fun j q hj => ?_⟩
  rw [List.getElem?_map, Option.map_eq_some_iff] at hj
  obtain ⟨x, hx, rfl⟩ := hj
  refine ⟨(x.1, Act.eval { tmps := ca, defers := [] } x.2), by rw [Array.toList_map, List.getElem?_map, hx]; rfl, rfl, ev_ok ht ?_⟩
  exact List.all_eq_true.1 h _ (List.mem_map.2 ⟨x, List.mem_of_getElem? hx, rfl⟩)

theorem callable_run {f : FuncId} (h : callable P f = true) (args : Array Value) : (callFunc f args).run P w = .ok (.enter f args) w := by
  unfold callable at h
  split at h
  · rename_i fn hf
    simp only [Bool.and_eq_true, bne_iff_ne] at h
    have hb : ¬ fn.body = none := by intro e; simp [e] at h
    simp [callFunc, hf]
    rw [if_neg h.2, if_neg hb]
  · cases h

theorem call_ok (hr : Rel B w0 μ H w) {o : Oper} {tm : List Value} {ca : Array Value} (ht : LR μ tm ca) {f : Operand} {args : Array Operand} {types : Array TypeId} (ho : o.op = .call ⟨.value f, args, types⟩)
    (hf : operOK f = true) (ha : args.all operOK = true) {K Kp : KV} (h : aCall P (ev tm f) (args.toList.map (ev tm)) H K Kp) {next : Act → World → Prop} {Q : Exit → Act → World → Prop}
    (hK : ∀ v H' μ' w' cv, K v H' → Mu.le μ μ' → Rel B w0 μ' H' w' → VR μ' v cv → next (({ tmps := ca, defers := [] } : Act).put o.dst cv) w')
    (hKp : ∀ v H' μ' w' cv, Kp v H' → Mu.le μ μ' → Rel B w0 μ' H' w' → VR μ' v cv → Q (.panic [{ v := cv, recovered := false }]) { tmps := ca, defers := [] } w') :
    o.wp P { tmps := ca, defers := [] } w next Q := by
  unfold aCall at h
  have hfv := ev_ok (ds := []) ht hf
  split at h
  · rename_i g first captured hfe
    rw [hfe] at hfv
    obtain ⟨h1, h2⟩ := h
    generalize hfc : Act.eval { tmps := ca, defers := [] } f = fc at hfv
    cases hfv with
    | func s1 s2 v1 v2 =>
      rename_i first' captured'
      have hl1 : LR μ first.toList first' := ⟨by simpa using s1, fun j v hj => by
        rw [Array.getElem?_toList] at hj
        have hlt := (Array.getElem?_eq_some_iff.1 hj).1
        exact ⟨first'[j]'(by omega), by simp, v1 j v _ hj (by simp)⟩⟩
      have hl2 : LR μ captured.toList captured' := ⟨by simpa using s2, fun j v hj => by
        rw [Array.getElem?_toList] at hj
        have hlt := (Array.getElem?_eq_some_iff.1 hj).1
        exact ⟨captured'[j]'(by omega), by simp, v2 j v _ hj (by simp)⟩⟩
      have hl := (hl1.append (lr_map ht args ha)).append hl2
      have hc := h2 B w0 μ w _ hr hl
      have hrun : (execOp (Act.eval { tmps := ca, defers := [] }) o).run P w = .ok (.enter g (first' ++ args.map (Act.eval { tmps := ca, defers := [] }) ++ captured')) w := by
        simp [execOp, ho, resolve, hfc, Deferred.ofValue, invoke, callable_run h1]
      unfold Oper.wp
      rw [hrun]
      simp only [Oper.upon]
      refine hc.mono ?_
      rintro e w' ⟨e', H', μ', r1, r2, r3, r4⟩
      cases e' with
      | ret v =>
        cases e with
        | returned cv => exact hK v H' μ' w' cv r1 r2 r3 r4
        | panicked ch => exact r4.elim
        | outgrown => exact r4.elim
      | panic v =>
        cases e with
        | returned cv => exact r4.elim
        | panicked ch =>
          obtain ⟨v', rfl, r5⟩ := r4
          exact hKp v H' μ' w' v' r1 r2 r3 r5
        | outgrown => exact r4.elim
  · exact h.elim

theorem opok_mem {o : Op} (h : o.operands.all operOK = true) {x : Operand} (hx : x ∈ o.operands) : operOK x = true := by
  rw [Array.all_eq_true'] at h; exact h x hx

theorem builtin_ok (hr : Rel B w0 μ H w) {b : Builtin} {types : Array TypeId} {ty : TypeId} {args : List Value} {args' : Array Value} {consts : Array Bool} (ha : LR μ args args') {K : KV} (h : aBuiltin P b types.toList args H K) :
    ∃ s, SemOK P B w0 μ w s K ∧ builtin b types ty consts args' = (do pure (.value (← s))) := by
  unfold aBuiltin at h
  split at h
  · rename_i t ts x xs ht
    have h0 : types[0]? = some t := by rw [← Array.getElem?_toList, ht]; rfl
    obtain ⟨x', g1, g2⟩ := ha.2 0 x rfl
    exact ⟨_, ReadOK.sem hr (len_ok hr (ty := ty) h0 g1 g2 h), rfl⟩
  · exact ⟨_, PureOK.sem hr (maxmin_ok (mx := true) (types := types) (ty := ty) ha h), rfl⟩
  · exact ⟨_, PureOK.sem hr (maxmin_ok (mx := false) (types := types) (ty := ty) ha h), rfl⟩
  · rename_i t u ts x y ht
    have hsz : args'.size = 2 := by have := ha.1; simpa using this.symm
    obtain ⟨x', g1, g2⟩ := ha.2 0 x rfl
    obtain ⟨y', g3, g4⟩ := ha.2 1 y rfl
    have harg : args' = #[x', y'] := by
      apply Array.ext
      · simpa using hsz
      · intro j h1 h2
        have : j = 0 ∨ j = 1 := by simp at h2; omega
        rcases this with rfl | rfl
        · rw [Array.getElem?_eq_getElem h1] at g1; simpa using g1
        · rw [Array.getElem?_eq_getElem h1] at g3; simpa using g3
    subst harg
    have hty : ∀ ty, Builtin.append_ types ty #[x', y'] = Builtin.append_ #[t, u] ty #[x', y'] := by
      intro ty
      have e0 : types[0]? = (#[t, u] : Array TypeId)[0]? := by rw [← Array.getElem?_toList, ht]; rfl
      have e1 : types[1]? = (#[t, u] : Array TypeId)[1]? := by rw [← Array.getElem?_toList, ht]; rfl
      simp only [Builtin.append_]
      rw [e0, e1]
    split at h
    · rename_i e e' ht1 hu1
      split at h
      · rename_i a n c
        split at h
        · rename_i new hnew
          refine ⟨_, ?_, by simp only [builtin]; rw [hty]⟩
          rcases slice_cells (P := P) hr g4 hnew with ⟨rfl, rfl, rfl, rfl⟩ | ⟨ad, cap, l, rfl, k1, k2, k3⟩
          · exact append_ok hr ht1 hu1 (.inr ⟨_, rfl⟩) g2 (l := []) (by simp [Builtin.lenOf]) (by intro k; simp [Builtin.firstCells]) (by simp [LR]) h
          · exact append_ok hr ht1 hu1 (.inr ⟨_, rfl⟩) g2 (l := l) (by simp [Builtin.lenOf]) (fun k => by simp only [Builtin.firstCells]; exact k1 k) k3 h
        · exact h.elim
      · exact h.elim
    · rename_i e ht1 hu1
      split at h
      · rename_i s
        obtain ⟨h1, h⟩ := h
        refine ⟨_, ?_, by simp only [builtin]; rw [hty]⟩
        cases g4
        have hx : ((s.extract 0 s.size).data.map fun b => Value.int .u8 b.toNat) = (byteCells s).toArray := by
          have : s.extract 0 s.size = s := by simp
          rw [this]
          apply Array.ext'
          simp [byteCells]
        refine append_ok hr ht1 hu1 (.inl rfl) g2 (l := byteCells s) (by simp [Builtin.lenOf]) (fun k => ?_) ?_ h
        · simp only [Builtin.firstCells, hx, Sem.run_pure]
        · refine ⟨by simp, fun j v hv => ⟨v, by simpa using hv, ?_⟩⟩
          obtain ⟨_, rfl⟩ := byteCells_at s j v hv
          exact .int _ _
      · exact h.elim
    · exact h.elim
  · exact h.elim

theorem put_ok {tm : List Value} {ca : Array Value} (ht : LR μ tm ca) {v cv : Value} (hv : VR μ v cv) (d : Option Tmp) : LR μ (putT tm d v) (({ tmps := ca, defers := [] } : Act).put d cv).tmps := by
  cases d with
  | none => exact ht
  | some d => exact ht.set d hv
theorem put_defers {ca : Array Value} (d : Option Tmp) (cv : Value) : (({ tmps := ca, defers := [] } : Act).put d cv) = { tmps := (({ tmps := ca, defers := [] } : Act).put d cv).tmps, defers := [] } := by cases d <;> rfl

/-- One operation. -/
theorem op_ok (hr : Rel B w0 μ H w) {tm : List Value} {ca : Array Value} (ht : LR μ tm ca) {o : Oper} (hok : o.op.operands.all operOK = true) {K Kp : KV} (h : aop P tm o H K Kp) {next : Act → World → Prop} {Q : Exit → Act → World → Prop}
    (hK : ∀ v H' μ' w' cv, K v H' → Mu.le μ μ' → Rel B w0 μ' H' w' → VR μ' v cv → next (({ tmps := ca, defers := [] } : Act).put o.dst cv) w')
    (hKp : ∀ v H' μ' w' cv, Kp v H' → Mu.le μ μ' → Rel B w0 μ' H' w' → VR μ' v cv → Q (.panic [{ v := cv, recovered := false }]) { tmps := ca, defers := [] } w') :
    o.wp P { tmps := ca, defers := [] } w next Q := by
  obtain ⟨dst, op, type, pos, after, guard⟩ := o
  have hx : ∀ x ∈ op.operands, VR μ (ev tm x) (Act.eval { tmps := ca, defers := [] } x) := fun x hx => ev_ok ht (opok_mem hok hx)
  cases op with
  | move x => exact wp_of_sem ⟨_, _, _, _, _, rfl, h, Mu.le_refl _, hr, hx x (by simp [Op.operands])⟩ (s := pure (Act.eval { tmps := ca, defers := [] } x)) rfl hK
  | assign x => exact wp_of_sem ⟨_, _, _, _, _, rfl, h, Mu.le_refl _, hr, hx x (by simp [Op.operands])⟩ (s := pure (Act.eval { tmps := ca, defers := [] } x)) rfl hK
  | pick c a b =>
    refine wp_of_sem (PureOK.sem hr (pick_ok (hx c (by simp [Op.operands])) (hx a (by simp [Op.operands])) (hx b (by simp [Op.operands])) h)) ?_ hK
    simp [execOp]
  | alloc t => exact wp_of_sem (alloc_ok hr h) rfl hK
  | box t x => exact wp_of_sem (new_ok hr (t := t) (hx x (by simp [Op.operands])) h) rfl hK
  | build t ps =>
    refine wp_of_sem (PureOK.sem hr (build_ok (pr_map ht ps ?_) h)) rfl hK
    have := hok; simp only [Op.operands] at this; simpa using this
  | buildSlice t len ps =>
    refine wp_of_sem (buildSlice_ok hr (pr_map ht ps ?_) h) rfl hK
    have := hok; simp only [Op.operands] at this; simpa using this
  | load t a => exact wp_of_sem (ReadOK.sem hr (load_ok hr (hx a (by simp [Op.operands])) h)) rfl hK
  | store t a x =>
    obtain ⟨H', w', h1, h2, h3⟩ := store_ok hr (hx a (by simp [Op.operands])) (hx x (by simp [Op.operands])) h
    unfold Oper.wp
    have he : execOp (Act.eval { tmps := ca, defers := [] }) ⟨dst, .store t a x, type, pos, after, guard⟩ = (do Instr.storeAt t (Act.eval { tmps := ca, defers := [] } a) (Act.eval { tmps := ca, defers := [] } x); pure .skip) := rfl
    rw [he]
    simp only [Sem.run_bind, h1, Result.andThen_ok, Sem.run_pure, Oper.upon]
    exact hK _ _ _ _ _ h2 (Mu.le_refl _) h3 VR.undef
  | nilCheck x =>
    have hv := hx x (by simp [Op.operands])
    simp only [aop] at h
    unfold aNilCheck at h
    split at h
    · rename_i a ha
      rw [ha] at hv
      generalize hc : Act.eval { tmps := ca, defers := [] } x = c at hv
      cases hv with
      | ptr hp =>
        refine wp_of_sem ⟨_, _, _, _, _, rfl, h, Mu.le_refl _, hr, .ptr hp⟩ (s := pure _) ?_ hK
        simp [execOp, hc]
    · exact h.elim
  | binOp op t x y yt => exact wp_of_sem (PureOK.sem hr (bin_ok (x := x) (y := y) (hx x (by simp [Op.operands])) (hx y (by simp [Op.operands])) h)) rfl hK
  | unOp op t x => exact wp_of_sem (PureOK.sem hr (un_ok (hx x (by simp [Op.operands])) h)) rfl hK
  | convert s d x => exact wp_of_sem (convert_ok hr (hx x (by simp [Op.operands])) h) rfl hK
  | makeInterface t x =>
    obtain ⟨⟨d, hd, hne⟩, h⟩ := h
    refine wp_of_sem (s := Instr.makeInterface t (Act.eval { tmps := ca, defers := [] } x)) ⟨_, _, _, _, _, ?_, h, Mu.le_refl _, hr, .iface (hx x (by simp [Op.operands]))⟩ rfl hK
    simp only [Instr.makeInterface, Sem.run_bind, run_und hd, Result.andThen_ok]
    cases d <;> first | rfl | exact absurd rfl (hne _)
  | slice t x lo hi mx =>
    have h1 : lo.all operOK = true := by cases lo with | none => rfl | some y => exact opok_mem hok (by simp [Op.operands])
    have h2 : hi.all operOK = true := by cases hi with | none => rfl | some y => exact opok_mem hok (by simp [Op.operands])
    have h3 : mx.all operOK = true := by cases mx with | none => rfl | some y => exact opok_mem hok (by simp [Op.operands])
    exact wp_of_sem (PureOK.sem hr (slice_ok hr (hx x (by simp [Op.operands])) (or_of ht lo h1) (or_of ht hi h2) (or_of ht mx h3) h)) rfl hK
  | fieldAddr t x n => exact wp_of_sem (PureOK.sem hr (field_ok (hx x (by simp [Op.operands])) h)) rfl hK
  | field t x n => exact wp_of_sem (PureOK.sem hr (fieldOf_ok (hx x (by simp [Op.operands])) h)) rfl hK
  | indexAddr t x i => exact wp_of_sem (PureOK.sem hr (indexAddr_ok (hx x (by simp [Op.operands])) (hx i (by simp [Op.operands])) h)) rfl hK
  | index t x i => exact wp_of_sem (PureOK.sem hr (index_ok (hx x (by simp [Op.operands])) (hx i (by simp [Op.operands])) h)) rfl hK
  | extract x n => exact wp_of_sem (PureOK.sem hr (extract_ok (hx x (by simp [Op.operands])) h)) rfl hK
  | call c =>
    obtain ⟨callee, args, types⟩ := c
    have hargs : args.all operOK = true := by
      rw [Array.all_eq_true']
      intro x hxm
      exact opok_mem hok (by simp [Op.operands, Call.operands, hxm])
    cases callee with
    | builtin b =>
      obtain ⟨s, h1, h2⟩ := builtin_ok (ty := type) (consts := args.map fun | .const _ => true | _ => false) hr (lr_map ht args hargs) h
      refine wp_of_sem h1 ?_ hK
      rw [← h2]
      rfl
    | value f => exact call_ok hr ht rfl (opok_mem hok (by simp [Op.operands, Call.operands])) hargs h hK hKp
    | invoke r m => exact h.elim
  | _ => exact h.elim

theorem lift_panic {Q : AExit → List Value → AH → Prop} {tm : List Value} {ca : Array Value} (ht : LR μ tm ca) {v cv : Value} {H' : AH} {μ' : Mu} {w' : World} (h : Q (.panic v) tm H') (h1 : Mu.le μ μ') (h2 : Rel B w0 μ' H' w') (h3 : VR μ' v cv) :
    lift B w0 μ Q (.panic [{ v := cv, recovered := false }]) { tmps := ca, defers := [] } w' :=
  ⟨_, _, _, _, h, h1, h2, trivial, rfl, cv, rfl, h3⟩

theorem wpOps_mono {ops : Array Oper} {Q Q' : Exit → Act → World → Prop} (hq : ∀ e a w, Q e a w → Q' e a w) : ∀ (l : List Nat) (a : Act) (w : World), wpOps P ops Q l a w → wpOps P ops Q' l a w := by
  have hl : LetsOut Q → LetsOut Q' := fun ⟨a, w, h⟩ => ⟨a, w, hq _ _ _ h⟩
  intro l
  induction l with
  | nil => intro a w h; exact hq _ _ _ h
  | cons i l ih =>
    intro a w h
    simp only [wpOps] at h ⊢
    split at h
    · exact ih _ _ h
    · split at h
      · rename_i hw
        rw [if_pos hw]
        rcases h with h | ⟨h1, h2⟩
        · left
          unfold Oper.wp Oper.upon at h ⊢
          split at h
          · exact ih _ _ h
          · exact ih _ _ h
          · exact ih _ _ h
          · refine h.mono ?_
            intro e w' hh
            cases e with
            | returned v => exact ih _ _ hh
            | panicked ch => exact hq _ _ _ hh
            | outgrown => exact hl hh
          · exact h.mono fun v w' hh => ih _ _ hh
          · exact hq _ _ _ h
          · exact h
        · exact .inr ⟨h1, hl h2⟩
      · rename_i hw
        rw [if_neg hw]
        exact ih _ _ h

theorem yielded_none {tm : List Value} {ca : Array Value} (ht : LR μ tm ca) {ops : Array Oper} {j : Nat} {t : Tmp} {cs : Array Value} (hd : (ops[j]?).bind (·.dst) = some t) (hb : tm.getD t undef = .tuple cs) : yielded ops ca j = none := by
  unfold yielded
  rw [hd]
  simp only [Option.bind_some]
  by_cases hlt : t < tm.length
  · have hbs : tm[t]? = some (.tuple cs) := by
      rw [List.getD_eq_getElem?_getD] at hb
      simp only [List.getElem?_eq_getElem hlt, Option.getD_some] at hb
      rw [List.getElem?_eq_getElem hlt, hb]
    obtain ⟨v', h1, h2⟩ := ht.2 t _ hbs
    rw [h1]
    cases h2
    rfl
  · rw [Array.getElem?_eq_none (by rw [← ht.1]; exact Nat.le_of_not_lt hlt)]

/-- Operations, one behind the other. -/
theorem aops_ok (ops : Array Oper) {Q : AExit → List Value → AH → Prop} : ∀ (l : List Oper) (k : Nat) (tm : List Value) (ca : Array Value) (μ : Mu) (H : AH) (w : World),
    (l.all fun o => o.op.operands.toList.all operOK) = true → ops.toList.drop k = l → aops P ops Q l tm H → Rel B w0 μ H w → LR μ tm ca → wpOps P ops (lift B w0 μ Q) (List.range' k l.length) { tmps := ca, defers := [] } w := by
  intro l
  induction l with
  | nil =>
    intro k tm ca μ H w _ _ h hr ht
    exact ⟨_, _, _, _, h, Mu.le_refl _, hr, ht, rfl, trivial⟩
  | cons o l ih =>
    intro k tm ca μ H w hall hk h hr ht
    simp only [List.all_cons, Bool.and_eq_true] at hall
    have hok : o.op.operands.all operOK = true := by rw [← Array.all_toList]; exact hall.1
    replace ih := fun k tm ca μ H w => ih k tm ca μ H w hall.2
    have ho : ops[k]? = some o := by
      have := congrArg (fun l => l[0]?) hk
      simp only [List.getElem?_drop, Nat.add_zero, Array.getElem?_toList] at this
      simpa using this
    have hk' : ops.toList.drop (k + 1) = l := by
      have := congrArg (List.drop 1) hk
      simpa [List.drop_drop, Nat.add_comm] using this
    simp only [List.length_cons, List.range'_succ]
    simp only [aops] at h
    have step : ∀ (tm : List Value), LR μ tm ca → aop P tm o H (fun v H' => aops P ops Q l (putT tm o.dst v) H') (fun v H' => Q (.panic v) tm H') →
        o.wp P { tmps := ca, defers := [] } w (wpOps P ops (lift B w0 μ Q) (List.range' (k + 1) l.length)) (lift B w0 μ Q) := by
      intro tm ht h
      refine op_ok hr ht hok h ?_ ?_
      · intro v H' μ' w' cv h1 h2 h3 h4
        rw [put_defers]
        exact wpOps_mono (fun _ _ _ hh => lift.le h2 hh) _ _ _ (ih (k + 1) _ _ μ' H' w' hk' h1 h3 (put_ok (ht.mono h2) h4 _))
      · intro v H' μ' w' cv h1 h2 h3 h4
        exact lift_panic ht h1 h2 h3 h4
    simp only [wpOps, ho]
    split at h
    · rename_i hg
      have hw : Region.wanted o (yielded ops ca) = true := by simp [Region.wanted, hg]
      rw [if_pos hw]
      exact .inl (step tm ht h)
    · rename_i j want hg
      split at h
      · rename_i t hd
        unfold aGd at h
        split at h
        rotate_left
        · split at h
          · rename_i cs hb
            have hy : yielded ops ca j = none := yielded_none ht hd hb
            have hw : ¬ Region.wanted o (yielded ops ca) = true := by simp [Region.wanted, hg, hy]
            rw [if_neg hw, put_defers]
            exact ih (k + 1) _ _ μ H w hk' h hr (put_ok ht VR.undef _)
          · exact h.elim
        unfold aIf at h
        split at h
        · rename_i b hb
          have hbs : tm[t]? = some (.bool b) := by
            rw [List.getD_eq_getElem?_getD] at hb
            cases hq : tm[t]? with
            | none => rw [hq] at hb; simp [Go.undef] at hb
            | some v => rw [hq] at hb; simpa using hb
          obtain ⟨b', hb1, hb2⟩ := ht.2 t _ hbs
          cases hb2
          have hy : yielded ops ca j = some b := by simp [yielded, hd, hb1]
          have hset : LR μ (tm.set t (.bool b)) ca := by
            have : tm.set t (.bool b) = tm := by
              apply List.ext_getElem?
              intro n
              by_cases e : t = n
              · subst e; rw [hbs]; rw [List.getElem?_set_self (List.getElem?_eq_some_iff.1 hbs).1]
              · rw [List.getElem?_set_ne e]
            rw [this]; exact ht
          cases b <;> cases want <;> simp only [cond] at h
          · have hw : Region.wanted o (yielded ops ca) = true := by simp [Region.wanted, hg, hy]
            rw [if_pos hw]
            exact .inl (step _ hset h)
          · have hw : ¬ Region.wanted o (yielded ops ca) = true := by simp [Region.wanted, hg, hy]
            rw [if_neg hw, put_defers]
            exact ih (k + 1) _ _ μ H w hk' h hr (put_ok hset VR.undef _)
          · have hw : ¬ Region.wanted o (yielded ops ca) = true := by simp [Region.wanted, hg, hy]
            rw [if_neg hw, put_defers]
            exact ih (k + 1) _ _ μ H w hk' h hr (put_ok hset VR.undef _)
          · have hw : Region.wanted o (yielded ops ca) = true := by simp [Region.wanted, hg, hy]
            rw [if_pos hw]
            exact .inl (step _ hset h)
        · exact h.elim
      · exact h.elim

theorem PureOK.exec {s : Sem Value} {K : Value → Prop} (h : PureOK P μ s K) {ρ : Operand → Value} {o : Oper} (he : execOp ρ o = (do pure (.value (← s)))) :
    ∃ v cv, (∀ w, (execOp ρ o).run P w = .ok (.value cv) w) ∧ K v ∧ VR μ v cv := by
  obtain ⟨v, cv, h1, h2, h3⟩ := h
  exact ⟨v, cv, fun w => by rw [he]; simp [h1 w], h2, h3⟩

/-- What asks the variables alone answers alike in every memory. -/
theorem silent_ok {tm : List Value} {ca : Array Value} (ht : LR μ tm ca) {o : Oper} (hok : o.op.operands.all operOK = true) (hs : silentOp P o.op = true) {K Kp : KV} (h : aop P tm o H K Kp) (hr : Rel B w0 μ H w) :
    ∃ v cv, (∀ w, (execOp (Act.eval { tmps := ca, defers := [] }) o).run P w = .ok (.value cv) w) ∧ K v H ∧ VR μ v cv := by
  obtain ⟨dst, op, type, pos, after, guard⟩ := o
  have hx : ∀ x ∈ op.operands, VR μ (ev tm x) (Act.eval { tmps := ca, defers := [] } x) := fun x hx => ev_ok ht (opok_mem hok hx)
  cases op with
  | move x => exact ⟨_, _, fun w => rfl, h, hx x (by simp [Op.operands])⟩
  | assign x => exact ⟨_, _, fun w => rfl, h, hx x (by simp [Op.operands])⟩
  | pick c a b => exact PureOK.exec (K := fun v => K v H) (pick_ok (hx c (by simp [Op.operands])) (hx a (by simp [Op.operands])) (hx b (by simp [Op.operands])) h) (by simp [execOp])
  | build t ps =>
    refine PureOK.exec (K := fun v => K v H) (build_ok (pr_map ht ps ?_) h) rfl
    have := hok; simp only [Op.operands] at this; simpa using this
  | nilCheck x =>
    have hv := hx x (by simp [Op.operands])
    simp only [aop] at h
    unfold aNilCheck at h
    split at h
    · rename_i a ha
      rw [ha] at hv
      generalize hc : Act.eval { tmps := ca, defers := [] } x = c at hv
      cases hv with
      | ptr hp => exact ⟨_, _, fun w => by simp [execOp, hc], h, .ptr hp⟩
    · exact h.elim
  | binOp op t x y yt => exact PureOK.exec (K := fun v => K v H) (bin_ok (x := x) (y := y) (hx x (by simp [Op.operands])) (hx y (by simp [Op.operands])) h) rfl
  | unOp op t x => exact PureOK.exec (K := fun v => K v H) (un_ok (hx x (by simp [Op.operands])) h) rfl
  | convert s d x =>
    have hv := hx x (by simp [Op.operands])
    simp only [aop] at h
    simp only [silentOp] at hs
    unfold aConvert at h
    split at h
    · rename_i k k0 n hd hxv
      rw [hxv] at hv
      generalize hc : Act.eval { tmps := ca, defers := [] } x = c at hv
      cases hv
      obtain ⟨h1, h2, h3⟩ := h
      obtain ⟨ds, hs1⟩ := Option.isSome_iff_exists.1 h2
      exact ⟨_, _, fun w => by simp [execOp, hc, convert, run_und hs1, run_und hd, Conv.intToInt], h3, .int _ _⟩
    · rename_i sv hd hxv
      rw [hxv] at hv
      generalize hc : Act.eval { tmps := ca, defers := [] } x = c at hv
      cases hv
      obtain ⟨h2, h3⟩ := h
      obtain ⟨ds, hs1⟩ := Option.isSome_iff_exists.1 h2
      exact ⟨_, _, fun w => by simp [execOp, hc, convert, run_und hs1, run_und hd], h3, .string _⟩
    · rename_i e sv hd hxv
      rw [hd] at hs
      cases hq : P.underlying s with
      | none => rw [hq] at hs; simp at hs
      | some q => rw [hq] at hs; cases q <;> simp at hs
    · rename_i a l c hd hxv
      obtain ⟨⟨e, he, _⟩, _⟩ := h
      rw [he] at hs; simp at hs
    · exact h.elim
  | makeInterface t x =>
    obtain ⟨⟨d, hd, hne⟩, h⟩ := h
    refine ⟨_, .iface t (Act.eval { tmps := ca, defers := [] } x), fun w => ?_, h, .iface (hx x (by simp [Op.operands]))⟩
    show (do pure (.value (← Instr.makeInterface t (Act.eval { tmps := ca, defers := [] } x))) : Sem Next).run P w = _
    simp only [Instr.makeInterface, Sem.run_bind, run_und hd, Result.andThen_ok]
    cases d <;> first | rfl | exact absurd rfl (hne _)
  | slice t x lo hi mx =>
    have h1 : lo.all operOK = true := by cases lo with | none => rfl | some y => exact opok_mem hok (by simp [Op.operands])
    have h2 : hi.all operOK = true := by cases hi with | none => rfl | some y => exact opok_mem hok (by simp [Op.operands])
    have h3 : mx.all operOK = true := by cases mx with | none => rfl | some y => exact opok_mem hok (by simp [Op.operands])
    exact PureOK.exec (K := fun v => K v H) (slice_ok hr (hx x (by simp [Op.operands])) (or_of ht lo h1) (or_of ht hi h2) (or_of ht mx h3) h) rfl
  | fieldAddr t x n => exact PureOK.exec (K := fun v => K v H) (field_ok (hx x (by simp [Op.operands])) h) rfl
  | field t x n => exact PureOK.exec (K := fun v => K v H) (fieldOf_ok (hx x (by simp [Op.operands])) h) rfl
  | indexAddr t x i => exact PureOK.exec (K := fun v => K v H) (indexAddr_ok (hx x (by simp [Op.operands])) (hx i (by simp [Op.operands])) h) rfl
  | index t x i => exact PureOK.exec (K := fun v => K v H) (index_ok (hx x (by simp [Op.operands])) (hx i (by simp [Op.operands])) h) rfl
  | extract x n => exact PureOK.exec (K := fun v => K v H) (extract_ok (hx x (by simp [Op.operands])) h) rfl
  | call c =>
    obtain ⟨callee, args, types⟩ := c
    have hargs : args.all operOK = true := by
      rw [Array.all_eq_true']
      intro x hxm
      exact opok_mem hok (by simp [Op.operands, Call.operands, hxm])
    cases callee with
    | builtin b =>
      cases b with
      | max => exact PureOK.exec (K := fun v => K v H) (maxmin_ok (mx := true) (types := types) (ty := type) (lr_map ht args hargs) h) rfl
      | min => exact PureOK.exec (K := fun v => K v H) (maxmin_ok (mx := false) (types := types) (ty := type) (lr_map ht args hargs) h) rfl
      | len =>
        simp only [aop, aBuiltin] at h
        split at h
        · rename_i t ts x xs _ ht0 hx0
          have h0 : types[0]? = some t := by rw [← Array.getElem?_toList, ht0]; rfl
          have hm := lr_map ht args hargs
          rw [hx0] at hm
          obtain ⟨x', g1, g2⟩ := hm.2 0 x rfl
          simp only [silentOp, h0, Option.bind_some] at hs
          refine PureOK.exec (K := fun v => K v H) (len_pure (types := types) (ty := type) h0 g1 g2 ?_ h) rfl
          exact hs
        all_goals first | exact absurd ‹Builtin.len = Builtin.max› (by decide) | exact absurd ‹Builtin.len = Builtin.min› (by decide) | exact absurd ‹Builtin.len = Builtin.append› (by decide) | exact h.elim
      | _ => simp [silentOp] at hs
    | value f => simp [silentOp] at hs
    | invoke r m => simp [silentOp] at hs
  | _ => simp [silentOp] at hs

theorem allOf_mem {f : Nat → Prop} : ∀ {l : List Nat}, allOf f l → ∀ i ∈ l, f i := by
  intro l
  induction l with
  | nil => intro _ i hi; cases hi
  | cons a l ih =>
    intro h i hi
    cases l with
    | nil => simp at hi; subst hi; exact h
    | cons b l =>
      obtain ⟨h1, h2⟩ := h
      rcases List.mem_cons.1 hi with rfl | hi
      · exact h1
      · exact ih h2 i hi

theorem aIf_cases {v : Value} {A C : Prop} (h : aIf v A C) : (v = .bool true ∧ A) ∨ (v = .bool false ∧ C) := by
  unfold aIf at h
  split at h
  · rename_i b
    cases b with
    | true => exact .inl ⟨rfl, h⟩
    | false => exact .inr ⟨rfl, h⟩
  · exact h.elim

theorem getD_bool {tm : List Value} {t : Nat} {b : Bool} (h : tm.getD t undef = .bool b) : tm[t]? = some (.bool b) := by
  rw [List.getD_eq_getElem?_getD] at h
  cases hq : tm[t]? with
  | none => rw [hq] at h; simp [Go.undef] at h
  | some v => rw [hq] at h; simpa using h
theorem set_bool {tm : List Value} {t : Nat} {b : Bool} (h : tm[t]? = some (.bool b)) : tm.set t (.bool b) = tm := by
  apply List.ext_getElem?
  intro n
  by_cases e : t = n
  · subst e; rw [h]; rw [List.getElem?_set_self (List.getElem?_eq_some_iff.1 h).1]
  · rw [List.getElem?_set_ne e]

/-- A step of a region, its guard decided. -/
theorem gstep_cases {ops : Array Oper} {Q : AExit → List Value → AH → Prop} {i : Nat} {K : List Value → AH → Prop} {tm : List Value} {ca : Array Value} (ht : LR μ tm ca) (h : gstep P ops Q i K tm H) :
    ∃ o, ops[i]? = some o ∧
      ((Region.wanted o (yielded ops ca) = true ∧ aop P tm o H (fun v H' => K (putT tm o.dst v) H') (fun v H' => Q (.panic v) tm H')) ∨
       (Region.wanted o (yielded ops ca) = false ∧ K (putT tm o.dst undef) H)) := by
  unfold gstep at h
  split at h
  · exact h.elim
  · rename_i o ho
    refine ⟨o, ho, ?_⟩
    split at h
    · rename_i hg
      exact .inl ⟨by simp [Region.wanted, hg], h⟩
    · rename_i j want hg
      split at h
      · rename_i t hd
        unfold aGd at h
        split at h
        rotate_left
        · split at h
          · rename_i cs hb
            have hy : yielded ops ca j = none := yielded_none ht hd hb
            exact .inr ⟨by simp [Region.wanted, hg, hy], h⟩
          · exact h.elim
        rcases aIf_cases h with ⟨hb, h⟩ | ⟨hb, h⟩
        · have hbs := getD_bool hb
          obtain ⟨b', hb1, hb2⟩ := ht.2 t _ hbs
          cases hb2
          rw [set_bool hbs] at h
          have hy : yielded ops ca j = some true := by simp only [yielded, hd, Option.bind_some, hb1]
          cases want
          · exact .inr ⟨by simp [Region.wanted, hg, hy], h⟩
          · exact .inl ⟨by simp [Region.wanted, hg, hy], h⟩
        · have hbs := getD_bool hb
          obtain ⟨b', hb1, hb2⟩ := ht.2 t _ hbs
          cases hb2
          rw [set_bool hbs] at h
          have hy : yielded ops ca j = some false := by simp only [yielded, hd, Option.bind_some, hb1]
          cases want
          · exact .inl ⟨by simp [Region.wanted, hg, hy], h⟩
          · exact .inr ⟨by simp [Region.wanted, hg, hy], h⟩
      · exact h.elim

/-- A region whose order is open. -/
theorem adraw_ok (ops : Array Oper) (hall : (ops.toList.all fun o => o.op.operands.toList.all operOK) = true) (hsel : Region.noSelect ops = true) {Q : AExit → List Value → AH → Prop} :
    ∀ (fuel : Nat) (listed : Array Bool) (tm : List Value) (ca : Array Value) (μ0 μ : Mu) (H : AH) (w : World), adraw P ops Q fuel listed tm H → Mu.le μ0 μ → Rel B w0 μ H w → LR μ tm ca →
      wpAny P .any ops (lift B w0 μ0 Q) fuel listed { tmps := ca, defers := [] } w := by
  have hok : ∀ (i : Nat) (o : Oper), ops[i]? = some o → o.op.operands.all operOK = true := by
    intro i o ho
    have hm : o ∈ ops.toList := by
      rw [← Array.getElem?_toList] at ho
      exact List.mem_of_getElem? ho
    rw [← Array.all_toList]
    exact List.all_eq_true.1 hall o hm
  intro fuel
  induction fuel with
  | zero =>
    intro listed tm ca μ0 μ H w h hle hr ht
    unfold adraw at h
    split at h
    · rename_i hrs
      exact ⟨hrs, _, _, _, _, h, hle, hr, ht, rfl, trivial⟩
    · exact h.elim
  | succ fuel ih =>
    intro listed tm ca μ0 μ H w h hle hr ht
    unfold adraw at h
    cases hrs : Region.ready .any ops listed with
    | nil =>
      rw [hrs] at h
      exact wpAny_done hrs ⟨_, _, _, _, h, hle, hr, ht, rfl, trivial⟩ _
    | cons i0 rs =>
      rw [hrs] at h
      simp only at h
      split at h
      · rename_i i hfind
        have hmem := List.mem_of_find?_eq_some hfind
        have hprop := List.find?_some hfind
        simp only [Bool.and_eq_true] at hprop
        obtain ⟨o, ho, hcase⟩ := gstep_cases ht h
        have hso : silentOp P o.op = true := by have := hprop.1; rw [ho] at this; simpa using this
        have hcv : ∃ v cv, Yields P ops o cv { tmps := ca, defers := [] } ∧ VR μ v cv ∧ adraw P ops Q fuel (listed.setIfInBounds i true) (putT tm o.dst v) H := by
          rcases hcase with ⟨hw, h⟩ | ⟨hw, h⟩
          · obtain ⟨v, cv, h1, h2, h3⟩ := silent_ok ht (hok i o ho) hso h hr
            exact ⟨v, cv, .inl ⟨hw, h1⟩, h3, h2⟩
          · exact ⟨_, _, .inr ⟨hw, rfl⟩, VR.undef, h⟩
        obtain ⟨v, cv, hy, hv, h⟩ := hcv
        refine wpAny_take ho hsel hprop.2 (by rw [hrs]; simpa using hmem) ?_ hy ?_
        · rintro c a w' ⟨e', tm', H', μ', h1, h2, h3, h4, h5, h6⟩
          cases e' <;> simp only [exitR] at h6
          refine ⟨_, tm', H', μ', h1, h2, h3, trivial, ?_, h6⟩
          cases hd : o.dst with
          | none => rw [hd] at h5; exact h5
          | some d => rw [hd] at h5; exact h5
        · rw [put_defers]
          exact ih _ _ _ μ0 μ H w h hle hr (put_ok ht hv _)
      · have hm := allOf_mem h
        refine wpAny_all hrs (by simp) fun i hi => ?_
        obtain ⟨o, ho, hcase⟩ := gstep_cases ht (hm i hi)
        unfold wpOp
        simp only [ho]
        rcases hcase with ⟨hw, h⟩ | ⟨hw, h⟩
        · rw [if_pos hw]
          refine .inl (op_ok hr ht (hok i o ho) h ?_ ?_)
          · intro v H' μ' w' cv h1 h2 h3 h4
            rw [put_defers]
            exact ih _ _ _ μ0 μ' H' w' h1 (Mu.le_trans hle h2) h3 (put_ok (ht.mono h2) h4 _)
          · intro v H' μ' w' cv h1 h2 h3 h4
            exact lift.le hle (lift_panic ht h1 h2 h3 h4)
        · rw [if_neg (by rw [hw]; simp), put_defers]
          exact ih _ _ _ μ0 μ H w h hle hr (put_ok ht VR.undef _)

/-- Code. -/
theorem awp_ok (hm : P.follows .mixedOrders = true) (c : Code) : codeOK c = true → ∀ (Q : AExit → List Value → AH → Prop) (tm : List Value) (H : AH), awp P c Q tm H → AWP P c Q tm H := by
  induction c with
  | skip =>
    intro hc Q tm H h B w0 μ w ca hr ht
    exact wp_skip ⟨_, _, _, _, h, Mu.le_refl _, hr, ht, rfl, trivial⟩
  | region id ops draw =>
    intro hc Q tm H h B w0 μ w ca hr ht
    simp only [codeOK, Bool.and_eq_true] at hc
    cases draw with
    | true =>
      exact wp_region_any hm (adraw_ok ops hc.1 (by simpa using hc.2) _ _ tm ca μ μ H _ h (Mu.le_refl _) (hr.drawn (w.drawn + 1)) ht)
    | false =>
      refine wp_region ?_
      have := aops_ok (B := B) (w0 := w0) ops ops.toList 0 tm ca μ H w hc.1 rfl h hr ht
      rw [Array.length_toList, ← List.range_eq_range'] at this
      exact this
  | seq a b iha ihb =>
    intro hc Q tm H h B w0 μ w ca hr ht
    simp only [codeOK, Bool.and_eq_true] at hc
    refine wp_seq (wp_mono (iha hc.1 _ _ _ h B w0 μ w ca hr ht) ?_)
    rintro e ⟨ca', ds⟩ w' ⟨e', tm', H', μ', h1, h2, h3, h4, rfl, h5⟩
    cases e' with
    | normal =>
      cases e <;> simp only [exitR] at h5
      exact wp_mono (ihb hc.2 _ _ _ h1 B w0 μ' w' ca' h3 h4) fun _ _ _ hh => lift.le h2 hh
    | _ =>
      cases e <;> simp only [exitR] at h5 <;> exact ⟨_, _, _, _, h1, h2, h3, h4, rfl, h5⟩
  | cond c a b iha ihb =>
    intro hc Q tm H h B w0 μ w ca hr ht
    simp only [codeOK, Bool.and_eq_true] at hc
    simp only [awp] at h
    split at h
    · rename_i t
      unfold aIf at h
      split at h
      · rename_i x hb
        have hx : tm[t]? = some (.bool x) := by
          rw [List.getD_eq_getElem?_getD] at hb
          cases hq : tm[t]? with
          | none => rw [hq] at hb; simp [Go.undef] at hb
          | some v => rw [hq] at hb; simpa using hb
        obtain ⟨v', g1, g2⟩ := ht.2 t _ hx
        cases g2
        have hev : Act.eval { tmps := ca, defers := [] } (.tmp t) = .bool x := by simp [Act.eval, Array.getD_eq_getD_getElem?, g1]
        have hset : LR μ (tm.set t (.bool x)) ca := by
          have : tm.set t (.bool x) = tm := by
            apply List.ext_getElem?
            intro n
            by_cases e : t = n
            · subst e; rw [hx]; rw [List.getElem?_set_self (List.getElem?_eq_some_iff.1 hx).1]
            · rw [List.getElem?_set_ne e]
          rw [this]; exact ht
        refine wp_cond hev ?_
        cases x with
        | true => exact iha hc.1 _ _ _ h B w0 μ w ca hr hset
        | false => exact ihb hc.2 _ _ _ h B w0 μ w ca hr hset
      · exact h.elim
    · rename_i v
      unfold aIf at h
      split at h
      · rename_i x
        refine wp_cond (t := x) rfl ?_
        cases x with
        | true => exact iha hc.1 _ _ _ h B w0 μ w ca hr ht
        | false => exact ihb hc.2 _ _ _ h B w0 μ w ca hr ht
      · exact h.elim
    · exact h.elim
  | block id c ih =>
    intro hc Q tm H h B w0 μ w ca hr ht
    refine wp_block (wp_mono (ih hc _ _ _ h B w0 μ w ca hr ht) ?_)
    rintro e ⟨ca', ds⟩ w' ⟨e', tm', H', μ', h1, h2, h3, h4, rfl, h5⟩
    cases e' with
    | exit id' =>
      cases e <;> simp only [exitR] at h5
      subst h5
      simp only [AExit.inBlock] at h1
      simp only [Exit.inBlock]
      split
      · rename_i e; rw [e, beq_self_eq_true] at h1; exact ⟨_, _, _, _, h1, h2, h3, h4, rfl, trivial⟩
      · rename_i e
        rw [beq_eq_false_iff_ne.2 e] at h1
        exact ⟨_, _, _, _, h1, h2, h3, h4, rfl, rfl⟩
    | _ =>
      cases e <;> simp only [exitR] at h5 <;> exact ⟨_, _, _, _, h1, h2, h3, h4, rfl, h5⟩
  | loop c ih =>
    intro hc Q tm H h B w0 μ w ca hr ht
    obtain ⟨I, ⟨n, hn⟩, hI⟩ := h
    refine wp_loop_ghost (fun n a w => ∃ tm H μ', I n tm H ∧ Mu.le μ μ' ∧ Rel B w0 μ' H w ∧ LR μ' tm a.tmps ∧ a.defers = []) n ⟨tm, H, μ, hn, Mu.le_refl _, hr, ht, rfl⟩ ?_
    rintro n ⟨ca', ds⟩ w' ⟨tm', H', μ', h1, h2, h3, h4, rfl⟩
    refine wp_mono (ih hc _ _ _ (hI n tm' H' h1) B w0 μ' w' ca' h3 h4) ?_
    rintro e ⟨ca'', ds⟩ w'' ⟨e', tm'', H'', μ'', g1, g2, g3, g4, rfl, g5⟩
    cases e' with
    | normal =>
      cases e <;> simp only [exitR] at g5
      obtain ⟨m, hm, g1⟩ := g1
      exact ⟨m, hm, tm'', H'', μ'', g1, Mu.le_trans h2 g2, g3, g4, rfl⟩
    | _ =>
      cases e <;> simp only [exitR] at g5 <;> exact ⟨_, _, _, _, g1, Mu.le_trans h2 g2, g3, g4, rfl, g5⟩
  | exit id =>
    intro hc Q tm H h B w0 μ w ca hr ht
    exact wp_exit ⟨_, _, _, _, h, Mu.le_refl _, hr, ht, rfl, rfl⟩
  | ret =>
    intro hc Q tm H h B w0 μ w ca hr ht
    exact wp_ret ⟨_, _, _, _, h, Mu.le_refl _, hr, ht, rfl, trivial⟩
  | _ => intro _ Q tm H h; exact h.elim

theorem lr_args {args : List Value} {cargs : Array Value} (h : LR μ args cargs) (n : Nat) : LR μ (args ++ List.replicate (n - args.length) undef) (cargs ++ Array.replicate (n - cargs.size) undef) := by
  have e := h.1
  rw [← e]
  refine h.append ⟨by simp, fun j v hv => ?_⟩
  have hlt := (List.getElem?_eq_some_iff.1 hv).1
  rw [List.getElem?_replicate] at hv
  simp at hlt
  rw [if_pos hlt] at hv
  cases hv
  exact ⟨undef, by simp [hlt], VR.undef⟩

theorem results_ok {fn : Func} {tm : List Value} {ca : Array Value} (ht : LR μ tm ca) {R : AEnd → AH → Prop} (h1 : resOK fn = true) (h2 : aPost fn R .ret tm H) :
    ∃ v cv, (results fn ca).run P w = .ok cv w ∧ R (.ret v) H ∧ VR μ v cv := by
  simp only [aPost] at h2
  have hm : ∀ (l : List ResultVar), (l.all fun | .tmp _ => true | .cell _ _ => false) = true →
      ∃ l' : List Value, (l.mapM (m := Sem) fun
        | .tmp t => pure (ca.getD t undef)
        | .cell a t => do loadVar t (← asAddr (ca.getD a undef))).run P w = .ok l' w ∧
        LR μ (l.map (fun | .tmp t => tm.getD t undef | .cell _ _ => undef)) l'.toArray := by
    intro l
    induction l with
    | nil => intro _; exact ⟨[], by simp, by simp [LR]⟩
    | cons x l ih =>
      intro hl
      simp only [List.all_cons, Bool.and_eq_true] at hl
      obtain ⟨l', g1, g2⟩ := ih hl.2
      cases x with
      | tmp t =>
        refine ⟨ca.getD t undef :: l', ?_, ?_⟩
        · simp only [List.mapM_cons, Sem.run_bind, Sem.run_pure, Result.andThen_ok, g1]
        · have h0 : LR μ [tm.getD t undef] #[ca.getD t undef] := ⟨rfl, fun j v hj => by
            cases j with
            | zero => simp at hj; subst hj; exact ⟨_, rfl, by simpa using ht.getD t⟩
            | succ j => simp at hj⟩
          have := h0.append g2
          simpa using this
      | cell a t => simp at hl
  obtain ⟨l', g1, g2⟩ := hm fn.results.toList h1
  have hrun : (fn.results.mapM (m := Sem) fun
        | .tmp t => pure (ca.getD t undef)
        | .cell a t => do loadVar t (← asAddr (ca.getD a undef))).run P w = .ok l'.toArray w := by
    rw [Array.mapM_eq_mapM_toList, Sem.run_map, g1]
    rfl
  have hlen := g2.1
  simp only [List.length_map, Array.length_toList, List.size_toArray] at hlen
  generalize hL : fn.results.toList.map (fun | .tmp t => tm.getD t undef | .cell _ _ => undef) = L at h2 g2
  have hLl : L.length = l'.length := by have := g2.1; simpa using this
  have hres : (results fn ca).run P w = .ok (if h : l'.toArray.size = 1 then l'.toArray[0] else .tuple l'.toArray) w := by
    unfold results
    rw [Sem.run_bind]
    exact congrArg (fun r : Result (Array Value) => r.andThen fun a w' => (pure (if h : a.size = 1 then a[0] else .tuple a) : Sem Value).run P w') hrun
  by_cases h1l : l'.length = 1
  · obtain ⟨cv, rfl⟩ := List.length_eq_one_iff.1 h1l
    obtain ⟨v, rfl⟩ := List.length_eq_one_iff.1 (hLl.trans h1l)
    refine ⟨v, cv, hres, h2, ?_⟩
    obtain ⟨v', k1, k2⟩ := g2.2 0 v rfl
    simp at k1; subst k1; exact k2
  · have hsz : ¬ l'.toArray.size = 1 := by simpa using h1l
    refine ⟨.tuple L.toArray, .tuple l'.toArray, by rw [hres, dif_neg hsz], ?_, ?_⟩
    · match L, hLl, h2 with
      | [], _, h2 => exact h2
      | [v], hLl, _ => exact absurd hLl.symm h1l
      | a :: b :: L, _, h2 => exact h2
    · refine .tuple (by simpa using g2.1) fun j v v' hv hv' => ?_
      obtain ⟨v'', k1, k2⟩ := g2.2 j v (by simpa using hv)
      rw [k1] at hv'; cases hv'; exact k2

/-- A function by its text. -/
theorem acall_of {f : FuncId} {fn : Func} {c : Code} {args : List Value} {R : AEnd → AH → Prop} (hm : P.follows .mixedOrders = true) (hf : P.funcs[f]? = some fn) (hb : fn.body = some c) (hc : codeOK c = true) (ho : resOK fn = true)
    (h : awp P c (aPost fn R) (args ++ List.replicate (fn.ntmps - args.length) undef) H) : ACall P f args H R := by
  intro B w0 μ w cargs hr ha
  refine calls_of_wp hf hb (wp_mono (awp_ok hm c hc _ _ _ h B w0 μ w _ hr (lr_args ha fn.ntmps)) ?_)
  rintro e ⟨ca, ds⟩ w' ⟨e', tm, H', μ', h1, h2, h3, h4, rfl, h5⟩
  cases e' with
  | normal =>
    cases e <;> simp only [exitR] at h5
    obtain ⟨v, cv, k1, k2, k3⟩ := results_ok (P := P) (w := w') h4 ho h1
    exact ⟨rfl, cv, k1, .ret v, H', μ', k2, h2, h3, k3⟩
  | ret =>
    cases e <;> simp only [exitR] at h5
    obtain ⟨v, cv, k1, k2, k3⟩ := results_ok (P := P) (w := w') h4 ho h1
    exact ⟨rfl, cv, k1, .ret v, H', μ', k2, h2, h3, k3⟩
  | panic v =>
    cases e <;> simp only [exitR] at h5
    obtain ⟨v', rfl, h6⟩ := h5
    exact ⟨rfl, .panic v, H', μ', h1, h2, h3, v', rfl, h6⟩
  | exit i => exact h1.elim
  | goto l => exact h1.elim

end
end Go.Proofs.Ytmidgfmopmpppaa
