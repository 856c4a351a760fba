/- The rules of the small program logic are right: codes and calls. The deep rules once more, so that the kernel evaluates them fast: the variables' list is laid out at each step. -/
import Derived.Test.YtjhbbbcelnlnpaaGreatDoorWNam
import Derived.Deep.LoopGhost
namespace Go.Proofs.YtjhbbbcelnlnpaaGreatDoor
open Go.RowKit

section
variable {D:List Deferred} {P:Program} {B:Nat} {w0:World} {μ:Mu} {H:AH} {w:World}

theorem awp_ok (hm:P.follows .mixedOrders=true) (c:Code):codeOK c=true→∀ (Q:AExit→List Value→AH→Prop) (tm:List Value) (H:AH), awp P c Q tm H→AWP P c Q tm H:=by
  induction c with
  | skip =>
    intro hc Q tm H h D B w0 μ w ca hD hr ht
    exact wp_skip ⟨_, _, _, _, h, Mu.le_refl _, hr, ht, rfl, trivial⟩
  | region id ops draw =>
    intro hc Q tm H h D B w0 μ w ca hD hr ht
    simp only [codeOK, Bool.and_eq_true] at hc
    cases draw with
    | true =>
      obtain rfl:D=[]:=hD.resolve_right (by simp [noDraw])
      exact wp_region_any hm (Tree.any _ _ _ _ _ _ _ _ _ (adraw_ok ops hc.1 (by simpa using hc.2) _ _ 0 [] tm ca μ H _ (MaskR.init _) (fun _ hp=>by cases hp) h (hr.drawn (w.drawn + 1)) ht) (Mu.le_refl _) (hr.drawn (w.drawn + 1)) ht)
    | false =>
      refine wp_region ?_
      have:=aops_ok (D:=D) (B:=B) (w0:=w0) ops ops.toList 0 tm ca μ H w hc.1 rfl h hr ht
      rw [Array.length_toList, ← List.range_eq_range'] at this
      exact this
  | seq a b iha ihb =>
    intro hc Q tm H h D B w0 μ w ca hD hr ht
    simp only [codeOK, Bool.and_eq_true] at hc
    refine wp_seq (wp_mono (iha hc.1 _ _ _ h D B w0 μ w ca (hD.imp id fun e=>by simp [noDraw] at e; exact e.1) hr ht) ?_)
    rintro e ⟨ca', ds⟩ w' ⟨e', tm', H', μ', h1, h2, h3, h4, rfl, h5⟩
    cases e' with
    | normal =>
      cases e <;> simp only [exitR] at h5
      exact wp_mono (ihb hc.2 _ _ _ h1 _ B w0 μ' w' ca' (hD.imp id fun e=>by simp [noDraw] at e; exact e.2) h3 h4) fun _ _ _ hh=>lift.le h2 hh
    | _ =>
      cases e <;> simp only [exitR] at h5 <;> exact ⟨_, _, _, _, h1, h2, h3, h4, rfl, h5⟩
  | cond c a b iha ihb =>
    intro hc Q tm H h D B w0 μ w ca hD hr ht
    simp only [codeOK, Bool.and_eq_true] at hc
    simp only [awp] at h
    split at h
    · rename_i t
      rcases aIf_cases h with ⟨hb, h⟩ | ⟨hb, h⟩
      · have hx:=getD_bool hb
        obtain ⟨v', g1, g2⟩:=ht.2 t _ hx
        cases g2
        have hev:Act.eval { tmps:=ca, defers:=D } (.tmp t)=.bool true:=by simp [Act.eval, Array.getD_eq_getD_getElem?, g1]
        rw [set_bool hx] at h
        exact wp_cond hev (iha hc.1 _ _ _ h D B w0 μ w ca (hD.imp id fun e=>by simp [noDraw] at e; exact e.1) hr ht)
      · have hx:=getD_bool hb
        obtain ⟨v', g1, g2⟩:=ht.2 t _ hx
        cases g2
        have hev:Act.eval { tmps:=ca, defers:=D } (.tmp t)=.bool false:=by simp [Act.eval, Array.getD_eq_getD_getElem?, g1]
        rw [set_bool hx] at h
        exact wp_cond hev (ihb hc.2 _ _ _ h D B w0 μ w ca (hD.imp id fun e=>by simp [noDraw] at e; exact e.2) hr ht)
    · rename_i v
      rcases aIf_cases h with ⟨rfl, h⟩ | ⟨rfl, h⟩
      · exact wp_cond (t:=true) rfl (iha hc.1 _ _ _ h D B w0 μ w ca (hD.imp id fun e=>by simp [noDraw] at e; exact e.1) hr ht)
      · exact wp_cond (t:=false) rfl (ihb hc.2 _ _ _ h D B w0 μ w ca (hD.imp id fun e=>by simp [noDraw] at e; exact e.2) hr ht)
    · exact h.elim
  | block id c ih =>
    intro hc Q tm H h D B w0 μ w ca hD hr ht
    refine wp_block (wp_mono (ih hc _ _ _ h D B w0 μ w ca hD hr ht) ?_)
    rintro e ⟨ca', ds⟩ w' ⟨e', tm', H', μ', h1, h2, h3, h4, rfl, h5⟩
    cases e' with
    | exit id' =>
      cases e <;> simp only [exitR] at h5
      subst h5
      simp only [AExit.inBlock] at h1
      simp only [Exit.inBlock]
      split
      · rename_i e; rw [e, beq_self_eq_true] at h1; exact ⟨_, _, _, _, h1, h2, h3, h4, rfl, trivial⟩
      · rename_i e
        rw [beq_eq_false_iff_ne.2 e] at h1
        exact ⟨_, _, _, _, h1, h2, h3, h4, rfl, rfl⟩
    | _ =>
      cases e <;> simp only [exitR] at h5 <;> exact ⟨_, _, _, _, h1, h2, h3, h4, rfl, h5⟩
  | loop c ih =>
    intro hc Q tm H h D B w0 μ w ca hD hr ht
    obtain ⟨I, ⟨n, hn⟩, hI⟩:=h
    refine wp_loop_ghost (fun n a w=>∃ tm H μ', I n tm H∧Mu.le μ μ'∧Rel B w0 μ' H w∧LR μ' tm a.tmps∧a.defers=D) n ⟨tm, H, μ, hn, Mu.le_refl _, hr, ht, rfl⟩ ?_
    rintro n ⟨ca', ds⟩ w' ⟨tm', H', μ', h1, h2, h3, h4, rfl⟩
    refine wp_mono (ih hc _ _ _ (hI n tm' H' h1) _ B w0 μ' w' ca' hD h3 h4) ?_
    rintro e ⟨ca'', ds⟩ w'' ⟨e', tm'', H'', μ'', g1, g2, g3, g4, rfl, g5⟩
    cases e' with
    | normal =>
      cases e <;> simp only [exitR] at g5
      obtain ⟨m, hm, g1⟩:=g1
      exact ⟨m, hm, tm'', H'', μ'', g1, Mu.le_trans h2 g2, g3, g4, rfl⟩
    | _ =>
      cases e <;> simp only [exitR] at g5 <;> exact ⟨_, _, _, _, g1, Mu.le_trans h2 g2, g3, g4, rfl, g5⟩
  | exit id =>
    intro hc Q tm H h D B w0 μ w ca hD hr ht
    exact wp_exit ⟨_, _, _, _, h, Mu.le_refl _, hr, ht, rfl, rfl⟩
  | ret =>
    intro hc Q tm H h D B w0 μ w ca hD hr ht
    exact wp_ret ⟨_, _, _, _, h, Mu.le_refl _, hr, ht, rfl, trivial⟩
  | _=>intro _ Q tm H h; exact h.elim

theorem lr_args {args:List Value} {cargs:Array Value} (h:LR μ args cargs) (n:Nat):LR μ (args ++ List.replicate (n - args.length) undef) (cargs ++ Array.replicate (n - cargs.size) undef):=by
  have e:=h.1
  rw [← e]
  refine h.append ⟨by simp, fun j v hv=>?_⟩
  have hlt:=(List.getElem?_eq_some_iff.1 hv).1
  rw [List.getElem?_replicate] at hv
  simp at hlt
  rw [if_pos hlt] at hv
  cases hv
  exact ⟨undef, by simp [hlt], VR.undef⟩

theorem results_ok (hr:Rel B w0 μ H w) {fn:Func} {tm:List Value} {ca:Array Value} (ht:LR μ tm ca) {R:AEnd→AH→Prop} (h2:aPost P fn R .ret tm H) :
    ∃ v cv, (results fn ca).run P w=.ok cv w∧R (.ret v) H∧VR μ v cv:=by
  simp only [aPost] at h2
  have hm:∀ (l:List ResultVar) (K:List Value→Prop), aRes P tm H l K →
      ∃ l' L:List Value, (l.mapM (m:=Sem) fun
        | .tmp t=>pure (ca.getD t undef)
        | .cell a t=>do loadVar t (← asAddr (ca.getD a undef))).run P w=.ok l' w∧LR μ L l'.toArray∧K L∧L.length=l.length:=by
    intro l
    induction l with
    | nil=>intro K h; exact ⟨[], [], by simp, by simp [LR], h, rfl⟩
    | cons x l ih =>
      intro K h
      have one:∀ (v cv:Value), VR μ v cv→LR μ [v] #[cv]:=fun v cv hv=>⟨rfl, fun j v' hj=>by
        cases j with
        | zero=>simp at hj; subst hj; exact ⟨_, rfl, hv⟩
        | succ j=>simp at hj⟩
      cases x with
      | tmp t =>
        obtain ⟨l', L, g1, g2, g3, g4⟩:=ih _ h
        refine ⟨ca.getD t undef :: l', tm.getD t undef :: L, ?_, ?_, g3, by simp [g4]⟩
        · simp only [List.mapM_cons, Sem.run_bind, Sem.run_pure, Result.andThen_ok, g1]
        · have:=(one _ _ (by simpa using ht.getD t)).append g2
          simpa using this
      | cell a t =>
        have hl:aLoad P t (tm.getD a undef) H fun v=>aRes P tm H l fun vs=>K (v :: vs):=wLoad_of h
        have hx:VR μ (tm.getD a undef) (ca.getD a undef):=ht.getD a
        obtain ⟨v, cv, r1, r2, r3⟩:=load_ok (P:=P) hr hx hl
        obtain ⟨l', L, g1, g2, g3, g4⟩:=ih _ r2
        obtain ⟨ad, had⟩:∃ ad, ca.getD a undef=.pointer (some ad):=by
          generalize hcx:ca.getD a undef=cx at hx r1
          generalize tm.getD a undef=ax at hx hl
          unfold aLoad at hl
          split at hl
          · cases hx; exact ⟨_, rfl⟩
          · exact hl.elim
        refine ⟨cv :: l', v :: L, ?_, ?_, g3, by simp [g4]⟩
        · rw [had] at r1
          simp only [Instr.loadAt, Instr.sureAddr, Sem.run_bind, Sem.run_pure, Result.andThen_ok] at r1
          have ha:(asAddr (.pointer (some ad))).run P w=.ok ad w:=by simp [asAddr]
          simp only [List.mapM_cons, Sem.run_bind, Sem.run_pure]
          rw [had, ha, Result.andThen_ok, r1, Result.andThen_ok, g1, Result.andThen_ok]
        · have:=(one _ _ r3).append g2
          simpa using this
  obtain ⟨l', L, g1, g2, h2, g4⟩:=hm fn.results.toList _ h2
  have hrun:(fn.results.mapM (m:=Sem) fun
        | .tmp t=>pure (ca.getD t undef)
        | .cell a t=>do loadVar t (← asAddr (ca.getD a undef))).run P w=.ok l'.toArray w:=by
    rw [Array.mapM_eq_mapM_toList, Sem.run_map, g1]
    rfl
  have hLl:L.length=l'.length:=by have:=g2.1; simpa using this
  have hres:(results fn ca).run P w=.ok (if h:l'.toArray.size=1 then l'.toArray[0] else .tuple l'.toArray) w:=by
    unfold results
    rw [Sem.run_bind]
    exact congrArg (fun r:Result (Array Value)=>r.andThen fun a w'=>(pure (if h:a.size=1 then a[0] else .tuple a):Sem Value).run P w') hrun
  by_cases h1l:l'.length=1
  · obtain ⟨cv, rfl⟩:=List.length_eq_one_iff.1 h1l
    obtain ⟨v, rfl⟩:=List.length_eq_one_iff.1 (hLl.trans h1l)
    refine ⟨v, cv, hres, h2, ?_⟩
    obtain ⟨v', k1, k2⟩:=g2.2 0 v rfl
    simp at k1; subst k1; exact k2
  · have hsz:¬ l'.toArray.size=1:=by simpa using h1l
    refine ⟨.tuple L.toArray, .tuple l'.toArray, by rw [hres, dif_neg hsz], ?_, ?_⟩
    · match L, hLl, h2 with
      | [], _, h2=>exact h2
      | [v], hLl, _=>exact absurd hLl.symm h1l
      | a :: b :: L, _, h2=>exact h2
    · refine .tuple (by simpa using g2.1) fun j v v' hv hv'=>?_
      obtain ⟨v'', k1, k2⟩:=g2.2 j v (by simpa using hv)
      rw [k1] at hv'; cases hv'; exact k2

theorem acall_of {f:FuncId} {fn:Func} {c:Code} {args:List Value} {R:AEnd→AH→Prop} (hm:P.follows .mixedOrders=true) (hf:P.funcs[f]?=some fn) (hb:fn.body=some c) (hc:codeOK c=true) (ho:resOK fn=true)
    (h:awp P c (aPost P fn R) (args ++ List.replicate (fn.ntmps - args.length) undef) H):ACall P f args H R:=by
  intro B w0 μ w cargs hr ha
  refine calls_of_wp hf hb (wp_mono (awp_ok hm c hc _ _ _ h [] B w0 μ w _ (.inl rfl) hr (lr_args ha fn.ntmps)) ?_)
  rintro e ⟨ca, ds⟩ w' ⟨e', tm, H', μ', h1, h2, h3, h4, rfl, h5⟩
  cases e' with
  | normal =>
    cases e <;> simp only [exitR] at h5
    obtain ⟨v, cv, k1, k2, k3⟩:=results_ok (P:=P) h3 h4 h1
    exact ⟨rfl, cv, k1, .ret v, H', μ', k2, h2, h3, k3⟩
  | ret =>
    cases e <;> simp only [exitR] at h5
    obtain ⟨v, cv, k1, k2, k3⟩:=results_ok (P:=P) h3 h4 h1
    exact ⟨rfl, cv, k1, .ret v, H', μ', k2, h2, h3, k3⟩
  | panic v =>
    cases e <;> simp only [exitR] at h5
    obtain ⟨v', rfl, h6⟩:=h5
    exact ⟨rfl, .panic v, H', μ', h1, h2, h3, v', rfl, h6⟩
  | exit i=>exact h1.elim
  | goto l=>exact h1.elim

end
end Go.Proofs.YtjhbbbcelnlnpaaGreatDoor
namespace Go.Proofs.YtjhbbbcelnlnpaaGreatDoor
open Go.RowKit

noncomputable def forceL (l:List Value):(List Value→Prop)→Prop:=(fun (_:Unit) =>
  List.rec (motive:=fun _=>(List Value→Prop)→Prop) (fun k=>k []) (fun v _ ih k=>ih fun l'=>k (v :: l')) l) tag2

theorem forceL_eq (l:List Value) (k:List Value→Prop):forceL l k=k l:=by
  induction l generalizing k with
  | nil=>rfl
  | cons v l ih=>exact ih _

noncomputable def forceP (l:List Pin):(List Pin→Prop)→Prop:=(fun (_:Unit) =>
  List.rec (motive:=fun _=>(List Pin→Prop)→Prop) (fun k=>k []) (fun p _ ih k=>match p with
    | (i, ob, kk, c)=>forceL c fun c'=>ih fun l'=>k ((i, ob, kk, c') :: l')) l) tag2
theorem forceP_eq (l:List Pin) (k:List Pin→Prop):forceP l k=k l:=by
  induction l generalizing k with
  | nil=>rfl
  | cons p l ih =>
    obtain ⟨i, ob, kk, c⟩:=p
    exact (forceL_eq c _).trans (ih _)

noncomputable def gopF (P:Program) (all:Array Oper) (Q:AExit→List Value→AH→Prop) (o:Oper) (K:List Value→AH→Prop) (tm:List Value) (H:AH):Prop :=
  match o.guard with
  | none=>aop P tm o H (fun v H'=>forceL (putT tm o.dst v) fun tm'=>K tm' H') (fun v H'=>Q (.panic v) tm H')
  | some (j, want) =>
    match (all[j]?).bind (·.dst) with
    | some t=>aGd (chainOK all j tm) (tm.getD t undef)
        (forceL (tm.set t (.bool true)) fun tm =>
          match want with
          | true=>aop P tm o H (fun v H'=>forceL (putT tm o.dst v) fun tm'=>K tm' H') (fun v H'=>Q (.panic v) tm H')
          | false=>forceL (putT tm o.dst undef) fun tm'=>K tm' H)
        (forceL (tm.set t (.bool false)) fun tm =>
          match want with
          | true=>forceL (putT tm o.dst undef) fun tm'=>K tm' H
          | false=>aop P tm o H (fun v H'=>forceL (putT tm o.dst v) fun tm'=>K tm' H') (fun v H'=>Q (.panic v) tm H'))
        (forceL (putT tm o.dst undef) fun tm'=>K tm' H)
    | none=>False


noncomputable def aopsF (P:Program) (all:Array Oper) (Q:AExit→List Value→AH→Prop) (l:List Oper):List Value→AH→Prop :=
  List.rec (motive:=fun _=>List Value→AH→Prop) (fun tm H=>Q .normal tm H) (fun o _ ih tm H=>gopF P all Q o ih tm H) l


theorem gopF_gen (P:Program) (all:Array Oper) (Q:AExit→List Value→AH→Prop) (o:Oper) (K:List Value→AH→Prop) (tm:List Value) (H:AH):gopF P all Q o K tm H=gop P all Q o K tm H:=by
  unfold gopF gop
  cases o.guard with
  | none=>simp only [forceL_eq]
  | some g =>
    obtain ⟨j, want⟩:=g
    dsimp only
    generalize (all[j]?).bind (·.dst)=x
    cases x with
    | none=>rfl
    | some t=>cases want <;> simp only [forceL_eq]

theorem aopsF_eq (P:Program) (all:Array Oper) (Q:AExit→List Value→AH→Prop) (l:List Oper) (tm:List Value) (H:AH):aopsF P all Q l tm H=aops P all Q l tm H:=by
  induction l generalizing tm H with
  | nil=>rfl
  | cons o l ih =>
    show gopF P all Q o (aopsF P all Q l) tm H=_
    have e:aopsF P all Q l=aops P all Q l:=by funext tm H; exact ih tm H
    rw [e, gopF_gen, aops]

noncomputable def adrawF (P:Program) (ops:Array Oper) (Q:AExit→List Value→AH→Prop):Nat→Nat→List Pin→List Value→AH→Prop
  | 0, mask, pins, tm, H =>
    match readyM mask ops.toList 0 with
    | []=>Q .normal tm H
    | _=>False
  | fuel + 1, mask, pins, tm, H =>
    match readyM mask ops.toList 0 with
    | []=>Q .normal tm H
    | i0 :: rs =>
      match pickM P ops mask (i0 :: rs) with
      | some i=>(match ops[i]? with
        | none=>False
        | some o=>gopF P ops Q o (fun tm' H'=>adrawF P ops Q fuel (mask ||| 2 ^ i) pins tm' H') tm H)
      | none =>
        match pickL P ops mask (i0 :: rs) with
        | some (i, pin)=>(match ops[i]? with
          | none=>False
          | some o=>(match o.op with
            | .load t a=>wLoad P t (ev tm a) H fun v=>forceL (putT tm o.dst v) fun tm'=>forceP (ldPins P pin t (ev tm a) i v pins) fun ps=>adrawF P ops Q fuel (mask ||| 2 ^ i) ps tm' H
            | _=>False))
        | none=>allOf (fun i=>match ops[i]? with
          | none=>False
          | some o=>gopF P ops Q o (fun tm' H'=>forceP (dropPins o pins) fun ps=>pinChk ps H' (adrawF P ops Q fuel (mask ||| 2 ^ i) ps tm' H')) tm H) (i0 :: rs)

theorem adrawF_eq (P:Program) (ops:Array Oper) (Q:AExit→List Value→AH→Prop) (fuel:Nat):∀ (mask:Nat) (pins:List Pin) (tm:List Value) (H:AH), adrawF P ops Q fuel mask pins tm H=adraw P ops Q fuel mask pins tm H:=by
  induction fuel with
  | zero=>intros; rfl
  | succ fuel ih =>
    intro mask pins tm H
    rw [adrawF, adraw]
    simp only [gopF_gen, forceL_eq, forceP_eq, ih, hold_eq]
    rfl

def thenF (next:List Value→AH→Prop) (Q:AExit→List Value→AH→Prop) (e:AExit) (a:List Value) (w:AH):Prop:=(fun (_:Unit)=>match e with
  | .normal=>next a w
  | e=>Q e a w) tag2
def inBlockF (id:Nat) (Q:AExit→List Value→AH→Prop) (e:AExit) (a:List Value) (w:AH):Prop:=(fun (_:Unit)=>match e with
  | .exit id'=>(match id' == id with
    | true=>Q .normal a w
    | false=>Q (.exit id') a w)
  | e=>Q e a w) tag2

theorem thenF_eq (next:List Value→AH→Prop) (Q:AExit→List Value→AH→Prop):thenF next Q=AExit.then next Q:=by
  funext e a w; cases e <;> rfl
theorem inBlockF_eq (id:Nat) (Q:AExit→List Value→AH→Prop):inBlockF id Q=AExit.inBlock id Q:=by
  funext e a w
  cases e with
  | exit i=>show (match i == id with | true=>_ | false=>_)=cond (i == id) _ _; cases i == id <;> rfl
  | _=>rfl

noncomputable def awpF (P:Program):Code→(AExit→List Value→AH→Prop)→List Value→AH→Prop
  | .skip, Q, tm, H=>Q .normal tm H
  | .region _ ops false, Q, tm, H=>aopsF P ops Q ops.toList tm H
  | .region _ ops true, Q, tm, H=>adrawF P ops Q ops.size 0 [] tm H
  | .seq a b, Q, tm, H=>awpF P a (thenF (fun tm H=>hold (awpF P b Q tm H)) Q) tm H
  | .cond c a b, Q, tm, H =>
    match c with
    | .tmp t=>aIf (tm.getD t undef) (forceL (tm.set t (.bool true)) fun tm=>awpF P a Q tm H) (forceL (tm.set t (.bool false)) fun tm=>awpF P b Q tm H)
    | .const v=>aIf v (awpF P a Q tm H) (awpF P b Q tm H)
    | _=>False
  | .block id c, Q, tm, H=>awpF P c (inBlockF id Q) tm H
  | .loop c, Q, tm, H=>∃ I:Nat→List Value→AH→Prop, (∃ n, I n tm H) ∧
      ∀ n tm' H', I n tm' H'→awpF P c (thenF (fun tm'' H''=>∃ m, m<n∧I m tm'' H'') Q) tm' H'
  | .exit id, Q, tm, H=>Q (.exit id) tm H
  | .ret, Q, tm, H=>Q .ret tm H
  | _, _, _, _=>False


theorem awpF_eq (P:Program) (c:Code):∀ (Q:AExit→List Value→AH→Prop) (tm:List Value) (H:AH), awpF P c Q tm H=awp P c Q tm H:=by
  induction c with
  | skip=>intros; rfl
  | region i ops d =>
    intro Q tm H
    cases d with
    | false=>exact aopsF_eq _ _ _ _ _ _
    | true=>exact adrawF_eq _ _ _ _ _ _ _ _
  | seq a b iha ihb =>
    intro Q tm H
    rw [awpF, awp, iha, thenF_eq]
    congr 2
    funext tm H
    exact ihb _ _ _
  | cond c a b iha ihb =>
    intro Q tm H
    cases c with
    | tmp t =>
      show aIf _ (forceL _ fun tm=>awpF P a Q tm H) (forceL _ fun tm=>awpF P b Q tm H)=aIf _ _ _
      rw [forceL_eq, forceL_eq, iha, ihb]
    | const v =>
      show aIf _ (awpF P a Q tm H) (awpF P b Q tm H)=aIf _ _ _
      rw [iha, ihb]
    | _=>rfl
  | block id c ih =>
    intro Q tm H
    rw [awpF, awp, ih, inBlockF_eq]
  | loop c ih =>
    intro Q tm H
    rw [awpF, awp]
    simp only [ih, thenF_eq]
  | _=>intros; rfl

theorem awpF_loop {P:Program} {c:Code} {Q:AExit→List Value→AH→Prop} {tm:List Value} {H:AH} (I:Nat→List Value→AH→Prop) (n:Nat) (h0:I n tm H)
    (step:∀ n tm' H', I n tm' H'→awpF P c (thenF (fun tm'' H''=>∃ m, m<n∧I m tm'' H'') Q) tm' H'):awpF P (.loop c) Q tm H:=⟨I, ⟨n, h0⟩, step⟩

theorem awp_of {P:Program} {c:Code} {Q:AExit→List Value→AH→Prop} {tm:List Value} {H:AH} (h:awpF P c Q tm H):awp P c Q tm H:=by rw [← awpF_eq]; exact h

end Go.Proofs.YtjhbbbcelnlnpaaGreatDoor
