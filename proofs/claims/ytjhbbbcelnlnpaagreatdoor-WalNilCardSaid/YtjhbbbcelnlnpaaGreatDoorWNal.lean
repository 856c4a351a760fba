/- The rules of the small program logic are right: operations, code, calls. -/
import Derived.Test.YtjhbbbcelnlnpaaGreatDoorWNah
import Derived.Test.YtjhbbbcelnlnpaaGreatDoorWNaj
import Derived.Test.YtjhbbbcelnlnpaaGreatDoorWNak
import Derived.Deep.LoopGhost
import Derived.Lib.OthersKept
namespace Go.Proofs.YtjhbbbcelnlnpaaGreatDoor
open Go.RowKit

section
variable {D:List Deferred} {P:Program} {B:Nat} {w0:World} {μ:Mu} {H:AH} {w:World}

theorem wp_of_sem {o:Oper} {ca:Array Value} {s:Sem Value} {K:KV} (h:SemOK P B w0 μ w s K) (he:execOp (Act.eval { tmps:=ca, defers:=D }) o=(do pure (.value (← s)))) {next:Act→World→Prop} {Q:Exit→Act→World→Prop}
    (hK:∀ v H' μ' w' cv, K v H'→Mu.le μ μ'→Rel B w0 μ' H' w'→VR μ' v cv→next (({ tmps:=ca, defers:=D }:Act).put o.dst cv) w'):o.wp P { tmps:=ca, defers:=D } w next Q:=by
  obtain ⟨v, cv, H', μ', w', h1, h2, h3, h4, h5⟩:=h
  unfold Oper.wp
  rw [he]
  simp only [Sem.run_bind, h1, Result.andThen_ok, Sem.run_pure, Oper.upon]
  exact hK v H' μ' w' cv h2 h3 h4 h5

theorem or_of {tm:List Value} {ca:Array Value} (ht:LR μ tm ca) (x:Option Operand) (h:x.all operOK=true):OR μ (x.map (ev tm)) (x.map (Act.eval { tmps:=ca, defers:=D })):=by
  cases x with
  | none=>exact .inl ⟨rfl, rfl⟩
  | some x=>exact .inr ⟨_, _, rfl, rfl, ev_ok ht (by simpa using h)⟩

theorem lr_map {tm:List Value} {ca:Array Value} (ht:LR μ tm ca) (xs:Array Operand) (h:xs.all operOK=true):LR μ (xs.toList.map (ev tm)) (xs.map (Act.eval { tmps:=ca, defers:=D })):=by
  refine ⟨by simp, fun j v hj=>?_⟩
  rw [List.getElem?_map, Option.map_eq_some_iff] at hj
  obtain ⟨x, hx, rfl⟩:=hj
  rw [Array.getElem?_toList] at hx
  refine ⟨_, by rw [Array.getElem?_map, hx]; rfl, ev_ok ht ?_⟩
  rw [Array.all_eq_true] at h
  obtain ⟨hlt, he⟩:=Array.getElem?_eq_some_iff.1 hx
  rw [← he]; exact h j hlt

theorem pr_map {tm:List Value} {ca:Array Value} (ht:LR μ tm ca) (xs:Array (Nat × Operand)) (h:(xs.toList.map (·.2)).all operOK=true) :
    PR μ (xs.toList.map fun p=>(p.1, ev tm p.2)) (xs.map fun (i, x)=>(i, Act.eval { tmps:=ca, defers:=D } x)).toList:=by
  refine ⟨by simp, fun j q hj=>?_⟩
  rw [List.getElem?_map, Option.map_eq_some_iff] at hj
  obtain ⟨x, hx, rfl⟩:=hj
  refine ⟨(x.1, Act.eval { tmps:=ca, defers:=D } x.2), by rw [Array.toList_map, List.getElem?_map, hx]; rfl, rfl, ev_ok ht ?_⟩
  exact List.all_eq_true.1 h _ (List.mem_map.2 ⟨x, List.mem_of_getElem? hx, rfl⟩)

theorem callable_run {f:FuncId} (h:callable P f=true) (args:Array Value):(callFunc f args).run P w=.ok (.enter f args) w:=by
  unfold callable at h
  split at h
  · rename_i fn hf
    simp only [Bool.and_eq_true, bne_iff_ne] at h
    have hb:¬ fn.body=none:=by intro e; simp [e] at h
    simp [callFunc, hf]
    rw [if_neg h.2, if_neg hb]
  · cases h

theorem call_ok (hr:Rel B w0 μ H w) {o:Oper} {tm:List Value} {ca:Array Value} (ht:LR μ tm ca) {f:Operand} {args:Array Operand} {types:Array TypeId} (ho:o.op=.call ⟨.value f, args, types⟩)
    (hf:operOK f=true) (ha:args.all operOK=true) {K Kp:KV} (h:aCall P (ev tm f) (args.toList.map (ev tm)) H K Kp) {next:Act→World→Prop} {Q:Exit→Act→World→Prop}
    (hK:∀ v H' μ' w' cv, K v H'→Mu.le μ μ'→Rel B w0 μ' H' w'→VR μ' v cv→next (({ tmps:=ca, defers:=D }:Act).put o.dst cv) w')
    (hKp:∀ v H' μ' w' cv, Kp v H'→Mu.le μ μ'→Rel B w0 μ' H' w'→VR μ' v cv→Q (.panic [{ v:=cv, recovered:=false }]) { tmps:=ca, defers:=D } w') :
    o.wp P { tmps:=ca, defers:=D } w next Q:=by
  unfold aCall at h
  have hfv:=ev_ok (ds:=D) ht hf
  split at h
  · rename_i g first captured hfe
    rw [hfe] at hfv
    obtain ⟨h1, h2⟩:=h
    generalize hfc:Act.eval { tmps:=ca, defers:=D } f=fc at hfv
    cases hfv with
    | func s1 s2 v1 v2 =>
      rename_i first' captured'
      have hl1:LR μ first.toList first':=⟨by simpa using s1, fun j v hj=>by
        rw [Array.getElem?_toList] at hj
        have hlt:=(Array.getElem?_eq_some_iff.1 hj).1
        exact ⟨first'[j]'(by omega), by simp, v1 j v _ hj (by simp)⟩⟩
      have hl2:LR μ captured.toList captured':=⟨by simpa using s2, fun j v hj=>by
        rw [Array.getElem?_toList] at hj
        have hlt:=(Array.getElem?_eq_some_iff.1 hj).1
        exact ⟨captured'[j]'(by omega), by simp, v2 j v _ hj (by simp)⟩⟩
      have hl:=(hl1.append (lr_map (D:=D) ht args ha)).append hl2
      have hc:=h2 B w0 μ w _ hr hl
      have hrun:(execOp (Act.eval { tmps:=ca, defers:=D }) o).run P w=.ok (.enter g (first' ++ args.map (Act.eval { tmps:=ca, defers:=D }) ++ captured')) w:=by
        simp [execOp, ho, resolve, hfc, Deferred.ofValue, invoke, callable_run h1]
      unfold Oper.wp
      rw [hrun]
      simp only [Oper.upon]
      refine hc.mono ?_
      rintro e w' ⟨e', H', μ', r1, r2, r3, r4⟩
      cases e' with
      | ret v =>
        cases e with
        | returned cv=>exact hK v H' μ' w' cv r1 r2 r3 r4
        | panicked ch=>exact r4.elim
        | outgrown=>exact r4.elim
      | panic v =>
        cases e with
        | returned cv=>exact r4.elim
        | panicked ch =>
          obtain ⟨v', rfl, r5⟩:=r4
          exact hKp v H' μ' w' v' r1 r2 r3 r5
        | outgrown=>exact r4.elim
  · exact h.elim

theorem opok_mem {o:Op} (h:o.operands.all operOK=true) {x:Operand} (hx:x ∈ o.operands):operOK x=true:=by
  rw [Array.all_eq_true'] at h; exact h x hx

theorem builtin_ok (hr:Rel B w0 μ H w) {b:Builtin} {types:Array TypeId} {ty:TypeId} {args:List Value} {args':Array Value} {consts:Array Bool} (ha:LR μ args args') {K:KV} (h:aBuiltin P b types.toList args H K) :
    ∃ s, SemOK P B w0 μ w s K∧builtin b types ty consts args'=(do pure (.value (← s))):=by
  cases b
  case len =>
    simp only [aBuiltin, bLen] at h
    split at h
    · rename_i t ts x xs ht
      have h0:types[0]?=some t:=by rw [← Array.getElem?_toList, ht]; rfl
      obtain ⟨x', g1, g2⟩:=ha.2 0 x rfl
      exact ⟨_, ReadOK.sem hr (len_ok hr (ty:=ty) h0 g1 g2 h), rfl⟩
    · exact h.elim
  case max=>exact ⟨_, PureOK.sem hr (maxmin_ok (mx:=true) (types:=types) (ty:=ty) ha h), rfl⟩
  case min=>exact ⟨_, PureOK.sem hr (maxmin_ok (mx:=false) (types:=types) (ty:=ty) ha h), rfl⟩
  case delete=>exact ⟨_, delete_ok hr (ty:=ty) ha h, rfl⟩
  case copy =>
    simp only [aBuiltin, bCopy] at h
    split at h
    · rename_i t ts x y ht
      have h0:types[0]?=some t:=by rw [← Array.getElem?_toList, ht]; rfl
      have hsz:args'.size=2:=by have:=ha.1; simpa using this.symm
      obtain ⟨x', g1, g2⟩:=ha.2 0 x rfl
      obtain ⟨y', g3, g4⟩:=ha.2 1 y rfl
      have harg:args'=#[x', y']:=by
        apply Array.ext
        · simpa using hsz
        · intro j h1 h2
          have:j=0∨j=1:=by simp at h2; omega
          rcases this with rfl | rfl
          · rw [Array.getElem?_eq_getElem h1] at g1; simpa using g1
          · rw [Array.getElem?_eq_getElem h1] at g3; simpa using g3
      subst harg
      split at h
      · rename_i e he
        exact ⟨_, copy_ok hr (ty:=ty) h0 he h.1 g2 g4 h.2, rfl⟩
      · exact h.elim
    · exact h.elim
  case append =>
    simp only [aBuiltin, bAppend] at h
    split at h
    · rename_i t u ts x y ht
      have hsz:args'.size=2:=by have:=ha.1; simpa using this.symm
      obtain ⟨x', g1, g2⟩:=ha.2 0 x rfl
      obtain ⟨y', g3, g4⟩:=ha.2 1 y rfl
      have harg:args'=#[x', y']:=by
        apply Array.ext
        · simpa using hsz
        · intro j h1 h2
          have:j=0∨j=1:=by simp at h2; omega
          rcases this with rfl | rfl
          · rw [Array.getElem?_eq_getElem h1] at g1; simpa using g1
          · rw [Array.getElem?_eq_getElem h1] at g3; simpa using g3
      subst harg
      have hty:∀ ty, Builtin.append_ types ty #[x', y']=Builtin.append_ #[t, u] ty #[x', y']:=by
        intro ty
        have e0:types[0]?=(#[t, u]:Array TypeId)[0]?:=by rw [← Array.getElem?_toList, ht]; rfl
        have e1:types[1]?=(#[t, u]:Array TypeId)[1]?:=by rw [← Array.getElem?_toList, ht]; rfl
        simp only [Builtin.append_]
        rw [e0, e1]
      split at h
      · rename_i e e' ht1 hu1
        split at h
        · rename_i a n c
          split at h
          · rename_i new hnew
            refine ⟨_, ?_, by simp only [builtin]; rw [hty]⟩
            rcases slice_cells (P:=P) hr g4 hnew with ⟨rfl, rfl, rfl, rfl⟩ | ⟨ad, cap, l, rfl, k1, k2, k3⟩
            · exact append_ok hr ht1 hu1 (.inr ⟨_, rfl⟩) g2 (l:=[]) (by simp [Builtin.lenOf]) (by intro k; simp [Builtin.firstCells]) (by simp [LR]) h
            · exact append_ok hr ht1 hu1 (.inr ⟨_, rfl⟩) g2 (l:=l) (by simp [Builtin.lenOf]) (fun k=>by simp only [Builtin.firstCells]; exact k1 k) k3 h
          · exact h.elim
        · exact h.elim
      · rename_i e ht1 hu1
        split at h
        · rename_i s
          obtain ⟨h1, h⟩:=h
          refine ⟨_, ?_, by simp only [builtin]; rw [hty]⟩
          cases g4
          have hx:((s.extract 0 s.size).data.map fun b=>Value.int .u8 b.toNat)=(byteCells s).toArray:=by
            have:s.extract 0 s.size=s:=by simp
            rw [this]
            apply Array.ext'
            simp [byteCells]
          refine append_ok hr ht1 hu1 (.inl rfl) g2 (l:=byteCells s) (by simp [Builtin.lenOf]) (fun k=>?_) ?_ h
          · simp only [Builtin.firstCells, hx, Sem.run_pure]
          · refine ⟨by simp, fun j v hv=>⟨v, by simpa using hv, ?_⟩⟩
            obtain ⟨_, rfl⟩:=byteCells_at s j v hv
            exact .int _ _
        · exact h.elim
      · exact h.elim
    · exact h.elim
  all_goals exact h.elim

theorem put_ok {tm:List Value} {ca:Array Value} (ht:LR μ tm ca) {v cv:Value} (hv:VR μ v cv) (d:Option Tmp):LR μ (putT tm d v) (({ tmps:=ca, defers:=D }:Act).put d cv).tmps:=by
  cases d with
  | none=>exact ht
  | some d=>exact ht.set d hv
theorem put_defers {ca:Array Value} (d:Option Tmp) (cv:Value):(({ tmps:=ca, defers:=D }:Act).put d cv)={ tmps:=(({ tmps:=ca, defers:=D }:Act).put d cv).tmps, defers:=D }:=by cases d <;> rfl

theorem op_okO (hr:Rel B w0 μ H w) {tm:List Value} {ca:Array Value} (ht:LR μ tm ca) {o:Oper} (hok:o.op.operands.all operOK=true) {K Kp:KV} (h:aopO P tm o H K Kp) {next:Act→World→Prop} {Q:Exit→Act→World→Prop}
    (hK:∀ v H' μ' w' cv, K v H'→Mu.le μ μ'→Rel B w0 μ' H' w'→VR μ' v cv→next (({ tmps:=ca, defers:=D }:Act).put o.dst cv) w')
    (hKp:∀ v H' μ' w' cv, Kp v H'→Mu.le μ μ'→Rel B w0 μ' H' w'→VR μ' v cv→Q (.panic [{ v:=cv, recovered:=false }]) { tmps:=ca, defers:=D } w') :
    o.wp P { tmps:=ca, defers:=D } w next Q:=by
  obtain ⟨dst, op, type, pos, after, guard⟩:=o
  have hx:∀ x ∈ op.operands, VR μ (ev tm x) (Act.eval { tmps:=ca, defers:=D } x):=fun x hx=>ev_ok ht (opok_mem hok hx)
  cases op with
  | move x=>exact wp_of_sem ⟨_, _, _, _, _, rfl, h, Mu.le_refl _, hr, hx x (by simp [Op.operands])⟩ (s:=pure (Act.eval { tmps:=ca, defers:=D } x)) rfl hK
  | assign x=>exact wp_of_sem ⟨_, _, _, _, _, rfl, h, Mu.le_refl _, hr, hx x (by simp [Op.operands])⟩ (s:=pure (Act.eval { tmps:=ca, defers:=D } x)) rfl hK
  | pick c a b =>
    refine wp_of_sem (PureOK.sem hr (pick_ok (hx c (by simp [Op.operands])) (hx a (by simp [Op.operands])) (hx b (by simp [Op.operands])) h)) ?_ hK
    simp [execOp]
  | alloc t=>exact wp_of_sem (alloc_ok hr h) rfl hK
  | box t x=>exact wp_of_sem (newT_ok hr (t:=t) (hx x (by simp [Op.operands])) h) rfl hK
  | build t ps =>
    refine wp_of_sem (PureOK.sem hr (build_ok (pr_map (D:=D) ht ps ?_) h)) rfl hK
    have:=hok; simp only [Op.operands] at this; simpa using this
  | buildSlice t len ps =>
    refine wp_of_sem (buildSlice_ok hr (pr_map (D:=D) ht ps ?_) h) rfl hK
    have:=hok; simp only [Op.operands] at this; simpa using this
  | load t a=>exact wp_of_sem (ReadOK.sem hr (load_ok hr (hx a (by simp [Op.operands])) h)) rfl hK
  | store t a x =>
    obtain ⟨H', w', h1, h2, h3⟩:=store_ok hr (hx a (by simp [Op.operands])) (hx x (by simp [Op.operands])) h
    unfold Oper.wp
    have he:execOp (Act.eval { tmps:=ca, defers:=D }) ⟨dst, .store t a x, type, pos, after, guard⟩=(do Instr.storeAt t (Act.eval { tmps:=ca, defers:=D } a) (Act.eval { tmps:=ca, defers:=D } x); pure .skip):=rfl
    rw [he]
    simp only [Sem.run_bind, h1, Result.andThen_ok, Sem.run_pure, Oper.upon]
    exact hK _ _ _ _ _ h2 (Mu.le_refl _) h3 VR.undef
  | nilCheck x =>
    have hv:=hx x (by simp [Op.operands])
    simp only [aopO] at h
    unfold aNilCheck at h
    split at h
    · rename_i a ha
      rw [ha] at hv
      generalize hc:Act.eval { tmps:=ca, defers:=D } x=c at hv
      cases hv with
      | ptr hp =>
        refine wp_of_sem ⟨_, _, _, _, _, rfl, h, Mu.le_refl _, hr, .ptr hp⟩ (s:=pure _) ?_ hK
        simp [execOp, hc]
    · exact h.elim
  | binOp op t x y yt=>exact wp_of_sem (PureOK.sem hr (bin_ok (x:=x) (y:=y) (hx x (by simp [Op.operands])) (hx y (by simp [Op.operands])) h)) rfl hK
  | unOp op t x=>exact wp_of_sem (PureOK.sem hr (un_ok (hx x (by simp [Op.operands])) h)) rfl hK
  | convert s d x=>exact wp_of_sem (convert_ok hr (hx x (by simp [Op.operands])) h) rfl hK
  | makeInterface t x =>
    obtain ⟨⟨d, hd, hne⟩, h⟩:=h
    refine wp_of_sem (s:=Instr.makeInterface t (Act.eval { tmps:=ca, defers:=D } x)) ⟨_, _, _, _, _, ?_, h, Mu.le_refl _, hr, .iface (hx x (by simp [Op.operands]))⟩ rfl hK
    simp only [Instr.makeInterface, Sem.run_bind, run_und hd, Result.andThen_ok]
    cases d <;> first | rfl | exact absurd rfl (hne _)
  | makeSlice t l c=>exact wp_of_sem (makeSlice_ok hr (hx l (by simp [Op.operands])) (hx c (by simp [Op.operands])) h) rfl hK
  | slice t x lo hi mx =>
    have h1:lo.all operOK=true:=by cases lo with | none=>rfl | some y=>exact opok_mem hok (by simp [Op.operands])
    have h2:hi.all operOK=true:=by cases hi with | none=>rfl | some y=>exact opok_mem hok (by simp [Op.operands])
    have h3:mx.all operOK=true:=by cases mx with | none=>rfl | some y=>exact opok_mem hok (by simp [Op.operands])
    exact wp_of_sem (PureOK.sem hr (slice_ok hr (hx x (by simp [Op.operands])) (or_of ht lo h1) (or_of ht hi h2) (or_of ht mx h3) h)) rfl hK
  | fieldAddr t x n=>exact wp_of_sem (PureOK.sem hr (field_ok (hx x (by simp [Op.operands])) h)) rfl hK
  | field t x n=>exact wp_of_sem (PureOK.sem hr (fieldOf_ok (hx x (by simp [Op.operands])) h)) rfl hK
  | indexAddr t x i=>exact wp_of_sem (PureOK.sem hr (indexAddr_ok (hx x (by simp [Op.operands])) (hx i (by simp [Op.operands])) h)) rfl hK
  | index t x i=>exact wp_of_sem (PureOK.sem hr (index_ok (hx x (by simp [Op.operands])) (hx i (by simp [Op.operands])) h)) rfl hK
  | extract x n=>exact wp_of_sem (PureOK.sem hr (extract_ok (hx x (by simp [Op.operands])) h)) rfl hK
  | call c =>
    obtain ⟨callee, args, types⟩:=c
    have hargs:args.all operOK=true:=by
      rw [Array.all_eq_true']
      intro x hxm
      exact opok_mem hok (by simp [Op.operands, Call.operands, hxm])
    cases callee with
    | builtin b =>
      obtain ⟨s, h1, h2⟩:=builtin_ok (ty:=type) (consts:=args.map fun | .const _=>true | _=>false) hr (lr_map (D:=D) ht args hargs) h
      refine wp_of_sem h1 ?_ hK
      rw [← h2]
      rfl
    | value f=>exact call_ok hr ht rfl (opok_mem hok (by simp [Op.operands, Call.operands])) hargs h hK hKp
    | invoke r m=>exact h.elim
  | panic x =>
    have hv:=hx x (by simp [Op.operands])
    simp only [aopO] at h
    unfold aPanic at h
    split at h
    · rename_i t v ha
      rw [ha] at hv
      generalize hc:Act.eval { tmps:=ca, defers:=D } x=c at hv
      cases hv with
      | iface hv' =>
        unfold Oper.wp
        simp only [execOp, hc, Instr.panic, goPanic]
        exact hKp _ _ _ _ _ h (Mu.le_refl _) hr (.iface hv')
    · exact h.elim
  | makeFunc fn first caps =>
    cases fn with
    | func g =>
      refine wp_of_sem (s:=Instr.makeFunc (.func g) (first.map (Act.eval { tmps:=ca, defers:=D })) (caps.map (Act.eval { tmps:=ca, defers:=D }))) ⟨_, _, _, _, _, rfl, h, Mu.le_refl _, hr, ?_⟩ rfl hK
      refine .func (by simp) (by simp) (fun j v v' h1 h2=>?_) (fun j v v' h1 h2=>?_)
      · rw [Array.getElem?_map, Option.map_eq_some_iff] at h1 h2
        obtain ⟨a, ha, rfl⟩:=h1
        obtain ⟨b, hb, rfl⟩:=h2
        rw [ha] at hb; cases hb
        exact hx a (by simp only [Op.operands, Array.mem_append]; exact .inl (Array.mem_of_getElem? ha))
      · rw [Array.getElem?_map, Option.map_eq_some_iff] at h1 h2
        obtain ⟨a, ha, rfl⟩:=h1
        obtain ⟨b, hb, rfl⟩:=h2
        rw [ha] at hb; cases hb
        exact hx a (by simp only [Op.operands, Array.mem_append]; exact .inr (Array.mem_of_getElem? ha))
    | _=>exact h.elim
  | typeAssert x xt t ok =>
    cases ok with
    | false=>exact h.elim
    | true =>
      have hv:=hx x (by simp [Op.operands])
      simp only [aopO] at h
      unfold aTA at h
      split at h
      · rename_i u v ha
        rw [ha] at hv
        obtain ⟨rfl, ⟨d, hd, hne⟩, h⟩:=h
        generalize hc:Act.eval { tmps:=ca, defers:=D } x=c at hv
        cases hv with
        | iface hv' =>
          rename_i v'
          refine wp_of_sem (s:=Instr.typeAssert (.iface u v') xt u true) ⟨_, .tuple #[v', .bool true], _, _, _, ?_, h, Mu.le_refl _, hr, ?_⟩ (by simp [execOp, hc]) hK
          · simp only [Instr.typeAssert, Sem.run_bind, run_und hd, Result.andThen_ok]
            cases d <;> first | exact absurd rfl (hne _) | simp
          · refine .tuple rfl fun j a b h1 h2=>?_
            match j, h1, h2 with
            | 0, h1, h2=>simp at h1 h2; subst h1; subst h2; exact hv'
            | 1, h1, h2=>simp at h1 h2; subst h1; subst h2; exact .bool _
            | j + 2, h1, h2=>simp at h1
      · exact h.elim
  | range t x =>
    have hv:=hx x (by simp [Op.operands])
    simp only [aopO] at h
    unfold aRange at h
    split at h
    · rename_i s ha
      rw [ha] at hv
      obtain ⟨hd, h⟩:=h
      generalize hc:Act.eval { tmps:=ca, defers:=D } x=c at hv
      cases hv
      refine wp_of_sem (s:=Instr.range t (.string s)) ⟨_, .pointer (some ⟨w.heap.size, 0, none⟩), _, μ.put H.next ⟨w.heap.size, 0, 0, 0⟩, w.alloc (.stringIter s 0), ?_, h, Mu.put_le hr.fresh _, ?_, .ptr (p:=⟨w.heap.size, 0, 0, 0⟩) (Mu.put_self _ _)⟩ (by simp [execOp, hc]) hK
      · simp [Instr.range, run_und hd]
      · exact Rel.push (w:=w) hr rfl rfl rfl rfl rfl ⟨rfl, hr.size, Array.getElem?_push_size⟩
    · rename_i m ha
      rw [ha] at hv
      exact wp_of_sem (mapRange_ok hr hv h.1 h.2) (by simp [execOp]) hK
    · exact h.elim
  | entry it=>exact wp_of_sem (ReadOK.sem hr (mapEntry_ok hr (hx it (by simp [Op.operands])) h)) rfl hK
  | makeMap t rs =>
    cases rs with
    | none=>exact wp_of_sem (makeMap_ok hr (t:=t) h) rfl hK
    | some y=>exact h.elim
  | lookup t x k ok=>exact wp_of_sem (ReadOK.sem hr (lookup_ok hr (hx x (by simp [Op.operands])) (hx k (by simp [Op.operands])) h)) rfl hK
  | mapUpdate t m k x =>
    obtain ⟨H', w', h1, h2, h3⟩:=mapUpdate_ok hr (hx m (by simp [Op.operands])) (hx k (by simp [Op.operands])) (hx x (by simp [Op.operands])) h
    unfold Oper.wp
    have he:execOp (Act.eval { tmps:=ca, defers:=D }) ⟨dst, .mapUpdate t m k x, type, pos, after, guard⟩=(do Instr.mapUpdate t (Act.eval { tmps:=ca, defers:=D } m) (Act.eval { tmps:=ca, defers:=D } k) (Act.eval { tmps:=ca, defers:=D } x); pure .skip):=rfl
    rw [he]
    simp only [Sem.run_bind, h1, Result.andThen_ok, Sem.run_pure, Oper.upon]
    exact hK _ _ _ _ _ h2 (Mu.le_refl _) h3 VR.undef
  | mapEntry t m k=>exact wp_of_sem (mapEntryAt_ok hr (hx m (by simp [Op.operands])) (hx k (by simp [Op.operands])) h) rfl hK
  | entryStore t m b x =>
    obtain ⟨H', w', h1, h2, h3⟩:=entryStore_ok (P:=P) (t:=t) hr (hx m (by simp [Op.operands])) (hx b (by simp [Op.operands])) (hx x (by simp [Op.operands])) h
    unfold Oper.wp
    have he:execOp (Act.eval { tmps:=ca, defers:=D }) ⟨dst, .entryStore t m b x, type, pos, after, guard⟩=(do Instr.entryStore t (Act.eval { tmps:=ca, defers:=D } m) (Act.eval { tmps:=ca, defers:=D } b) (Act.eval { tmps:=ca, defers:=D } x); pure .skip):=rfl
    rw [he]
    simp only [Sem.run_bind, h1, Result.andThen_ok, Sem.run_pure, Oper.upon]
    exact hK _ _ _ _ _ h2 (Mu.le_refl _) h3 VR.undef
  | insert t m k x =>
    obtain ⟨H', w', h1, h2, h3⟩:=mapUpdate_ok hr (hx m (by simp [Op.operands])) (hx k (by simp [Op.operands])) (hx x (by simp [Op.operands])) h
    unfold Oper.wp
    have he:execOp (Act.eval { tmps:=ca, defers:=D }) ⟨dst, .insert t m k x, type, pos, after, guard⟩=(do Instr.mapUpdate t (Act.eval { tmps:=ca, defers:=D } m) (Act.eval { tmps:=ca, defers:=D } k) (Act.eval { tmps:=ca, defers:=D } x); pure .skip):=rfl
    rw [he]
    simp only [Sem.run_bind, h1, Result.andThen_ok, Sem.run_pure, Oper.upon]
    exact hK _ _ _ _ _ h2 (Mu.le_refl _) h3 VR.undef
  | next it st =>
    cases st with
    | false=>exact wp_of_sem (mapNext_ok hr (hx it (by simp [Op.operands])) h) rfl hK
    | true =>
      have hv:=hx it (by simp [Op.operands])
      simp only [aopO] at h
      unfold aNext at h
      split at h
      · rename_i a ha
        rw [ha] at hv
        unfold wNx at h
        split at h
        · rename_i i
          split at h
          · rename_i s pos hg
            generalize hc:Act.eval { tmps:=ca, defers:=D } it=c at hv
            cases hv with
            | ptr hp =>
              rename_i p
              obtain ⟨q, hq, hoff, hB, hh⟩:=hr.obj i _ hg
              rw [hp] at hq; cases hq
              have hz:p.off + 0=0:=by omega
              by_cases hlt:pos<s.size
              · refine wp_of_sem (s:=Instr.next (.pointer (some ⟨p.block, p.off + 0, none⟩)) true type) ⟨_, .tuple #[.bool true, .int .i64 pos, .int .i32 (Utf8.decode s pos).1], _, μ, w.iterAt p.block s (pos + (Utf8.decode s pos).2), ?_, h.1 hlt, Mu.le_refl _, ?_, ?_⟩ (by simp [execOp, hc]) hK
                · rw [hz]; exact Lib.run_next_any_at w p.block s pos type hh hlt
                · have hbl:p.block<w.heap.size:=(Array.getElem?_eq_some_iff.1 hh).1
                  refine hr.set hp hg rfl rfl rfl rfl rfl (by simp [World.iterAt]) (fun b hb=>?_) ?_ ⟨hoff, hB, Lib.iterAt_heap w p.block s pos _ hh⟩
                  · simp only [World.iterAt]
                    rw [Array.getElem?_setIfInBounds, if_neg (fun e=>hb e.symm)]
                  · unfold World.shape?
                    rw [Lib.iterAt_heap w p.block s pos _ hh, hh]
                · exact VR.const (by simp [constOK, plainV])
              · refine wp_of_sem (s:=Instr.next (.pointer (some ⟨p.block, p.off + 0, none⟩)) true type) ⟨_, .tuple #[.bool false], _, μ, w, ?_, h.2 hlt, Mu.le_refl _, hr, VR.const (by simp [constOK, plainV])⟩ (by simp [execOp, hc]) hK
                rw [hz]; exact Lib.run_next_end_at w p.block s pos type hh hlt
          · exact h.elim
        · exact h.elim
      · exact h.elim
  | _=>exact h.elim

theorem op_ok (hr:Rel B w0 μ H w) {tm:List Value} {ca:Array Value} (ht:LR μ tm ca) {o:Oper} (hok:o.op.operands.all operOK=true) {K Kp:KV} (h:aop P tm o H K Kp) {next:Act→World→Prop} {Q:Exit→Act→World→Prop}
    (hK:∀ v H' μ' w' cv, K v H'→Mu.le μ μ'→Rel B w0 μ' H' w'→VR μ' v cv→next (({ tmps:=ca, defers:=D }:Act).put o.dst cv) w')
    (hKp:∀ v H' μ' w' cv, Kp v H'→Mu.le μ μ'→Rel B w0 μ' H' w'→VR μ' v cv→Q (.panic [{ v:=cv, recovered:=false }]) { tmps:=ca, defers:=D } w') :
    o.wp P { tmps:=ca, defers:=D } w next Q:=op_okO hr ht hok (aop_of h) hK hKp

theorem lift_panic {Q:AExit→List Value→AH→Prop} {tm:List Value} {ca:Array Value} (ht:LR μ tm ca) {v cv:Value} {H':AH} {μ':Mu} {w':World} (h:Q (.panic v) tm H') (h1:Mu.le μ μ') (h2:Rel B w0 μ' H' w') (h3:VR μ' v cv) :
    lift D B w0 μ Q (.panic [{ v:=cv, recovered:=false }]) { tmps:=ca, defers:=D } w' :=
  ⟨_, _, _, _, h, h1, h2, fun _=>ht.mono h1, rfl, cv, rfl, h3⟩

theorem wpOps_mono {ops:Array Oper} {Q Q':Exit→Act→World→Prop} (hq:∀ e a w, Q e a w→Q' e a w):∀ (l:List Nat) (a:Act) (w:World), wpOps P ops Q l a w→wpOps P ops Q' l a w:=by
  have hl:LetsOut Q→LetsOut Q':=fun ⟨a, w, h⟩=>⟨a, w, hq _ _ _ h⟩
  intro l
  induction l with
  | nil=>intro a w h; exact hq _ _ _ h
  | cons i l ih =>
    intro a w h
    simp only [wpOps] at h ⊢
    split at h
    · exact ih _ _ h
    · split at h
      · rename_i hw
        rw [if_pos hw]
        rcases h with h | ⟨h1, h2⟩
        · left
          unfold Oper.wp Oper.upon at h ⊢
          split at h
          · exact ih _ _ h
          · exact ih _ _ h
          · exact ih _ _ h
          · refine h.mono ?_
            intro e w' hh
            cases e with
            | returned v=>exact ih _ _ hh
            | panicked ch=>exact hq _ _ _ hh
            | outgrown=>exact hl hh
          · exact h.mono fun v w' hh=>ih _ _ hh
          · exact hq _ _ _ h
          · exact h
        · exact .inr ⟨h1, hl h2⟩
      · rename_i hw
        rw [if_neg hw]
        exact ih _ _ h

theorem yielded_none {tm:List Value} {ca:Array Value} (ht:LR μ tm ca) {ops:Array Oper} {j:Nat} {t:Tmp} {cs:Array Value} (hd:(ops[j]?).bind (·.dst)=some t) (hb:tm.getD t undef=.tuple cs):yielded ops ca j=none:=by
  unfold yielded
  rw [hd]
  simp only [Option.bind_some]
  by_cases hlt:t<tm.length
  · have hbs:tm[t]?=some (.tuple cs):=by
      rw [List.getD_eq_getElem?_getD] at hb
      simp only [List.getElem?_eq_getElem hlt, Option.getD_some] at hb
      rw [List.getElem?_eq_getElem hlt, hb]
    obtain ⟨v', h1, h2⟩:=ht.2 t _ hbs
    rw [h1]
    cases h2
    rfl
  · rw [Array.getElem?_eq_none (by rw [← ht.1]; exact Nat.le_of_not_lt hlt)]

theorem getD_bool {tm:List Value} {t:Nat} {b:Bool} (h:tm.getD t undef=.bool b):tm[t]?=some (.bool b):=by
  rw [List.getD_eq_getElem?_getD] at h
  cases hq:tm[t]? with
  | none=>rw [hq] at h; simp [Go.undef] at h
  | some v=>rw [hq] at h; simpa using h
theorem set_bool {tm:List Value} {t:Nat} {b:Bool} (h:tm[t]?=some (.bool b)):tm.set t (.bool b)=tm:=by
  apply List.ext_getElem?
  intro n
  by_cases e:t=n
  · subst e; rw [h]; rw [List.getElem?_set_self (List.getElem?_eq_some_iff.1 h).1]
  · rw [List.getElem?_set_ne e]

theorem gop_cases {ops:Array Oper} {Q:AExit→List Value→AH→Prop} {o:Oper} {K:List Value→AH→Prop} {tm:List Value} {ca:Array Value} (ht:LR μ tm ca) (h:gop P ops Q o K tm H) :
    (Region.wanted o (yielded ops ca)=true∧aop P tm o H (fun v H'=>K (putT tm o.dst v) H') (fun v H'=>Q (.panic v) tm H')) ∨
    (Region.wanted o (yielded ops ca)=false∧K (putT tm o.dst undef) H):=by
  unfold gop at h
  split at h
  · rename_i hg
    exact .inl ⟨by simp [Region.wanted, hg], h⟩
  · rename_i j want hg
    split at h
    · rename_i t hd
      rcases aGd_cases h with ⟨_, h⟩ | ⟨_, ⟨cs, hb⟩, h⟩
      · rcases aIf_cases h with ⟨hb, h⟩ | ⟨hb, h⟩
        · have hbs:=getD_bool hb
          obtain ⟨b', hb1, hb2⟩:=ht.2 t _ hbs
          cases hb2
          rw [set_bool hbs] at h
          have hy:yielded ops ca j=some true:=by simp only [yielded, hd, Option.bind_some, hb1]
          cases want
          · exact .inr ⟨by simp [Region.wanted, hg, hy], h⟩
          · exact .inl ⟨by simp [Region.wanted, hg, hy], h⟩
        · have hbs:=getD_bool hb
          obtain ⟨b', hb1, hb2⟩:=ht.2 t _ hbs
          cases hb2
          rw [set_bool hbs] at h
          have hy:yielded ops ca j=some false:=by simp only [yielded, hd, Option.bind_some, hb1]
          cases want
          · exact .inl ⟨by simp [Region.wanted, hg, hy], h⟩
          · exact .inr ⟨by simp [Region.wanted, hg, hy], h⟩
      · have hy:yielded ops ca j=none:=yielded_none ht hd hb
        exact .inr ⟨by simp [Region.wanted, hg, hy], h⟩
    · exact h.elim
theorem aops_ok (ops:Array Oper) {Q:AExit→List Value→AH→Prop}:∀ (l:List Oper) (k:Nat) (tm:List Value) (ca:Array Value) (μ:Mu) (H:AH) (w:World),
    (l.all fun o=>o.op.operands.toList.all operOK)=true→ops.toList.drop k=l→aops P ops Q l tm H→Rel B w0 μ H w→LR μ tm ca→wpOps P ops (lift D B w0 μ Q) (List.range' k l.length) { tmps:=ca, defers:=D } w:=by
  intro l
  induction l with
  | nil =>
    intro k tm ca μ H w _ _ h hr ht
    exact ⟨_, _, _, _, h, Mu.le_refl _, hr, ht, rfl, trivial⟩
  | cons o l ih =>
    intro k tm ca μ H w hall hk h hr ht
    simp only [List.all_cons, Bool.and_eq_true] at hall
    have hok:o.op.operands.all operOK=true:=by rw [← Array.all_toList]; exact hall.1
    replace ih:=fun k tm ca μ H w=>ih k tm ca μ H w hall.2
    have ho:ops[k]?=some o:=by
      have:=congrArg (fun l=>l[0]?) hk
      simp only [List.getElem?_drop, Nat.add_zero, Array.getElem?_toList] at this
      simpa using this
    have hk':ops.toList.drop (k + 1)=l:=by
      have:=congrArg (List.drop 1) hk
      simpa [List.drop_drop, Nat.add_comm] using this
    simp only [List.length_cons, List.range'_succ]
    simp only [wpOps, ho]
    rcases gop_cases ht h with ⟨hw, h⟩ | ⟨hw, h⟩
    · rw [if_pos hw]
      refine .inl (op_ok hr ht hok h ?_ ?_)
      · intro v H' μ' w' cv h1 h2 h3 h4
        rw [put_defers]
        exact wpOps_mono (fun _ _ _ hh=>lift.le h2 hh) _ _ _ (ih (k + 1) _ _ μ' H' w' hk' h1 h3 (put_ok (ht.mono h2) h4 _))
      · intro v H' μ' w' cv h1 h2 h3 h4
        exact lift_panic ht h1 h2 h3 h4
    · rw [if_neg (by rw [hw]; simp), put_defers]
      exact ih (k + 1) _ _ μ H w hk' h hr (put_ok ht VR.undef _)

theorem PureOK.exec {s:Sem Value} {K:Value→Prop} (h:PureOK P μ s K) {ρ:Operand→Value} {o:Oper} (he:execOp ρ o=(do pure (.value (← s)))) :
    ∃ v cv, (∀ w, (execOp ρ o).run P w=.ok (.value cv) w)∧K v∧VR μ v cv:=by
  obtain ⟨v, cv, h1, h2, h3⟩:=h
  exact ⟨v, cv, fun w=>by rw [he]; simp [h1 w], h2, h3⟩

theorem silent_okO {tm:List Value} {ca:Array Value} (ht:LR μ tm ca) {o:Oper} (hok:o.op.operands.all operOK=true) (hs:silentOp P o.op=true) {K Kp:KV} (h:aopO P tm o H K Kp) (hr:Rel B w0 μ H w) :
    ∃ v cv, (∀ w, (execOp (Act.eval { tmps:=ca, defers:=D }) o).run P w=.ok (.value cv) w)∧K v H∧VR μ v cv:=by
  obtain ⟨dst, op, type, pos, after, guard⟩:=o
  have hx:∀ x ∈ op.operands, VR μ (ev tm x) (Act.eval { tmps:=ca, defers:=D } x):=fun x hx=>ev_ok ht (opok_mem hok hx)
  cases op with
  | move x=>exact ⟨_, _, fun w=>rfl, h, hx x (by simp [Op.operands])⟩
  | assign x=>exact ⟨_, _, fun w=>rfl, h, hx x (by simp [Op.operands])⟩
  | pick c a b=>exact PureOK.exec (K:=fun v=>K v H) (pick_ok (hx c (by simp [Op.operands])) (hx a (by simp [Op.operands])) (hx b (by simp [Op.operands])) h) (by simp [execOp])
  | build t ps =>
    refine PureOK.exec (K:=fun v=>K v H) (build_ok (pr_map (D:=D) ht ps ?_) h) rfl
    have:=hok; simp only [Op.operands] at this; simpa using this
  | nilCheck x =>
    have hv:=hx x (by simp [Op.operands])
    simp only [aopO] at h
    unfold aNilCheck at h
    split at h
    · rename_i a ha
      rw [ha] at hv
      generalize hc:Act.eval { tmps:=ca, defers:=D } x=c at hv
      cases hv with
      | ptr hp=>exact ⟨_, _, fun w=>by simp [execOp, hc], h, .ptr hp⟩
    · exact h.elim
  | binOp op t x y yt=>exact PureOK.exec (K:=fun v=>K v H) (bin_ok (x:=x) (y:=y) (hx x (by simp [Op.operands])) (hx y (by simp [Op.operands])) h) rfl
  | unOp op t x=>exact PureOK.exec (K:=fun v=>K v H) (un_ok (hx x (by simp [Op.operands])) h) rfl
  | convert s d x =>
    have hv:=hx x (by simp [Op.operands])
    simp only [aopO] at h
    simp only [silentOp] at hs
    unfold aConvert at h
    split at h
    · rename_i k k0 n hd hxv
      rw [hxv] at hv
      generalize hc:Act.eval { tmps:=ca, defers:=D } x=c at hv
      cases hv
      obtain ⟨h1, h2, h3⟩:=h
      obtain ⟨ds, hs1⟩:=Option.isSome_iff_exists.1 h2
      exact ⟨_, _, fun w=>by simp [execOp, hc, convert, run_und hs1, run_und hd, Conv.intToInt], h3, .int _ _⟩
    · rename_i sv hd hxv
      rw [hxv] at hv
      generalize hc:Act.eval { tmps:=ca, defers:=D } x=c at hv
      cases hv
      obtain ⟨h2, h3⟩:=h
      obtain ⟨ds, hs1⟩:=Option.isSome_iff_exists.1 h2
      exact ⟨_, _, fun w=>by simp [execOp, hc, convert, run_und hs1, run_und hd], h3, .string _⟩
    · rename_i e sv hd hxv
      rw [hd] at hs
      cases hq:P.underlying s with
      | none=>rw [hq] at hs; simp at hs
      | some q=>rw [hq] at hs; cases q <;> simp at hs
    · rename_i a l c hd hxv
      obtain ⟨⟨e, he, _⟩, _⟩:=h
      rw [he] at hs; simp at hs
    · exact h.elim
  | makeInterface t x =>
    obtain ⟨⟨d, hd, hne⟩, h⟩:=h
    refine ⟨_, .iface t (Act.eval { tmps:=ca, defers:=D } x), fun w=>?_, h, .iface (hx x (by simp [Op.operands]))⟩
    show (do pure (.value (← Instr.makeInterface t (Act.eval { tmps:=ca, defers:=D } x))):Sem Next).run P w=_
    simp only [Instr.makeInterface, Sem.run_bind, run_und hd, Result.andThen_ok]
    cases d <;> first | rfl | exact absurd rfl (hne _)
  | slice t x lo hi mx =>
    have h1:lo.all operOK=true:=by cases lo with | none=>rfl | some y=>exact opok_mem hok (by simp [Op.operands])
    have h2:hi.all operOK=true:=by cases hi with | none=>rfl | some y=>exact opok_mem hok (by simp [Op.operands])
    have h3:mx.all operOK=true:=by cases mx with | none=>rfl | some y=>exact opok_mem hok (by simp [Op.operands])
    exact PureOK.exec (K:=fun v=>K v H) (slice_ok hr (hx x (by simp [Op.operands])) (or_of ht lo h1) (or_of ht hi h2) (or_of ht mx h3) h) rfl
  | fieldAddr t x n=>exact PureOK.exec (K:=fun v=>K v H) (field_ok (hx x (by simp [Op.operands])) h) rfl
  | field t x n=>exact PureOK.exec (K:=fun v=>K v H) (fieldOf_ok (hx x (by simp [Op.operands])) h) rfl
  | indexAddr t x i=>exact PureOK.exec (K:=fun v=>K v H) (indexAddr_ok (hx x (by simp [Op.operands])) (hx i (by simp [Op.operands])) h) rfl
  | index t x i=>exact PureOK.exec (K:=fun v=>K v H) (index_ok (hx x (by simp [Op.operands])) (hx i (by simp [Op.operands])) h) rfl
  | extract x n=>exact PureOK.exec (K:=fun v=>K v H) (extract_ok (hx x (by simp [Op.operands])) h) rfl
  | call c =>
    obtain ⟨callee, args, types⟩:=c
    have hargs:args.all operOK=true:=by
      rw [Array.all_eq_true']
      intro x hxm
      exact opok_mem hok (by simp [Op.operands, Call.operands, hxm])
    cases callee with
    | builtin b =>
      cases b with
      | max=>exact PureOK.exec (K:=fun v=>K v H) (maxmin_ok (mx:=true) (types:=types) (ty:=type) (lr_map (D:=D) ht args hargs) h) rfl
      | min=>exact PureOK.exec (K:=fun v=>K v H) (maxmin_ok (mx:=false) (types:=types) (ty:=type) (lr_map (D:=D) ht args hargs) h) rfl
      | len =>
        simp only [aopO, aBuiltin, bLen] at h
        split at h
        · rename_i t ts x xs ht0 hx0
          have h0:types[0]?=some t:=by rw [← Array.getElem?_toList, ht0]; rfl
          have hm:=lr_map (D:=D) ht args hargs
          rw [hx0] at hm
          obtain ⟨x', g1, g2⟩:=hm.2 0 x rfl
          simp only [silentOp, h0, Option.bind_some] at hs
          refine PureOK.exec (K:=fun v=>K v H) (len_pure (types:=types) (ty:=type) h0 g1 g2 ?_ h) rfl
          exact hs
        · exact h.elim
      | _=>simp [silentOp] at hs
    | value f=>simp [silentOp] at hs
    | invoke r m=>simp [silentOp] at hs
  | _=>simp [silentOp] at hs

theorem silent_ok {tm:List Value} {ca:Array Value} (ht:LR μ tm ca) {o:Oper} (hok:o.op.operands.all operOK=true) (hs:silentOp P o.op=true) {K Kp:KV} (h:aop P tm o H K Kp) (hr:Rel B w0 μ H w) :
    ∃ v cv, (∀ w, (execOp (Act.eval { tmps:=ca, defers:=D }) o).run P w=.ok (.value cv) w)∧K v H∧VR μ v cv:=silent_okO ht hok hs (aop_of h) hr

theorem allOf_mem {f:Nat→Prop}:∀ {l:List Nat}, allOf f l→∀ i ∈ l, f i:=by
  intro l
  induction l with
  | nil=>intro _ i hi; cases hi
  | cons a l ih =>
    intro h i hi
    cases l with
    | nil=>simp at hi; subst hi; exact h
    | cons b l =>
      obtain ⟨h1, h2⟩:=h
      rcases List.mem_cons.1 hi with rfl | hi
      · exact h1
      · exact ih h2 i hi

end
end Go.Proofs.YtjhbbbcelnlnpaaGreatDoor
