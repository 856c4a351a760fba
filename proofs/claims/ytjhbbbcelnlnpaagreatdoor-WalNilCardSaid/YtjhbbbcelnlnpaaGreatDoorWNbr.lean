/- A function that ranges over a slice from its end on (slices.Backward): the rule for the statement. -/
import Derived.Test.YtjhbbbcelnlnpaaGreatDoorWNbq
namespace Go.Proofs.YtjhbbbcelnlnpaaGreatDoor
open Go.RowKit

def BackAt (P:Program) (gf:FuncId) (ki:IntKind):Prop:=∀ (n l pb po:Nat) (sv:Value) (xs:List Int) (J:Nat→World→Prop) (Jx:World→Prop) (W:World), 1≤n→xs.length<2 ^ 40 →
  (∀ k W, J k W→W.cell? ⟨pb, po, none⟩=some sv) →
  ((sv=.slice none 0 0∧xs=[])∨∃ sb so cap, sv=.slice (some ⟨sb, so, none⟩) xs.length cap∧∀ k W, J k W→∀ j, j<xs.length→W.cell? ⟨sb, so + j, none⟩=some (.int ki (xs[j]?.getD 0))) →
  (∀ k W, J (k + 1) W→k<xs.length→YieldAt Fence.wide (n - 1) P l #[.int .i64 (k:Int), .int ki (xs[k]?.getD 0)] W fun e W'=>(e=.returned (.bool true)∧J k W')∨(e=.returned (.bool false)∧Jx W')) →
  J xs.length W→CallsIn Fence.wide n P gf #[.func (.yield l) #[] #[], .pointer (some ⟨pb, po, none⟩)] W fun e W'=>(∃ v, e=.returned v)∧(J 0 W'∨Jx W')

section
variable {P:Program} {B:Nat} {w0:World} {μ:Mu} {H:AH} {w:World}
theorem Rel.other (hr:Rel B w0 μ H w) {i:Nat} {p:Pl} {o o':Obj} (hp:μ i=some p) (hg:H.get i=some (.other o)) (h0:(match o with | .cells _ _ _=>false | _=>true)=true) (h1:(match o' with | .cells _ _ _=>false | _=>true)=true) :
    Rel B w0 μ (H.set i (.other o')) (w.putObj p.block o'):=by
  obtain ⟨q, hq, h2, h3, h4⟩:=hr.obj i _ hg
  rw [hp] at hq; cases hq
  have hlt:=(Array.getElem?_eq_some_iff.1 h4).1
  have hs:=World.putObj_heap_same (w:=w) (o:=o') hlt
  refine hr.set hp hg rfl rfl rfl rfl rfl (by simp) (fun b hb=>World.putObj_heap_other hb) ?_ ⟨h2, h3, hs⟩
  unfold World.shape?
  rw [hs, h4]
  cases o <;> first | (cases h0; done) | skip
  all_goals cases o' <;> first | rfl | cases h1
theorem cell_row (hr:Rel B w0 μ H w) {i j:Nat} {p:Pl} {cs:List Value} {e:Nat} {v:Value} (hp:μ i=some p) (hg:H.get i=some (.row cs e)∨H.get i=some (.ro cs e)) (hj:cs[j]?=some v) :
    ∃ v', w.cell? ⟨p.block, p.off + j, none⟩=some v'∧VR μ v v':=by
  have key:∀ c ty fz, w.heap[p.block]?=some (.cells c ty fz)→CellsAt μ c p.off cs→∃ v', w.cell? ⟨p.block, p.off + j, none⟩=some v'∧VR μ v v':=by
    intro c ty fz h1 h2
    obtain ⟨v', g1, g2⟩:=h2 j v hj
    exact ⟨v', by simp [World.cell?, h1, g1], g2⟩
  rcases hg with hg | hg
  · obtain ⟨q, hq, _, _, c, ty, fz, h1, _, _, _, h2⟩:=hr.obj i _ hg
    rw [hp] at hq; cases hq
    exact key c ty fz h1 h2
  · obtain ⟨q, hq, _, c, ty, fz, h1, _, _, h2⟩:=hr.obj i _ hg
    rw [hp] at hq; cases hq
    exact key c ty fz h1 h2

def SlI (H:AH) (ki:IntKind) (sv:Value) (xs:List Int):Prop:=(sv=.slice none 0 0∧xs=[]) ∨
  ∃ i k c cs e, sv=.slice (some ⟨i, k, none⟩) xs.length c∧xs ≠ []∧(H.get i=some (.row cs e)∨H.get i=some (.ro cs e))∧∀ j, j<xs.length→cs[k + j]?=some (.int ki (xs[j]?.getD 0))

def Two (N:Nat) (oL:Obj) (H:AH):Prop:=H.get N=some (.other (.deferred (some [])))∧H.get (N + 1)=some (.other oL)

def RWP (P:Program) (fn:Func) (R:AEnd→AH→Prop) (c:Code) (tm:List Value) (H:AH):Prop :=
  ∀ B w0 μ0 μ w ca, Mu.le μ0 μ→Rel B w0 μ H w→LR μ tm ca →
    c.wpIn Fence.wide 3 P (bodyPostM Fence.wide 3 P fn fun e w'=>∃ e' H' μ', R e' H'∧Mu.le μ0 μ'∧Rel B w0 μ' H' w'∧endR μ' e' e) { tmps:=ca, defers:=[] } w

theorem acall_rwp {f:FuncId} {fn:Func} {c:Code} {args:List Value} {R:AEnd→AH→Prop} (hf:P.funcs[f]?=some fn) (hb:fn.body=some c)
    (h:RWP P fn R c (args ++ List.replicate (fn.ntmps - args.length) undef) H):ACall P f args H R:=by
  intro B w0 μ w cargs hr ha
  exact callsIn_wide.1 (callsIn_of_wp_marks (n:=3) hf hb trivial (h B w0 μ μ w _ (Mu.le_refl _) hr (lr_args ha fn.ntmps)))

theorem rwp_seq (hm:P.follows .mixedOrders=true) {fn:Func} {R:AEnd→AH→Prop} {a b:Code} (hc:codeOK a=true) {tm:List Value}
    (h:awp P a (fun e tm H=>match e with
      | .normal=>RWP P fn R b tm H
      | .ret=>aPost P fn R .ret tm H
      | .panic v=>R (.panic v) H
      | _=>False) tm H):RWP P fn R (.seq a b) tm H:=by
  intro B w0 μ0 μ w ca h0 hr ht
  refine wpIn_seq (wpIn_mono (wpIn_wide.2 (awp_ok hm a hc _ _ _ h [] B w0 μ w ca (.inl rfl) hr ht)) ?_)
  rintro e ⟨ca', ds⟩ w' ⟨e', tm', H', μ', h1, h2, h3, h4, rfl, h5⟩
  cases e' with
  | normal =>
    cases e <;> simp only [exitR] at h5
    exact h1 B w0 μ0 μ' w' ca' (Mu.le_trans h0 h2) h3 h4
  | ret =>
    cases e <;> simp only [exitR] at h5
    obtain ⟨v, cv, k1, k2, k3⟩:=results_ok (P:=P) h3 h4 h1
    exact ⟨cv, k1, .ret v, H', μ', k2, Mu.le_trans h0 h2, h3, k3⟩
  | panic v =>
    cases e <;> simp only [exitR] at h5
    obtain ⟨v', rfl, h6⟩:=h5
    exact ⟨.panic v, H', μ', h1, Mu.le_trans h0 h2, h3, v', rfl, h6⟩
  | exit i=>exact h1.elim
  | goto l=>exact h1.elim

def RangeAt (P:Program) (fn:Func) (R:AEnd→AH→Prop) (gf:FuncId) (ki:IntKind) (g p0 p1:Tmp) (assign body rest:Code) (tm:List Value) (H:AH):Prop :=
  ∃ (ib:Nat) (sv:Value) (xs:List Int) (J:Nat→Obj→AH→Prop) (X:Obj→AH→Prop),
    xs.length<2 ^ 40∧(∃ cs e, H.get ib=some (.row cs e))∧SlI H ki sv xs∧tm.getD g undef=.func (.func gf) #[] #[.pointer (some ⟨ib, 0, none⟩)] ∧
    (∀ k oL H', J k oL H'→Two H.next oL H'∧(∃ cs e, H'.get ib=some (.row cs e)∧cs[0]?=some sv)∧SlI H' ki sv xs) ∧
    (∀ oL H', X oL H'→Two H.next oL H') ∧
    (∀ oL, J xs.length oL ((H.push (.other (.deferred (some [])))).push (.other oL))) ∧
    (∀ k oL oL' H', J k oL H'→J k oL' (H'.set (H.next + 1) (.other oL'))) ∧
    (∀ oL oL' H', X oL H'→X oL' (H'.set (H.next + 1) (.other oL'))) ∧
    (∀ k oL H', k<xs.length→J (k + 1) oL H'→awp P assign (fun e tm' H''=>match e with
      | .normal=>H''.get (H.next + 1)=some (.other oL)∧∀ oL', awp P body (fun e tm' H''=>match e with
        | .normal=>J k oL' H''
        | .ret=>X oL' H''
        | _=>False) tm' (H''.set (H.next + 1) (.other oL'))
      | _=>False) ((tm.set p0 (.int .i64 (k:Int))).set p1 (.int ki (xs[k]?.getD 0))) H') ∧
    (∀ oL H', J 0 oL H'→awp P rest (fun e tm' H''=>match e with
      | .normal=>H''.get H.next=some (.other (.deferred (some [])))∧∀ o, aPost P fn R .ret tm' (H''.set H.next (.other o))
      | .ret=>H''.get H.next=some (.other (.deferred (some [])))∧∀ o, aPost P fn R .ret tm' (H''.set H.next (.other o))
      | _=>False) tm H') ∧
    (∀ oL H', X oL H'→∀ o, aPost P fn R .ret tm (H'.set H.next (.other o)))

theorem two_lr {μ:Mu} {tm:List Value} {ca:Array Value} (h:LR μ tm ca) (p0 p1:Tmp) {a b:Value} (ha:plainV a=true) (hb:plainV b=true):LR μ ((tm.set p0 a).set p1 b) ((#[p0, p1].zip #[a, b]).foldl (fun t (p, v)=>t.setIfInBounds p v) ca):=by
  have:=(h.set p0 (VR.plain (μ:=μ) ha)).set p1 (VR.plain (μ:=μ) hb)
  simpa using this

theorem vr_fix {μ ν:Mu} (hle:Mu.le μ ν) {H:AH} {ki:IntKind} {sv a b:Value} {xs:List Int} (hs:SlI H ki sv xs) (ha:VR μ sv a) (hb:VR ν sv b):b=a:=by
  rcases hs with ⟨rfl, _⟩ | ⟨i, k, c, cs, e, rfl, hne, _⟩
  · cases ha; cases hb; rfl
  · have hl:xs.length ≠ 0:=fun h=>hne (List.length_eq_zero_iff.1 h)
    cases ha with
    | slice hp hc hd =>
      cases hb with
      | slice hp' hc' hd' =>
        rw [hle _ _ hp] at hp'
        cases hp'
        rcases hd with rfl | ⟨h, _⟩
        · rcases hd' with rfl | ⟨h, _⟩
          · cases c <;> simp only [capOf] at hc hc' <;> subst hc <;> subst hc' <;> rfl
          · exact absurd h hl
        · exact absurd h hl

theorem rwp_range (hm:P.follows .mixedOrders=true) {fn:Func} {R:AEnd→AH→Prop} {gf:FuncId} {ki:IntKind} {g p0 p1:Tmp} {r0 assign body rest:Code} {id:Nat} {tm:List Value} (hback:BackAt P gf ki) (hgf:callable P gf=true)
    (hc0:codeOK r0=true) (hca:codeOK assign=true) (hna:noDefers assign=true) (hcb:codeOK body=true) (hnb:noDefers body=true) (hcr:codeOK rest=true) (hdr:noDraw rest=true)
    (h:awp P r0 (fun e tm H=>match e with
      | .normal=>RangeAt P fn R gf ki g p0 p1 assign body rest tm H
      | _=>False) tm H):RWP P fn R (.seq (.seq r0 (.block id (.rangeFunc (.tmp g) #[p0, p1] assign body))) rest) tm H:=by
  intro B w0 μ0 μ w ca h0 hr ht
  refine wpIn_seq (wpIn_seq (wpIn_mono (wpIn_wide.2 (awp_ok hm r0 hc0 _ _ _ h [] B w0 μ w ca (.inl rfl) hr ht)) ?_))
  clear h
  rintro e ⟨ca', ds⟩ w' ⟨e', tm', H', μ', h1, h2, h3, h4, rfl, h5⟩
  cases e' with
  | exit i=>exact h1.elim
  | goto l=>exact h1.elim
  | ret=>exact h1.elim
  | panic v=>exact h1.elim
  | normal =>
  cases e <;> simp only [exitR] at h5
  have h4:LR μ' tm' ca':=h4
  replace h0:=Mu.le_trans h0 h2
  clear hr ht h2 h5
  obtain ⟨ib, sv, xs, J, X, hxs, hib, hsl, hg, hJ, hX, hJ0, hJs, hXs, hbody, hrest, hstop⟩:=h1
  refine wpIn_block (wpIn_rangeFunc ?_)
  intro fnid _
  have hgv:VR μ' (.func (.func gf) #[] #[.pointer (some ⟨ib, 0, none⟩)]) (ca'.getD g undef):=by rw [← hg]; exact h4.getD g
  obtain ⟨cs0, e0, hib⟩:=hib
  obtain ⟨pb, hpb, hpbo⟩:=h3.obj ib _ hib
  have hge:ca'.getD g undef=.func (.func gf) #[] #[.pointer (some ⟨pb.block, pb.off, none⟩)]:=by
    generalize ca'.getD g undef=q at hgv
    cases hgv with
    | func s1 s2 c1 c2 =>
      rename_i f1 f2
      have e1:f1=#[]:=Array.eq_empty_of_size_eq_zero s1.symm
      subst e1
      congr 1
      apply Array.ext
      · simpa using s2.symm
      · intro i g1 g2
        have hi:i=0:=by simp at g2; omega
        subst hi
        have:=c2 0 _ _ rfl (Array.getElem?_eq_getElem g1)
        generalize f2[0]=q at this
        cases this with
        | ptr hp =>
          rw [hpb] at hp; cases hp
          simp
  have hN:H'.next<H'.next + 1:=Nat.lt_succ_self _
  obtain ⟨rec, hrec⟩:∃ rec:LoopState→Option Code→Loop, rec=fun st pe=>{ state:=st, pending:=pe, fn:=fnid, tmps:=ca', params:=#[p0, p1], assign, body, defers:=w'.heap.size }:=⟨_, rfl⟩
  obtain ⟨W1, hW1⟩:∃ W1, (w'.alloc (.deferred (some []))).alloc (.loop (rec .ready none))=W1:=⟨_, rfl⟩
  obtain ⟨μ1, hμ1⟩:∃ μ1:Mu, (μ'.put H'.next ⟨w'.heap.size, 0, 0, 0⟩).put (H'.push (.other (.deferred (some [])))).next ⟨(w'.alloc (.deferred (some []))).heap.size, 0, 0, 0⟩=μ1:=⟨_, rfl⟩
  have hra:Rel B w0 (μ'.put H'.next ⟨w'.heap.size, 0, 0, 0⟩) (H'.push (.other (.deferred (some [])))) (w'.alloc (.deferred (some []))) :=
    Rel.push (w:=w') h3 rfl rfl rfl rfl rfl ⟨rfl, h3.size, Array.getElem?_push_size⟩
  have hr1:Rel B w0 μ1 ((H'.push (.other (.deferred (some [])))).push (.other (.loop (rec .ready none)))) W1:=by
    rw [← hμ1, ← hW1]
    exact Rel.push (w:=w'.alloc (.deferred (some []))) hra rfl rfl rfl rfl rfl ⟨rfl, hra.size, Array.getElem?_push_size⟩
  have hle1:Mu.le μ' μ1:=by
    rw [← hμ1]
    exact Mu.le_trans (Mu.put_le h3.fresh _) (Mu.put_le hra.fresh _)
  have hnx:(H'.push (.other (.deferred (some [])))).next=H'.next + 1:=rfl
  have hsz:(w'.alloc (.deferred (some []))).heap.size=w'.heap.size + 1:=by simp
  have hmL:μ1 (H'.next + 1)=some ⟨w'.heap.size + 1, 0, 0, 0⟩:=by rw [← hμ1, ← hsz]; exact Mu.put_self _ _
  have hmD:μ1 H'.next=some ⟨w'.heap.size, 0, 0, 0⟩:=by
    rw [← hμ1]
    exact Mu.put_le hra.fresh _ _ _ (Mu.put_self _ _)
  have lay:∀ {ν:Mu} {H2:AH} {W:World} {oL:Obj}, Mu.le μ1 ν→Rel B w0 ν H2 W→Two H'.next oL H2→W.heap[w'.heap.size + 1]?=some oL∧W.heap[w'.heap.size]?=some (.deferred (some [])):=by
    intro ν H2 W oL hle hrl ht2
    obtain ⟨p, hp, _, _, g⟩:=hrl.obj _ _ ht2.2
    rw [hle _ _ hmL] at hp; cases hp
    obtain ⟨p, hp, _, _, g'⟩:=hrl.obj _ _ ht2.1
    rw [hle _ _ hmD] at hp; cases hp
    exact ⟨g, g'⟩
  have hpb1:μ1 ib=some pb:=hle1 _ _ hpb
  obtain ⟨_, ⟨cs1, e1, hg1, hs1⟩, hsl1⟩:=hJ _ _ _ (hJ0 (.loop (rec .ready none)))
  obtain ⟨svc, hc1, hv1⟩:=cell_row hr1 hpb1 (.inl hg1) hs1
  rw [Nat.add_zero] at hc1
  have hev:Act.eval { tmps:=ca', defers:=[] } (.tmp g)=.func (.func gf) #[] #[.pointer (some ⟨pb.block, pb.off, none⟩)]:=hge
  have hro:Fence.wide.round=none:=rfl
  refine ⟨w'.heap.size + 1, [{ target:=.collected w'.heap.size, args:=#[] }], W1, { target:=.fn (.func gf) #[.pointer (some ⟨pb.block, pb.off, none⟩)], args:=#[.func (.yield (w'.heap.size + 1)) #[] #[]] }, W1, gf,
    #[.func (.yield (w'.heap.size + 1)) #[] #[]] ++ #[.pointer (some ⟨pb.block, pb.off, none⟩)], W1, ?_, ?_, fun _ _=>trivial, ?_, fun hd=>(by cases hd), ?_⟩
  · rw [hro, ← hW1, hrec]; exact run_enterLoop_outer _ _ _ _ _
  · simp only [resolve, hev]
    simp [go_sem]
  · simp [invoke, callable_run hgf]
  · refine (hback 2 (w'.heap.size + 1) pb.block pb.off svc xs (fun k W=>∃ H2 ν, J k (.loop (rec .ready none)) H2∧Mu.le μ1 ν∧Rel B w0 ν H2 W)
      (fun W=>∃ H2 ν, X (.loop (rec .done (some .ret))) H2∧Mu.le μ1 ν∧Rel B w0 ν H2 W) W1 (by omega) hxs ?_ ?_ ?_ ⟨_, μ1, hJ0 _, Mu.le_refl _, hr1⟩).mono ?_
    · rintro k W ⟨H2, ν, k1, k2, k3⟩
      obtain ⟨_, ⟨cs2, e2, hg2, hs2⟩, hsl2⟩:=hJ _ _ _ k1
      obtain ⟨svd, hc2, hv2⟩:=cell_row k3 (k2 _ _ hpb1) (.inl hg2) hs2
      rw [Nat.add_zero] at hc2
      rw [hc2, vr_fix k2 hsl1 hv1 hv2]
    · rcases hsl1 with ⟨rfl, rfl⟩ | ⟨i, k0, c, cs, e, rfl, hne, hgi, hcs⟩
      · cases hv1
        exact .inl ⟨rfl, rfl⟩
      · have hl0:xs.length ≠ 0:=fun hh=>hne (List.length_eq_zero_iff.1 hh)
        cases hv1 with
        | slice hp hc hd =>
          rename_i p a cap
          rcases hd with rfl | ⟨hh, _⟩
          · refine .inr ⟨p.block, p.off + k0, cap, rfl, ?_⟩
            rintro k W ⟨H2, ν, k1, k2, k3⟩ j hj
            obtain ⟨_, _, hsl2⟩:=hJ _ _ _ k1
            rcases hsl2 with ⟨hh, _⟩ | ⟨i', k0', c', cs', e', hh, _, hgi', hcs'⟩
            · cases hh
            · cases hh
              obtain ⟨v', z1, z2⟩:=cell_row k3 (k2 _ _ hp) hgi' (hcs' j hj)
              cases z2
              rw [Nat.add_assoc]; exact z1
          · exact absurd hh hl0
    · rintro k W ⟨H2, ν, k1, k2, k3⟩ hk
      obtain ⟨hT, _, _⟩:=hJ _ _ _ k1
      obtain ⟨hL, _⟩:=lay k2 k3 hT
      have hy:=run_yield (P:=P) (args:=#[.int .i64 (k:Int), .int ki (xs[k]?.getD 0)]) hL (by rw [hrec]; rfl)
      rw [hrec] at hy
      refine ⟨fnid, _, assign, body, hy, roundIn_of_wpIn trivial ?_⟩
      refine wpIn_mono (awp_okR hm assign hca hna _ _ _ (hbody k _ H2 hk k1) B w0 ν W _ k3 (two_lr (h4.mono (Mu.le_trans hle1 k2)) p0 p1 rfl rfl)) ?_
      rintro e ⟨cb, ds⟩ W2 ⟨e', tm2, H3, ν2, g1, g2, g3, g4, rfl, g5⟩
      cases e' with
      | normal =>
        cases e <;> simp only [exitR] at g5
        obtain ⟨gL, g1⟩:=g1
        have hpL:ν2 (H'.next + 1)=some ⟨w'.heap.size + 1, 0, 0, 0⟩:=g2 _ _ (k2 _ _ hmL)
        obtain ⟨p, hp, _, _, hL2⟩:=g3.obj _ _ gL
        rw [hpL] at hp; cases hp
        refine ⟨_, run_beginRound hL2 (by rw [hrec]), ?_⟩
        have hrb:=Rel.other (o':=.loop { rec .ready none with state:=.busy }) g3 hpL gL rfl rfl
        refine wpIn_mono (awp_okR hm body hcb hnb _ _ _ (g1 _) B w0 ν2 _ cb hrb g4) ?_
        have fin:∀ (jump:Option Code) (H4:AH) (ν3:Mu) (W3:World), Mu.le ν2 ν3→Rel B w0 ν3 H4 W3→Two H'.next (.loop { rec .ready none with state:=.busy }) H4 →
            (Instr.endRound (w'.heap.size + 1) jump).run P W3=.ok (.bool jump.isNone) (W3.putObj (w'.heap.size + 1) (.loop (rec (if jump.isNone then .ready else .done) jump))) ∧
            Rel B w0 ν3 (H4.set (H'.next + 1) (.other (.loop (rec (if jump.isNone then .ready else .done) jump)))) (W3.putObj (w'.heap.size + 1) (.loop (rec (if jump.isNone then .ready else .done) jump))):=by
          intro jump H4 ν3 W3 hle3 hr3 hT3
          have hp3:ν3 (H'.next + 1)=some ⟨w'.heap.size + 1, 0, 0, 0⟩:=hle3 _ _ hpL
          obtain ⟨hL3, _⟩:=lay (Mu.le_trans k2 (Mu.le_trans g2 hle3)) hr3 hT3
          refine ⟨?_, Rel.other hr3 hp3 hT3.2 rfl rfl⟩
          have:=run_endRound (P:=P) jump hL3
          rw [hrec] at this ⊢
          exact this
        rintro e ⟨cc, ds⟩ W3 ⟨e', tm3, H4, ν3, z1, z2, z3, z4, rfl, z5⟩
        cases e' with
        | normal =>
          cases e <;> simp only [exitR] at z5
          obtain ⟨y1, y2⟩:=fin none H4 ν3 W3 z2 z3 (hJ _ _ _ z1).1
          exact ⟨_, _, y1, .inl ⟨rfl, _, ν3, hJs _ _ _ _ z1, Mu.le_trans k2 (Mu.le_trans g2 z2), y2⟩⟩
        | ret =>
          cases e <;> simp only [exitR] at z5
          obtain ⟨y1, y2⟩:=fin (some .ret) H4 ν3 W3 z2 z3 (hX _ _ z1)
          exact ⟨_, _, y1, .inr ⟨rfl, _, ν3, hXs _ _ _ z1, Mu.le_trans k2 (Mu.le_trans g2 z2), y2⟩⟩
        | panic v=>exact z1.elim
        | exit i=>exact z1.elim
        | goto i=>exact z1.elim
      | ret=>exact g1.elim
      | panic v=>exact g1.elim
      | exit i=>exact g1.elim
      | goto i=>exact g1.elim
    · have out:∀ {oL:Obj} {tm2:List Value} {H2:AH} {ν:Mu} {W:World} {cb:Array Value}, Mu.le μ1 ν→Rel B w0 ν H2 W→LR ν tm2 cb→H2.get H'.next=some (.other (.deferred (some []))) →
          (∀ o, aPost P fn R .ret tm2 (H2.set H'.next (.other o))) →
          LeavesInM Fence.wide 3 P fn cb (fun e w'=>∃ e' H' μ', R e' H'∧Mu.le μ0 μ'∧Rel B w0 μ' H' w'∧endR μ' e' e) [{ target:=.collected w'.heap.size, args:=#[] }] .returning W:=by
        intro oL tm2 H2 ν W cb hle2 hr2 hlr hD hp
        have hpD:ν H'.next=some ⟨w'.heap.size, 0, 0, 0⟩:=hle2 _ _ hmD
        obtain ⟨p, hpp, _, _, hK⟩:=hr2.obj _ _ hD
        rw [hpD] at hpp; cases hpp
        have hr5:=Rel.other (o':=.deferred none) hr2 hpD hD rfl rfl
        obtain ⟨v, cv, y1, y2, y3⟩:=results_ok (P:=P) hr5 hlr (hp _)
        exact ⟨by simp, .inl ⟨_, _, rfl, run_takeDeferred hK, cv, y1, .ret v, _, ν, y2, Mu.le_trans h0 (Mu.le_trans hle1 hle2), hr5, y3⟩⟩
      rintro e W2 ⟨⟨v, rfl⟩, ⟨H2, ν, k1, k2, k3⟩ | ⟨H2, ν, k1, k2, k3⟩⟩
      · obtain ⟨hT, _, _⟩:=hJ _ _ _ k1
        obtain ⟨hL, _⟩:=lay k2 k3 hT
        have hend:=run_endLoop (P:=P) hL (by rw [hrec]; simp)
        refine ⟨none, _, by rw [hrec] at hend; exact hend, ?_⟩
        have hpL:ν (H'.next + 1)=some ⟨w'.heap.size + 1, 0, 0, 0⟩:=k2 _ _ hmL
        have hre:=Rel.other (o':=.loop { rec .ready none with state:=.exhausted }) k3 hpL hT.2 rfl rfl
        have k1':=hJs _ _ (.loop { rec .ready none with state:=.exhausted }) _ k1
        have:=wpIn_wide (n:=3).2 (awp_ok hm rest hcr _ _ _ (hrest _ _ k1') [{ target:=.collected w'.heap.size, args:=#[] }] B w0 ν _ ca' (.inr hdr) hre (h4.mono (Mu.le_trans hle1 k2)))
        refine wpIn_mono (by rw [hrec] at this; exact this) ?_
        rintro e ⟨cb, ds⟩ W4 ⟨e', tm4, H4, ν4, z1, z2, z3, z4, z5, z6⟩
        simp only at z5
        subst z5
        cases e' with
        | normal =>
          cases e <;> simp only [exitR] at z6
          exact out (oL:=.loop (rec .ready none)) (Mu.le_trans k2 z2) z3 z4 z1.1 z1.2
        | ret =>
          cases e <;> simp only [exitR] at z6
          exact out (oL:=.loop (rec .ready none)) (Mu.le_trans k2 z2) z3 z4 z1.1 z1.2
        | panic v=>exact z1.elim
        | exit i=>exact z1.elim
        | goto i=>exact z1.elim
      · have hT:=hX _ _ k1
        obtain ⟨hL, _⟩:=lay k2 k3 hT
        have hend:=run_endLoop (P:=P) hL (by rw [hrec]; simp)
        refine ⟨some .ret, _, by rw [hrec] at hend; exact hend, wpIn_ret ?_⟩
        have hpL:ν (H'.next + 1)=some ⟨w'.heap.size + 1, 0, 0, 0⟩:=k2 _ _ hmL
        have hre:=Rel.other (o':=.loop { rec .done (some .ret) with state:=.exhausted }) k3 hpL hT.2 rfl rfl
        have k1':=hXs _ (.loop { rec .done (some .ret) with state:=.exhausted }) _ k1
        have:=out (oL:=.loop (rec .ready none)) k2 hre (h4.mono (Mu.le_trans hle1 k2)) (hX _ _ k1').1 (hstop _ _ k1')
        rw [hrec] at this
        exact this
end
def rangePart:Nat→Code→Code
  | 0, .rangeFunc _ _ a _=>a
  | _, .rangeFunc _ _ _ b=>b
  | _, c=>c
end Go.Proofs.YtjhbbbcelnlnpaaGreatDoor
