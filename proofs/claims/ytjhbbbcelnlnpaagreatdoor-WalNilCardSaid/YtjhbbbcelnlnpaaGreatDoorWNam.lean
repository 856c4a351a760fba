/- Regions whose order is open: a load may come first, if what it has read is still so behind each operation that might have come ahead of it. -/
import Derived.Test.YtjhbbbcelnlnpaaGreatDoorWNal
namespace Go.Proofs.YtjhbbbcelnlnpaaGreatDoor
open Go.RowKit

theorem VR.rigid {μ:Mu} {v a b:Value} (h:rigid1 v=true) (ha:VR μ v a) (hb:VR μ v b):a=b:=by
  cases ha <;> simp only [rigid1] at h <;> cases hb <;> first
    | rfl
    | (rename_i h1 _ _ h2; rw [h1] at h2; cases h2; rfl)
    | (rename_i h1 _ h2; rw [h1] at h2; cases h2; rfl)
    | cases h
theorem VR.rigidA {μ:Mu} {l:List Value} {a b:Value} (h:l.all rigid1=true) (ha:VR μ (.agg l.toArray) a) (hb:VR μ (.agg l.toArray) b):a=b:=by
  cases ha with
  | agg s1 c1 =>
    cases hb with
    | agg s2 c2 =>
      congr 1
      apply Array.ext
      · omega
      · intro j h1 h2
        have hj:j<l.length:=by simpa using (show j<l.toArray.size by omega)
        have e:l.toArray[j]?=some l[j]:=by simp [hj]
        exact VR.rigid (List.all_eq_true.1 h _ (List.getElem_mem hj)) (c1 j _ _ e (Array.getElem?_eq_getElem h1)) (c2 j _ _ e (Array.getElem?_eq_getElem h2))

abbrev PinP:=Nat × (AH→Prop)
section
variable (P:Program) (B:Nat) (w0:World) (ops:Array Oper) (Q:AExit→List Value→AH→Prop)
def Tree:Nat→Array Bool→List PinP→List Value→AH→Mu→Array Value→World→Prop
  | 0, listed, pins, tm, H, μ, ca, w=>Region.ready .any ops listed=[]∧Q .normal tm H
  | n + 1, listed, pins, tm, H, μ, ca, w=>(Region.ready .any ops listed=[]→Q .normal tm H) ∧
      ∀ j ∈ Region.ready .any ops listed, ∀ o, ops[j]?=some o →
        (Region.wanted o (yielded ops ca)=true→o.wp P { tmps:=ca, defers:=[] } w (fun a' w'=>∃ v cv H' μ', a'=({ tmps:=ca, defers:=[] }:Act).put o.dst cv∧Mu.le μ μ'∧Rel B w0 μ' H' w'∧VR μ' v cv ∧
            (mildOp P o.op=true→w'=w∧H'=H∧μ'=μ)∧(∀ p ∈ pins, behind o p.1=false→p.2 H') ∧
            Tree n (listed.setIfInBounds j true) (pins.filter fun p=>!behind o p.1) (putT tm o.dst v) H' μ' a'.tmps w') (lift [] B w0 μ Q)) ∧
        (Region.wanted o (yielded ops ca)=false→Tree n (listed.setIfInBounds j true) (pins.filter fun p=>!behind o p.1) (putT tm o.dst undef) H μ (({ tmps:=ca, defers:=[] }:Act).put o.dst undef).tmps w)
end
section
variable {P:Program} {B:Nat} {w0:World} {ops:Array Oper} {Q:AExit→List Value→AH→Prop}

theorem Tree.pins:∀ (n:Nat) (listed:Array Bool) (ps qs:List PinP) (tm:List Value) (H:AH) (μ:Mu) (ca:Array Value) (w:World), (∀ p ∈ qs, p ∈ ps) →
    Tree P B w0 ops Q n listed ps tm H μ ca w→Tree P B w0 ops Q n listed qs tm H μ ca w:=by
  intro n
  induction n with
  | zero=>intro listed ps qs tm H μ ca w _ h; exact h
  | succ n ih =>
    intro listed ps qs tm H μ ca w hs h
    refine ⟨h.1, fun j hj o ho=>⟨fun hw=>?_, fun hw=>?_⟩⟩
    · refine Oper.wp_mono ?_ ((h.2 j hj o ho).1 hw)
      rintro a' w' ⟨v, cv, H', μ', h1, h2, h3, h4, h5, h6, h7⟩
      exact ⟨v, cv, H', μ', h1, h2, h3, h4, h5, fun p hp=>h6 p (hs p hp), ih _ _ _ _ _ _ _ _ (fun p hp=>by
        rw [List.mem_filter] at hp ⊢; exact ⟨hs p hp.1, hp.2⟩) h7⟩
    · exact ih _ _ _ _ _ _ _ _ (fun p hp=>by rw [List.mem_filter] at hp ⊢; exact ⟨hs p hp.1, hp.2⟩) ((h.2 j hj o ho).2 hw)

theorem Tree.any:∀ (n:Nat) (listed:Array Bool) (ps:List PinP) (tm:List Value) (H:AH) (μ0 μ:Mu) (ca:Array Value) (w:World), Tree P B w0 ops Q n listed ps tm H μ ca w→Mu.le μ0 μ→Rel B w0 μ H w→LR μ tm ca →
    wpAny P .any ops (lift [] B w0 μ0 Q) n listed { tmps:=ca, defers:=[] } w:=by
  intro n
  induction n with
  | zero =>
    intro listed ps tm H μ0 μ ca w h hle hr ht
    exact ⟨h.1, _, _, _, _, h.2, hle, hr, ht, rfl, trivial⟩
  | succ n ih =>
    intro listed ps tm H μ0 μ ca w h hle hr ht
    refine ⟨fun hn=>⟨_, _, _, _, h.1 hn, hle, hr, ht, rfl, trivial⟩, fun j hj=>?_⟩
    obtain ⟨_, o, ho, _⟩:=mem_ready.1 hj
    unfold wpOp
    simp only [ho]
    split
    · rename_i hw
      refine .inl ?_
      have h1:=(h.2 j hj o ho).1 hw
      have h2:o.wp P { tmps:=ca, defers:=[] } w (fun a' w'=>∃ v cv H' μ', a'=({ tmps:=ca, defers:=[] }:Act).put o.dst cv∧Mu.le μ μ'∧Rel B w0 μ' H' w'∧VR μ' v cv ∧
            (mildOp P o.op=true→w'=w∧H'=H∧μ'=μ)∧(∀ p ∈ ps, behind o p.1=false→p.2 H') ∧
            Tree P B w0 ops Q n (listed.setIfInBounds j true) (ps.filter fun p=>!behind o p.1) (putT tm o.dst v) H' μ' a'.tmps w') (lift [] B w0 μ0 Q):=by
        unfold Oper.wp at h1 ⊢
        generalize (execOp _ o).run P w=r at h1 ⊢
        cases r with
        | ok n w' =>
          cases n <;> simp only [Oper.upon] at h1 ⊢ <;> first
            | exact h1
            | exact Calls.mono h1 (fun e w'' he=>by
                cases e with
                | returned v=>exact he
                | panicked c=>exact lift.le hle he
                | outgrown=>obtain ⟨a, w, hh⟩:=he; exact ⟨a, w, lift.le hle hh⟩)
        | halt x w'=>cases x <;> simp only [Oper.upon] at h1 ⊢ <;> first | exact lift.le hle h1 | exact h1
      refine Oper.wp_mono ?_ h2
      rintro a' w' ⟨v, cv, H', μ', rfl, g2, g3, g4, g5, g6, g7⟩
      have:=ih _ _ _ _ μ0 μ' _ _ g7 (Mu.le_trans hle g2) g3 (put_ok (ht.mono g2) g4 _)
      rw [put_defers]; exact this
    · rename_i hw
      have:=ih _ _ _ _ μ0 μ _ _ ((h.2 j hj o ho).2 (by simpa using hw)) hle hr (put_ok ht VR.undef _)
      rw [put_defers]; exact this

theorem Tree.more (i:Nat):∀ (n:Nat) (listed:Array Bool) (ps:List PinP) (tm:List Value) (H:AH) (μ:Mu) (ca:Array Value) (w:World),
    Tree P B w0 ops Q n listed ps tm H μ ca w→Tree P B w0 ops Q n listed ((i, fun _=>True) :: ps) tm H μ ca w:=by
  intro n
  induction n with
  | zero=>intro listed ps tm H μ ca w h; exact h
  | succ n ih =>
    intro listed ps tm H μ ca w h
    have hf:∀ (o:Oper) listed tm H μ ca w, Tree P B w0 ops Q n listed (ps.filter fun p=>!behind o p.1) tm H μ ca w→Tree P B w0 ops Q n listed (((i, fun _=>True) :: ps).filter fun p=>!behind o p.1) tm H μ ca w:=by
      intro o listed tm H μ ca w hh
      rw [List.filter_cons]
      split
      · exact ih _ _ _ _ _ _ _ hh
      · exact hh
    refine ⟨h.1, fun j hj o ho=>⟨fun hw=>?_, fun hw=>hf o _ _ _ _ _ _ ((h.2 j hj o ho).2 hw)⟩⟩
    refine Oper.wp_mono ?_ ((h.2 j hj o ho).1 hw)
    rintro a' w' ⟨v, cv, H', μ', h1, h2, h3, h4, h5, h6, h7⟩
    refine ⟨v, cv, H', μ', h1, h2, h3, h4, h5, fun p hp hb=>?_, hf o _ _ _ _ _ _ h7⟩
    rcases List.mem_cons.1 hp with rfl | hp
    · trivial
    · exact h6 p hp hb

theorem putT_comm (tm:List Value) {x y:Option Tmp} (v u:Value) (h:∀ d, x=some d→y ≠ some d):putT (putT tm x v) y u=putT (putT tm y u) x v:=by
  cases x with
  | none=>rfl
  | some d =>
    cases y with
    | none=>rfl
    | some e =>
      have hne:d ≠ e:=fun he=>h d rfl (he ▸ rfl)
      exact List.set_comm _ _ hne

theorem put_inj {a:Act} {x y:Option Tmp} {v u u':Value} (h:(a.put x v).put y u=(a.put x v).put y u'):a.put y u=a.put y u':=by
  cases y with
  | none=>rfl
  | some e =>
    by_cases hlt:e<a.tmps.size
    · have h1:=congrArg (fun b:Act=>b.tmps[e]?) h
      cases x with
      | none=>exact h
      | some d =>
        simp only [Act.put, Array.getElem?_setIfInBounds_self, Array.size_setIfInBounds, hlt, if_true] at h1
        have:u=u':=by simpa using h1
        rw [this]
    · simp only [Act.put]
      have hle:a.tmps.size≤e:=Nat.le_of_not_lt hlt
      rw [Array.setIfInBounds_eq_of_size_le hle, Array.setIfInBounds_eq_of_size_le hle]

theorem Tree.first {i:Nat} {oi:Oper} {cv v:Value} {pp:AH→Prop} (hi:ops[i]?=some oi) (hsel:∀ (j:Nat) (o:Oper) cs b, ops[j]?=some o→o.op ≠ .select cs b)
    (E0:Sem Next) (W0:Bool) (Inv:World→AH→Mu→Prop)
    (hy:∀ w H μ, Inv w H μ→Rel B w0 μ H w→(W0=true∧E0.run P w=.ok (.value cv) w)∨(W0=false∧cv=undef∧v=undef)) :
    ∀ (n:Nat) (listed:Array Bool) (ps:List PinP) (tm:List Value) (H:AH) (μ:Mu) (ca:Array Value) (w:World),
      (∀ j oj, ops[j]?=some oj→j ≠ i→listed.getD j true=false→behind oj i=false→oi.apart ops oj=true ∧
        ∀ w H μ w' H' μ', Inv w H μ→Mu.le μ μ'→(mildOp P oj.op=true→w'=w∧H'=H∧μ'=μ)→pp H'→Inv w' H' μ') →
      i ∈ Region.ready .any ops listed→execOp (Act.eval { tmps:=ca, defers:=[] }) oi=E0→Region.wanted oi (yielded ops ca)=W0 →
      Inv w H μ→Rel B w0 μ H w→VR μ v cv→(∀ p ∈ ps, p.2 H) →
      Tree P B w0 ops Q n (listed.setIfInBounds i true) ((i, pp) :: ps) (putT tm oi.dst v) H μ (({ tmps:=ca, defers:=[] }:Act).put oi.dst cv).tmps w →
      Tree P B w0 ops Q (n + 1) listed ps tm H μ ca w:=by
  have hpanic:∀ (μ:Mu) (a a':Act) (c:List PanicEntry) (w:World), a.defers=[]→lift [] B w0 μ Q (.panic c) a' w→lift [] B w0 μ Q (.panic c) a w:=by
    intro μ a a' c w hd hl
    obtain ⟨e', tm', H', μ', h1, h2, h3, h4, h5, h6⟩:=hl
    cases e' <;> simp only [exitR] at h6
    exact ⟨_, tm', H', μ', h1, h2, h3, fun x=>absurd rfl x, hd, h6⟩
  have self:∀ (n:Nat) (listed:Array Bool) (ps:List PinP) (tm:List Value) (H:AH) (μ:Mu) (ca:Array Value) (w:World),
      execOp (Act.eval { tmps:=ca, defers:=[] }) oi=E0→Region.wanted oi (yielded ops ca)=W0→Inv w H μ→Rel B w0 μ H w→VR μ v cv→(∀ p ∈ ps, p.2 H) →
      Tree P B w0 ops Q n (listed.setIfInBounds i true) ((i, pp) :: ps) (putT tm oi.dst v) H μ (({ tmps:=ca, defers:=[] }:Act).put oi.dst cv).tmps w →
      (Region.wanted oi (yielded ops ca)=true→oi.wp P { tmps:=ca, defers:=[] } w (fun a' w'=>∃ v cv H' μ', a'=({ tmps:=ca, defers:=[] }:Act).put oi.dst cv∧Mu.le μ μ'∧Rel B w0 μ' H' w'∧VR μ' v cv ∧
            (mildOp P oi.op=true→w'=w∧H'=H∧μ'=μ)∧(∀ p ∈ ps, behind oi p.1=false→p.2 H') ∧
            Tree P B w0 ops Q n (listed.setIfInBounds i true) (ps.filter fun p=>!behind oi p.1) (putT tm oi.dst v) H' μ' a'.tmps w') (lift [] B w0 μ Q)) ∧
      (Region.wanted oi (yielded ops ca)=false→Tree P B w0 ops Q n (listed.setIfInBounds i true) (ps.filter fun p=>!behind oi p.1) (putT tm oi.dst undef) H μ (({ tmps:=ca, defers:=[] }:Act).put oi.dst undef).tmps w):=by
    intro n listed ps tm H μ ca w hE hW hI hr hv hp h
    have hsub:∀ p ∈ ps.filter (fun p=>!behind oi p.1), p ∈ (i, pp) :: ps:=fun p hpm=>List.mem_cons_of_mem _ (List.mem_filter.1 hpm).1
    rcases hy w H μ hI hr with ⟨ht, hrun⟩ | ⟨hf, hc, hv0⟩
    · refine ⟨fun hw=>?_, fun hw=>by rw [hW, ht] at hw; cases hw⟩
      unfold Oper.wp
      rw [hE, hrun, Oper.upon_value]
      exact ⟨v, cv, H, μ, rfl, Mu.le_refl _, hr, hv, fun _=>⟨rfl, rfl, rfl⟩, fun p hpm _=>hp p hpm, Tree.pins _ _ _ _ _ _ _ _ _ hsub h⟩
    · refine ⟨fun hw=>(by rw [hW, hf] at hw; cases hw), fun hw=>?_⟩
      rw [hc, hv0] at h
      exact Tree.pins _ _ _ _ _ _ _ _ _ hsub h
  intro n
  induction n with
  | zero =>
    intro listed ps tm H μ ca w hfree hri hE hW hI hr hv hp h
    refine ⟨fun hn=>(by rw [hn] at hri; cases hri), fun j hj o ho=>?_⟩
    by_cases hji:j=i
    · subst hji
      rw [hi] at ho; cases ho
      exact self 0 listed ps tm H μ ca w hE hW hI hr hv hp h
    · have:=ready_mono hj hji
      rw [h.1] at this
      cases this
  | succ n ih =>
    intro listed ps tm H μ ca w hfree hri hE hW hI hr hv hp h
    refine ⟨fun hn=>(by rw [hn] at hri; cases hri), fun j hj o ho=>?_⟩
    by_cases hji:j=i
    · subst hji
      rw [hi] at ho; cases ho
      exact self (n + 1) listed ps tm H μ ca w hE hW hI hr hv hp h
    · have hb:=h.2 j (ready_mono hj hji) o ho
      obtain ⟨hjun, oj, hoj, hall⟩:=mem_ready.1 hj
      rw [ho] at hoj; cases hoj
      have hnb:behind o i=false:=by
        rw [Bool.eq_false_iff]
        intro hbe
        obtain ⟨e, he, hbd⟩:=Array.any_eq_true'.1 hbe
        simp only [Bool.and_eq_true, beq_iff_eq] at hbd
        have h1:=hall e he hbd.1
        have h0:=(mem_ready.1 hri).1
        rw [hbd.2] at h1
        rcases Nat.lt_or_ge i listed.size with h' | h'
        · simp [h'] at h0 h1; rw [h0] at h1; cases h1
        · simp [Array.getElem?_eq_none h'] at h1
      obtain ⟨hap, hst⟩:=hfree j o ho hji hjun hnb
      obtain ⟨hs1, hs2, hs3⟩:=Oper.apart_spec hap
      have hwp:Region.wanted o (yielded ops (({ tmps:=ca, defers:=[] }:Act).put oi.dst cv).tmps)=Region.wanted o (yielded ops ca):=wanted_put o { tmps:=ca, defers:=[] } oi.dst cv hs1
      have hex:execOp (Act.eval (({ tmps:=ca, defers:=[] }:Act).put oi.dst cv)) o=execOp (Act.eval { tmps:=ca, defers:=[] }) o:=execOp_put o (fun cs b=>hsel j o cs b ho) _ _ _ hs1
      have hfree':∀ k ok, ops[k]?=some ok→k ≠ i→(listed.setIfInBounds j true).getD k true=false→behind ok i=false→oi.apart ops ok=true ∧
          ∀ w H μ w' H' μ', Inv w H μ→Mu.le μ μ'→(mildOp P ok.op=true→w'=w∧H'=H∧μ'=μ)→pp H'→Inv w' H' μ':=fun k ok hk hki hun hno=>by
        refine hfree k ok hk hki ?_ hno
        by_cases hjk:j=k
        · subst hjk; exact hjun
        · rw [getD_set_ne true hjk] at hun; exact hun
      have hfil:((i, pp) :: ps).filter (fun p=>!behind o p.1)=(i, pp) :: ps.filter (fun p=>!behind o p.1):=by
        rw [List.filter_cons]; simp [hnb]
      have step:∀ (u v':Value) (H':AH) (μ':Mu) (w':World), Inv w' H' μ'→Rel B w0 μ' H' w'→VR μ' v cv→(∀ p ∈ ps.filter (fun p=>!behind o p.1), p.2 H') →
          Tree P B w0 ops Q n ((listed.setIfInBounds i true).setIfInBounds j true) (((i, pp) :: ps).filter fun p=>!behind o p.1) (putT (putT tm oi.dst v) o.dst v') H' μ' ((({ tmps:=ca, defers:=[] }:Act).put oi.dst cv).put o.dst u).tmps w' →
          Tree P B w0 ops Q (n + 1) (listed.setIfInBounds j true) (ps.filter fun p=>!behind o p.1) (putT tm o.dst v') H' μ' (({ tmps:=ca, defers:=[] }:Act).put o.dst u).tmps w':=by
        intro u v' H' μ' w' hI' hr' hv' hps hT
        have hE':execOp (Act.eval { tmps:=(({ tmps:=ca, defers:=[] }:Act).put o.dst u).tmps, defers:=[] }) oi=E0:=by
          rw [← put_defers, ← hE]
          exact execOp_put oi (fun cs b=>hsel i oi cs b hi) _ _ _ hs3
        have hW':Region.wanted oi (yielded ops (({ tmps:=ca, defers:=[] }:Act).put o.dst u).tmps)=W0:=by
          rw [← hW]
          exact wanted_put oi { tmps:=ca, defers:=[] } o.dst u hs3
        refine ih (listed.setIfInBounds j true) _ _ H' μ' _ w' hfree' (ready_mono hri (Ne.symm hji)) hE' hW' hI' hr' hv' hps ?_
        rw [hfil, putT_comm tm v v' hs2] at hT
        rw [← put_defers, ← Act.put_comm _ cv u hs2, Array.setIfInBounds_comm _ _ hji]
        exact hT
      refine ⟨fun hw=>?_, fun hw=>?_⟩
      · have hb1:=hb.1 (by rw [hwp]; exact hw)
        rw [← put_defers] at hb1
        unfold Oper.wp at hb1 ⊢
        rw [hex] at hb1
        have key:∀ (u:Value) (w':World), (∃ v2 cv2 H' μ', (({ tmps:=ca, defers:=[] }:Act).put oi.dst cv).put o.dst u=(({ tmps:=ca, defers:=[] }:Act).put oi.dst cv).put o.dst cv2∧Mu.le μ μ'∧Rel B w0 μ' H' w'∧VR μ' v2 cv2 ∧
            (mildOp P o.op=true→w'=w∧H'=H∧μ'=μ)∧(∀ p ∈ (i, pp) :: ps, behind o p.1=false→p.2 H') ∧
            Tree P B w0 ops Q n ((listed.setIfInBounds i true).setIfInBounds j true) (((i, pp) :: ps).filter fun p=>!behind o p.1) (putT (putT tm oi.dst v) o.dst v2) H' μ' ((({ tmps:=ca, defers:=[] }:Act).put oi.dst cv).put o.dst u).tmps w') →
            ∃ v cv H' μ', ({ tmps:=ca, defers:=[] }:Act).put o.dst u=({ tmps:=ca, defers:=[] }:Act).put o.dst cv∧Mu.le μ μ'∧Rel B w0 μ' H' w'∧VR μ' v cv ∧
            (mildOp P o.op=true→w'=w∧H'=H∧μ'=μ)∧(∀ p ∈ ps, behind o p.1=false→p.2 H') ∧
            Tree P B w0 ops Q (n + 1) (listed.setIfInBounds j true) (ps.filter fun p=>!behind o p.1) (putT tm o.dst v) H' μ' (({ tmps:=ca, defers:=[] }:Act).put o.dst u).tmps w':=by
          rintro u w' ⟨v2, cv2, H', μ', g1, g2, g3, g4, g5, g6, g7⟩
          refine ⟨v2, cv2, H', μ', put_inj g1, g2, g3, g4, g5, fun p hpm hpb=>g6 p (List.mem_cons_of_mem _ hpm) hpb, ?_⟩
          exact step u v2 H' μ' w' (hst _ _ _ _ _ _ hI g2 g5 (g6 (i, pp) List.mem_cons_self hnb)) g3 (hv.mono g2)
            (fun p hpm=>by rw [List.mem_filter] at hpm; exact g6 p (List.mem_cons_of_mem _ hpm.1) (by simpa using hpm.2)) g7
        generalize (execOp (Act.eval { tmps:=ca, defers:=[] }) o).run P w=r at hb1 ⊢
        cases r with
        | ok nx w' =>
          cases nx <;> simp only [Oper.upon] at hb1 ⊢
          case value u=>exact key u w' hb1
          case skip=>exact key undef w' hb1
          case defer d =>
            obtain ⟨v2, cv2, H', μ', g1, _⟩:=hb1
            have:=congrArg Act.defers g1
            cases hd:o.dst <;> cases hd':oi.dst <;> simp [Act.put, hd, hd'] at this
          case enter f args =>
            refine Calls.mono hb1 fun e w'' he=>?_
            cases e with
            | returned u=>exact key u w'' he
            | panicked c=>exact hpanic _ _ _ _ _ rfl he
            | outgrown=>exact he
          case row row args=>exact Rows.mono hb1 fun u w'' he=>key u w'' he
        | halt x w' =>
          cases x <;> simp only [Oper.upon] at hb1 ⊢
          case panic u=>exact hpanic _ _ _ _ _ rfl hb1
      · have hb2:=hb.2 (by rw [hwp]; exact hw)
        rw [← put_defers] at hb2
        exact step undef undef H μ w hI hr hv (fun p hpm=>hp p (List.mem_filter.1 hpm).1) hb2
end
structure MaskR (n:Nat) (listed:Array Bool) (mask:Nat):Prop where
  size:listed.size=n
  lt:mask<2 ^ n
  at_:∀ i, i<n→listed[i]?=some (mask.testBit i)

theorem MaskR.init (n:Nat):MaskR n (Array.replicate n false) 0 :=
  ⟨by simp, Nat.two_pow_pos n, fun i hi=>by simp [hi]⟩
theorem MaskR.set {n:Nat} {listed:Array Bool} {mask:Nat} (h:MaskR n listed mask) (i:Nat) (hi:i<n):MaskR n (listed.setIfInBounds i true) (mask ||| 2 ^ i):=by
  refine ⟨by simp [h.size], Nat.or_lt_two_pow h.lt (Nat.pow_lt_pow_right (by omega) hi), fun j hj=>?_⟩
  rw [Nat.testBit_or, Nat.testBit_two_pow]
  by_cases e:i=j
  · subst e
    rw [Array.getElem?_setIfInBounds_self_of_lt (by rw [h.size]; exact hi)]
    simp
  · rw [Array.getElem?_setIfInBounds_ne e, h.at_ j hj]
    simp [e]
theorem MaskR.getT {n:Nat} {listed:Array Bool} {mask:Nat} (h:MaskR n listed mask) (i:Nat) (hi:i<n):listed.getD i true=mask.testBit i:=by
  rw [Array.getD_eq_getD_getElem?, h.at_ i hi]; rfl
theorem MaskR.getF {n:Nat} {listed:Array Bool} {mask:Nat} (h:MaskR n listed mask) (i:Nat):listed.getD i false=mask.testBit i:=by
  by_cases hi:i<n
  · rw [Array.getD_eq_getD_getElem?, h.at_ i hi]; rfl
  · rw [Array.getD_eq_getD_getElem?, Array.getElem?_eq_none (by rw [h.size]; omega)]
    have:mask<2 ^ i:=Nat.lt_of_lt_of_le h.lt (Nat.pow_le_pow_right (by omega) (by omega))
    rw [Nat.testBit_lt_two_pow this]; rfl

theorem readyM_filter (mask:Nat) (p:Nat→Bool):∀ (l:List Oper) (k:Nat), (∀ (i:Nat) o, l[i]?=some o→p (k + i)=(!mask.testBit (k + i) && o.after.toList.all (fun e=>!Region.binds .any e || mask.testBit e.on))) →
    readyM mask l k=(List.range' k l.length).filter p:=by
  intro l
  induction l with
  | nil=>intro k _; rfl
  | cons o l ih =>
    intro k h
    have h0:=h 0 o rfl
    rw [Nat.add_zero] at h0
    rw [readyM, List.length_cons, List.range'_succ, List.filter_cons, h0, ih (k + 1) (fun i o' ho=>by rw [show k + 1 + i=k + (i + 1) from by omega]; exact h (i + 1) o' (by simpa using ho))]
    cases (!mask.testBit k && o.after.toList.all (fun e=>!Region.binds .any e || mask.testBit e.on)) <;> rfl

theorem readyM_eq {ops:Array Oper} {listed:Array Bool} {mask:Nat} (h:MaskR ops.size listed mask):readyM mask ops.toList 0=Region.ready .any ops listed:=by
  unfold Region.ready
  rw [readyM_filter mask (fun i=>!listed.getD i true && ((ops[i]?).map (fun o=>o.after.all fun e=>!Region.binds .any e || listed.getD e.on false)).getD false) ops.toList 0 (fun i o ho=>by
    rw [Nat.zero_add]
    have ho':ops[i]?=some o:=by rw [← Array.getElem?_toList]; exact ho
    have hi:=(Array.getElem?_eq_some_iff.1 ho').1
    rw [h.getT i hi, ho']
    simp only [Option.map_some, Option.getD_some, h.getF]
    rw [← Array.all_toList]), List.range_eq_range', Array.length_toList]

theorem freeM_all (ops:Array Oper) (mask i:Nat) (oi:Oper) (p:Nat→Bool):∀ (l:List Oper) (k:Nat), (∀ (j:Nat) oj, l[j]?=some oj→p (k + j)=(k + j == i || mask.testBit (k + j) || (oj.after.any (fun e=>Region.binds .any e && e.on == i) || oi.apart ops oj))) →
    freeM ops mask i oi l k=(List.range' k l.length).all p:=by
  intro l
  induction l with
  | nil=>intro k _; rfl
  | cons o l ih =>
    intro k h
    have h0:=h 0 o rfl
    rw [Nat.add_zero] at h0
    rw [freeM, List.length_cons, List.range'_succ, List.all_cons, h0, ih (k + 1) (fun j o' ho=>by rw [show k + 1 + j=k + (j + 1) from by omega]; exact h (j + 1) o' (by simpa using ho))]

theorem freeM_eq {ops:Array Oper} {listed:Array Bool} {mask:Nat} (h:MaskR ops.size listed mask) {i:Nat} {oi:Oper} (hoi:ops[i]?=some oi):freeM ops mask i oi ops.toList 0=Region.free .any ops listed i:=by
  unfold Region.free
  rw [hoi]
  dsimp only
  rw [freeM_all ops mask i oi (fun j=>j == i || listed.getD j true || match ops[j]? with
      | some oj=>oj.after.any (fun e=>Region.binds .any e && e.on == i) || oi.apart ops oj
      | none=>true) ops.toList 0 (fun j oj ho=>by
    rw [Nat.zero_add]
    have ho':ops[j]?=some oj:=by rw [← Array.getElem?_toList]; exact ho
    have hj:=(Array.getElem?_eq_some_iff.1 ho').1
    rw [h.getT j hj, ho']), List.range_eq_range', Array.length_toList]
  rfl

theorem pickM_eq {P:Program} {ops:Array Oper} {listed:Array Bool} {mask:Nat} (h:MaskR ops.size listed mask) (l:List Nat) :
    pickM P ops mask l=l.find? (fun i=>(ops[i]?).any (fun o=>silentOp P o.op) && Region.free .any ops listed i):=by
  induction l with
  | nil=>rfl
  | cons i l ih =>
    rw [pickM, List.find?_cons, ih]
    cases ho:ops[i]? with
    | none=>rfl
    | some o =>
      dsimp only
      rw [freeM_eq h ho]
      simp only [Option.any_some]
      cases (silentOp P o.op && Region.free .any ops listed i) <;> rfl


def toP (p:Pin):PinP:=(p.1, fun H=>PinOK p.2.1 p.2.2.1 p.2.2.2 H)
theorem toP_drop (o:Oper) (pins:List Pin):(pins.map toP).filter (fun p=>!behind o p.1)=(dropPins o pins).map toP:=by
  unfold dropPins
  rw [List.filter_map]
  rfl

theorem pickL_spec {P:Program} {ops:Array Oper} {mask i:Nat} {pin:Bool}:∀ {l:List Nat}, pickL P ops mask l=some (i, pin) →
    i ∈ l∧∃ o t a, ops[i]?=some o∧o.op=.load t a∧o.guard=none∧freeM ops mask i o ops.toList 0=true∧(pin=false→mildRest P mask i ops.toList 0=true)∧(pin=true→(cks P 20 t).all rigidK=true):=by
  intro l
  induction l with
  | nil=>intro h; cases h
  | cons j l ih =>
    intro h
    have next:pickL P ops mask l=some (i, pin)→i ∈ j :: l∧∃ o t a, ops[i]?=some o∧o.op=.load t a∧o.guard=none∧freeM ops mask i o ops.toList 0=true∧(pin=false→mildRest P mask i ops.toList 0=true)∧(pin=true→(cks P 20 t).all rigidK=true) :=
      fun h=>⟨List.mem_cons_of_mem _ (ih h).1, (ih h).2⟩
    unfold pickL at h
    split at h
    · exact next h
    · rename_i o ho
      split at h
      · rename_i t a hop hg
        split at h
        · rename_i hf
          split at h
          · rename_i hm
            cases h
            exact ⟨List.mem_cons_self, o, t, a, ho, hop, hg, hf, fun _=>hm, fun hh=>(by cases hh)⟩
          · split at h
            · rename_i hk
              cases h
              exact ⟨List.mem_cons_self, o, t, a, ho, hop, hg, hf, fun hh=>(by cases hh), fun _=>hk⟩
            · exact next h
        · exact next h
      · exact next h

theorem mildRest_spec {P:Program} {mask i:Nat}:∀ {l:List Oper} {k:Nat}, mildRest P mask i l k=true→∀ (j:Nat) oj, l[j]?=some oj→k + j ≠ i→mask.testBit (k + j)=false→behind oj i=false→mildOp P oj.op=true:=by
  intro l
  induction l with
  | nil=>intro k _ j oj hj; simp at hj
  | cons o l ih =>
    intro k h j oj hj hne hm hb
    unfold mildRest at h
    simp only [Bool.and_eq_true, Bool.or_eq_true] at h
    cases j with
    | zero =>
      simp only [List.getElem?_cons_zero, Option.some.injEq] at hj
      subst hj
      rw [Nat.add_zero] at hne hm
      rcases h.1 with ((h1 | h1) | h1) | h1
      · exact absurd (by simpa using h1) hne
      · rw [hm] at h1; cases h1
      · rw [hb] at h1; cases h1
      · exact h1
    | succ j =>
      rw [List.getElem?_cons_succ] at hj
      exact ih h.2 j oj hj (by omega) (by rw [show k + 1 + j=k + (j + 1) by omega]; exact hm) hb

section
variable {P:Program} {B:Nat} {w0:World} {μ:Mu} {H:AH} {w:World}
theorem ld_run (hr:Rel B w0 μ H w) {o:Oper} {t:TypeId} {a:Operand} (ho:o.op=.load t a) {ρ:Operand→Value} {x v:Value} (hx:VR μ x (ρ a)) (h:aLoad P t x H (·=v)) :
    ∃ cv, (execOp ρ o).run P w=.ok (.value cv) w∧VR μ v cv:=by
  obtain ⟨v', cv, h1, h2, h3⟩:=load_ok hr hx h
  subst h2
  obtain ⟨dst, op, type, pos, after, guard⟩:=o
  simp only at ho
  subst ho
  exact ⟨cv, by show (do pure (.value (← Instr.loadAt t (ρ a))):Sem Next).run P w=_; simp [h1], h3⟩
theorem mild_ok {tm:List Value} {ca:Array Value} (ht:LR μ tm ca) {o:Oper} (hok:o.op.operands.all operOK=true) (hs:mildOp P o.op=true) {K Kp:KV} (h:aop P tm o H K Kp) (hr:Rel B w0 μ H w) :
    ∃ v cv, (execOp (Act.eval { tmps:=ca, defers:=[] }) o).run P w=.ok (.value cv) w∧K v H∧VR μ v cv:=by
  unfold mildOp at hs
  rw [Bool.or_eq_true] at hs
  rcases hs with hs | hs
  · obtain ⟨v, cv, h1, h2, h3⟩:=silent_ok ht hok hs h hr
    exact ⟨v, cv, h1 w, h2, h3⟩
  · split at hs
    · rename_i t a ho
      unfold aop at h
      simp only [ho] at h
      obtain ⟨ob, k, v, hx, hK, hp, hl, _⟩:=wLoad_pin h
      have hxv:VR μ (ev tm a) (Act.eval { tmps:=ca, defers:=[] } a):=ev_ok ht (opok_mem hok (by simp [ho, Op.operands]))
      obtain ⟨cv, h1, h2⟩:=ld_run hr ho hxv (hl H hp)
      exact ⟨v, cv, h1, hK, h2⟩
    · cases hs

theorem adraw_ok (ops:Array Oper) (hall:(ops.toList.all fun o=>o.op.operands.toList.all operOK)=true) (hsel:Region.noSelect ops=true) {Q:AExit→List Value→AH→Prop} :
    ∀ (fuel:Nat) (listed:Array Bool) (mask:Nat) (pins:List Pin) (tm:List Value) (ca:Array Value) (μ:Mu) (H:AH) (w:World), MaskR ops.size listed mask→(∀ p ∈ pins, PinOK p.2.1 p.2.2.1 p.2.2.2 H) →
      adraw P ops Q fuel mask pins tm H→Rel B w0 μ H w→LR μ tm ca→Tree P B w0 ops Q fuel listed (pins.map toP) tm H μ ca w:=by
  have hok:∀ (i:Nat) (o:Oper), ops[i]?=some o→o.op.operands.all operOK=true:=by
    intro i o ho
    have hm:o ∈ ops.toList:=by
      rw [← Array.getElem?_toList] at ho
      exact List.mem_of_getElem? ho
    rw [← Array.all_toList]
    exact List.all_eq_true.1 hall o hm
  have hpm:∀ (H:AH) (pins:List Pin), (∀ p ∈ pins, PinOK p.2.1 p.2.2.1 p.2.2.2 H)→∀ p ∈ pins.map toP, p.2 H:=by
    intro H pins h p hp
    obtain ⟨q, hq, rfl⟩:=List.mem_map.1 hp
    exact h q hq
  intro fuel
  induction fuel with
  | zero =>
    intro listed mask pins tm ca μ H w hm hpins h hr ht
    unfold adraw at h
    rw [readyM_eq hm] at h
    split at h
    · rename_i hrs
      exact ⟨hrs, h⟩
    · exact h.elim
  | succ fuel ih =>
    intro listed mask pins tm ca μ H w hm hpins h hr ht
    unfold adraw at h
    rw [readyM_eq hm] at h
    cases hrs:Region.ready .any ops listed with
    | nil =>
      rw [hrs] at h
      exact ⟨fun _=>h, fun j hj=>by rw [hrs] at hj; cases hj⟩
    | cons i0 rs =>
      rw [hrs] at h
      simp only at h
      have hsub:∀ (i:Nat) (pp:AH→Prop), ∀ p ∈ pins.map toP, p ∈ (i, pp) :: pins.map toP:=fun i pp p hp=>List.mem_cons_of_mem _ hp
      have hlt:∀ i ∈ i0 :: rs, i<ops.size:=by
        intro i hi
        rw [← hrs] at hi
        obtain ⟨_, o, ho, _⟩:=mem_ready.1 hi
        exact (Array.getElem?_eq_some_iff.1 ho).1
      have hbh:∀ (i:Nat) (oj:Oper), behind oj i=false→∀ e ∈ oj.after, Region.binds .any e=true→e.on ≠ i:=by
        intro i oj hb e he hbd heq
        have:behind oj i=true:=Array.any_eq_true'.2 ⟨e, he, by simp [hbd, heq]⟩
        rw [hb] at this; cases this
      split at h
      · rename_i i hfind
        rw [pickM_eq hm] at hfind
        have hmem:=List.mem_of_find?_eq_some hfind
        have hprop:=List.find?_some hfind
        simp only [Bool.and_eq_true] at hprop
        split at h
        · exact h.elim
        · rename_i o ho
          have hso:silentOp P o.op=true:=by have:=hprop.1; rw [ho] at this; simpa using this
          have hcv:∃ v cv, ((Region.wanted o (yielded ops ca)=true∧∀ w, (execOp (Act.eval { tmps:=ca, defers:=[] }) o).run P w=.ok (.value cv) w)∨(Region.wanted o (yielded ops ca)=false∧cv=undef∧v=undef)) ∧
              VR μ v cv∧adraw P ops Q fuel (mask ||| 2 ^ i) pins (putT tm o.dst v) H:=by
            rcases gop_cases ht h with ⟨hw, h⟩ | ⟨hw, h⟩
            · obtain ⟨v, cv, h1, h2, h3⟩:=silent_ok ht (hok i o ho) hso h hr
              exact ⟨v, cv, .inl ⟨hw, h1⟩, h3, h2⟩
            · exact ⟨_, _, .inr ⟨hw, rfl, rfl⟩, VR.undef, h⟩
          obtain ⟨v, cv, hy, hv, h⟩:=hcv
          have hT:=ih (listed.setIfInBounds i true) (mask ||| 2 ^ i) pins (putT tm o.dst v) _ μ H w (hm.set i (hlt i hmem)) hpins h hr (put_ok (D:=[]) ht hv o.dst)
          refine Tree.first (pp:=fun _=>True) ho (Region.noSelect_spec hsel) _ _ (fun _ _ _=>True) (v:=v) (cv:=cv) ?_ fuel listed _ tm H μ ca w ?_ (by rw [hrs]; exact hmem) rfl rfl trivial hr hv (hpm H pins hpins) ?_
          · intro w1 H1 μ1 _ _
            rcases hy with ⟨h1, h2⟩ | ⟨h1, h2, h3⟩
            · exact .inl ⟨h1, h2 w1⟩
            · exact .inr ⟨h1, h2, h3⟩
          · intro j oj hj hne hun hb
            exact ⟨Region.free_spec ho hprop.2 j oj hj hne hun (hbh i oj hb), fun _ _ _ _ _ _ _ _ _ _=>trivial⟩
          · -- one pin more that asks nothing
            exact Tree.more i fuel _ _ _ _ _ _ _ hT
      · split at h
        · rename_i i pin hpick
          obtain ⟨hmem, o, t, a, ho, hop, hg, hf, hmild, hrig⟩:=pickL_spec hpick
          simp only [ho, hop] at h
          obtain ⟨ob, k, v, hx, hK, hp, hl, hri⟩:=wLoad_pin h
          rw [freeM_eq hm ho] at hf
          have hxv:VR μ (ev tm a) (Act.eval { tmps:=ca, defers:=[] } a):=ev_ok ht (opok_mem (hok i o ho) (by simp [hop, Op.operands]))
          obtain ⟨cv, hrun, hv⟩:=ld_run hr hop hxv (hl H hp)
          have hw:Region.wanted o (yielded ops ca)=true:=by simp [Region.wanted, hg]
          cases pin with
          | false =>
            have hT:=ih (listed.setIfInBounds i true) (mask ||| 2 ^ i) pins (putT tm o.dst v) _ μ H w (hm.set i (hlt i hmem)) hpins hK hr (put_ok (D:=[]) ht hv o.dst)
            refine Tree.first (pp:=fun _=>True) ho (Region.noSelect_spec hsel) _ _ (fun w1 _ _=>w1=w) (v:=v) (cv:=cv) ?_ fuel listed _ tm H μ ca w ?_ (by rw [hrs]; exact hmem) rfl rfl rfl hr hv (hpm H pins hpins) ?_
            · rintro w1 H1 μ1 rfl _
              exact .inl ⟨hw, hrun⟩
            · intro j oj hj hne hun hb
              have hj':ops.toList[j]?=some oj:=by rw [Array.getElem?_toList]; exact hj
              have hjm:=(Array.getElem?_eq_some_iff.1 hj).1
              have:=mildRest_spec (hmild rfl) j oj hj' (by omega) (by rw [Nat.zero_add, ← hm.getT j hjm]; exact hun) hb
              exact ⟨Region.free_spec ho hf j oj hj hne hun (hbh i oj hb), fun w1 H1 μ1 w2 H2 μ2 e1 _ e2 _=>((e2 this).1).trans e1⟩
            · exact Tree.more i fuel _ _ _ _ _ _ _ hT
          | true =>
            have hro:=hri (hrig rfl)
            rw [hx] at hK
            have hT:=ih (listed.setIfInBounds i true) (mask ||| 2 ^ i) ((i, ob, k, pinCells P t v) :: pins) (putT tm o.dst v) _ μ H w (hm.set i (hlt i hmem))
              (fun p hpp=>by rcases List.mem_cons.1 hpp with rfl | hpp; exact hp; exact hpins p hpp) hK hr (put_ok (D:=[]) ht hv o.dst)
            refine Tree.first (pp:=fun H=>PinOK ob k (pinCells P t v) H) ho (Region.noSelect_spec hsel) _ _ (fun w1 H1 μ1=>PinOK ob k (pinCells P t v) H1∧Mu.le μ μ1) (v:=v) (cv:=cv) ?_ fuel listed _ tm H μ ca w ?_ (by rw [hrs]; exact hmem) rfl rfl ⟨hp, Mu.le_refl _⟩ hr hv (hpm H pins hpins) hT
            · rintro w1 H1 μ1 ⟨hp1, hle⟩ hr1
              obtain ⟨cv1, hrun1, hv1⟩:=ld_run hr1 hop (hxv.mono hle) (hl H1 hp1)
              have:cv1=cv:=by
                rcases hro.2 with e | e
                · rw [e] at hv hv1
                  exact VR.rigidA hro.1 hv1 (hv.mono hle)
                · have:rigid1 v=true:=List.all_eq_true.1 hro.1 v (by rw [← e]; exact List.mem_singleton_self v)
                  exact VR.rigid this hv1 (hv.mono hle)
              subst this
              exact .inl ⟨hw, hrun1⟩
            · intro j oj hj hne hun hb
              exact ⟨Region.free_spec ho hf j oj hj hne hun (hbh i oj hb), fun w1 H1 μ1 w2 H2 μ2 e1 hle _ hp2=>⟨hp2, Mu.le_trans e1.2 hle⟩⟩
        · have ha:=allOf_mem h
          refine ⟨fun hn=>(by rw [hrs] at hn; cases hn), fun j hj o ho=>?_⟩
          rw [hrs] at hj
          have hj1:=ha j hj
          simp only [ho] at hj1
          rw [toP_drop]
          rcases gop_cases ht hj1 with ⟨hw, h⟩ | ⟨hw, h⟩
          · refine ⟨fun _=>?_, fun hw'=>(by rw [hw] at hw'; cases hw')⟩
            have fin:∀ (v cv:Value) (H':AH) (μ':Mu) (w':World), pinChk (dropPins o pins) H' (adraw P ops Q fuel (mask ||| 2 ^ j) (dropPins o pins) (putT tm o.dst v) H')→Mu.le μ μ'→Rel B w0 μ' H' w'→VR μ' v cv →
                (∀ p ∈ pins.map toP, behind o p.1=false→p.2 H')∧Tree P B w0 ops Q fuel (listed.setIfInBounds j true) ((dropPins o pins).map toP) (putT tm o.dst v) H' μ' (({ tmps:=ca, defers:=[] }:Act).put o.dst cv).tmps w':=by
              intro v cv H' μ' w' hc hle hr' hv
              obtain ⟨hp, hK⟩:=pinChk_of hc
              refine ⟨fun p hpp hb=>?_, ih _ _ _ _ _ μ' H' w' (hm.set j (hlt j hj)) hp hK hr' (put_ok (ht.mono hle) hv _)⟩
              obtain ⟨q, hq, rfl⟩:=List.mem_map.1 hpp
              exact hp q (List.mem_filter.2 ⟨hq, by simpa [toP] using hb⟩)
            by_cases hmo:mildOp P o.op=true
            · obtain ⟨v, cv, h1, h2, h3⟩:=mild_ok ht (hok j o ho) hmo h hr
              unfold Oper.wp
              rw [h1, Oper.upon_value]
              obtain ⟨f1, f2⟩:=fin v cv H μ w h2 (Mu.le_refl _) hr h3
              exact ⟨v, cv, H, μ, rfl, Mu.le_refl _, hr, h3, fun _=>⟨rfl, rfl, rfl⟩, f1, f2⟩
            · refine op_ok hr ht (hok j o ho) h ?_ ?_
              · intro v H' μ' w' cv h1 h2 h3 h4
                obtain ⟨f1, f2⟩:=fin v cv H' μ' w' h1 h2 h3 h4
                exact ⟨v, cv, H', μ', rfl, h2, h3, h4, fun hh=>absurd hh hmo, f1, f2⟩
              · intro v H' μ' w' cv h1 h2 h3 h4
                exact lift_panic ht h1 h2 h3 h4
          · refine ⟨fun hw'=>(by rw [hw] at hw'; cases hw'), fun _=>?_⟩
            obtain ⟨hp, hK⟩:=pinChk_of h
            exact ih _ _ _ _ _ μ H w (hm.set j (hlt j hj)) hp hK hr (put_ok ht VR.undef _)
end
end Go.Proofs.YtjhbbbcelnlnpaaGreatDoor
