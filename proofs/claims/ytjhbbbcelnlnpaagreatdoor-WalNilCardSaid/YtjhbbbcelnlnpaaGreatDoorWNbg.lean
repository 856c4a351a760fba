/- The log: writes, and a flush. -/
import Derived.Test.YtjhbbbcelnlnpaaGreatDoorWNbf
namespace Go.Proofs.YtjhbbbcelnlnpaaGreatDoor
open Go.RowKit

structure LD (H:AH) (il i jl jw:Nat) (b:Option Addr) (c:Nat) (L:Lg) (d:Dev):Prop where
  lg:LogAt H il i b c L
  dv:DevAt H i jl jw d
  ok:d.OK
  ai:il ≠ i
  al:il ≠ jl
  aw:il ≠ jw
  ch:∀ o, b=some ⟨o, 0, none⟩→o ≠ i∧o ≠ jl∧o ≠ jw
section
variable {H H':AH} {il i jl jw jw':Nat} {b:Option Addr} {c:Nat} {L:Lg} {d d':Dev}
theorem Sli.lt {H:AH} {b:Option Addr} {n c:Nat} {l:List Nat} (h:Sli H b n c l):∀ o, b=some ⟨o, 0, none⟩→o<H.next:=by
  intro o e
  rcases h.cases with ⟨rfl, _⟩ | ⟨o', rfl, _, _, ho⟩
  · cases e
  · cases e; exact ho.lt
theorem LD.fr (h:LD H il i jl jw b c L d) (f:Fr [] H H'):LD H' il i jl jw b c L d:=⟨h.lg.fr f (by simp), h.dv.fr f (by simp), h.ok, h.ai, h.al, h.aw, h.ch⟩
theorem DevAt.jwlt (h:DevAt H i jl jw d):jw<H.next:=by
  by_cases e:d.waits=[]
  · rw [h.emp e]; exact h.own.lt
  · exact (h.waits e).lt
theorem LD.dev (h:LD H il i jl jw b c L d) (hd:DevAt H' i jl jw' d') (hok:d'.OK) (f:Fr [i, jl, jw] H H') (hj:jw'=i∨jw'=jw∨H.next≤jw'):LD H' il i jl jw' b c L d':=by
  refine ⟨h.lg.fr f ⟨by simp [h.ai, h.al, h.aw], fun o e=>by have:=h.ch o e; simp [this.1, this.2.1, this.2.2]⟩, hd, hok, h.ai, h.al, ?_, fun o e=>?_⟩
  · rcases hj with rfl | rfl | hj
    · exact h.ai
    · exact h.aw
    · have:=h.lg.own.lt; omega
  · have h3:=h.ch o e
    refine ⟨h3.1, h3.2.1, ?_⟩
    rcases hj with rfl | rfl | hj
    · exact h3.1
    · exact h3.2.2
    · have:=h.lg.chain.lt o e; omega
theorem LD.log {L':Lg} {vs:List Value} {k:Nat} (h:LD H il i jl jw b c L d) (e:setCells (lrow i b L.chain.length c L) k vs=lrow i b L'.chain.length c L') (hc:L'.chain=L.chain) :
    LD (H.set il (.row (setCells (lrow i b L.chain.length c L) k vs) 0)) il i jl jw b c L' d:=by
  rw [e]
  refine ⟨⟨h.lg.own.set _, ?_, h.lg.ne⟩, ⟨h.dv.own.setne (Ne.symm h.ai) _, h.dv.lasts.setne (Ne.symm h.al) _, fun hw=>(h.dv.waits hw).setne (Ne.symm h.aw) _, h.dv.ne, h.dv.emp, h.dv.nw⟩, h.ok, h.ai, h.al, h.aw, h.ch⟩
  rw [hc]
  exact h.lg.chain.fr (Fr.set1 H il _) (fun o e=>by have:=h.lg.ne o e; simpa using this)
end

def pieces (w:Nat × ByteArray):List (Nat × ByteArray):=(List.range (w.2.size / 64)).map fun k=>(w.1 + k, w.2.extract (64 * k) (64 * k + 64))
theorem pieces_length (w:Nat × ByteArray):(pieces w).length=w.2.size / 64:=by simp [pieces]
def flat (l:List (Nat × ByteArray)):List (Nat × ByteArray):=(l.map pieces).flatten
def writesP:List (Nat × ByteArray)→Dev→Int × Dev
  | [], d=>(0, d)
  | w :: l, d=>if (d.write (w.1:Int) w.2).1 ≠ 0 then d.write (w.1:Int) w.2 else writesP l (d.write (w.1:Int) w.2).2
def putP (l:List (Nat × ByteArray)) (d:Dev):Int × Dev:=if (writesP (flat l) d).1 ≠ 0 then writesP (flat l) d else (writesP (flat l) d).2.flush
theorem write_waits (d:Dev) (k:Int) (s:ByteArray):(d.write k s).2.waits.length≤d.waits.length + 1:=by
  unfold Dev.write
  split
  · exact Nat.le_succ _
  · split
    · exact Nat.le_succ _
    · unfold Dev.blow
      split
      · simp
      · split
        · simp
        · unfold Dev.lost; simp
attribute [local irreducible] secsN Dev.write Dev.flush
section
variable {H:AH} {R:AEnd→AH→Prop} {il i jl jw:Nat} {b:Option Addr} {c:Nat} {L:Lg} {d:Dev}
abbrev shut (L:Lg) (e:Int):Lg:={ L with closed:=decide (e ≠ 0) }
set_option maxRecDepth 20000 in
set_option maxHeartbeats 1000000 in
theorem lput_call (x:LD H il i jl jw b c L d) {o:Nat} {ws:List (Nat × ByteArray)} (ho:Has H o (.row (wcells ws) 2)) (hoa:o ≠ i∧o ≠ jl∧o ≠ jw∧o ≠ il)
    (h64:∀ w ∈ ws, w.2.size % 64=0∧w.2.size≤1099511627776∧w.1≤1099511627776) (hws:ws.length≤1099511627776) (hcnt:d.waits.length + (flat ws).length<1099511627775)
    (h:∀ H' jw', LD H' il i jl jw' b c (shut L (putP ws d).1) (putP ws d).2→Fr [il, i, jl, jw] H H'→(jw'=i∨jw'=jw∨H.next≤jw')→R (.ret (.int .i64 (putP ws d).1)) H') :
    ACall Tryz.prog 80 [.pointer (some ⟨il, 0, none⟩), .slice (some ⟨o, 0, none⟩) ws.length 0] H R:=by
  apply f80_call
  unfold f80_B
  -- the way out with an error
  have bad:∀ (H1:AH) (d1:Dev) (j1:Nat) (e:Int), writesP (flat ws) d=(e, d1)→e ≠ 0→LD H1 il i jl j1 b c L d1→Fr [i, jl, jw] H H1→(j1=i∨j1=jw∨H.next≤j1) →
      R (.ret (.int .i64 e)) (H1.set il (.row (setCells (lrow i b L.chain.length c L) (0 + 8) [.bool true]) 0)):=by
    intro H1 d1 j1 e hw he x1 f1 hj
    have hp:putP ws d=(e, d1):=by unfold putP; rw [hw, if_pos he]
    have:=h (H1.set il (.row (setCells (lrow i b L.chain.length c L) (0 + 8) [.bool true]) 0)) j1
    rw [hp] at this
    refine this (x1.log ?_ rfl) ((f1.mono (by simp)).set (.inl (by simp)) _) hj
    show _=lrow i b L.chain.length c { L with closed:=decide (e ≠ 0) }
    rw [decide_eq_true he]; rfl
  refine f80_L0_rule (J:=fun m s H'=>∃ (k:Nat) (d1:Dev) (j1:Nat), s=(k:Int)∧k≤ws.length∧m=ws.length - k∧writesP (flat ws) d=writesP (flat (ws.drop k)) d1∧LD H' il i jl j1 b c L d1∧Fr [i, jl, jw] H H' ∧
      (j1=i∨j1=jw∨H.next≤j1)∧d1.waits.length + (flat (ws.drop k)).length<1099511627775) ws.length
    ⟨0, d, jw, rfl, Nat.zero_le _, rfl, rfl, x, Fr.refl _ _, .inr (.inl rfl), hcnt⟩ ?_
  rintro m s H1 ⟨k, d1, j1, rfl, hk, rfl, hw, x1, f1, hj1, hc1⟩
  intros
  have ho1:=ho.fr f1 (by simp [hoa])
  unfold f80_R0
  refine wIf_d (fun hlt=>?_) (fun hge=>?_)
  · have hlt:k<ws.length:=by omega
    obtain ⟨c1, c2⟩:=wcells_at ws k hlt
    have t0:0 + Int.toNat (k:Int) * 2=2 * k:=by omega
    have hwm:=h64 _ (List.getElem_mem hlt)
    have hdr:flat (ws.drop k)=pieces ws[k] ++ flat (ws.drop (k + 1)):=by
      rw [List.drop_eq_getElem_cons hlt]; rfl
    rw [hdr] at hw hc1
    generalize ws[k]=w at c1 c2 hwm hw hc1
    obtain ⟨wa, wd⟩:=w
    simp only at c1 c2 hwm
    refine wIx_at (by omega) (by omega) ?_
    rw [t0]
    refine ldI_at ho1 c1 (ldS_at ho1 c2 (wNew_at ?_))
    have hz:=Has.new H1 (.row [.int .i64 0, .string ⟨#[]⟩] 0)
    obtain ⟨q, hqq⟩:∃ q, H1.next=q:=⟨_, rfl⟩
    rw [hqq] at hz ⊢
    refine wSt_at hz (by simp) ?_
    have hz2:Has ((H1.push (.row [.int .i64 0, .string ⟨#[]⟩] 0)).set q (.row (setCells [.int .i64 0, .string ⟨#[]⟩] 0 [.int .i64 (wa:Int), .string wd]) 0)) q (.row [.int .i64 (wa:Int), .string wd] 0):=hz.set _
    have f12:Fr [] H1 ((H1.push (.row [.int .i64 0, .string ⟨#[]⟩] 0)).set q (.row (setCells [.int .i64 0, .string ⟨#[]⟩] 0 [.int .i64 (wa:Int), .string wd]) 0)):=((Fr.refl [] H1).push _).set (.inr (by omega)) _
    generalize ((H1.push (.row [.int .i64 0, .string ⟨#[]⟩] 0)).set q (.row (setCells [.int .i64 0, .string ⟨#[]⟩] 0 [.int .i64 (wa:Int), .string wd]) 0))=H2 at hz2 f12 ⊢
    have x2:=x1.fr f12
    have f2:=f1.trans (f12.mono (by simp))
    have hq1:H.next≤q:=by have:=f1.next; omega
    have hqi:q ≠ i:=by have:=x1.dv.own.lt; omega
    have hql:q ≠ jl:=by have:=x1.dv.lasts.lt; omega
    have hqil:q ≠ il:=by have:=x1.lg.own.lt; omega
    refine f80_L1_rule (J:=fun m' s' H'=>∃ (t:Nat) (d2:Dev) (j2:Nat), s'=((64 * t:Nat):Int)∧t≤wd.size / 64∧m'=wd.size / 64 - t∧writesP (flat ws) d=writesP ((pieces (wa, wd)).drop t ++ flat (ws.drop (k + 1))) d2∧LD H' il i jl j2 b c L d2∧Fr [i, jl, jw] H H' ∧
        (j2=i∨j2=jw∨H.next≤j2)∧d2.waits.length + ((pieces (wa, wd)).drop t ++ flat (ws.drop (k + 1))).length<1099511627775∧Has H' q (.row [.int .i64 (wa:Int), .string wd] 0)∧j2 ≠ q) (wd.size / 64)
      ⟨0, d1, j1, rfl, Nat.zero_le _, rfl, hw, x2, f2, hj1, hc1, hz2, by have:=x1.dv.jwlt; omega⟩ ?_
    rintro m' s' H3 ⟨t, d2, j2, rfl, ht, rfl, hw3, x3, f3, hj3, hc3, hz3, hqj⟩
    intros
    have hsz:wd.size=64 * (wd.size / 64):=by omega
    unfold f80_R1
    refine ldS_at hz3 rfl (wIf_d (fun hlt2=>?_) (fun hge2=>?_))
    · have ht2:t<wd.size / 64:=by omega
      have hpd:(pieces (wa, wd)).drop t=(wa + t, wd.extract (64 * t) (64 * t + 64)) :: (pieces (wa, wd)).drop (t + 1):=by
        rw [List.drop_eq_getElem_cons (by rw [pieces_length]; exact ht2)]
        congr 1
        simp [pieces]
      have e1:Int.tdiv ((64 * t:Nat):Int) 64=((64 * t / 64:Nat):Int):=rfl
      have e2:IntKind.i64.wrap ((wa:Int) + IntKind.i64.wrap (Int.tdiv ((64 * t:Nat):Int) 64))=((wa + t:Nat):Int):=by
        rw [e1, Nat.mul_div_cancel_left _ (by decide), wi (t:Int) (by omega) (by omega), wi _ (by omega) (by omega)]; push_cast; rfl
      have e3:IntKind.i64.wrap (((64 * t:Nat):Int) + 64)=((64 * t + 64:Nat):Int):=by rw [wi _ (by omega) (by omega)]; push_cast; rfl
      rw [hpd] at hw3 hc3
      refine wPt_at (ldP_at x3.lg.own rfl (ldI_at hz3 rfl (ldS_at hz3 rfl ?_)))
      rw [e2, e3]
      refine wSlS_at (by omega) (by omega) (by omega) ?_
      have e4:wd.extract (Int.toNat ((64 * t:Nat):Int)) (Int.toNat ((64 * t + 64:Nat):Int))=wd.extract (64 * t) (64 * t + 64):=rfl
      rw [e4]
      have hcw:d2.waits.length<1099511627775:=by have:=hc3; simp only [List.cons_append, List.length_cons] at this; omega
      refine wCall_of (write_call x3.dv x3.ok hcw ((wa + t:Nat):Int) (wd.extract (64 * t) (64 * t + 64)) (fun H4 j4 hd4 f34 hj4=>opI_at ?_))
      have x4:=x3.dev hd4 (x3.ok.write hcw _ _) f34 hj4
      have hz4:=hz3.fr f34 (by simp [hqi, hql, Ne.symm hqj])
      have hw4:=write_waits d2 ((wa + t:Nat):Int) (wd.extract (64 * t) (64 * t + 64))
      have hmem:∀ z ∈ [i, jl, j2], z ∈ [i, jl, jw]∨H.next≤z:=by
        intro z hz
        simp at hz
        rcases hz with rfl | rfl | rfl
        · exact .inl (by simp)
        · exact .inl (by simp)
        · rcases hj3 with rfl | rfl | hh
          · exact .inl (by simp)
          · exact .inl (by simp)
          · exact .inr hh
      have f4:Fr [i, jl, jw] H H4:=f3.trans' f34 hmem
      have hj5:j4=i∨j4=jw∨H.next≤j4:=by
        rcases hj4 with e | e | e
        · exact .inl e
        · rw [e]; exact hj3
        · have:=f3.next; exact .inr (.inr (by omega))
      refine ⟨PinOK_at hz4 (by simp) rfl, PinOK_at hz4 (by simp) rfl, ?_⟩
      rw [f80_J0_eq]
      unfold f80_J0_B
      have hws1:writesP (flat ws) d=if (d2.write ((wa + t:Nat):Int) (wd.extract (64 * t) (64 * t + 64))).1 ≠ 0 then d2.write ((wa + t:Nat):Int) (wd.extract (64 * t) (64 * t + 64)) else writesP ((pieces (wa, wd)).drop (t + 1) ++ flat (ws.drop (k + 1))) (d2.write ((wa + t:Nat):Int) (wd.extract (64 * t) (64 * t + 64))).2:=by
        rw [hw3]; rfl
      obtain ⟨r, hr⟩:∃ r, d2.write ((wa + t:Nat):Int) (wd.extract (64 * t) (64 * t + 64))=r:=⟨_, rfl⟩
      rw [hr] at hws1 x4 hw4 ⊢
      refine wIf_n (fun hne=>?_) (fun heq=>?_)
      · rw [if_pos hne] at hws1
        exact wPt_at (wSt_at x4.lg.own (by simp) (bad H4 r.2 j4 r.1 (by rw [hws1]) hne x4 f4 hj5))
      · rw [if_neg (by simp [heq])] at hws1
        rw [f80_J1_eq]
        unfold f80_J1_B
        refine ⟨wd.size / 64 - (t + 1), by omega, f80_I1_mk ⟨t + 1, r.2, j4, ?_, ht2, rfl, hws1, x4, f4, hj5, ?_, hz4, ?_⟩⟩
        · rw [e3]; rfl
        · simp only [List.cons_append, List.length_cons] at hc3; omega
        · rcases hj4 with e | e | e
          · rw [e]; exact Ne.symm hqi
          · rw [e]; exact hqj
          · have:=hz3.lt; omega
    · have ht2:t=wd.size / 64:=by omega
      have hpd:(pieces (wa, wd)).drop t=[]:=List.drop_eq_nil_of_le (by rw [pieces_length]; show wd.size / 64≤t; omega)
      rw [hpd, List.nil_append] at hw3 hc3
      exact ⟨ws.length - (k + 1), by omega, f80_I0_mk ⟨k + 1, d2, j2, wi1 k (by omega), hlt, rfl, hw3, x3, f3, hj3, hc3⟩⟩
  · have hk:k=ws.length:=by omega
    subst hk
    rw [List.drop_length] at hw
    have hw2:writesP (flat ws) d=(0, d1):=hw
    have hp:putP ws d=d1.flush:=by unfold putP; rw [hw2, if_neg (by simp)]
    rw [hp] at h
    rw [f80_J2_eq]
    unfold f80_J2_B
    refine wPt_at (ldP_at x1.lg.own rfl (wCall_of (flush_call x1.dv x1.ok (fun H2 j2 hd2 f12 hj2=>opI_at ?_))))
    have x2:LD H2 il i jl j2 b c L d1.flush.2:=x1.dev hd2 x1.ok.flush (f12.mono (by simp)) (by rcases hj2 with e | e; exact .inl e; exact .inr (.inl e))
    refine wPt_at (wSt_at x2.lg.own (by simp) ?_)
    refine h _ j2 (x2.log (L':=shut L d1.flush.1) ?_ rfl) (((f1.mono (by simp)).trans (f12.mono (by simp))).set (.inl (by simp)) _) ?_
    · show _=lrow i b L.chain.length c { L with closed:=decide (d1.flush.1 ≠ 0) }
      have e:(!decide (d1.flush.1=0))=decide (d1.flush.1 ≠ 0):=by
        by_cases e:d1.flush.1=0
        · rw [decide_eq_true e, decide_eq_false (fun hh=>hh e)]; rfl
        · rw [decide_eq_false e, decide_eq_true e]; rfl
      rw [e]; rfl
    · rcases hj2 with e | e
      · exact .inl e
      · rw [e]; exact hj1
end
end Go.Proofs.YtjhbbbcelnlnpaaGreatDoor
