/- The log: segments are blanked; what stands behind the first sectors; and then these. -/
import Derived.Test.YtjhbbbcelnlnpaaGreatDoorWNbg
namespace Go.Proofs.YtjhbbbcelnlnpaaGreatDoor
open Go.RowKit

theorem repeat_big {H:AH} {R:AEnd→AH→Prop} (n:Nat) (hn:n≤1099511627776) (hR:R (.ret (.string (zeros n))) H):ACall Tryz.prog 77 [.string ⟨#[0]⟩, .int .i64 (n:Int)] H R:=by
  refine acall_keep (.string (ofL (List.replicate n 0))) ?_ hR
  intro B w0 μ w cargs hr ha
  obtain ⟨hs, hat⟩:=ha
  obtain ⟨c0, h0, hv0⟩:=hat 0 _ rfl
  obtain ⟨c1, h1, hv1⟩:=hat 1 _ rfl
  cases hv0
  cases hv1
  obtain rfl:=two_args (by simpa using hs.symm) h0 h1
  refine (Shl.strings_Repeat ⟨#[0]⟩ n w (by omega) (by show 1 * n≤_; omega)).mono ?_
  rintro e w' ⟨rfl, hb⟩
  have e:Lib.repeatL (⟨#[0]⟩:ByteArray).data.toList n=List.replicate n 0:=rep_zero n
  rw [e]
  exact ⟨⟨_, rfl, .string _⟩, hb⟩

def RdI (H:AH) (b:Option Addr) (n:Nat) (l:List Nat):Prop:=(b=none∧n=0∧l=[])∨∃ o cs, b=some ⟨o, 0, none⟩∧Has H o (.row cs 1)∧n=l.length∧∀ k, k<n→cs[k]?=some (.int .i64 ((l.getD k 0:Nat):Int))
theorem RdI.len {H:AH} {b:Option Addr} {n:Nat} {l:List Nat} (h:RdI H b n l):n=l.length:=by
  rcases h with ⟨_, rfl, rfl⟩ | ⟨_, _, _, _, h, _⟩
  · rfl
  · exact h
theorem RdI.fr {S:List Nat} {H H':AH} {b:Option Addr} {n:Nat} {l:List Nat} (h:RdI H b n l) (f:Fr S H H') (hs:∀ o, b=some ⟨o, 0, none⟩→o ∉ S):RdI H' b n l:=by
  rcases h with h | ⟨o, cs, h1, h2, h3⟩
  · exact .inl h
  · exact .inr ⟨o, cs, h1, h2.fr f (hs o h1), h3⟩
def WSl (H:AH) (b:Option Addr) (n c:Nat) (ws:List (Nat × ByteArray)):Prop:=OwnC 0 H 2 b n c (wcells ws)
theorem WSl.cases {H:AH} {b:Option Addr} {n c:Nat} {ws:List (Nat × ByteArray)} (h:WSl H b n c ws):(b=none∧n=0∧c=0∧ws=[])∨∃ o, b=some ⟨o, 0, none⟩∧c=0∧n=ws.length∧Has H o (.row (wcells ws) 2):=by
  have hl:=OwnC.len h
  rw [wcells_length] at hl
  rcases h with ⟨h1, h2, h3, h4⟩ | ⟨o, h1, h2, h3, h4, h5⟩
  · refine .inl ⟨h1, h2, h3, ?_⟩
    rw [h2] at hl; exact List.length_eq_zero_iff.1 (by omega)
  · exact .inr ⟨o, h1, h2, by omega, h4⟩
theorem WSl.fr {S:List Nat} {H H':AH} {b:Option Addr} {n c:Nat} {ws:List (Nat × ByteArray)} (h:WSl H b n c ws) (f:Fr S H H') (hs:∀ o, b=some ⟨o, 0, none⟩→o ∉ S):WSl H' b n c ws:=by
  rcases h with h | ⟨o, h1, h2, h3, h4, h5⟩
  · exact .inl h
  · exact .inr ⟨o, h1, h2, h3, h4.fr f (hs o h1), h5⟩
theorem wcells_snoc (ws:List (Nat × ByteArray)) (a:Nat) (s:ByteArray):wcells ws ++ [.int .i64 (a:Int), .string s]=wcells (ws ++ [(a, s)]):=by simp [wcells]

def blankW (per:Nat) (begun:List Nat):List (Nat × ByteArray):=begun.map fun k=>(k * per, zeros (per * 64))
def stepP (l:List (Nat × ByteArray)) (d:Dev):Int × Dev:=if l=[] then (0, d) else putP l d
def doK (early late blank:List (Nat × ByteArray)):Nat→Dev→Int × Dev
  | 0, d=>if (stepP blank d).1 ≠ 0 then stepP blank d else if (stepP early (stepP blank d).2).1 ≠ 0 then stepP early (stepP blank d).2 else putP late (stepP early (stepP blank d).2).2
  | 1, d=>if (stepP early d).1 ≠ 0 then stepP early d else putP late (stepP early d).2
  | _, d=>putP late d
def doP (per:Nat) (begun:List Nat) (early late:List (Nat × ByteArray)) (d:Dev):Int × Dev:=doK early late (blankW per begun) 0 d
theorem writesP_waits:∀ (l:List (Nat × ByteArray)) (d:Dev), (writesP l d).2.waits.length≤d.waits.length + l.length
  | [], d=>Nat.le_refl _
  | w :: l, d=>by
    have h:=write_waits d (w.1:Int) w.2
    unfold writesP
    split
    · simp only [List.length_cons]; omega
    · have:=writesP_waits l (d.write (w.1:Int) w.2).2
      simp only [List.length_cons]; omega
theorem flush_waits (d:Dev):d.flush.2.waits.length≤d.waits.length:=by
  unfold Dev.flush
  split
  · exact Nat.le_refl _
  · split
    · unfold Dev.blow
      split
      · exact Nat.le_refl _
      · split
        · exact Nat.le_refl _
        · unfold Dev.lost; simp
    · simp
theorem putP_waits (l:List (Nat × ByteArray)) (d:Dev):(putP l d).2.waits.length≤d.waits.length + (flat l).length:=by
  have h:=writesP_waits (flat l) d
  unfold putP
  split
  · exact h
  · exact Nat.le_trans (flush_waits _) h
def sized (ws:List (Nat × ByteArray)):Prop:=∀ w ∈ ws, w.2.size % 64=0∧w.2.size≤1099511627776∧w.1≤1099511627776
theorem zeros_size (n:Nat):(zeros n).size=n:=by unfold zeros; rw [ofL_size, List.length_replicate]
attribute [local irreducible] secsN Dev.write Dev.flush putP stepP zeros
section
variable {H:AH} {R:AEnd→AH→Prop} {il i jl jw:Nat} {b:Option Addr} {c:Nat} {L:Lg} {d:Dev}
theorem shut_open (h:L.closed=false):shut L 0=L:=by cases L; simp only at h; subst h; rfl
set_option maxRecDepth 20000 in
set_option maxHeartbeats 1000000 in
theorem do_call (x:LD H il i jl jw b c L d) (hcl:L.closed=false) (hp:1≤L.per) (hpb:L.per≤1099511627776) {bb eb lb:Option Addr} {bn bc en ec ln lc:Nat} {begun:List Nat} {early late:List (Nat × ByteArray)}
    (hb:RdI H bb bn begun) (he:WSl H eb en ec early) (hl:WSl H lb ln lc late) (hl0:late ≠ []) (hea:∀ o, eb=some ⟨o, 0, none⟩→o ≠ i∧o ≠ jl∧o ≠ jw∧o ≠ il) (hla:∀ o, lb=some ⟨o, 0, none⟩→o ≠ i∧o ≠ jl∧o ≠ jw∧o ≠ il)
    (hbk:∀ k ∈ begun, k * L.per≤1099511627776) (h64e:sized early) (h64l:sized late) (hp64:L.per * 64≤1099511627776)
    (hnb:begun.length≤1099511627776) (hne:early.length≤1099511627776) (hnl:late.length≤1099511627776)
    (hcnt:d.waits.length + ((flat (blankW L.per begun)).length + ((flat early).length + (flat late).length))<1099511627775)
    (h:∀ H' jw', LD H' il i jl jw' b c (shut L (doP L.per begun early late d).1) (doP L.per begun early late d).2→Fr [il, i, jl, jw] H H'→(jw'=i∨jw'=jw∨H.next≤jw')→R (.ret (.int .i64 (doP L.per begun early late d).1)) H') :
    ACall Tryz.prog 51 [.pointer (some ⟨il, 0, none⟩), .slice bb bn bc, .slice eb en ec, .slice lb ln lc] H R:=by
  apply f51_call
  unfold f51_B
  have hbl:=hb.len
  have hblank:sized (blankW L.per begun):=by
    intro w hw
    obtain ⟨k, hk, rfl⟩:=List.mem_map.1 hw
    show (zeros (L.per * 64)).size % 64=0∧(zeros (L.per * 64)).size≤_∧k * L.per≤_
    rw [zeros_size]
    exact ⟨by omega, hp64, hbk k hk⟩
  refine f51_L0_rule (J:=fun m zb zl zc r H'=>∃ k:Nat, r=(k:Int)∧k≤bn∧m=bn - k∧OwnC H.next H' 2 zb zl zc (wcells (blankW L.per (begun.take k)))∧Fr [] H H') bn
    ⟨0, rfl, Nat.zero_le _, rfl, OwnC.nil _ _ _, Fr.refl _ _⟩ ?_
  rintro m zb zl zc r H1 ⟨k, rfl, hk, rfl, hown, f1⟩
  intros
  have x1:=x.fr f1
  have hzl:=hown.len
  have htk:(begun.take k).length=k:=by rw [List.length_take]; omega
  rw [wcells_length, blankW, List.length_map, htk] at hzl
  have hzl:zl=k:=by omega
  subst hzl
  unfold f51_R0
  refine wIf_d (fun hlt=>?_) (fun hge=>?_)
  · have hlt:zl<bn:=by omega
    rcases hb with ⟨_, e, _⟩ | ⟨o, cs, rfl, ho, _, hat⟩
    · omega
    have ho1:=ho.fr f1 (by simp)
    have t0:0 + Int.toNat (zl:Int) * 1=zl:=by omega
    have hm:begun.getD zl 0 ∈ begun:=by
      rw [List.getD_eq_getElem?_getD, List.getElem?_eq_getElem (by omega)]; exact List.getElem_mem _
    have hkp:=hbk _ hm
    have htk2:begun.take (zl + 1)=begun.take zl ++ [begun.getD zl 0]:=by
      rw [List.take_add_one, List.getD_eq_getElem?_getD, List.getElem?_eq_getElem (by omega)]; rfl
    have hat':=hat zl hlt
    generalize begun.getD zl 0=v at hat' hkp htk2
    have e1:IntKind.i64.wrap ((v:Int) * (L.per:Int))=((v * L.per:Nat):Int):=by
      have e:(v:Int) * (L.per:Int)=((v * L.per:Nat):Int):=by push_cast; rfl
      rw [e, wi _ (by omega) (by omega)]
    have e2:IntKind.i64.wrap ((L.per:Int) * 64)=((L.per * 64:Nat):Int):=by
      rw [wi _ (by omega) (by omega)]; push_cast; rfl
    refine wIx_at (by omega) (by omega) ?_
    rw [t0]
    refine ldI_at ho1 hat' (wPt_at (wPt_at (ldI_at x1.lg.own rfl (ldI_at x1.lg.own rfl ?_))))
    rw [e1, e2]
    refine wCall_of (repeat_big _ hp64 (opS_at ?_))
    have pin:∀ H2, Fr [] H1 H2→∀ {K:Prop}, K→wPin il (0 + 1) [.int .i64 (L.per:Int)] H2 K:=fun H2 f K hk=>⟨PinOK_at (x1.lg.own.fr f (by simp)) (by simp) rfl, hk⟩
    refine pin _ (Fr.refl _ _) (pin _ (Fr.refl _ _) ?_)
    have hx:=Has.new H1 (.row [.int .i64 ((v * L.per:Nat):Int), .string (zeros (L.per * 64))] 2)
    have f12:Fr [] H1 (H1.push (.row [.int .i64 ((v * L.per:Nat):Int), .string (zeros (L.per * 64))] 2)):=(Fr.refl [] H1).push _
    refine wBs_at (pin _ f12 (pin _ f12 ?_))
    have hsc:=sliceCells_new (H1.push (.row [.int .i64 ((v * L.per:Nat):Int), .string (zeros (L.per * 64))] 2)) [.int .i64 ((v * L.per:Nat):Int), .string (zeros (L.per * 64))] 2 1 0 rfl hx
    have hnx1:=f1.next
    have hw2:wcells (blankW L.per (begun.take zl)) ++ [.int .i64 ((v * L.per:Nat):Int), .string (zeros (L.per * 64))]=wcells (blankW L.per (begun.take (zl + 1))):=by
      rw [wcells_snoc, htk2]; simp [blankW]
    have go:∀ (o':Nat) (H2:AH), OwnC H.next H2 2 (some ⟨o', 0, none⟩) (zl + 1) 0 (wcells (blankW L.per (begun.take (zl + 1))))→Fr [] H H2→Has H2 il (.row (lrow i b L.chain.length c L) 0) →
        wPin il (0 + 1) [.int .i64 (L.per:Int)] H2 (wPin il (0 + 1) [.int .i64 (L.per:Int)] H2 (∃ m', m'<bn - zl∧∃ k:Nat, IntKind.i64.wrap ((zl:Int) + 1)=(k:Int)∧k≤bn∧m'=bn - k∧OwnC H.next H2 2 (some ⟨o', 0, none⟩) (zl + 1) 0 (wcells (blankW L.per (begun.take k)))∧Fr [] H H2)):=by
      intro o' H2 h1 h2 h3
      exact ⟨PinOK_at h3 (by simp) rfl, PinOK_at h3 (by simp) rfl, bn - (zl + 1), by omega, zl + 1, wi1 zl (by omega), hlt, rfl, h1, h2⟩
    rcases hown with ⟨rfl, rfl, rfl, e0⟩ | ⟨o2, rfl, rfl, hl2, ho2, hc2⟩
    · refine wAppL_nil (n:=0) hsc rfl rfl (by omega) (by omega) ?_
      have hcs:[.int .i64 ((v * L.per:Nat):Int), .string (zeros (L.per * 64))]=wcells (blankW L.per (begun.take (0 + 1))):=by rw [← hw2, e0]; rfl
      rw [hcs]
      have hg:=fun t=>go _ ((H1.push (.row (wcells (blankW L.per (begun.take (0 + 1)))) 2)).pushT (.row (wcells (blankW L.per (begun.take (0 + 1)))) 2) t) (.inr ⟨_, rfl, rfl, by rw [wcells_length]; simp [blankW]; omega, Has.newT _ _ _, by show H.next≤H1.next + 1; omega⟩) ((f1.push _).pushT _ _) ((x1.lg.own.push _).pushT _ _)
      obtain ⟨p1, p2, m', hm', hk'⟩:=hg (some 109)
      exact ⟨p1, p2, m', hm', f51_I0_mk hk'⟩
    · have ho2':=ho2.fr f12 (by simp)
      refine wAppL_own ho2' hl2 hsc rfl rfl (by omega) (by omega) ?_
      rw [hw2]
      have hle:(zl + 1) * 2=(wcells (blankW L.per (begun.take (zl + 1)))).length:=by rw [wcells_length, blankW, List.length_map, List.length_take]; omega
      have hoi:il ≠ o2:=by have:=x.lg.own.lt; omega
      have hg:=fun t=>go _ (((H1.push (.row [.int .i64 ((v * L.per:Nat):Int), .string (zeros (L.per * 64))] 2)).drop o2).pushT (.row (wcells (blankW L.per (begun.take (zl + 1)))) 2) t)
        (.inr ⟨_, rfl, rfl, hle, Has.newT _ _ _, by show H.next≤H1.next + 1; omega⟩) (((f1.push _).drop (.inr hc2)).pushT _ _) (((x1.lg.own.push _).dropne hoi).pushT _ _)
      obtain ⟨p1, p2, m', hm', hk'⟩:=hg (grownTy 0 ((H1.push (.row [.int .i64 ((v * L.per:Nat):Int), .string (zeros (L.per * 64))] 2)).tys o2) 109)
      exact ⟨p1, p2, m', hm', f51_I0_mk hk'⟩
  · have hk:zl=bn:=by omega
    have hta:begun.take zl=begun:=List.take_of_length_le (by omega)
    rw [hta] at hown
    generalize hBB:blankW L.per begun=blank at hown hblank hcnt
    have hbkl:blank.length=begun.length:=by rw [← hBB]; simp [blankW]
    have hdo:doP L.per begun early late d=doK early late blank 0 d:=by unfold doP; rw [hBB]
    rw [hdo] at h
    rw [f51_J0_eq]
    unfold f51_J0_B
    refine wBs_at ?_
    obtain ⟨q, hqq⟩:∃ q, H1.next=q:=⟨_, rfl⟩
    have hx:=Has.new H1 (.row [.slice zb zl zc, .slice eb en ec] 1)
    have f12:Fr [] H1 (H1.push (.row [.slice zb zl zc, .slice eb en ec] 1)):=(Fr.refl [] H1).push _
    rw [hqq] at hx ⊢
    generalize H1.push (.row [.slice zb zl zc, .slice eb en ec] 1)=H2 at hx f12 ⊢
    have f2:=f1.trans f12
    have x2:=x.fr f2
    have hown2:=hown.fr f12 (by simp)
    have hlt2:=hx.lt
    have hnq:H.next≤q:=by have:=f1.next; omega
    -- the blanks' row
    have hzs:WSl H2 zb zl zc blank:=by
      rcases hown2 with h' | ⟨o, h1, h2, h3, h4, h5⟩
      · exact .inl h'
      · exact .inr ⟨o, h1, h2, h3, h4, Nat.zero_le _⟩
    have hzo:∀ o, zb=some ⟨o, 0, none⟩→H.next≤o∧o<q:=by
      intro o e
      rcases hown with ⟨e', _⟩ | ⟨o', e', _, _, h4, h5⟩
      · rw [e'] at e; cases e
      · rw [e'] at e; cases e; exact ⟨h5, by rw [← hqq]; exact h4.lt⟩
    have he2:WSl H2 eb en ec early:=he.fr f2 (by simp)
    have heo:∀ o, eb=some ⟨o, 0, none⟩→o<H.next:=by
      intro o e
      rcases he.cases with ⟨e', _⟩ | ⟨o', e', _, _, h4⟩
      · rw [e'] at e; cases e
      · rw [e'] at e; cases e; exact h4.lt
    have hl2:WSl H2 lb ln lc late:=hl.fr f2 (by simp)
    have hlo:∀ o, lb=some ⟨o, 0, none⟩→o<H.next:=by
      intro o e
      rcases hl.cases with ⟨e', _⟩ | ⟨o', e', _, _, h4⟩
      · rw [e'] at e; cases e
      · rw [e'] at e; cases e; exact h4.lt
    have hilt:=x.dv.own.lt
    have hjlt:=x.dv.lasts.lt
    have hjwlt:=x.dv.jwlt
    have hillt:=x.lg.own.lt
    refine f51_L1_rule (J:=fun m r H'=>∃ (k:Nat) (d1:Dev) (j1:Nat), r=(k:Int)∧k≤2∧m=2 - k∧doK early late blank 0 d=doK early late blank k d1∧LD H' il i jl j1 b c L d1∧Fr [il, i, jl, jw] H2 H'∧(j1=i∨j1=jw∨H2.next≤j1) ∧
        d1.waits.length + ((if k=0 then (flat blank).length else 0) + ((if k≤1 then (flat early).length else 0) + (flat late).length))<1099511627775) 2
      ⟨0, d, jw, rfl, by omega, rfl, rfl, x2, Fr.refl _ _, .inr (.inl rfl), by simpa using hcnt⟩ ?_
    rintro m r H3 ⟨k, d1, j1, rfl, hk2, rfl, hdk, x3, f3, hj3, hc3⟩
    intros
    have hx3:=hx.fr f3 (by simp; omega)
    unfold f51_R1
    refine wIf_d (fun hlt3=>?_) (fun hge3=>?_)
    · have hk1:k≤1:=by omega
      obtain ⟨ws, sb, sn, sc, hget, hws, hso, hsz, hwl, hdo2, hcw⟩:∃ ws sb sn sc, ([.slice zb zl zc, .slice eb en ec]:List Value)[0 + Int.toNat (k:Int) * 1]?=some (.slice sb sn sc)∧WSl H2 sb sn sc ws∧(∀ o, sb=some ⟨o, 0, none⟩→o<H2.next∧o ≠ i∧o ≠ jl∧o ≠ jw∧o ≠ il)∧sized ws∧ws.length≤1099511627776 ∧
          (doK early late blank 0 d=if (stepP ws d1).1 ≠ 0 then stepP ws d1 else doK early late blank (k + 1) (stepP ws d1).2) ∧
          d1.waits.length + (flat ws).length + ((if k + 1=0 then (flat blank).length else 0) + ((if k + 1≤1 then (flat early).length else 0) + (flat late).length))<1099511627775:=by
        have:k=0∨k=1:=by omega
        rcases this with rfl | rfl
        · refine ⟨blank, zb, zl, zc, rfl, hzs, fun o e=>?_, hblank, by omega, hdk, by simp at hc3 ⊢; omega⟩
          have:=hzo o e
          omega
        · refine ⟨early, eb, en, ec, rfl, he2, fun o e=>?_, h64e, hne, hdk, by simp at hc3 ⊢; omega⟩
          have h1:=heo o e
          have h2:=hea o e
          exact ⟨by have:=f2.next; omega, h2⟩
      refine wIx_at (by omega) (by omega) (ldL_at hx3 hget ?_)
      have f3':∀ o, sb=some ⟨o, 0, none⟩→o ∉ [il, i, jl, jw]:=fun o e=>by have:=hso o e; simp; omega
      have hws3:=hws.fr f3 f3'
      have next:∀ (H4:AH) (d4:Dev) (j4:Nat), doK early late blank 0 d=doK early late blank (k + 1) d4→LD H4 il i jl j4 b c L d4→Fr [il, i, jl, jw] H2 H4→(j4=i∨j4=jw∨H2.next≤j4)→d4.waits.length≤d1.waits.length + (flat ws).length →
          ∃ (k':Nat) (d1:Dev) (j1:Nat), IntKind.i64.wrap ((k:Int) + 1)=(k':Int)∧k'≤2∧2 - (k + 1)=2 - k'∧doK early late blank 0 d=doK early late blank k' d1∧LD H4 il i jl j1 b c L d1∧Fr [il, i, jl, jw] H2 H4∧(j1=i∨j1=jw∨H2.next≤j1) ∧
            d1.waits.length + ((if k'=0 then (flat blank).length else 0) + ((if k'≤1 then (flat early).length else 0) + (flat late).length))<1099511627775 :=
        fun H4 d4 j4 e1 e2 e3 e4 e5=>⟨k + 1, d4, j4, wi1 k (by omega), by omega, rfl, e1, e2, e3, e4, by omega⟩
      have hsn:sn=ws.length:=by
        rcases hws.cases with ⟨_, e, _, e2⟩ | ⟨_, _, _, e, _⟩
        · rw [e, e2]; rfl
        · exact e
      refine wIf_d (fun hn0=>?_) (fun hn0=>?_)
      · have hw0:ws=[]:=List.length_eq_zero_iff.1 (by omega)
        have hst:stepP ws d1=(0, d1):=by unfold stepP; rw [if_pos hw0]
        rw [hst, if_neg (by simp)] at hdo2
        exact ⟨2 - (k + 1), by omega, f51_I1_mk (next H3 d1 j1 hdo2 x3 f3 hj3 (Nat.le_add_right _ _))⟩
      · rcases hws3.cases with ⟨_, e, _⟩ | ⟨o, rfl, rfl, _, ho3⟩
        · omega
        have hoo:=hso o rfl
        have hst:stepP ws d1=putP ws d1:=by unfold stepP; rw [if_neg (fun e=>by rw [e] at hsn; simp at hsn; omega)]
        rw [hst] at hdo2
        have hwt:=putP_waits ws d1
        rw [hsn]
        refine wCall_of (lput_call x3 ho3 ⟨hoo.2.1, hoo.2.2.1, ?_, hoo.2.2.2.2⟩ hsz hwl (by omega) (fun H4 j4 x4 f34 hj4=>opI_at ?_))
        · rcases hj3 with e | e | e
          · rw [e]; exact hoo.2.1
          · rw [e]; exact hoo.2.2.2.1
          · omega
        obtain ⟨rr, hrr⟩:∃ rr, putP ws d1=rr:=⟨_, rfl⟩
        rw [hrr] at hdo2 hwt x4 ⊢
        have hmem:∀ z ∈ [il, i, jl, j1], z ∈ [il, i, jl, jw]∨H2.next≤z:=by
          intro z hz
          simp at hz
          rcases hz with rfl | rfl | rfl | rfl
          · exact .inl (by simp)
          · exact .inl (by simp)
          · exact .inl (by simp)
          · rcases hj3 with rfl | rfl | hh
            · exact .inl (by simp)
            · exact .inl (by simp)
            · exact .inr hh
        have f4:Fr [il, i, jl, jw] H2 H4:=f3.trans' f34 hmem
        have hj5:j4=i∨j4=jw∨H2.next≤j4:=by
          rcases hj4 with e | e | e
          · exact .inl e
          · rw [e]; exact hj3
          · have:=f3.next; exact .inr (.inr (by omega))
        refine wIf_n (fun hne=>?_) (fun heq=>?_)
        · rw [if_pos hne] at hdo2
          rw [hdo2] at h
          refine h H4 j4 x4 ((f2.mono (by simp)).trans f4) ?_
          rcases hj5 with e | e | e
          · exact .inl e
          · exact .inr (.inl e)
          · have:=f2.next; exact .inr (.inr (by omega))
        · rw [if_neg (by simp [heq])] at hdo2
          rw [heq, shut_open hcl] at x4
          exact ⟨2 - (k + 1), by omega, f51_I1_mk (next H4 rr.2 j4 hdo2 x4 f4 hj5 hwt)⟩
    · have hk3:k=2:=by omega
      subst hk3
      have hdk:doK early late blank 0 d=putP late d1:=hdk
      rw [f51_J1_eq]
      unfold f51_J1_B
      have hl3:=hl2.fr f3 (fun o e=>by have:=hla o e; simp; omega)
      rcases hl3.cases with ⟨_, _, _, e⟩ | ⟨o, rfl, rfl, rfl, ho3⟩
      · exact absurd e hl0
      have hoo:=hla o rfl
      have hol:=hlo o rfl
      have hn2:=f2.next
      refine wCall_of (lput_call x3 ho3 ⟨hoo.1, hoo.2.1, ?_, hoo.2.2.2⟩ h64l hnl (by simp at hc3; omega) (fun H4 j4 x4 f34 hj4=>opI_at ?_))
      · rcases hj3 with e | e | e
        · rw [e]; exact hoo.1
        · rw [e]; exact hoo.2.2.1
        · omega
      rw [hdk] at h
      have hmem:∀ z ∈ [il, i, jl, j1], z ∈ [il, i, jl, jw]∨H.next≤z:=by
        intro z hz
        simp at hz
        rcases hz with rfl | rfl | rfl | rfl
        · exact .inl (by simp)
        · exact .inl (by simp)
        · exact .inl (by simp)
        · rcases hj3 with rfl | rfl | hh
          · exact .inl (by simp)
          · exact .inl (by simp)
          · exact .inr (by omega)
      refine h H4 j4 x4 (((f2.mono (by simp)).trans f3).trans' f34 hmem) ?_
      rcases hj4 with e | e | e
      · exact .inl e
      · rw [e]
        rcases hj3 with e' | e' | e'
        · exact .inl e'
        · exact .inr (.inl e')
        · exact .inr (.inr (by omega))
      · have:=f3.next; exact .inr (.inr (by omega))
end
end Go.Proofs.YtjhbbbcelnlnpaaGreatDoor
