/- The log's reader: a chain of segments. -/
import Derived.Test.YtjhbbbcelnlnpaaGreatDoorWNbb
import Derived.Test.YtjhbbbcelnlnpaaGreatDoorWNbc
namespace Go.Proofs.YtjhbbbcelnlnpaaGreatDoor
open Go.RowKit

def u32s (l:List Nat):List Value:=l.map fun (x:Nat)=>.int .u32 (x:Int)
theorem u32s_length (l:List Nat):(u32s l).length=l.length:=by simp [u32s]
theorem u32s_at (l:List Nat) (k:Nat) (h:k<l.length):(u32s l)[k]?=some (.int .u32 ((l.getD k 0:Nat):Int)):=by simp [u32s, h]
theorem u32s_set (l:List Nat) (k:Nat) (x:Nat):setCells (u32s l) k [.int .u32 (x:Int)]=u32s (l.set k x):=by
  simp [setCells, u32s, List.map_set]
theorem u32s_snoc (l:List Nat) (x:Nat):u32s l ++ [.int .u32 (x:Int)]=u32s (l ++ [x]):=by simp [u32s]
section
variable {H:AH} {R:AEnd→AH→Prop}
theorem getD_set_nat (l:List Nat) (i j x:Nat) (hi:i<l.length):(l.set i x).getD j 0=if i=j then x else l.getD j 0:=by
  rw [List.getD_eq_getElem?_getD, List.getD_eq_getElem?_getD, List.getElem?_set]
  by_cases e:i=j
  · subst e; simp [hi]
  · simp [e]
set_option maxRecDepth 20000 in
theorem reverse_call {o:Nat} {xs:List Nat} (ho:Has H o (.row (u32s xs) 1)) (hl:xs.length<1099511627776) (h:∀ H', Has H' o (.row (u32s xs.reverse) 1)→Fr [o] H H'→R (.ret (.tuple #[])) H') :
    ACall Tryz.prog 67 [.slice (some ⟨o, 0, none⟩) xs.length 0] H R:=by
  apply f67_call
  unfold f67_B
  have e0:IntKind.i64.wrap ((xs.length:Int) - 1)=(xs.length:Int) - 1:=wi _ (by omega) (by omega)
  rw [e0]
  refine f67_L0_rule (J:=fun m a b H'=>∃ (k:Nat) (ys:List Nat), a=(k:Int)∧b=(xs.length:Int) - 1 - (k:Int)∧m=xs.length - k∧2 * k≤xs.length + 1∧ys.length=xs.length ∧
      (∀ j, j<xs.length→ys.getD j 0=if j<k∨xs.length≤j + k then xs.getD (xs.length - 1 - j) 0 else xs.getD j 0)∧Has H' o (.row (u32s ys) 1)∧Fr [o] H H') xs.length
    ⟨0, xs, rfl, by omega, rfl, by omega, rfl, fun j hj=>by rw [if_neg (by omega)], ho, Fr.refl _ _⟩ ?_
  rintro m a b H1 ⟨k, ys, rfl, rfl, rfl, hk, hy, hat, h1, f1⟩
  intros
  unfold f67_R0
  refine wIf_d (fun hlt=>?_) (fun hge=>?_)
  · have hb:(xs.length:Int) - 1 - (k:Int)=((xs.length - 1 - k:Nat):Int):=by omega
    rw [hb]
    generalize hq:xs.length - 1 - k=q
    have hkq:k<q:=by omega
    have hql:q<xs.length:=by omega
    have t1:0 + Int.toNat (q:Int) * 1=q:=by omega
    have t2:0 + Int.toNat (k:Int) * 1=k:=by omega
    refine wIx_at (by omega) (by omega) (wIx_at (by omega) (by omega) ?_)
    rw [t1, t2]
    refine ldI_at h1 (u32s_at ys q (by omega)) (ldI_at h1 (u32s_at ys k (by omega)) (wIx_at (by omega) (by omega) ?_))
    rw [t2]
    refine wSt_at h1 (by rw [u32s_length]; simp; omega) ?_
    rw [u32s_set]
    have h2:=h1.set (.row (u32s (ys.set k (ys.getD q 0))) 1)
    refine wIx_at (by omega) (by omega) ?_
    rw [t1]
    refine wSt_at h2 (by rw [u32s_length]; simp; omega) ?_
    rw [u32s_set]
    have h3:=h2.set (.row (u32s ((ys.set k (ys.getD q 0)).set q (ys.getD k 0))) 1)
    rw [f67_J0_eq]
    unfold f67_J0_B
    refine ⟨xs.length - (k + 1), by omega, f67_I0_mk ⟨k + 1, (ys.set k (ys.getD q 0)).set q (ys.getD k 0), wi1 k (by omega), ?_, rfl, by omega, by simp [hy], ?_, h3, (f1.set (.inl (by simp)) _).set (.inl (by simp)) _⟩⟩
    · rw [wi _ (by omega) (by omega)]; push_cast; omega
    · intro j hj
      rw [getD_set_nat _ _ _ _ (by rw [List.length_set]; omega), getD_set_nat _ _ _ _ (by omega)]
      by_cases e1:q=j
      · subst e1
        rw [if_pos rfl, if_pos (by omega), hat k (by omega), if_neg (by omega)]
        congr 1; omega
      · rw [if_neg e1]
        by_cases e2:k=j
        · subst e2
          rw [if_pos rfl, if_pos (by omega), hat q (by omega), if_neg (by omega)]
          congr 1; omega
        · rw [if_neg e2, hat j hj]
          by_cases e3:j<k∨xs.length≤j + k
          · rw [if_pos e3, if_pos (by omega)]
          · rw [if_neg e3, if_neg (by omega)]
  · have e:ys=xs.reverse:=by
      apply List.ext_getElem
      · simp [hy]
      · intro j g1 g2
        have hj:j<xs.length:=by omega
        have:=hat j hj
        rw [List.getD_eq_getElem?_getD, List.getElem?_eq_getElem g1] at this
        rw [List.getElem_reverse]
        simp only [Option.getD_some] at this
        rw [this]
        have e5:xs.length - 1 - j<xs.length:=by omega
        split
        · rw [List.getD_eq_getElem?_getD, List.getElem?_eq_getElem e5]; rfl
        · have e6:j=xs.length - 1 - j:=by omega
          rw [List.getD_eq_getElem?_getD, List.getElem?_eq_getElem hj]
          simp only [Option.getD_some]
          congr 1
    exact h H1 (by rw [← e]; exact h1) f1
end

def chainN (l:List (HV × Nat)) (base:Nat):Nat→Nat→List Nat→Option (List Nat)
  | 0, _, _=>none
  | f + 1, s, out=>match hfind l s with
    | none=>none
    | some e=>if e.1.ba ≠ base∨s<base then none else if s=base then some (out ++ [s]) else chainN l base f e.1.pr (out ++ [s])
def baseOf (l:List (HV × Nat)) (s:Nat):Nat:=match hfind l s with
  | some e=>e.1.ba
  | none=>0
def headOK (u:UV × Bool) (e:HV × Nat) (base:Nat):Bool:=u.2 && decide (u.1.kd=1) && decide (u.1.sr=base) && decide (u.1.sq=e.1.sq)
def chainP (secs:List ByteArray) (per:Nat) (l:List (HV × Nat)) (s:Nat):Option (List Nat) :=
  match chainN l (baseOf l s) (s + 1) s [] with
  | none=>none
  | some out=>match hfind l (baseOf l s) with
    | none=>none
    | some e=>if headOK (unitP secs per e.2 1) e (baseOf l s)=true then some out.reverse else none
structure Wf (secs:List ByteArray) (per:Nat) (l:List (HV × Nat)):Prop where
  ok:∀ s e, hfind l s=some e→e.1.sr=s∧okH e.1∧e.1.fits∧(e.2 + 1) * per≤secs.length
  all:∀ e ∈ l, hfind l e.1.sr=some e
  secs64:∀ s ∈ secs, s.size=64
  few:secs.length≤4096
  per1:2≤per
  seg3:3 * per≤secs.length

attribute [local irreducible] unitP unitS getU getH scan chainN
section
variable {H:AH} {R:AEnd→AH→Prop} {ir js im ip per:Nat} {secs:List ByteArray} {l:List (HV × Nat)}
theorem unit_one (rd:RdAt H ir js im ip secs per l) (wf:Wf secs per l) {seg:Nat} (hin:(seg + 1) * per≤secs.length) (h:∀ H', Fr [] H H'→R (.ret (.tuple #[.agg (uvC (unitP secs per seg 1).1).toArray, .bool (unitP secs per seg 1).2])) H') :
    ACall Tryz.prog 68 [.pointer (some ⟨ir, 0, none⟩), .int .i64 (seg:Int), .int .i64 1] H R :=
  unit_call (at_:=1) rd.own rfl rfl rd.secs wf.secs64 wf.few (by have:=wf.per1; omega) hin (by have:=wf.per1; omega) h
set_option maxRecDepth 20000 in
set_option maxHeartbeats 400000 in
theorem chain_call (rd:RdAt H ir js im ip secs per l) (wf:Wf secs per l) {s:Nat} {e0:HV × Nat} (hs:hfind l s=some e0)
    (h1:chainP secs per l s=none→∀ H', Fr [] H H'→R (.ret (.slice none 0 0)) H')
    (h2:∀ out, chainP secs per l s=some out→out ≠ []→out.length≤4294967296→∀ H' o, Has H' o (.row (u32s out) 1)→H.next≤o→Fr [] H H'→R (.ret (.slice (some ⟨o, 0, none⟩) out.length 0)) H') :
    ACall Tryz.prog 36 [.pointer (some ⟨ir, 0, none⟩), .int .u32 (s:Int)] H R:=by
  apply f36_call
  unfold f36_B
  obtain ⟨hsr, hok0, hfit0, hin0⟩:=wf.ok s e0 hs
  have hb:baseOf l s=e0.1.ba:=by unfold baseOf; rw [hs]
  have hu0:ufind (hmap l) s=some (.agg (hvC e0.1).toArray):=by rw [ufind_h, hs]; rfl
  refine wPt_at (ldM_at rd.own rfl (wLk_some rd.heads hu0 (opA_at rfl (opI_at (opI_at (opI_at (opI_at ?_)))))))
  obtain ⟨base, hbase⟩:∃ b, e0.1.ba=b:=⟨_, rfl⟩
  rw [hbase] at hb ⊢
  have hs32:s<4294967296:=by rw [← hsr]; exact hfit0.1
  -- none
  have hnone:chainN l base (s + 1) s []=none→∀ H', Fr [] H H'→R (.ret (.slice none 0 0)) H':=by
    intro e
    refine h1 ?_
    unfold chainP; rw [hb, e]
  refine f36_L0_rule (J:=fun m v b n c H'=>∃ (cur:Nat) (out:List Nat), v=(cur:Int)∧cur<m∧chainN l base (s + 1) s []=chainN l base m cur out∧out.length + cur≤s∧OwnC H.next H' 1 b n c (u32s out)∧Fr [] H H') (s + 1)
    ⟨s, [], rfl, by omega, rfl, by simp, OwnC.nil _ _ _, Fr.refl _ _⟩ ?_
  rintro m v b n c H1 ⟨cur, out, rfl, hcm, hch, hlen, hown, f1⟩
  intros
  obtain ⟨f, rfl⟩:=Nat.exists_eq_succ_of_ne_zero (by omega:m ≠ 0)
  have rd1:=rd.fr f1 (by simp)
  have hnl:=hown.len
  rw [u32s_length, Nat.mul_one] at hnl
  subst hnl
  unfold f36_R0
  refine wPt_at (ldM_at rd1.own rfl ?_)
  have hno:∀ x, x<H.next→x ∉ ownS b:=by
    intro x hx hxb
    rcases hown with ⟨rfl, _⟩ | ⟨o', rfl, _, _, _, hb⟩
    · simp [ownS] at hxb
    · simp [ownS] at hxb; omega
  cases hf:hfind l cur with
  | none =>
    have hu:ufind (hmap l) cur=none:=by rw [ufind_h, hf]; rfl
    have hcn:chainN l base (s + 1) s []=none:=by rw [hch, chainN, hf]
    refine wLk_none rd1.heads hu (opA_at rfl (opI_at (opI_at (opI_at (opI_at (wNew_at ?_))))))
    have hz:=Has.new H1 (.row zhC 0)
    obtain ⟨q, hqq⟩:∃ q, H1.next=q:=⟨_, rfl⟩
    rw [hqq] at hz ⊢
    refine wSt_at hz (by simp) ?_
    refine wIf_t rfl ?_
    rw [f36_J0_eq]
    unfold f36_J0_B
    exact wIf_t rfl (hnone hcn _ (f1.trans (((Fr.refl [] H1).push _).set (.inr (by omega)) _)))
  | some e =>
    obtain ⟨hesr, heok, hefit, hein⟩:=wf.ok cur e hf
    have hu:ufind (hmap l) cur=some (.agg (hvC e.1).toArray):=by rw [ufind_h, hf]; rfl
    refine wLk_some rd1.heads hu (opA_at rfl (opI_at (opI_at (opI_at (opI_at (wNew_at ?_))))))
    have hz:=Has.new H1 (.row zhC 0)
    obtain ⟨q, hqq⟩:∃ q, H1.next=q:=⟨_, rfl⟩
    rw [hqq] at hz ⊢
    refine wSt_at hz (by simp) ?_
    have hh2:Has ((H1.push (.row zhC 0)).set q (.row (setCells zhC 0 [.int .u32 (e.1.sr:Int), .int .u32 (e.1.ba:Int), .int .u32 (e.1.pr:Int), .int .u64 (e.1.sq:Int)]) 0)) q (.row (hvC e.1) 0):=hz.set _
    have f12:Fr [] H1 ((H1.push (.row zhC 0)).set q (.row (setCells zhC 0 [.int .u32 (e.1.sr:Int), .int .u32 (e.1.ba:Int), .int .u32 (e.1.pr:Int), .int .u64 (e.1.sq:Int)]) 0)):=((Fr.refl [] H1).push _).set (.inr (by omega)) _
    generalize ((H1.push (.row zhC 0)).set q (.row (setCells zhC 0 [.int .u32 (e.1.sr:Int), .int .u32 (e.1.ba:Int), .int .u32 (e.1.pr:Int), .int .u64 (e.1.sq:Int)]) 0))=H2 at hh2 f12 ⊢
    refine wIf_f rfl (ldI_at hh2 rfl ?_)
    have f02:=f1.trans f12
    refine wIf_n (fun hne=>?_) (fun heq=>?_)
    · have hcn:chainN l base (s + 1) s []=none:=by rw [hch, chainN, hf]; simp only []; rw [if_pos (.inl (by omega))]
      rw [f36_J0_eq]
      unfold f36_J0_B
      exact wIf_t rfl (hnone hcn _ f02)
    · rw [f36_J0_eq]
      unfold f36_J0_B
      refine wIf_d (fun hlt=>?_) (fun hge=>?_)
      · have hcn:chainN l base (s + 1) s []=none:=by rw [hch, chainN, hf]; simp only []; rw [if_pos (.inr (by omega))]
        exact hnone hcn _ f02
      · have hstep:chainN l base (s + 1) s []=if cur=base then some (out ++ [cur]) else chainN l base f e.1.pr (out ++ [cur]):=by
          rw [hch, chainN, hf]; simp only []; rw [if_neg (by omega)]
        rw [f36_J1_eq]
        unfold f36_J1_B
        have hown2:OwnC H.next H2 1 b out.length c (u32s out):=hown.fr f12 (by simp)
        refine app1 hown2 f02.next rfl rfl (by omega) (by omega) (fun o H3 hown3 f23 ho=>?_)
        rw [u32s_snoc] at hown3
        have f03:Fr [] H H3:=f02.trans' f23 (fun x hx=>.inr (by
          rcases Nat.lt_or_ge x H.next with hh | hh
          · exact absurd hx (hno x hh)
          · exact hh))
        have hh3:Has H3 q (.row (hvC e.1) 0):=hh2.fr f23 (by
          intro hx
          rcases hown with ⟨rfl, _⟩ | ⟨o', rfl, _, _, h5, hb⟩
          · simp [ownS] at hx
          · simp [ownS] at hx; have:=h5.lt; omega)
        refine wIf_d (fun hcb=>?_) (fun hcb=>?_)
        · have hcb:cur=base:=by omega
          rw [if_pos hcb] at hstep
          rw [f36_J2_eq]
          unfold f36_J2_B
          rcases hown3 with ⟨ee, _⟩ | ⟨o', ee, _, _, ho3, hoc⟩
          · cases ee
          cases ee
          have hol:out.length + 1=(out ++ [cur]).length:=by simp
          rw [hol]
          refine wCall_of (reverse_call ho3 (by simp; omega) (fun H4 ho4 f34=>?_))
          have f04:Fr [] H H4:=f03.trans' f34 (fun x hx=>.inr (by simp at hx; omega))
          have rd4:=rd.fr f04 (by simp)
          have hfb:hfind l base=some e:=by rw [← hcb]; exact hf
          have hup:ufind (pmap l) base=some (.int .i64 (e.2:Int)):=by rw [ufind_p, hfb]; rfl
          have hub:ufind (hmap l) base=some (.agg (hvC e.1).toArray):=by rw [ufind_h, hfb]; rfl
          have hcp:chainP secs per l s=if headOK (unitP secs per e.2 1) e base=true then some (out ++ [cur]).reverse else none:=by
            unfold chainP; rw [hb, hstep]; simp only []; rw [hfb]
          have w2:=wf.per1
          refine wPt_at (ldM_at rd4.own rfl (wLk_some rd4.places hup (opI_at ?_)))
          refine wCall_of (unit_one rd4 wf hein (fun H5 f45=>opT_at rfl (opA_at rfl (opI_at (opI_at (opI_at (opS_at (opB_at ?_))))))))
          obtain ⟨u, hu5⟩:∃ u, unitP secs per e.2 1=u:=⟨_, rfl⟩
          rw [hu5] at hcp ⊢
          have f05:=f04.trans f45
          have ho5:=ho4.fr f45 (by simp)
          refine wNew_at ?_
          have hz:=Has.new H5 (.row zC 0)
          obtain ⟨r, hr⟩:∃ r, H5.next=r:=⟨_, rfl⟩
          rw [hr] at hz ⊢
          refine wSt_at hz (by simp) ?_
          have hz6:Has ((H5.push (.row zC 0)).set r (.row (setCells zC 0 [.int .u32 (u.1.sr:Int), .int .u64 (u.1.sq:Int), .int .i64 u.1.kd, .string u.1.body]) 0)) r (.row (uvC u.1) 0):=hz.set _
          have f56:Fr [] H5 ((H5.push (.row zC 0)).set r (.row (setCells zC 0 [.int .u32 (u.1.sr:Int), .int .u64 (u.1.sq:Int), .int .i64 u.1.kd, .string u.1.body]) 0)):=((Fr.refl [] H5).push _).set (.inr (by omega)) _
          generalize ((H5.push (.row zC 0)).set r (.row (setCells zC 0 [.int .u32 (u.1.sr:Int), .int .u64 (u.1.sq:Int), .int .i64 u.1.kd, .string u.1.body]) 0))=H6 at hz6 f56 ⊢
          have f06:=f05.trans f56
          have ho6:=ho5.fr f56 (by simp)
          have rd6:=rd.fr f06 (by simp)
          have hrl:(out ++ [cur]).length=(out ++ [cur]).reverse.length:=by simp
          -- the ways out
          have bad:headOK u e base=false→R (.ret (.slice none 0 0)) H6:=fun eb=>h1 (by rw [hcp, eb]; rfl) _ f06
          have good:headOK u e base=true→R (.ret (.slice (some ⟨o, 0, none⟩) (out ++ [cur]).length 0)) H6:=fun eg=>by
            rw [hrl]
            exact h2 _ (by rw [hcp, eg]; rfl) (by simp) (by simp; omega) _ _ ho6 hoc f06
          have bad3:headOK u e base=false→f36_J3_B (some ⟨o, 0, none⟩) (out ++ [cur]).length 0 true H6 R:=fun eb=>by
            unfold f36_J3_B
            exact wIf_t rfl (bad eb)
          refine wIf_b (fun c1=>?_) (fun c1=>?_)
          · have hfalse:headOK u e base=false:=by
              unfold headOK
              have:u.2=false:=by simpa using c1
              rw [this]; rfl
            refine ⟨?_, ?_, ?_⟩ <;> (rw [f36_J3_eq]; exact bad3 hfalse)
          · have c1:u.2=true:=by simpa using c1
            refine ldI_at hz6 rfl (wIf_n (fun c2=>?_) (fun c2=>?_))
            · have hfalse:headOK u e base=false:=by unfold headOK; rw [c1, decide_eq_false c2]; rfl
              refine ⟨?_, ?_, ?_⟩ <;> (rw [f36_J3_eq]; exact bad3 hfalse)
            · refine ldI_at hz6 rfl (wIf_n (fun c3=>?_) (fun c3=>?_))
              · have c3':¬ (u.1.sr=base):=by omega
                have hfalse:headOK u e base=false:=by unfold headOK; rw [c1, decide_eq_true c2, decide_eq_false c3']; rfl
                refine ⟨?_, ?_, ?_⟩ <;> (rw [f36_J3_eq]; exact bad3 hfalse)
              · have c3':u.1.sr=base:=by omega
                have fin:∀ (p:Bool), p=(!decide ((u.1.sq:Int)=(e.1.sq:Int)))→f36_J3_B (some ⟨o, 0, none⟩) (out ++ [cur]).length 0 p H6 R:=by
                  rintro p rfl
                  unfold f36_J3_B
                  refine wIf_n (fun c4=>bad ?_) (fun c4=>good ?_)
                  · have c4':¬ (u.1.sq=e.1.sq):=by omega
                    unfold headOK; rw [c1, decide_eq_true c2, decide_eq_true c3', decide_eq_false c4']; rfl
                  · have c4':u.1.sq=e.1.sq:=by omega
                    unfold headOK; rw [c1, decide_eq_true c2, decide_eq_true c3', decide_eq_true c4']; rfl
                refine wPt_at ⟨?_, ?_⟩
                · refine ldI_at hz6 rfl (ldM_at rd6.own rfl (wLk_some rd6.heads hub (opA_at rfl (opI_at (opI_at (opI_at (opI_at ?_)))))))
                  rw [f36_J3_eq]
                  exact fin _ rfl
                · refine ldM_at rd6.own rfl ⟨?_, ?_⟩
                  · refine ldI_at hz6 rfl (wLk_some rd6.heads hub (opA_at rfl (opI_at (opI_at (opI_at (opI_at ?_))))))
                    rw [f36_J3_eq]
                    exact fin _ rfl
                  · refine wLk_some rd6.heads hub (opA_at rfl (opI_at (opI_at (opI_at (opI_at (ldI_at hz6 rfl ?_))))))
                    rw [f36_J3_eq]
                    exact fin _ rfl
        · have hcb:¬ cur=base:=by omega
          rw [if_neg hcb] at hstep
          refine ldI_at hh3 rfl ?_
          have hpr:e.1.pr<cur:=by rw [← hesr]; exact heok.2.2
          exact ⟨f, by omega, f36_I0_mk ⟨e.1.pr, out ++ [cur], rfl, by omega, hstep, by simp; omega, hown3, f03⟩⟩
end
end Go.Proofs.YtjhbbbcelnlnpaaGreatDoor
