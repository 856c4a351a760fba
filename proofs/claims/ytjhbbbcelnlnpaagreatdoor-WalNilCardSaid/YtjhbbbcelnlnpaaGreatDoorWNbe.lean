/- The log's reader: the records of a chain. -/
import Derived.Test.YtjhbbbcelnlnpaaGreatDoorWNbd
namespace Go.Proofs.YtjhbbbcelnlnpaaGreatDoor
open Go.RowKit

def unitFits (u:UV × Bool) (s seq:Nat) (kind:Int):Bool:=u.2 && decide (u.1.sr=s) && decide (u.1.sq=seq) && decide (u.1.kd=kind)
def unitsN (secs:List ByteArray) (per place s:Nat):Nat→Nat→Nat→Int→List ByteArray→List ByteArray × Nat
  | 0, _, seq, _, out=>(out, seq)
  | f + 1, at_, seq, kind, out =>
    if at_<per then
      if unitFits (unitP secs per place at_) s seq kind=true then unitsN secs per place s f (at_ + secsN ((unitP secs per place at_).1.body.size:Int)) ((seq + 1) % 18446744073709551616) 2 (out ++ [(unitP secs per place at_).1.body])
      else (out, seq)
    else (out, seq)
theorem unitsN_end (secs:List ByteArray) (per place s:Nat) (f at_ seq:Nat) (kind:Int) (out:List ByteArray) (h:per≤at_):unitsN secs per place s f at_ seq kind out=(out, seq):=by
  cases f with
  | zero=>rfl
  | succ f=>rw [unitsN, if_neg (by omega)]
def recsP (secs:List ByteArray) (per:Nat) (l:List (HV × Nat)):List Nat→Nat→Nat→List ByteArray→List ByteArray × Nat × Nat
  | [], n, seq, out=>(out, seq, n)
  | s :: ch, n, seq, out=>match hfind l s with
    | none=>(out, seq, n)
    | some e=>if e.1.sq ≠ seq then (out, seq, n) else
      recsP secs per l ch (n + 1) (unitsN secs per e.2 s per 1 seq (if n=0 then 1 else 2) out).2 (unitsN secs per e.2 s per 1 seq (if n=0 then 1 else 2) out).1
def recs0 (secs:List ByteArray) (per:Nat) (l:List (HV × Nat)) (ch:List Nat):List ByteArray × Nat × Nat :=
  match ch with
  | []=>([], 0, 0)
  | s :: _=>recsP secs per l ch 0 (match hfind l s with | some e=>e.1.sq | none=>0) []

section
attribute [local irreducible] secsN getN crcSum getBad
theorem getU_facts (s:ByteArray) (h:(getU s).2=0):1≤secsN ((getU s).1.body.size:Int)∧secsN ((getU s).1.body.size:Int) * 64≤s.size∧(getU s).1.body.size≤1048576:=by
  by_cases c1:s.size<21
  · rw [getU_short s c1] at h; cases h
  by_cases c2:1048576<getN s
  · rw [getU_long s c1 c2] at h; cases h
  by_cases c3:s.size<secsN (getN s) * 64
  · rw [getU_few s c1 c2 c3] at h; cases h
  by_cases c4:getBad s
  · rw [getU_bad s c1 c2 c3 c4] at h; cases h
  have hs:secsN (getN s)=(getN s + 84) / 64:=secs_nat _ (by omega)
  have hv:(getU s).1.body=s.extract 21 (21 + getN s):=by rw [getU_good s c1 c2 c3 c4]; rfl
  have hb:(getU s).1.body.size=getN s:=by rw [hv, ext_size _ _ _ (by omega)]; omega
  rw [hb, hs]
  rw [hs] at c3
  omega
end
theorem unit_facts {secs:List ByteArray} {per seg at_:Nat} (h64:∀ s ∈ secs, s.size=64) (hat:at_≤per) (hu:(unitP secs per seg at_).2=true) :
    1≤secsN ((unitP secs per seg at_).1.body.size:Int)∧at_ + secsN ((unitP secs per seg at_).1.body.size:Int)≤per:=by
  have h:=of_decide_eq_true hu
  obtain ⟨h1, h2, _⟩:=getU_facts _ h
  have hs:(unitS secs per seg at_).size≤(per - at_) * 64:=by
    unfold unitS
    rw [catL_size _ (secs_mem h64 _ _), List.length_take]
    exact Nat.mul_le_mul_right _ (Nat.min_le_left _ _)
  show 1≤secsN ((getU (unitS secs per seg at_)).1.body.size:Int)∧at_ + secsN ((getU (unitS secs per seg at_)).1.body.size:Int)≤per
  generalize secsN ((getU (unitS secs per seg at_)).1.body.size:Int)=k at h1 h2 ⊢
  generalize (unitS secs per seg at_).size=z at h2 hs
  omega
theorem wu1 (n:Nat) (h:n<18446744073709551616):IntKind.u64.wrap ((n:Int) + 1)=(((n + 1) % 18446744073709551616:Nat):Int):=by
  by_cases e:n + 1<18446744073709551616
  · have e2:(n:Int) + 1=((n + 1:Nat):Int):=by omega
    rw [Nat.mod_eq_of_lt e, e2, wu _ e]
  · have:n=18446744073709551615:=by omega
    subst this
    decide

attribute [local irreducible] unitP unitS getU getH scan chainN unitsN secsN
section
variable {H:AH} {R:AEnd→AH→Prop} {ir js im ip per:Nat} {secs:List ByteArray} {l:List (HV × Nat)}
theorem strs_snoc (l:List ByteArray) (x:ByteArray):strs l ++ [.string x]=strs (l ++ [x]):=by simp [strs]
theorem own_no {c0:Nat} {H:AH} {esz:Nat} {b:Option Addr} {n c:Nat} {cs:List Value} (h:OwnC c0 H esz b n c cs):∀ x, x<c0→x ∉ ownS b:=by
  intro x hx hxb
  rcases h with ⟨rfl, _⟩ | ⟨o', rfl, _, _, _, hb⟩
  · simp [ownS] at hxb
  · simp [ownS] at hxb; omega
theorem few16 {n:Nat} (h:n≤5866406559744):(n + 1) * 16≤140737488355328∧n + 1≤9223372036854775807:=by omega
set_option maxRecDepth 20000 in
set_option maxHeartbeats 1000000 in
theorem records_call (rd:RdAt H ir js im ip secs per l) (wf:Wf secs per l) {o:Nat} {ch:List Nat} (ho:Has H o (.row (u32s ch) 1)) (hch:ch ≠ []) (hcl:ch.length≤4294967296) (hall:∀ x ∈ ch, (hfind l x).isSome=true)
    (h:∀ H' b n c, OwnC H.next H' 1 b n c (strs (recs0 secs per l ch).1)→(recs0 secs per l ch).2.2≤ch.length→Fr [] H H'→R (.ret (.tuple #[.slice b n c, .int .u64 ((recs0 secs per l ch).2.1:Int), .int .i64 ((recs0 secs per l ch).2.2:Int)])) H') :
    ACall Tryz.prog 37 [.pointer (some ⟨ir, 0, none⟩), .slice (some ⟨o, 0, none⟩) ch.length 0] H R:=by
  apply f37_call
  unfold f37_B
  have hper:per≤1365:=by have:=wf.seg3; have:=wf.few; omega
  have hper2:=wf.per1
  have hat:∀ k, k<ch.length→∃ e, hfind l (ch.getD k 0)=some e:=fun k hk=>by
    have:ch.getD k 0 ∈ ch:=by rw [List.getD_eq_getElem?_getD, List.getElem?_eq_getElem hk]; exact List.getElem_mem hk
    exact Option.isSome_iff_exists.1 (hall _ this)
  have hpos:0<ch.length:=List.length_pos_iff.2 hch
  obtain ⟨e0, he0⟩:=hat 0 hpos
  have hu0:ufind (hmap l) (ch.getD 0 0)=some (.agg (hvC e0.1).toArray):=by rw [ufind_h, he0]; rfl
  have hr0:recs0 secs per l ch=recsP secs per l ch 0 e0.1.sq []:=by
    cases ch with
    | nil=>exact absurd rfl hch
    | cons s ch =>
      have:hfind l s=some e0:=he0
      unfold recs0; simp only [this]
  rw [hr0] at h
  refine wPt_at (wIx_at (by omega) (by omega) (ldM_at rd.own rfl (ldI_at ho (u32s_at ch 0 hpos) (wLk_some rd.heads hu0 (opA_at rfl (opI_at (opI_at (opI_at (opI_at ?_)))))))))
  rw [f37_J0_eq]
  unfold f37_J0_B
  refine f37_L0_rule (J:=fun m b n c q s H'=>∃ (k seq:Nat) (out:List ByteArray), q=(seq:Int)∧s=(k:Int)∧k≤ch.length∧m=ch.length - k∧recsP secs per l ch 0 e0.1.sq []=recsP secs per l (ch.drop k) k seq out∧out.length≤k * per∧seq<18446744073709551616 ∧
      OwnC H.next H' 1 b n c (strs out)∧Fr [] H H') ch.length
    ⟨0, e0.1.sq, [], rfl, rfl, Nat.zero_le _, rfl, rfl, Nat.zero_le _, (wf.ok _ _ he0).2.2.1.2.2.2, OwnC.nil _ _ _, Fr.refl _ _⟩ ?_
  rintro m b n c q s H1 ⟨k, seq, out, rfl, rfl, hk, rfl, hrec, hol, hsq, hown, f1⟩
  intros
  have rd1:=rd.fr f1 (by simp)
  have ho1:=ho.fr f1 (by simp)
  have hnl:=hown.len
  rw [strs_length, Nat.mul_one] at hnl
  subst hnl
  unfold f37_R0
  refine wIf_d (fun hlt=>?_) (fun hge=>?_)
  · have hlt:k<ch.length:=by omega
    obtain ⟨e, he⟩:=hat k hlt
    obtain ⟨hesr, heok, hefit, hein⟩:=wf.ok _ e he
    have hdr:ch.drop k=ch.getD k 0 :: ch.drop (k + 1):=by
      rw [List.drop_eq_getElem_cons hlt, List.getD_eq_getElem?_getD, List.getElem?_eq_getElem hlt]; rfl
    generalize hsv:ch.getD k 0=sv at he hesr hdr
    have huh:ufind (hmap l) sv=some (.agg (hvC e.1).toArray):=by rw [ufind_h, he]; rfl
    have hup:ufind (pmap l) sv=some (.int .i64 (e.2:Int)):=by rw [ufind_p, he]; rfl
    have t0:0 + Int.toNat (k:Int) * 1=k:=by omega
    have hget:=u32s_at ch k hlt
    rw [hsv] at hget
    rw [hdr, recsP, he] at hrec
    simp only [] at hrec
    refine wIx_at (by omega) (by omega) ?_
    rw [t0]
    refine ldI_at ho1 hget (wPt_at (ldM_at rd1.own rfl (wLk_some rd1.heads huh (opA_at rfl (opI_at (opI_at (opI_at (opI_at ?_))))))))
    refine wIf_n (fun hne=>?_) (fun heq=>?_)
    · rw [if_pos (by omega)] at hrec
      rw [hrec] at h
      exact h _ _ _ _ hown (by show k≤_; omega) f1
    · have heq:e.1.sq=seq:=by omega
      rw [if_neg (by omega)] at hrec
      have hmul:(k + 1) * per=k * per + per:=by rw [Nat.add_mul]; omega
      have hmul2:k * per≤4294967295 * 1365:=Nat.mul_le_mul (by omega) hper
      refine wIf_d (fun hk0=>?_) (fun hk0=>?_)
      all_goals
        rw [f37_J1_eq]
        unfold f37_J1_B
        first
          | rw [if_pos (by omega:k=0)] at hrec
          | rw [if_neg (by omega:¬ k=0)] at hrec
        generalize hun:unitsN secs per e.2 sv per 1 seq _ out=un at hrec
        refine f37_L1_rule (J:=fun m' b n c q kd at' H'=>∃ (f at_ seq':Nat) (out':List ByteArray), at'=(at_:Int)∧q=(seq':Int)∧m'=per - at_∧1≤at_∧at_≤per∧per≤at_ + f∧un=unitsN secs per e.2 sv f at_ seq' kd out'∧out'.length + 1≤k * per + at_∧seq'<18446744073709551616 ∧
            OwnC H.next H' 1 b n c (strs out')∧Fr [] H H') (per - 1) ⟨per, 1, seq, out, rfl, rfl, rfl, by omega, by omega, by omega, hun.symm, by omega, hsq, hown, f1⟩ ?_
        rintro m' b' n' c' q' kd at' H2 ⟨f, at_, seq', out', rfl, rfl, rfl, ha1, ha2, haf, hue, hol', hsq', hown', f2⟩
        intros
        have rd2:=rd.fr f2 (by simp)
        have hnl':=hown'.len
        rw [strs_length, Nat.mul_one] at hnl'
        subst hnl'
        unfold f37_R1
        -- the segment's end
        have fin:∀ (H3:AH) (b3:Option Addr) (c3:Nat), un=(out', seq')→OwnC H.next H3 1 b3 out'.length c3 (strs out')→Fr [] H H3 →
            ∃ (k3 seq3:Nat) (out3:List ByteArray), ((seq':Nat):Int)=(seq3:Int)∧IntKind.i64.wrap ((k:Int) + 1)=(k3:Int)∧k3≤ch.length∧ch.length - (k + 1)=ch.length - k3∧recsP secs per l ch 0 e0.1.sq []=recsP secs per l (ch.drop k3) k3 seq3 out3∧out3.length≤k3 * per∧seq3<18446744073709551616 ∧
              OwnC H.next H3 1 b3 out'.length c3 (strs out3)∧Fr [] H H3:=fun H3 b3 c3 hu3 ho3 f3 =>
          ⟨k + 1, seq', out', rfl, wi1 k (by omega), hlt, rfl, by rw [hrec, hu3], by omega, hsq', ho3, f3⟩
        refine wPt_at (ldI_at rd2.own rfl (wIf_d (fun hpl=>?_) (fun hpl=>?_)))
        · refine wPt_at (ldM_at rd2.own rfl (wLk_some rd2.places hup (opI_at ?_)))
          refine wCall_of (unit_call rd2.own rfl rfl rd2.secs wf.secs64 wf.few (by omega) hein ha2 (fun H3 f23=>opT_at rfl (opA_at rfl (opI_at (opI_at (opI_at (opS_at (opB_at ?_))))))))
          have hfacts:=fun hu=>unit_facts (per:=per) (seg:=e.2) (at_:=at_) wf.secs64 ha2 hu
          obtain ⟨f', rfl⟩:=Nat.exists_eq_succ_of_ne_zero (by omega:f ≠ 0)
          rw [unitsN, if_pos (by omega)] at hue
          generalize unitP secs per e.2 at_=u at hfacts hue ⊢
          have f3:=f2.trans f23
          have hown3:=hown'.fr f23 (by simp)
          refine wNew_at ?_
          have hz:=Has.new H3 (.row zC 0)
          obtain ⟨r, hr⟩:∃ r, H3.next=r:=⟨_, rfl⟩
          rw [hr] at hz ⊢
          refine wSt_at hz (by simp) ?_
          have hz4:Has ((H3.push (.row zC 0)).set r (.row (setCells zC 0 [.int .u32 (u.1.sr:Int), .int .u64 (u.1.sq:Int), .int .i64 u.1.kd, .string u.1.body]) 0)) r (.row (uvC u.1) 0):=hz.set _
          have f34:Fr [] H3 ((H3.push (.row zC 0)).set r (.row (setCells zC 0 [.int .u32 (u.1.sr:Int), .int .u64 (u.1.sq:Int), .int .i64 u.1.kd, .string u.1.body]) 0)):=((Fr.refl [] H3).push _).set (.inr (by omega)) _
          generalize ((H3.push (.row zC 0)).set r (.row (setCells zC 0 [.int .u32 (u.1.sr:Int), .int .u64 (u.1.sq:Int), .int .i64 u.1.kd, .string u.1.body]) 0))=H4 at hz4 f34 ⊢
          have f4:=f3.trans f34
          have hown4:=hown3.fr f34 (by simp)
          have hrn:H3.next≤r:=by omega
          have nofit:unitFits u sv seq' kd=false→un=(out', seq'):=fun e=>by rw [hue, if_neg (by rw [e]; simp)]
          refine wIf_b (fun c1=>?_) (fun c1=>?_)
          · have c1:u.2=false:=by simpa using c1
            have hf:unitFits u sv seq' kd=false:=by unfold unitFits; rw [c1]; rfl
            rw [f37_J2_eq]
            unfold f37_J2_B
            exact wIf_t rfl ⟨ch.length - (k + 1), by omega, f37_I0_mk (fin H4 _ _ (nofit hf) hown4 f4)⟩
          · have c1:u.2=true:=by simpa using c1
            refine ldI_at hz4 rfl (wIf_n (fun c2=>?_) (fun c2=>?_))
            · have c2:¬ u.1.sr=sv:=by omega
              have hf:unitFits u sv seq' kd=false:=by unfold unitFits; rw [c1, decide_eq_false c2]; rfl
              rw [f37_J2_eq]
              unfold f37_J2_B
              exact wIf_t rfl ⟨ch.length - (k + 1), by omega, f37_I0_mk (fin H4 _ _ (nofit hf) hown4 f4)⟩
            · have c2:u.1.sr=sv:=by omega
              refine ldI_at hz4 rfl (wIf_n (fun c3=>?_) (fun c3=>?_))
              · have c3:¬ u.1.sq=seq':=by omega
                have hf:unitFits u sv seq' kd=false:=by unfold unitFits; rw [c1, decide_eq_true c2, decide_eq_false c3]; rfl
                rw [f37_J2_eq]
                unfold f37_J2_B
                exact wIf_t rfl ⟨ch.length - (k + 1), by omega, f37_I0_mk (fin H4 _ _ (nofit hf) hown4 f4)⟩
              · have c3:u.1.sq=seq':=by omega
                refine ldI_at hz4 rfl ?_
                rw [f37_J2_eq]
                unfold f37_J2_B
                refine wIf_n (fun c4=>?_) (fun c4=>?_)
                · have hf:unitFits u sv seq' kd=false:=by unfold unitFits; rw [c1, decide_eq_true c2, decide_eq_true c3, decide_eq_false c4]; rfl
                  exact ⟨ch.length - (k + 1), by omega, f37_I0_mk (fin H4 _ _ (nofit hf) hown4 f4)⟩
                · have hf:unitFits u sv seq' kd=true:=by unfold unitFits; rw [c1, decide_eq_true c2, decide_eq_true c3, decide_eq_true c4]; rfl
                  rw [if_pos hf] at hue
                  obtain ⟨b1, b2⟩:=hfacts c1
                  rw [f37_J3_eq]
                  unfold f37_J3_B
                  obtain ⟨q1, q2⟩:=few16 (n:=out'.length) (by omega)
                  refine ldS_at hz4 rfl (app1 hown4 f4.next rfl rfl q1 q2 (fun o5 H5 hown5 f45 ho5=>?_))
                  rw [strs_snoc] at hown5
                  have hno:=own_no hown4
                  have f5:Fr [] H H5:=f4.trans' f45 (fun x hx=>.inr (by
                    rcases Nat.lt_or_ge x H.next with hh | hh
                    · exact absurd hx (hno x hh)
                    · exact hh))
                  have hz5:Has H5 r (.row (uvC u.1) 0):=hz4.fr f45 (by
                    intro hx
                    rcases hown3 with ⟨rfl, _⟩ | ⟨o', rfl, _, _, h5, hb⟩
                    · simp [ownS] at hx
                    · simp [ownS] at hx; have:=h5.lt; omega)
                  refine ldS_at hz5 rfl (wCall_of (sectors_call _ (opI_at ?_)))
                  have e1:IntKind.i64.wrap ((at_:Int) + ((secsN (u.1.body.size:Int):Nat):Int))=((at_ + secsN (u.1.body.size:Int):Nat):Int):=by
                    rw [wi _ (by omega) (by omega)]; omega
                  exact ⟨per - (at_ + secsN (u.1.body.size:Int)), by omega, f37_I1_mk ⟨f', at_ + secsN (u.1.body.size:Int), (seq' + 1) % 18446744073709551616, out' ++ [u.1.body], e1, wu1 seq' hsq', rfl, by omega, by omega, by omega, hue, by simp; omega, Nat.mod_lt _ (by decide), hown5, f5⟩⟩
        · rw [unitsN_end _ _ _ _ _ _ _ _ _ (by omega)] at hue
          exact ⟨ch.length - (k + 1), by omega, f37_I0_mk (fin _ _ _ hue hown' f2)⟩
  · have hk:k=ch.length:=by omega
    subst hk
    rw [List.drop_length, recsP] at hrec
    rw [f37_J4_eq]
    unfold f37_J4_B
    rw [hrec] at h
    exact h _ _ _ _ hown (Nat.le_refl _) f1
end
end Go.Proofs.YtjhbbbcelnlnpaaGreatDoor
