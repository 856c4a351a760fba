/- The log: a checkpoint. -/
import Derived.Test.YtjhbbbcelnlnpaaGreatDoorWNbh
namespace Go.Proofs.YtjhbbbcelnlnpaaGreatDoor
open Go.RowKit

theorem putU_some {sr sq:Nat} {kd:Int} {body:ByteArray} (hs:secsN (body.size:Int) ≠ 0) (h0:0≤kd) (h1:kd≤255):(putU sr sq kd body).1=ofL (sectL sr sq kd.toNat body.data.toList)∧body.size≤1048576:=by
  have hb:body.size≤1048576:=by
    rcases Nat.lt_or_ge 1048576 body.size with hh | hh
    · exact absurd (by unfold secsN; rw [if_pos (by omega)]) hs
    · exact hh
  unfold putU
  rw [if_neg (by omega), if_neg (by omega)]
  exact ⟨rfl, hb⟩
theorem putU_size {sr sq:Nat} {kd:Int} {body:ByteArray} (hs:secsN (body.size:Int) ≠ 0) (h0:0≤kd) (h1:kd≤255):(putU sr sq kd body).1.size=64 * secsN (body.size:Int):=by
  obtain ⟨e, hb⟩:=putU_some (sr:=sr) (sq:=sq) hs h0 h1
  rw [e, ofL_size, sectL_length _ _ _ _ (by rw [data_len]; exact hb), data_len]
theorem putH_size {v:HV} (h:okH v):(putH v).1.size=64:=by unfold putH; rw [if_pos h]; show (ofL (hsecL v)).size=64; rw [ofL_size, hsecL_length]
structure LgOK (L:Lg) (d:Dev):Prop where
  per2:2≤L.per
  seg3:3 * L.per≤d.lasts.length
  ser:L.serial<4294967296
  las:L.last<4294967296
  bas:L.base<4294967296
  sq:L.seq<18446744073709551616
  atp:L.at_≤L.per
  chl:L.chain.length≤4294967296
  chm:∀ x ∈ L.chain, x<d.lasts.length / L.per
def ckEarly (L:Lg) (f:Nat) (body:ByteArray):List (Nat × ByteArray) :=
  [(f * L.per, (putH ⟨L.serial + 1, L.serial + 1, 0, L.seq⟩).1), (f * L.per + 2, (putU (L.serial + 1) L.seq 1 body).1.extract 64 (putU (L.serial + 1) L.seq 1 body).1.size)]
def ckLate (L:Lg) (f:Nat) (body:ByteArray):List (Nat × ByteArray):=[(f * L.per + 1, (putU (L.serial + 1) L.seq 1 body).1.extract 0 64)]
def ckEnd (L:Lg) (f:Nat) (body:ByteArray):Lg:=⟨L.per, [f], L.serial + 1, L.serial + 1, L.serial + 1, (L.seq + 1) % 18446744073709551616, 1 + secsN (body.size:Int), false⟩
def ckP (L:Lg) (d:Dev) (body:ByteArray):Int × Lg × Dev :=
  if L.closed=true then (12, L, d) else if longP L.per body=true then (5, L, d) else
  match freeP (d.lasts.length / L.per) L.chain with
  | []=>(11, L, d)
  | f :: _=>if L.serial=4294967295 then (11, L, d) else
    if (doP L.per [f] (ckEarly L f body) (ckLate L f body) d).1 ≠ 0 then ((doP L.per [f] (ckEarly L f body) (ckLate L f body) d).1, { L with closed:=true }, (doP L.per [f] (ckEarly L f body) (ckLate L f body) d).2)
    else (0, ckEnd L f body, (doP L.per [f] (ckEarly L f body) (ckLate L f body) d).2)
theorem flat_length:∀ (l:List (Nat × ByteArray)), (flat l).length=(l.map fun w=>w.2.size / 64).sum
  | []=>rfl
  | w :: l=>by
    have:=flat_length l
    unfold flat at this ⊢
    rw [List.map_cons, List.flatten_cons, List.length_append, pieces_length, this]; rfl
attribute [local irreducible] secsN Dev.write Dev.flush putP stepP zeros putH putU doP
section
variable {H:AH} {R:AEnd→AH→Prop} {il i jl jw:Nat} {b:Option Addr} {c:Nat} {L:Lg} {d:Dev}
theorem ck_sized (lo:LgOK L d) (hok:d.OK) {f:Nat} (hf:f<d.lasts.length / L.per) {body:ByteArray} (hl:longP L.per body=false) (hs:L.serial ≠ 4294967295) :
    sized (ckEarly L f body)∧sized (ckLate L f body)∧(flat (ckEarly L f body)).length≤8192∧(flat (ckLate L f body)).length≤8192∧64≤(putU (L.serial + 1) L.seq 1 body).1.size∧(putU (L.serial + 1) L.seq 1 body).1.size≤262144∧f * L.per≤4096∧secsN (body.size:Int)≤L.per:=by
  unfold longP at hl
  simp only [Bool.or_eq_false_iff, decide_eq_false_iff_not] at hl
  have h1:=putU_size (sr:=L.serial + 1) (sq:=L.seq) (kd:=1) hl.1 (by omega) (by omega)
  have h2:(putH ⟨L.serial + 1, L.serial + 1, 0, L.seq⟩).1.size=64:=putH_size ⟨by show 1≤L.serial + 1; omega, Nat.le_refl _, by show 0<L.serial + 1; omega⟩
  have hfew:=hok.few
  have h3:=lo.seg3
  have hfp:f * L.per≤d.lasts.length:=Nat.le_trans (Nat.mul_le_mul_right _ (Nat.le_of_lt hf)) (Nat.div_mul_le_self _ _)
  generalize hu:(putU (L.serial + 1) L.seq 1 body).1=u at h1
  generalize hk:secsN (body.size:Int)=k at h1 hl
  have e1:(u.extract 64 u.size).size=u.size - 64:=by rw [ByteArray.size_extract]; omega
  have e2:(u.extract 0 64).size=64:=by rw [ByteArray.size_extract]; omega
  have hel:ckEarly L f body=[(f * L.per, (putH ⟨L.serial + 1, L.serial + 1, 0, L.seq⟩).1), (f * L.per + 2, u.extract 64 u.size)]:=by unfold ckEarly; rw [hu]
  have hll:ckLate L f body=[(f * L.per + 1, u.extract 0 64)]:=by unfold ckLate; rw [hu]
  rw [hel, hll, flat_length, flat_length]
  refine ⟨?_, ?_, ?_, ?_, by omega, by omega, by omega, by omega⟩
  · intro w hw
    simp at hw
    rcases hw with rfl | rfl
    · show (putH _).1.size % 64=0∧(putH _).1.size≤_∧f * L.per≤_
      rw [h2]; omega
    · show (u.extract 64 u.size).size % 64=0∧(u.extract 64 u.size).size≤_∧f * L.per + 2≤_
      rw [e1]; omega
  · intro w hw
    simp at hw
    subst hw
    show (u.extract 0 64).size % 64=0∧(u.extract 0 64).size≤_∧f * L.per + 1≤_
    rw [e2]; omega
  · simp only [List.map_cons, List.map_nil, List.sum_cons, List.sum_nil]
    rw [h2, e1]; omega
  · simp only [List.map_cons, List.map_nil, List.sum_cons, List.sum_nil]
    rw [e2]; omega

theorem w32n (n:Nat) (h:n<4294967296):IntKind.u32.wrap (n:Int)=(n:Int):=by rw [wrap32_eq]; omega
set_option maxRecDepth 20000 in
set_option maxHeartbeats 1000000 in
theorem ckpt_call (x:LD H il i jl jw b c L d) (lo:LgOK L d) (hw:d.waits.length≤1099500000000) (body:ByteArray)
    (h:∀ H' jw' b' c', LD H' il i jl jw' b' c' (ckP L d body).2.1 (ckP L d body).2.2→Fr [il, i, jl, jw] H H'→(jw'=i∨jw'=jw∨H.next≤jw')→(∀ o, b'=some ⟨o, 0, none⟩→b=some ⟨o, 0, none⟩∨H.next≤o)→R (.ret (.int .i64 (ckP L d body).1)) H') :
    ACall Tryz.prog 23 [.pointer (some ⟨il, 0, none⟩), .string body] H R:=by
  apply f23_call
  unfold f23_B
  have hfew:=x.ok.few
  have hp2:=lo.per2
  have hs3:=lo.seg3
  have same:∀ (e:Int), ckP L d body=(e, L, d)→∀ H', Fr [] H H'→R (.ret (.int .i64 e)) H':=by
    intro e he H' f
    have:=h H' jw b c
    rw [he] at this
    exact this (x.fr f) (f.mono (by simp)) (.inr (.inl rfl)) (fun o e=>.inl e)
  refine wIf_f rfl (wPt_at (ldB_at x.lg.own rfl (wIf_b (fun hc=>?_) (fun hc=>?_))))
  · exact same 12 (by unfold ckP; rw [if_pos hc]) _ (Fr.refl _ _)
  refine wCall_of (long_call x.lg (by omega) (by omega) body (opB_at (wIf_b (fun hlg=>?_) (fun hlg=>?_))))
  · exact same 5 (by unfold ckP; rw [if_neg (by rw [hc]; simp), if_pos hlg]) _ (Fr.refl _ _)
  have hck:ckP L d body=match freeP (d.lasts.length / L.per) L.chain with
      | []=>(11, L, d)
      | f :: _=>if L.serial=4294967295 then (11, L, d) else
        if (doP L.per [f] (ckEarly L f body) (ckLate L f body) d).1 ≠ 0 then ((doP L.per [f] (ckEarly L f body) (ckLate L f body) d).1, { L with closed:=true }, (doP L.per [f] (ckEarly L f body) (ckLate L f body) d).2)
        else (0, ckEnd L f body, (doP L.per [f] (ckEarly L f body) (ckLate L f body) d).2):=by
    unfold ckP; rw [if_neg (by rw [hc]; simp), if_neg (by rw [hlg]; simp)]
  have hfm:∀ z ∈ freeP (d.lasts.length / L.per) L.chain, z<d.lasts.length / L.per:=fun z hz=>freeP_lt hz
  have hfle:=freeP_le (d.lasts.length / L.per) L.chain
  have hNle:=Nat.div_le_self d.lasts.length L.per
  refine wCall_of (free_call x.lg x.dv x.ok (by omega) (by have:=lo.chl; omega) (fun H1 fb fc hown f1=>opL_at ?_))
  have x1:=x.fr f1
  cases hfr:freeP (d.lasts.length / L.per) L.chain with
  | nil =>
    rw [hfr] at hck hown
    refine wIf_dt rfl ?_
    rw [f23_J0_eq]
    unfold f23_J0_B
    exact wIf_t rfl (same 11 hck _ f1)
  | cons f fr =>
    rw [hfr] at hck hown hfm hfle
    simp only [] at hck
    have hf:=hfm f (by simp)
    refine wIf_df (by simp; omega) ?_
    refine wPt_at (ldI_at x1.lg.own rfl ?_)
    rw [f23_J0_eq]
    unfold f23_J0_B
    refine wIf_d (fun hmx=>?_) (fun hmx=>?_)
    · exact same 11 (by rw [hck, if_pos (by omega)]) _ f1
    have hmx:L.serial ≠ 4294967295:=by omega
    rw [if_neg hmx] at hck
    have hser:=lo.ser
    have hsq:=lo.sq
    obtain ⟨z1, z2, z3, z4, z5, z6, z7, z8⟩:=ck_sized lo x.ok hf hlg hmx (body:=body)
    rcases hown with ⟨_, e, _⟩ | ⟨fo, rfl, rfl, hfl2, hfo, hfc⟩
    · simp at e
    rw [f23_J1_eq]
    unfold f23_J1_B
    have ew:IntKind.u32.wrap ((L.serial:Int) + 1)=((L.serial + 1:Nat):Int):=by
      have e:(L.serial:Int) + 1=((L.serial + 1:Nat):Int):=by push_cast; rfl
      rw [e, w32n _ (by omega)]
    refine wPt_at (ldI_at x1.lg.own rfl ?_)
    rw [ew]
    refine wPt_at (ldI_at x1.lg.own rfl (wCall_of (puth_call ⟨L.serial + 1, L.serial + 1, 0, L.seq⟩ ⟨by show L.serial + 1<_; omega, by show L.serial + 1<_; omega, by show 0<_; omega, hsq⟩ (fun H2 f12=>opT_at rfl (opS_at (opI_at ?_))))))
    have x2:=x1.fr f12
    have hfo2:=hfo.fr f12 (by simp)
    refine wPt_at (ldI_at x2.lg.own rfl (wCall_of (put_call (L.serial + 1) L.seq 1 body (by omega) hsq (fun H3 f23=>opT_at rfl (opS_at (opI_at ?_))))))
    have x3:=x2.fr f23
    have hfo3:=hfo2.fr f23 (by simp)
    have f3:=(f1.trans f12).trans f23
    have hf0:(ints (f :: fr))[0 + Int.toNat 0 * 1]?=some (.int .i64 (f:Int)):=rfl
    have em:IntKind.i64.wrap ((f:Int) * (L.per:Int))=((f * L.per:Nat):Int):=by
      have e:(f:Int) * (L.per:Int)=((f * L.per:Nat):Int):=by push_cast; rfl
      rw [e, wi _ (by omega) (by omega)]
    refine wIx_at (by omega) (by simp) (wPt_at (ldI_at hfo3 hf0 (ldI_at x3.lg.own rfl ?_)))
    rw [em]
    rw [f23_J2_eq]
    unfold f23_J2_B
    have ea1:IntKind.i64.wrap (((f * L.per:Nat):Int) + 1)=((f * L.per + 1:Nat):Int):=wi1 _ (by omega)
    have ea2:IntKind.i64.wrap (((f * L.per:Nat):Int) + 2)=((f * L.per + 2:Nat):Int):=by rw [wi _ (by omega) (by omega)]; push_cast; rfl
    rw [ea1, ea2]
    obtain ⟨u, hu⟩:∃ u, (putU (L.serial + 1) L.seq 1 body).1=u:=⟨_, rfl⟩
    obtain ⟨hd, hhd⟩:∃ hd, (putH ⟨L.serial + 1, L.serial + 1, 0, L.seq⟩).1=hd:=⟨_, rfl⟩
    have hel:ckEarly L f body=[(f * L.per, hd), (f * L.per + 2, u.extract 64 u.size)]:=by unfold ckEarly; rw [hu, hhd]
    have hll:ckLate L f body=[(f * L.per + 1, u.extract 0 64)]:=by unfold ckLate; rw [hu]
    rw [hu] at z5 z6 ⊢
    rw [hhd]
    obtain ⟨r, hr⟩:∃ r, doP L.per [f] (ckEarly L f body) (ckLate L f body) d=r:=⟨_, rfl⟩
    rw [hr] at hck
    have hilt:=x.dv.own.lt
    have hjlt:=x.dv.lasts.lt
    have hjwlt:=x.dv.jwlt
    have hillt:=x.lg.own.lt
    have hn3:=f3.next
    -- behind the writes
    have afterE:∀ H5 jw5, LD H5 il i jl jw5 b c (shut L r.1) r.2→Fr [il, i, jl, jw] H H5→(jw5=i∨jw5=jw∨H.next≤jw5)→r.1 ≠ 0→R (.ret (.int .i64 r.1)) H5:=by
      intro H5 jw5 x5 f5 hj5 hne
      rw [if_pos hne] at hck
      have:=h H5 jw5 b c
      rw [hck] at this
      have hsh:shut L r.1={ L with closed:=true }:=by show ({ L with closed:=decide (r.1 ≠ 0) }:Lg)=_; rw [decide_eq_true hne]
      rw [hsh] at x5
      exact this x5 f5 hj5 (fun o e=>.inl e)
    have afterO:∀ H5 jw5, LD H5 il i jl jw5 b c (shut L r.1) r.2→Fr [il, i, jl, jw] H H5→(jw5=i∨jw5=jw∨H.next≤jw5)→Has H5 fo (.row (ints (f :: fr)) 1)→r.1=0 →
        f23_J4_B (some ⟨il, 0, none⟩) body (some ⟨fo, 0, none⟩) (f :: fr).length ((L.serial + 1:Nat):Int) H5 R:=by
      intro H5 jw5 x5 f5 hj5 hfo5 heq
      · rw [if_neg (by simp [heq])] at hck
        rw [heq] at x5
        unfold f23_J4_B
        refine wIx_at (by omega) (by simp) (ldI_at hfo5 hf0 (wBs_at ?_))
        obtain ⟨q, hq⟩:∃ q, H5.next=q:=⟨_, rfl⟩
        have hx:=Has.new H5 (.row [.int .i64 (f:Int)] 1)
        have f56:Fr [] H5 (H5.push (.row [.int .i64 (f:Int)] 1)):=(Fr.refl [] H5).push _
        rw [hq] at hx ⊢
        generalize H5.push (.row [.int .i64 (f:Int)] 1)=H6 at hx f56 ⊢
        have x6:=x5.fr f56
        have f6:=f5.trans (f56.mono (by simp))
        have hnq:H.next≤q:=by have:=f5.next; omega
        have a0:=x6.lg.own
        refine wPt_at (wSt_at a0 (by simp) ?_)
        have a1:=a0.set (.row (setCells (lrow i b L.chain.length c (shut L 0)) (0 + 2) [.slice (some ⟨q, 0, none⟩) 1 0]) 0)
        refine wPt_at (wSt_at a1 (by simp [setCells]) ?_)
        have a2:=a1.set (.row (setCells (setCells (lrow i b L.chain.length c (shut L 0)) (0 + 2) [.slice (some ⟨q, 0, none⟩) 1 0]) (0 + 3) [.int .u32 ((L.serial + 1:Nat):Int)]) 0)
        refine wPt_at (wSt_at a2 (by simp [setCells]) ?_)
        have a3:=a2.set (.row (setCells (setCells (setCells (lrow i b L.chain.length c (shut L 0)) (0 + 2) [.slice (some ⟨q, 0, none⟩) 1 0]) (0 + 3) [.int .u32 ((L.serial + 1:Nat):Int)]) (0 + 4) [.int .u32 ((L.serial + 1:Nat):Int)]) 0)
        refine wPt_at (wSt_at a3 (by simp [setCells]) ?_)
        have a4:=a3.set (.row (setCells (setCells (setCells (setCells (lrow i b L.chain.length c (shut L 0)) (0 + 2) [.slice (some ⟨q, 0, none⟩) 1 0]) (0 + 3) [.int .u32 ((L.serial + 1:Nat):Int)]) (0 + 4) [.int .u32 ((L.serial + 1:Nat):Int)]) (0 + 5) [.int .u32 ((L.serial + 1:Nat):Int)]) 0)
        have e4:(setCells (setCells (setCells (setCells (lrow i b L.chain.length c (shut L 0)) (0 + 2) [.slice (some ⟨q, 0, none⟩) 1 0]) (0 + 3) [.int .u32 ((L.serial + 1:Nat):Int)]) (0 + 4) [.int .u32 ((L.serial + 1:Nat):Int)]) (0 + 5) [.int .u32 ((L.serial + 1:Nat):Int)]) =
            lrow i (some ⟨q, 0, none⟩) 1 0 ⟨L.per, [f], L.serial + 1, L.serial + 1, L.serial + 1, L.seq, L.at_, false⟩:=rfl
        rw [e4] at a4 ⊢
        -- what has been stored
        obtain ⟨H7, hH7⟩:∃ H7, (((H6.set il (.row (setCells (lrow i b L.chain.length c (shut L 0)) (0 + 2) [.slice (some ⟨q, 0, none⟩) 1 0]) 0)).set il (.row (setCells (setCells (lrow i b L.chain.length c (shut L 0)) (0 + 2) [.slice (some ⟨q, 0, none⟩) 1 0]) (0 + 3) [.int .u32 ((L.serial + 1:Nat):Int)]) 0)).set il
            (.row (setCells (setCells (setCells (lrow i b L.chain.length c (shut L 0)) (0 + 2) [.slice (some ⟨q, 0, none⟩) 1 0]) (0 + 3) [.int .u32 ((L.serial + 1:Nat):Int)]) (0 + 4) [.int .u32 ((L.serial + 1:Nat):Int)]) 0)).set il (.row (lrow i (some ⟨q, 0, none⟩) 1 0 ⟨L.per, [f], L.serial + 1, L.serial + 1, L.serial + 1, L.seq, L.at_, false⟩) 0)=H7:=⟨_, rfl⟩
        have f67:Fr [il] H6 H7:=by
          rw [← hH7]
          exact ((((Fr.refl [il] H6).set (.inl (by simp)) _).set (.inl (by simp)) _).set (.inl (by simp)) _).set (.inl (by simp)) _
        rw [hH7] at a4 ⊢
        refine wPt_at (ldI_at a4 rfl (wCall_of (sectors_call _ (opI_at ⟨PinOK_at a4 (by simp) rfl, wPt_at (wSt_at a4 (by simp) ?_)⟩))))
        have a5:=a4.set (.row (setCells (lrow i (some ⟨q, 0, none⟩) 1 0 ⟨L.per, [f], L.serial + 1, L.serial + 1, L.serial + 1, L.seq, L.at_, false⟩) (0 + 6) [.int .u64 (IntKind.u64.wrap ((L.seq:Int) + 1))]) 0)
        refine wPt_at (wSt_at a5 (by simp [setCells]) ?_)
        have ee:IntKind.i64.wrap (1 + ((secsN (body.size:Int):Nat):Int))=((1 + secsN (body.size:Int):Nat):Int):=by rw [wi _ (by omega) (by omega)]; push_cast; rfl
        rw [wu1 _ hsq] at a5 ⊢
        rw [ee]
        have a6:=a5.set (.row (setCells (setCells (lrow i (some ⟨q, 0, none⟩) 1 0 ⟨L.per, [f], L.serial + 1, L.serial + 1, L.serial + 1, L.seq, L.at_, false⟩) (0 + 6) [.int .u64 (((L.seq + 1) % 18446744073709551616:Nat):Int)]) (0 + 7) [.int .i64 ((1 + secsN (body.size:Int):Nat):Int)]) 0)
        have f78:Fr [il] H7 ((H7.set il (.row (setCells (lrow i (some ⟨q, 0, none⟩) 1 0 ⟨L.per, [f], L.serial + 1, L.serial + 1, L.serial + 1, L.seq, L.at_, false⟩) (0 + 6) [.int .u64 (((L.seq + 1) % 18446744073709551616:Nat):Int)]) 0)).set il (.row (setCells (setCells (lrow i (some ⟨q, 0, none⟩) 1 0 ⟨L.per, [f], L.serial + 1, L.serial + 1, L.serial + 1, L.seq, L.at_, false⟩) (0 + 6) [.int .u64 (((L.seq + 1) % 18446744073709551616:Nat):Int)]) (0 + 7) [.int .i64 ((1 + secsN (body.size:Int):Nat):Int)]) 0)) :=
          ((Fr.refl [il] H7).set (.inl (by simp)) _).set (.inl (by simp)) _
        have f68:=f67.trans f78
        have:=h _ jw5 (some ⟨q, 0, none⟩) 0 ?_ (f6.trans (f68.mono (by simp))) hj5 (fun o e=>.inr (by cases e; exact hnq))
        · rw [hck] at this; exact this
        · rw [hck]
          have hqil:q ≠ il:=by omega
          have hx8:=hx.fr f68 (by simpa using hqil)
          refine ⟨⟨?_, .inr ⟨q, rfl, rfl, rfl, hx8, Nat.zero_le _⟩, fun o e=>by cases e; exact hqil⟩, ⟨x6.dv.own.fr f68 (by simpa using Ne.symm x.ai), x6.dv.lasts.fr f68 (by simpa using Ne.symm x.al), fun hw=>(x6.dv.waits hw).fr f68 (by simpa using Ne.symm x6.aw), x6.dv.ne, x6.dv.emp, x6.dv.nw⟩, x6.ok, x6.ai, x6.al, x6.aw, ?_⟩
          · exact a6
          · intro o e
            cases e
            refine ⟨by omega, by omega, ?_⟩
            have:=x5.dv.jwlt
            omega
    have dd:∀ (H4:AH) (q1 q2:Nat) (R':AEnd→AH→Prop), Fr [] H3 H4→Has H4 q1 (.row (wcells (ckEarly L f body)) 2)→Has H4 q2 (.row (wcells (ckLate L f body)) 2)→H3.next≤q1→H3.next≤q2 →
        (∀ H5 jw5, LD H5 il i jl jw5 b c (shut L r.1) r.2→Fr [il, i, jl, jw] H H5→(jw5=i∨jw5=jw∨H.next≤jw5)→Has H5 fo (.row (ints (f :: fr)) 1)→R' (.ret (.int .i64 r.1)) H5) →
        ACall Tryz.prog 51 [.pointer (some ⟨il, 0, none⟩), .slice (some ⟨fo, 0, none⟩) 1 0, .slice (some ⟨q1, 0, none⟩) 2 0, .slice (some ⟨q2, 0, none⟩) 1 0] H4 R':=by
      intro H4 q1 q2 R' f34 hq1 hq2 hn1 hn2 hR'
      have x4:=x3.fr f34
      have hfo4:=hfo3.fr f34 (by simp)
      refine do_call x4 hc (by omega) (by omega) (begun:=[f]) (early:=ckEarly L f body) (late:=ckLate L f body) (.inr ⟨fo, ints (f :: fr), rfl, hfo4, rfl, fun k hk=>by
          have:k=0:=by omega
          subst this; rfl⟩) (.inr ⟨q1, rfl, rfl, by rw [wcells_length, hel]; rfl, hq1, Nat.zero_le _⟩) (.inr ⟨q2, rfl, rfl, by rw [wcells_length, hll]; rfl, hq2, Nat.zero_le _⟩) (by rw [hll]; simp)
        (fun o e=>by cases e; omega) (fun o e=>by cases e; omega) (fun k hk=>by simp at hk; subst hk; omega) z1 z2 (by omega) (by simp) (by rw [hel]; simp) (by rw [hll]; simp) ?_ ?_
      · have:(flat (blankW L.per [f])).length≤4096:=by
          rw [flat_length]
          show ((zeros (L.per * 64)).size / 64 + 0)≤_
          rw [zeros_size]; omega
        omega
      · intro H5 jw5 x5 f5 hj5
        rw [hr] at x5 ⊢
        have fa:Fr [il, i, jl, jw] H H5:=((f3.trans f34).mono (by simp)).trans f5
        refine hR' H5 jw5 x5 fa ?_ (hfo4.fr f5 (by simp; omega))
        have:=f3.next
        have:=f34.next
        omega
    have hsl:wcells (ckEarly L f body)=[.int .i64 ((f * L.per:Nat):Int), .string hd, .int .i64 ((f * L.per + 2:Nat):Int), .string (u.extract 64 u.size)]:=by rw [hel]; rfl
    have hsl2:wcells (ckLate L f body)=[.int .i64 ((f * L.per + 1:Nat):Int), .string (u.extract 0 64)]:=by rw [hll]; rfl
    rw [hsl, hsl2] at dd
    refine ⟨by omega, by omega, by simp; omega, rfl, ⟨_, .inl hfo3.get, by simp [ints]⟩, ?_⟩
    refine wSlS_at (by omega) (by omega) (by omega) (wSlS_at (by omega) (by omega) (by omega) ⟨?_, ?_⟩)
    · refine wBs_at (wBs_at (wCall_of (dd _ H3.next (H3.next + 1) _ (((Fr.refl [] H3).push _).push _) ((Has.new _ _).push _) (Has.new (H3.push _) _) (Nat.le_refl _) (Nat.le_succ _) (fun H5 jw5 x5 f5 hj5 hfo5=>opI_at ?_))))
      rw [f23_J3_eq]
      unfold f23_J3_B
      refine wIf_n (fun hne=>afterE H5 jw5 x5 f5 hj5 hne) (fun heq=>?_)
      rw [f23_J4_eq]
      exact afterO H5 jw5 x5 f5 hj5 hfo5 heq
    · refine wBs_at (wBs_at (wCall_of (dd _ (H3.next + 1) H3.next _ (((Fr.refl [] H3).push _).push _) (Has.new (H3.push _) _) ((Has.new _ _).push _) (Nat.le_succ _) (Nat.le_refl _) (fun H5 jw5 x5 f5 hj5 hfo5=>opI_at ?_))))
      rw [f23_J3_eq]
      unfold f23_J3_B
      refine wIf_n (fun hne=>afterE H5 jw5 x5 f5 hj5 hne) (fun heq=>?_)
      rw [f23_J4_eq]
      exact afterO H5 jw5 x5 f5 hj5 hfo5 heq
end
end Go.Proofs.YtjhbbbcelnlnpaaGreatDoor
