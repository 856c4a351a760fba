/- The log: an append, whole. What the kit proved of Go's library once and for all, at this translation (written by the kit's tools). -/
import Derived.Test.YtjhbbbcelnlnpaaGreatDoorWNbk
import Derived.Shelf.Small.Bits
import Derived.Test.YtjhbbbcelnlnpaaGreatDoorProg
namespace Go.Proofs.YtjhbbbcelnlnpaaGreatDoor
open Go.RowKit

theorem OwnC.weak {c0 c1:Nat} {H:AH} {esz:Nat} {b:Option Addr} {l c:Nat} {cs:List Value} (h:OwnC c1 H esz b l c cs) (hc:c0≤c1):OwnC c0 H esz b l c cs:=by
  rcases h with h | ⟨o, h1, h2, h3, h4, h5⟩
  · exact .inl h
  · exact .inr ⟨o, h1, h2, h3, h4, Nat.le_trans hc h5⟩
theorem OwnC.rdI {c0:Nat} {H:AH} {b:Option Addr} {n:Nat} {l:List Nat} (h:OwnC c0 H 1 b n 0 (ints l)):RdI H b n l:=by
  have hl:=h.len
  rw [ints_length] at hl
  rcases h with ⟨h1, h2, h3, h4⟩ | ⟨o, h1, h2, h3, h4, h5⟩
  · refine .inl ⟨h1, h2, ?_⟩
    exact List.length_eq_zero_iff.1 (by omega)
  · exact .inr ⟨o, _, h1, h4, by omega, fun k hk=>ints_at l k (by omega)⟩
theorem blank_flat (per:Nat):∀ bg:List Nat, (flat (blankW per bg)).length=bg.length * per
  | []=>by simp [blankW, flat]
  | k :: bg=>by
    have h:=blank_flat per bg
    rw [flat_length] at h ⊢
    show (zeros (per * 64)).size / 64 + _=_
    rw [zeros_size]
    have e:((blankW per bg).map fun w=>w.2.size / 64).sum=bg.length * per:=h
    have e2:(bg.length + 1) * per=bg.length * per + per:=Nat.succ_mul _ _
    show per * 64 / 64 + ((blankW per bg).map fun w=>w.2.size / 64).sum=(bg.length + 1) * per
    rw [e, e2, Nat.mul_div_cancel _ (by decide)]
    omega
theorem any_long {per:Nat} {bs:List ByteArray} (h:∀ k (hk:k<bs.length), longP per bs[k]=false):bs.any (longP per)=false:=by
  rw [List.any_eq_false]
  intro x hx
  obtain ⟨k, hk, rfl⟩:=List.getElem_of_mem hx
  rw [h k hk]; simp
attribute [local irreducible] secsN putH putU apBytes apHead doP
section
variable {H:AH} {R:AEnd→AH→Prop} {il i jl jw:Nat} {b:Option Addr} {c:Nat} {L:Lg} {d:Dev}
set_option maxRecDepth 20000 in
set_option maxHeartbeats 2000000 in
theorem append_call (x:LD H il i jl jw b c L d) (g:LgGood L d) (hw:d.waits.length≤1099000000000) {bb:Option Addr} {bn bc:Nat} {bs:List ByteArray} (hbr:RdStr H bb bn bs) (hcount:bs.length≤100000)
    (h:∀ H' jw' b' c', LD H' il i jl jw' b' c' (appP L d bs).2.1 (appP L d bs).2.2→Fr [il, i, jl, jw] H H'→(jw'=i∨jw'=jw∨H.next≤jw')→(∀ o, b'=some ⟨o, 0, none⟩→b=some ⟨o, 0, none⟩∨H.next≤o)→R (.ret (.int .i64 (appP L d bs).1)) H') :
    ACall Tryz.prog 18 [.pointer (some ⟨il, 0, none⟩), .slice bb bn bc] H R:=by
  apply f18_call
  unfold f18_B
  have hbn:=hbr.len
  subst hbn
  have hfew:=x.ok.few
  have hp2:=g.per2
  have hs3:=g.seg3
  have same:∀ (e:Int), appP L d bs=(e, L, d)→∀ H', Fr [] H H'→R (.ret (.int .i64 e)) H':=by
    intro e he H' f
    have:=h H' jw b c
    rw [he] at this
    exact this (x.fr f) (f.mono (by simp)) (.inr (.inl rfl)) (fun o e=>.inl e)
  refine wIf_f rfl (wPt_at (ldB_at x.lg.own rfl (wIf_b (fun hc=>?_) (fun hc=>?_))))
  · exact same 12 (by unfold appP; rw [if_pos hc]) _ (Fr.refl _ _)
  refine f18_L0_rule (J:=fun m s30 H'=>∃ k:Nat, s30=(k:Int)∧k≤bs.length∧m=bs.length - k∧(∀ j (hj:j<bs.length), j<k→longP L.per bs[j]=false)∧H'=H) bs.length ⟨0, rfl, Nat.zero_le _, rfl, fun j _ hj=>by omega, rfl⟩ ?_
  rintro m s30 H' ⟨k, rfl, hk, rfl, hno, rfl⟩
  intros
  unfold f18_R0
  refine wIf_d (fun hlt=>?_) (fun hge=>?_)
  · have hlt:k<bs.length:=by omega
    rcases hbr with ⟨_, e, _⟩ | ⟨ob, cs, rfl, hob, _, hat⟩
    · omega
    have hat':=hat k hlt
    have t0:0 + Int.toNat (k:Int) * 1=k:=by omega
    refine wIx_at (by omega) (by omega) ?_
    rw [t0]
    refine ldS_at hob hat' (wCall_of (long_call x.lg (by omega) (by omega) _ (opB_at (wIf_b (fun hl=>?_) (fun hl=>?_)))))
    · refine same 5 ?_ _ (Fr.refl _ _)
      have:bs.any (longP L.per)=true:=List.any_eq_true.2 ⟨_, List.getElem_mem hlt, hl⟩
      unfold appP; rw [if_neg (by rw [hc]; simp), if_pos this]
    · refine ⟨bs.length - (k + 1), by omega, f18_I0_mk ⟨k + 1, wi1 k (by omega), hlt, rfl, fun j hj hjk=>?_, rfl⟩⟩
      by_cases e:j=k
      · subst e; exact hl
      · exact hno j hj (by omega)
  have hkk:k=bs.length:=by omega
  subst hkk
  have hlong:bs.any (longP L.per)=false:=any_long fun j hj=>hno j hj hj
  have happ:appP L d bs=match apN bs (ap0 L (d.lasts.length / L.per)) with
      | none=>(11, L, d)
      | some st=>if bs=[] then (0, L, d) else
        if (doP L.per st.bg st.ea st.la d).1 ≠ 0 then ((doP L.per st.bg st.ea st.la d).1, { L with closed:=true }, (doP L.per st.bg st.ea st.la d).2)
        else (0, st.nx, (doP L.per st.bg st.ea st.la d).2):=by
    unfold appP; rw [if_neg (by rw [hc]; simp), if_neg (by rw [hlong]; simp)]
    cases apN bs (ap0 L (d.lasts.length / L.per)) <;> rfl
  rw [f18_J0_eq]
  unfold f18_J0_B
  have a0:=x.lg.own
  refine wPt_at (ldP_at a0 rfl (ldI_at a0 rfl (ldL_at a0 rfl (ldI_at a0 rfl (ldI_at a0 rfl (ldI_at a0 rfl (ldI_at a0 rfl (ldI_at a0 rfl (ldB_at a0 rfl (wNew_at ?_))))))))))
  obtain ⟨z, hz⟩:∃ z, H'.next=z:=⟨_, rfl⟩
  have hx:=Has.new H' (.row [.pointer none, .int .i64 0, .slice none 0 0, .int .u32 0, .int .u32 0, .int .u32 0, .int .u64 0, .int .i64 0, .bool false] 0)
  have f1:Fr [] H' (H'.push (.row [.pointer none, .int .i64 0, .slice none 0 0, .int .u32 0, .int .u32 0, .int .u32 0, .int .u64 0, .int .i64 0, .bool false] 0)):=(Fr.refl [] H').push _
  rw [hz] at hx ⊢
  refine wSt_at hx (by simp) ?_
  have hx2:=hx.set (.row (lrow i b L.chain.length c L) 0)
  have f2:Fr [] H' ((H'.push (.row [.pointer none, .int .i64 0, .slice none 0 0, .int .u32 0, .int .u32 0, .int .u32 0, .int .u64 0, .int .i64 0, .bool false] 0)).set z (.row (lrow i b L.chain.length c L) 0)):=f1.set (.inr (by omega)) _
  have e9:setCells [.pointer none, .int .i64 0, .slice none 0 0, .int .u32 0, .int .u32 0, .int .u32 0, .int .u64 0, .int .i64 0, .bool false] 0 [.pointer (some ⟨i, 0, none⟩), .int .i64 (L.per:Int), .slice b L.chain.length c, .int .u32 (L.base:Int), .int .u32 (L.last:Int), .int .u32 (L.serial:Int), .int .u64 (L.seq:Int), .int .i64 (L.at_:Int), .bool L.closed]=lrow i b L.chain.length c L:=rfl
  rw [e9]
  generalize ((H'.push (.row [.pointer none, .int .i64 0, .slice none 0 0, .int .u32 0, .int .u32 0, .int .u32 0, .int .u64 0, .int .i64 0, .bool false] 0)).set z (.row (lrow i b L.chain.length c L) 0))=H2 at hx2 f2 ⊢
  have x2:=x.fr f2
  have hchl:=g.chl
  refine wPt_at (ldL_at x2.lg.own rfl (wCall_of (clone_call x2.lg.chain (by omega) (fun H3 cb hcb f23=>opL_at ?_))))
  have hx3:=hx2.fr f23 (by simp)
  refine wSt_at hx3 (by simp) ?_
  have hx4:=hx3.set (.row (lrow i cb L.chain.length 0 L) 0)
  have e2:setCells (lrow i b L.chain.length c L) 2 [.slice cb L.chain.length 0]=lrow i cb L.chain.length 0 L:=rfl
  rw [e2]
  have f34:Fr [z] H3 (H3.set z (.row (lrow i cb L.chain.length 0 L) 0)):=Fr.set1 H3 z _
  have f4:Fr [] H' (H3.set z (.row (lrow i cb L.chain.length 0 L) 0)):=(f2.trans f23).set (.inr (by omega)) _
  have hzl:z<H2.next:=hx2.lt
  have hcb4:OwnC H'.next (H3.set z (.row (lrow i cb L.chain.length 0 L) 0)) 1 cb L.chain.length 0 (ints L.chain):=by
    refine (hcb.fr2 f34 (fun w hw=>?_)).weak f2.next
    have:=(hcb.low w hw).1
    simp; omega
  have hcbl:∀ w ∈ ownS cb, w<(H3.set z (.row (lrow i cb L.chain.length 0 L) 0)).next:=fun w hw=>(hcb4.low w hw).2.1
  generalize (H3.set z (.row (lrow i cb L.chain.length 0 L) 0))=H4 at hx4 f4 hcb4 hcbl ⊢
  have x4:=x.fr f4
  have hNle:=Nat.div_le_self d.lasts.length L.per
  have hfl:=freeP_le (d.lasts.length / L.per) L.chain
  refine wCall_of (free_call x4.lg x4.dv x4.ok (by omega) (by omega) (fun H5 fb fc hown f45=>opL_at ?_))
  have f5:=f4.trans f45
  have hNm:d.lasts.length / L.per * L.per≤4096:=Nat.le_trans (Nat.div_mul_le_self _ _) hfew
  have hfc:fc=0:=by
    rcases hown with ⟨_, _, e, _⟩ | ⟨_, _, e, _⟩ <;> exact e
  subst hfc
  have hfre:FrS H'.next H5 fb (freeP (d.lasts.length / L.per) L.chain).length (freeP (d.lasts.length / L.per) L.chain):=by
    have hl:=hown.len
    rcases hown with ⟨h1, h2, _, h4⟩ | ⟨o, h1, _, h3, h4, h5⟩
    · exact .inl ⟨h1, h2, List.length_eq_zero_iff.1 h2⟩
    · exact .inr ⟨o, 0, _, h1, h4, by have:=f4.next; omega, rfl, Nat.zero_le _, rfl⟩
  have hap:Ap H5 H'.next z i cb L fb (freeP (d.lasts.length / L.per) L.chain).length (freeP (d.lasts.length / L.per) L.chain) none 0 [] none 0 [] none 0 []:=by
    refine ⟨hx4.fr f45 (by simp), by omega, hcb4.fr2 f45 (by simp), hfre, OwnC.nil _ _ _, OwnC.nil _ _ _, OwnC.nil _ _ _, ?_, Apart.none_r _, Apart.none_r _, Apart.none_l _⟩
    intro w hw hw2
    have h1:=hcbl w hw
    have h2:=(hown.low w hw2).1
    omega
  refine append_loop (N:=d.lasts.length / L.per) (C:=L.chain.length + (freeP (d.lasts.length / L.per) L.chain).length) x g.b1 g.bas hNm hp2 (by omega) (by omega) hbr (fun y hy=>?_) hcount f5 (st0:=ap0 L (d.lasts.length / L.per)) rfl rfl rfl hap (ap0_f g hc) (fun hn H6 f6=>?_) ?_ ..
  · obtain ⟨j, hj, rfl⟩:=List.getElem_of_mem hy
    exact hno j hj hj
  · exact same 11 (by rw [happ, hn]) H6 f6
  intro st cb' fb' fl' bb' bl' eb' el' lb' ll' H6 hst ap6 hf6 f6
  rw [hst] at happ
  simp only [] at happ
  unfold f18_J10_B
  refine wIf_d (fun h0=>?_) (fun h0=>?_)
  · have hnil:bs=[]:=List.length_eq_zero_iff.1 (by omega)
    rw [if_pos hnil] at happ
    exact same 0 happ H6 f6
  have hne:bs ≠ []:=fun e=>h0 (by rw [e]; rfl)
  rw [if_neg hne] at happ
  have x6:=x.fr f6
  have hilt:=x.dv.own.lt
  have hjlt:=x.dv.lasts.lt
  have hjwlt:=x.dv.jwlt
  have hillt:=x.lg.own.lt
  have hz6:=ap6.low
  have hbgn:=hf6.bgn
  have hbgl:st.bg.length * L.per≤4096:=Nat.le_trans (Nat.mul_le_mul_right _ (by omega:st.bg.length≤d.lasts.length / L.per)) hNm
  have hbf:=blank_flat L.per st.bg
  have he1:=hf6.efl
  have he2:=hf6.lfl
  have he3:=hf6.eal
  have he4:=hf6.lal
  have ow:∀ (eb:Option Addr) (n esz:Nat) (cs:List Value), OwnC H'.next H6 esz eb n 0 cs→∀ o, eb=some ⟨o, 0, none⟩→H'.next≤o:=fun eb n esz cs ho o e=>(ho.low o (by rw [e]; simp [ownS])).1
  refine wCall_of (do_call x6 hc (by omega) (by omega) ap6.beg.rdI (ap6.ear.weak (Nat.zero_le _)) (ap6.lat.weak (Nat.zero_le _)) (fun e=>?_) (fun o e=>by have:=ow _ _ _ _ ap6.ear o e; omega) (fun o e=>by have:=ow _ _ _ _ ap6.lat o e; omega) (fun k hk=>?_) hf6.esz hf6.lsz (by omega) (by omega) (by omega) (by omega) (by omega) (fun H7 jw7 x7 f7 hj7=>opI_at ?_))
  · rw [e] at he4; simp at he4; omega
  · have:=mul_seg hNm (hf6.bgm k hk); omega
  obtain ⟨r, hr⟩:∃ r, doP L.per st.bg st.ea st.la d=r:=⟨_, rfl⟩
  rw [hr] at happ x7 ⊢
  have f07:Fr [il, i, jl, jw] H' H7:=(f6.mono (by simp)).trans f7
  have hj7':jw7=i∨jw7=jw∨H'.next≤jw7:=by
    have:=f6.next
    omega
  refine wIf_n (fun hne=>?_) (fun heq=>?_)
  · rw [if_pos hne] at happ
    have:=h H7 jw7 b c
    rw [happ] at this
    have hsh:shut L r.1={ L with closed:=true }:=by show ({ L with closed:=decide (r.1 ≠ 0) }:Lg)=_; rw [decide_eq_true hne]
    rw [hsh] at x7
    exact this x7 f07 hj7' (fun o e=>.inl e)
  · rw [if_neg (by simp [heq])] at happ
    have hn7:z ∉ [il, i, jl, jw]:=by simp; omega
    have a7:=ap6.own.fr f7 hn7
    refine ldP_at a7 rfl (ldI_at a7 rfl (ldL_at a7 rfl (ldI_at a7 rfl (ldI_at a7 rfl (ldI_at a7 rfl (ldI_at a7 rfl (ldI_at a7 rfl (ldB_at a7 rfl (wPt_at (wSt_at x7.lg.own (by simp) ?_))))))))))
    have f78:Fr [il] H7 (H7.set il (.row (lrow i cb' st.nx.chain.length 0 st.nx) 0)):=Fr.set1 H7 il _
    have:=h (H7.set il (.row (lrow i cb' st.nx.chain.length 0 st.nx) 0)) jw7 cb' 0
    rw [happ] at this
    have hch:∀ o, cb'=some ⟨o, 0, none⟩→H'.next≤o:=ow _ _ _ _ ap6.ch
    refine this ⟨⟨x7.lg.own.set _, ?_, fun o e=>by have:=hch o e; omega⟩, ⟨x7.dv.own.fr f78 (by simpa using Ne.symm x.ai), x7.dv.lasts.fr f78 (by simpa using Ne.symm x.al), fun hw=>(x7.dv.waits hw).fr f78 (by simpa using Ne.symm x7.aw), x7.dv.ne, x7.dv.emp, x7.dv.nw⟩, x7.ok, x.ai, x.al, x7.aw, fun o e=>?_⟩ (f07.set (.inl (by simp)) _) hj7' (fun o e=>.inr (hch o e))
    · refine ((ap6.ch.fr2 f7 (fun w hw=>?_)).fr2 f78 (fun w hw=>?_)).weak (Nat.zero_le _)
      · have:=(ap6.ch.low w hw).1; simp; omega
      · have:=(ap6.ch.low w hw).1; simp; omega
    · have h1:=hch o e
      have h2:o<H6.next:=(ap6.ch.low o (by rw [e]; simp [ownS])).2.1
      omega
end
end Go.Proofs.YtjhbbbcelnlnpaaGreatDoor
namespace Go.Proofs.YtjhbbbcelnlnpaaGreatDoor
open Go.Shelf
def Shl.lays125_ren:Go.Shelf.Ren:=⟨fun | 125=>65 | 128=>98 | 129=>99 | n=>n, fun | 46=>54 | 3=>3 | 51=>73 | 53=>31 | 4=>4 | 5=>5 | 9=>9 | n=>n, fun | n=>n⟩
theorem Shl.lays125:Go.Proofs.Lays.n125 Tryz.prog Shl.lays125_ren:={
  mixed:=by kernel_rfl
  f125:=Tryz.func65.trans (congrArg some (by kernel_rfl))
  f128:=Tryz.func98.trans (congrArg some (by kernel_rfl))
  f129:=Tryz.func99.trans (congrArg some (by kernel_rfl))
  t3:=Tryz.underlying3
  a3:=Tryz.isAgg3
  z3:=Tryz.sizeOf3
  v3:=Tryz.zeroValue3
  t4:=Tryz.underlying4
  a4:=Tryz.isAgg4
  z4:=Tryz.sizeOf4
  v4:=Tryz.zeroValue4
  t5:=Tryz.underlying5
  a5:=Tryz.isAgg5
  z5:=Tryz.sizeOf5
  v5:=Tryz.zeroValue5
  t9:=Tryz.underlying9
  a9:=Tryz.isAgg9
  z9:=Tryz.sizeOf9
  v9:=Tryz.zeroValue9
  t46:=Tryz.underlying54
  a46:=Tryz.isAgg54
  z46:=Tryz.sizeOf54
  v46:=Tryz.zeroValue54
  t51:=Tryz.underlying73
  a51:=Tryz.isAgg73
  z51:=Tryz.sizeOf73
  v51:=Tryz.zeroValue73
  t53:=Tryz.underlying31
  a53:=Tryz.isAgg31
  z53:=Tryz.sizeOf31
  v53:=Tryz.zeroValue31 }
theorem Shl.bits_Len (x:Int) (w:World) (h0:0≤x) (h1:x≤18446744073709551615) :
    Calls Tryz.prog 65 #[.int .u64 x] w fun e w'=>e=.returned (.int .i64 (Lib.bitLen x.toNat))∧w'=w:=Any.bits_Len Shl.lays125 x w h0 h1
end Go.Proofs.YtjhbbbcelnlnpaaGreatDoor
