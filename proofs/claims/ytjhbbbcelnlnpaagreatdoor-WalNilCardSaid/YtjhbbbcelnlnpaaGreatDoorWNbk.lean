/- The log: an append,walked: the loop over the bodies. -/
import Derived.Test.YtjhbbbcelnlnpaaGreatDoorWNbj
namespace Go.Proofs.YtjhbbbcelnlnpaaGreatDoor
open Go.RowKit

def RdStr (H:AH) (b:Option Addr) (n:Nat) (l:List ByteArray):Prop:=(b=none∧n=0∧l=[])∨∃ o cs,b=some ⟨o,0,none⟩∧Has H o (.row cs 1)∧n=l.length∧∀ k (h:k<l.length),cs[k]?=some (.string l[k])
theorem RdStr.len {H:AH} {b:Option Addr} {n:Nat} {l:List ByteArray} (h:RdStr H b n l):n=l.length:=by
  rcases h with ⟨_,rfl,rfl⟩ | ⟨_,_,_,_,h,_⟩
  · rfl
  · exact h
theorem RdStr.fr {S:List Nat} {H H':AH} {b:Option Addr} {n:Nat} {l:List ByteArray} (h:RdStr H b n l) (f:Fr S H H') (hs:∀ o,b=some ⟨o,0,none⟩→o ∉ S):RdStr H' b n l:=by
  rcases h with h | ⟨o,cs,h1,h2,h3⟩
  · exact .inl h
  · exact .inr ⟨o,cs,h1,h2.fr f (hs o h1),h3⟩
theorem app_row {e:TypeId} {c0 l c esz by_ q:Nat} {H:AH} {b:Option Addr} {cs new:List Value} {K:Option Addr→Nat→Nat→AH→Prop} (h:OwnC c0 H esz b l c cs) (hc0:c0≤H.next) (hq:Has H q (.row new esz))
    (hn:new.length=esz) (h1:(new.all oneCell)=true) (h2:(l + 1) * by_≤140737488355328) (h3:l + 1≤9223372036854775807)
    (hk:∀ o H',OwnC c0 H' esz (some ⟨o,0,none⟩) (l + 1) 0 (cs ++ new)→Fr (ownS b) H H'→H.next≤o→K (some ⟨o,0,none⟩) (l + 1) 0 H') :
    wAppL e esz by_ b l c (some ⟨q,0,none⟩) 1 0 H K:=by
  have hsc:=sliceCells_new H new esz 1 0 (by omega) hq
  rcases h with ⟨rfl,rfl,rfl,rfl⟩ | ⟨o,rfl,rfl,hl,ho,hb⟩
  · refine wAppL_nil (n:=0) hsc (by omega) h1 (by omega) (by omega) ?_
    exact hk _ _ (.inr ⟨_,rfl,rfl,by rw [List.nil_append]; omega,by rw [List.nil_append]; exact Has.newT _ _ _,by omega⟩) ((Fr.refl _ _).pushT _ _) (Nat.le_refl _)
  · refine wAppL_own ho hl hsc (by omega) h1 h2 h3 (hk _ _ (.inr ⟨_,rfl,rfl,?_,Has.newT (H.drop o) _ _,by show c0≤H.next; omega⟩) (((Fr.refl _ _).drop (.inl (by simp [ownS]))).pushT _ _) (Nat.le_refl _))
    rw [List.length_append,← hl,hn,Nat.add_mul]; omega
theorem wSl_at {i k len esz:Nat} {lo hi:Int} {H:AH} {cs:List Value} {K:Option Addr→Nat→Nat→Prop} (h0:0≤lo) (h1:lo≤hi) (h2:hi≤len) (ho:Has H i (.row cs esz)) (hl:k + len * esz≤cs.length) (hk:K (some ⟨i,k + lo.toNat * esz,none⟩) (hi - lo).toNat 0) :
    wSl esz (some ⟨i,k,none⟩) len 0 lo hi H K:=⟨h0,h1,h2,rfl,⟨cs,.inl ho.get,hl⟩,hk⟩
theorem frs_head {c0:Nat} {H:AH} {b:Option Addr} {n:Nat} {l:List Nat} (h:FrS c0 H b n l) (hl:2≤l.length):∃ o k cs,b=some ⟨o,k,none⟩∧Has H o (.row cs 1)∧c0≤o∧cs[k + Int.toNat 0 * 1]?=some (.int .i64 ((l.headD 0:Nat):Int)) ∧
    cs.drop (k + 1)=ints l.tail∧k + n * 1≤cs.length:=by
  rcases h with ⟨_,_,rfl⟩ | ⟨o,k,cs,rfl,ho,hc,hd,hk,rfl⟩
  · simp at hl
  · cases l with
    | nil=>simp at hl
    | cons f l =>
      refine ⟨o,k,cs,rfl,ho,hc,?_,?_,?_⟩
      · have:(cs.drop k)[0]?=(ints (f :: l))[0]?:=by rw [hd]
        rw [List.getElem?_drop] at this
        exact this
      · have:(cs.drop k).drop 1=(ints (f :: l)).drop 1:=by rw [hd]
        rw [List.drop_drop] at this
        exact this
      · have:=congrArg List.length hd
        rw [List.length_drop,ints_length] at this
        omega
theorem last_getD (l:List Nat):l.getD (l.length - 1) 0=l.getLastD 0:=by
  rw [List.getLastD_eq_getLast?,List.getLast?_eq_getElem?,List.getD_eq_getElem?_getD]
theorem PinOK_1 {H:AH} {o k:Nat} {cs:List Value} {e:Nat} {v:Value} (h:Has H o (.row cs e)) (hc:cs[k]?=some v):PinOK o k [v] H:=by
  obtain ⟨hlt,rfl⟩:=List.getElem?_eq_some_iff.1 hc
  refine PinOK_at h (by show k + 1≤_; omega) ?_
  rw [List.drop_eq_getElem_cons hlt]; rfl
attribute [local irreducible] secsN putH putU apBytes apHead
set_option maxRecDepth 20000 in
set_option maxHeartbeats 2000000 in
theorem append_loop {H0 H:AH} {R:AEnd→AH→Prop} {il i jl jw iN N C:Nat} {b:Option Addr} {c:Nat} {L:Lg} {d:Dev} (x0:LD H0 il i jl jw b c L d) (hb1:1≤L.base) (hbN:L.base<4294967296) (hN:N * L.per≤4096) (hp2:2≤L.per) (hpB:L.per≤4096) (hC:C≤5000000000)
    {bb:Option Addr} {bc:Nat} {bs:List ByteArray} (hbr:RdStr H0 bb bs.length bs) (hlong:∀ x ∈ bs,longP L.per x=false) (hcount:bs.length≤100000) (f0:Fr [] H0 H)
    {st0:Ast} {cb0 fb0:Option Addr} {fl0:Nat} (hbg:st0.bg=[]) (hea:st0.ea=[]) (hla:st0.la=[]) (a0:Ap H H0.next iN i cb0 st0.nx fb0 fl0 st0.fr none 0 [] none 0 [] none 0 []) (hf0:ApF L N C 0 st0)
    (hfail:apN bs st0=none→∀ H',Fr [] H0 H'→R (.ret (.int .i64 11)) H')
    (hdone:∀ (st:Ast) (cb fb:Option Addr) (fl:Nat) (bb':Option Addr) (bl:Nat) (eb:Option Addr) (el:Nat) (lb:Option Addr) (ll:Nat) (H':AH),apN bs st0=some st→Ap H' H0.next iN i cb st.nx fb fl st.fr bb' bl st.bg eb el st.ea lb ll st.la→ApF L N C bs.length st→Fr [] H0 H' →
      f18_J10_B (some ⟨il,0,none⟩) bs.length iN bb' bl 0 eb el 0 lb ll 0 H' R) :
    (∀ (Aa:Option Addr) (Ab:Nat) (Ac Ad Ae Af Ag Au Av Aw Ax Ay Az A0 A1 A2 A3 A4 A5 A6 A7 A8 A9 AA AB AC AD AE AF AG AI AJ AK AL AM AN AO AP AQ AR AS AT AU AV AX AY AZ Ba Bb Bc Bd Be Bf Bg Bh Bi Bj Bk Bl Bm Bn Bo Bp Bq Br Bs Bt Bu Bv Bw Bx By Bz B0 B1 B2 B3 B4 B5 B6 B7 B8 B9 BA BB BC BD BE BF BG BH BI BJ BK BL BM BN BO BP BQ BR BS BT BU BV BW BX BY BZ Ca Cb Cc Cd Ce Cf Cg Ch Ci Cj Ck Cl Cm Cn Co Cp Cq Cr Cs Ct Cu Cv Cw Cx Cy Cz C0 C1 C2 C3 C4 C5 C6 C7 C8 C9 CA CB CC CD CE CF CG CH CI CJ CK CL CM CN CO CP CQ CR CS CT CU CV CW CX CY CZ Da Db Dc Dd De Df Dg Dh Di Dj Dk Dl Dm Dn Do Dp Dq Dr Ds Dt Du Dv:Value),f18_L1 R [(.pointer (some ⟨il,0,none⟩)),(.slice Aa (bs.length) Ab),Ac,Ad,Ae,Af,Ag,(.pointer (some ⟨(iN),0,none⟩)),(.slice (fb0) (fl0) (0)),(.slice (none) (0) (0)),(.slice (none) (0) (0)),(.slice (none) (0) (0)),Au,Av,Aw,Ax,Ay,Az,A0,A1,A2,A3,A4,A5,A6,A7,A8,A9,AA,AB,AC,AD,AE,AF,AG,AI,AJ,AK,AL,AM,AN,AO,AP,AQ,AR,AS,AT,AU,AV,(.slice (bb) (bs.length) (bc)),(.int .i64 ((bs.length:Int))),(.int .i64 (0)),AX,AY,AZ,Ba,Bb,Bc,Bd,Be,Bf,Bg,Bh,Bi,Bj,Bk,Bl,Bm,Bn,Bo,Bp,Bq,Br,Bs,Bt,Bu,Bv,Bw,Bx,By,Bz,B0,B1,B2,B3,B4,B5,B6,B7,B8,B9,BA,BB,BC,BD,BE,BF,BG,BH,BI,BJ,BK,BL,BM,BN,BO,BP,BQ,BR,BS,BT,BU,BV,BW,BX,BY,BZ,Ca,Cb,Cc,Cd,Ce,Cf,Cg,Ch,Ci,Cj,Ck,Cl,Cm,Cn,Co,Cp,Cq,Cr,Cs,Ct,Cu,Cv,Cw,Cx,Cy,Cz,C0,C1,C2,C3,C4,C5,C6,C7,C8,C9,CA,CB,CC,CD,CE,CF,CG,CH,CI,CJ,CK,CL,CM,CN,CO,CP,CQ,CR,CS,CT,CU,CV,CW,CX,CY,CZ,Da,Db,Dc,Dd,De,Df,Dg,Dh,Di,Dj,Dk,Dl,Dm,Dn,Do,Dp,Dq,Dr,Ds,Dt,Du,Dv] H):=by
  intro Aa Ab Ac Ad Ae Af Ag Au Av Aw Ax Ay Az A0 A1 A2 A3 A4 A5 A6 A7 A8 A9 AA AB AC AD AE AF AG AI AJ AK AL AM AN AO AP AQ AR AS AT AU AV AX AY AZ Ba Bb Bc Bd Be Bf Bg Bh Bi Bj Bk Bl Bm Bn Bo Bp Bq Br Bs Bt Bu Bv Bw Bx By Bz B0 B1 B2 B3 B4 B5 B6 B7 B8 B9 BA BB BC BD BE BF BG BH BI BJ BK BL BM BN BO BP BQ BR BS BT BU BV BW BX BY BZ Ca Cb Cc Cd Ce Cf Cg Ch Ci Cj Ck Cl Cm Cn Co Cp Cq Cr Cs Ct Cu Cv Cw Cx Cy Cz C0 C1 C2 C3 C4 C5 C6 C7 C8 C9 CA CB CC CD CE CF CG CH CI CJ CK CL CM CN CO CP CQ CR CS CT CU CV CW CX CY CZ Da Db Dc Dd De Df Dg Dh Di Dj Dk Dl Dm Dn Do Dp Dq Dr Ds Dt Du Dv
  refine f18_L1_rule (J:=fun m Ah Aj Ai Ak Am Al An Aq Ao Ar At As AW H'=>∃ (k:Nat) (st:Ast) (cb:Option Addr),AW=(k:Int)∧k≤bs.length∧m=bs.length - k∧Ai=0∧Al=0∧Ao=0∧As=0∧apN bs st0=apN (bs.drop k) st ∧
      Ap H' H0.next iN i cb st.nx Ah Aj st.fr Ak Am st.bg An Aq st.ea Ar At st.la∧ApF L N C k st∧Fr [] H0 H') bs.length ⟨0,st0,cb0,rfl,Nat.zero_le _,rfl,rfl,rfl,rfl,rfl,rfl,by rw [hbg,hea,hla]; exact a0,hf0,f0⟩ ?_
  rintro m Ah Aj Ai Ak Am Al An Aq Ao Ar At As AW H1 ⟨k,st,cb1,rfl,hk,rfl,rfl,rfl,rfl,rfl,hap,ap1,hf1,f1⟩
  intros
  by_cases hlt:k<bs.length
  rotate_left
  · have hkk:k=bs.length:=by omega
    subst hkk
    rw [List.drop_length] at hap
    unfold f18_R1
    refine wIf_df (by omega) ?_
    rw [f18_J10_eq]
    exact hdone st cb1 _ _ _ _ _ _ _ _ H1 hap ap1 hf1 f1
  obtain ⟨bd,hbd⟩:∃ bd,bs[k]=bd:=⟨_,rfl⟩
  have hdr:bs.drop k=bd :: bs.drop (k + 1):=by rw [List.drop_eq_getElem_cons hlt,hbd]
  have hlb:longP L.per bd=false:=hlong bd (by rw [← hbd]; exact List.getElem_mem _)
  have hstep:apN (bs.drop k) st=if apNeed st bd=true then (if apFull st=true then none else apN (bs.drop (k + 1)) (apUnit (apSeg st) bd)) else apN (bs.drop (k + 1)) (apUnit st bd):=by rw [hdr]; rfl
  have round:∀ K:List Value→AH→Prop,
      (∀ (st':Ast) (cb fb:Option Addr) (fl:Nat) (bb':Option Addr) (bl:Nat) (eb:Option Addr) (el:Nat) (lb:Option Addr) (ll:Nat) (H':AH),apN (bs.drop k) st=apN (bs.drop (k + 1)) st'→Ap H' H0.next iN i cb st'.nx fb fl st'.fr bb' bl st'.bg eb el st'.ea lb ll st'.la→ApF L N C (k + 1) st'→Fr [] H0 H' →
        (∀ (Ae Av Aw Ax Ay Az A0 AX AY AZ Ba Bb Bc Bd Be Bf Bg Bh Bi Bj Bk Bl Bm Bn Bo Bp Bq Br Bs Bt Bu Bv Bw Bx By Bz B0 B1 B2 B3 B4 B5 B6 B7 B8 B9 BA BB BC BD BE BF BG BH BI BJ BK BL BM BN BO BP BQ BR BS BT BU BV BW BX BY BZ Ca Cb Cc Cd Ce Cf Cg Ch Ci Cj Ck Cl Cm Cn Co Cp Cq Cr Cs Ct Cu Cv Cw Cx Cy Cz C0 C1 C2 C3 C4 C5 C6 C7 C8 C9 CA CB CC CD CE CF CG CH CI CJ CK CL CM CN CO CP CQ CR CS CT CU CV CW CX CY CZ Da Db Dc Dd De Df Dg Dh:Value),K [(.pointer (some ⟨il,0,none⟩)),(.slice Aa (bs.length) Ab),Ac,Ad,Ae,Af,Ag,(.pointer (some ⟨(iN),0,none⟩)),(.slice (fb) (fl) (0)),(.slice (bb') (bl) (0)),(.slice (eb) (el) (0)),(.slice (lb) (ll) (0)),Au,Av,Aw,Ax,Ay,Az,A0,A1,A2,A3,A4,A5,A6,A7,A8,A9,AA,AB,AC,AD,AE,AF,AG,AI,AJ,AK,AL,AM,AN,AO,AP,AQ,AR,AS,AT,AU,AV,(.slice (bb) (bs.length) (bc)),(.int .i64 ((bs.length:Int))),(.int .i64 (IntKind.i64.wrap ((k:Int) + 1))),AX,AY,AZ,Ba,Bb,Bc,Bd,Be,Bf,Bg,Bh,Bi,Bj,Bk,Bl,Bm,Bn,Bo,Bp,Bq,Br,Bs,Bt,Bu,Bv,Bw,Bx,By,Bz,B0,B1,B2,B3,B4,B5,B6,B7,B8,B9,BA,BB,BC,BD,BE,BF,BG,BH,BI,BJ,BK,BL,BM,BN,BO,BP,BQ,BR,BS,BT,BU,BV,BW,BX,BY,BZ,Ca,Cb,Cc,Cd,Ce,Cf,Cg,Ch,Ci,Cj,Ck,Cl,Cm,Cn,Co,Cp,Cq,Cr,Cs,Ct,Cu,Cv,Cw,Cx,Cy,Cz,C0,C1,C2,C3,C4,C5,C6,C7,C8,C9,CA,CB,CC,CD,CE,CF,CG,CH,CI,CJ,CK,CL,CM,CN,CO,CP,CQ,CR,CS,CT,CU,CV,CW,CX,CY,CZ,Da,Db,Dc,Dd,De,Df,Dg,Dh,Di,Dj,Dk,Dl,Dm,Dn,Do,Dp,Dq,Dr,Ds,Dt,Du,Dv] H')) →
      (∀ (Ae Av Aw Ax Ay Az A0 AX AY AZ Ba Bb Bc Bd Be Bf Bg Bh Bi Bj Bk Bl Bm Bn Bo Bp Bq Br Bs Bt Bu Bv Bw Bx By Bz B0 B1 B2 B3 B4 B5 B6 B7 B8 B9 BA BB BC BD BE BF BG BH BI BJ BK BL BM BN BO BP BQ BR BS BT BU BV BW BX BY BZ Ca Cb Cc Cd Ce Cf Cg Ch Ci Cj Ck Cl Cm Cn Co Cp Cq Cr Cs Ct Cu Cv Cw Cx Cy Cz C0 C1 C2 C3 C4 C5 C6 C7 C8 C9 CA CB CC CD CE CF CG CH CI CJ CK CL CM CN CO CP CQ CR CS CT CU CV CW CX CY CZ Da Db Dc Dd De Df Dg Dh:Value),f18_R1 (some ⟨il,0,none⟩) Aa (bs.length) Ab Ac Ad Ae Af Ag (iN) (Ah) (Aj) (0) (Ak) (Am) (0) (An) (Aq) (0) (Ar) (At) (0) Au Av Aw Ax Ay Az A0 A1 A2 A3 A4 A5 A6 A7 A8 A9 AA AB AC AD AE AF AG AI AJ AK AL AM AN AO AP AQ AR AS AT AU AV (bb) (bs.length) (bc) ((bs.length:Int)) ((k:Int)) AX AY AZ Ba Bb Bc Bd Be Bf Bg Bh Bi Bj Bk Bl Bm Bn Bo Bp Bq Br Bs Bt Bu Bv Bw Bx By Bz B0 B1 B2 B3 B4 B5 B6 B7 B8 B9 BA BB BC BD BE BF BG BH BI BJ BK BL BM BN BO BP BQ BR BS BT BU BV BW BX BY BZ Ca Cb Cc Cd Ce Cf Cg Ch Ci Cj Ck Cl Cm Cn Co Cp Cq Cr Cs Ct Cu Cv Cw Cx Cy Cz C0 C1 C2 C3 C4 C5 C6 C7 C8 C9 CA CB CC CD CE CF CG CH CI CJ CK CL CM CN CO CP CQ CR CS CT CU CV CW CX CY CZ Da Db Dc Dd De Df Dg Dh Di Dj Dk Dl Dm Dn Do Dp Dq Dr Ds Dt Du Dv (H1) (K) R):=by
    intro K hK
    -- the end of a round
    have J9:∀ (st1:Ast) (cb fb:Option Addr) (fl:Nat) (bb':Option Addr) (bl:Nat) (eb:Option Addr) (el:Nat) (lb:Option Addr) (ll:Nat) (H2:AH),apN (bs.drop k) st=apN (bs.drop (k + 1)) (apUnit st1 bd)→ApF L N C (k + 1) (apUnit st1 bd)→st1.nx.seq<18446744073709551616 →
        Ap H2 H0.next iN i cb st1.nx fb fl st1.fr bb' bl st1.bg eb el (apUnit st1 bd).ea lb ll st1.la→Fr [] H0 H2 →
        (∀ (Ae Aw Ax Az AX AY AZ Ba Bb Bc Bd Be Bf Bg Bh Bi Bj Bk Bl Bm Bn Bo Bp Bq Br Bs Bt Bu Bv Bw Bx By Bz B0 B1 B2 B3 B4 B5 B6 B7 B8 B9 BA BB BC BD BE BF BG BH BI BJ BK BL BM BN BO BP BQ BR BS BT BU BV BW BX BY BZ Ca Cb Cc Cd Ce Cf Cg Ch Ci Cj Ck Cl Cm Cn Co Cp Cq Cr Cs Ct Cu Cv Cw Cx Cy Cz C0 C1 C2 C3 C4 C5 C6 C7 C8 C9 CA CB CC CD CE CF CG CH CI CJ CK CL CM CN CO:Value),f18_J9_B (some ⟨il,0,none⟩) Aa (bs.length) Ab Ac Ad Ae Af Ag (iN) (fb) (fl) (0) (bb') (bl) (0) (eb) (el) (0) (lb) (ll) (0) Au (bd) Aw Ax (apBytes st1 bd) Az ((apAt st1:Int)) A1 A2 A3 A4 A5 A6 A7 A8 A9 AA AB AC AD AE AF AG AI AJ AK AL AM AN AO AP AQ AR AS AT AU AV (bb) (bs.length) (bc) ((bs.length:Int)) ((k:Int)) AX AY AZ Ba Bb Bc Bd Be Bf Bg Bh Bi Bj Bk Bl Bm Bn Bo Bp Bq Br Bs Bt Bu Bv Bw Bx By Bz B0 B1 B2 B3 B4 B5 B6 B7 B8 B9 BA BB BC BD BE BF BG BH BI BJ BK BL BM BN BO BP BQ BR BS BT BU BV BW BX BY BZ Ca Cb Cc Cd Ce Cf Cg Ch Ci Cj Ck Cl Cm Cn Co Cp Cq Cr Cs Ct Cu Cv Cw Cx Cy Cz C0 C1 C2 C3 C4 C5 C6 C7 C8 C9 CA CB CC CD CE CF CG CH CI CJ CK CL CM CN CO Di Dj Dk Dl Dm Dn Do Dp Dq Dr Ds Dt Du Dv (H2) (K) R):=by
      intro st1 cb fb fl bb' bl eb el lb ll H2 hU hq u6 ap2 f2
      intros
      unfold f18_J9_B
      obtain ⟨z1,z2,z3⟩:=apBytes_size (st:=st1) hlb
      have hall:(st1.la ++ [(apAt st1,(apBytes st1 bd).extract 0 64)]).length=k + 1:=hq.lal
      rw [List.length_append] at hall
      have hall:st1.la.length=k:=by simpa using hall
      have hll:=ap2.lat.len
      rw [wcells_length] at hll
      have hc0:=f2.next
      have hatp:st1.nx.at_ + secsN (bd.size:Int)≤L.per:=hq.atp
      refine wSlS_at (by omega) (by omega) (by omega) ?_
      refine app1 ap2.lat hc0 rfl rfl (by omega) (by omega) (fun o H3 hown f23 ho=>?_)
      have hown':OwnC H0.next H3 2 (some ⟨o,0,none⟩) (ll + 1) 0 (wcells (apUnit st1 bd).la):=by
        have e:wcells (apUnit st1 bd).la=wcells st1.la ++ [.int .i64 (apAt st1:Int),.string ((apBytes st1 bd).extract (Int.toNat 0) (Int.toNat 64))]:=(wcells_snoc _ _ _).symm
        rw [e]; exact hown
      have ap3:=ap2.latA hown' f23 ho
      have f3:Fr [] H0 H3:=f2.trans' f23 (fun z hz=>.inr ((ap2.lat.low z hz).1))
      refine ldI_at ap3.own rfl (ldI_at ap3.own rfl (wCall_of (sectors_call _ (opI_at ⟨PinOK_at ap3.own (by simp) rfl,PinOK_at ap3.own (by simp) rfl,wSt_at ap3.own (by simp) ?_⟩))))
      have e1:=wu1 _ u6
      have e2:IntKind.i64.wrap ((st1.nx.at_:Int) + ((secsN (bd.size:Int):Nat):Int))=((st1.nx.at_ + secsN (bd.size:Int):Nat):Int):=by rw [wi _ (by omega) (by omega)]; push_cast; rfl
      rw [e1,e2]
      have ap4:=ap3.setN (k:=6) (vs:=[.int .u64 (((st1.nx.seq + 1) % 18446744073709551616:Nat):Int)]) (nx':={ st1.nx with seq:=(st1.nx.seq + 1) % 18446744073709551616 }) rfl rfl
      refine wSt_at ap4.own (by simp) ?_
      have ap5:=ap4.setN (k:=7) (vs:=[.int .i64 ((st1.nx.at_ + secsN (bd.size:Int):Nat):Int)]) (nx':=(apUnit st1 bd).nx) rfl rfl
      have hlow:=ap3.low
      exact hK (apUnit st1 bd) cb fb fl bb' bl eb el _ _ _ hU ap5 hq ((f3.set (.inr hlow) _).set (.inr hlow) _) ..
    have J8:∀ (st1:Ast) (cb fb:Option Addr) (fl:Nat) (bb':Option Addr) (bl:Nat) (eb:Option Addr) (el:Nat) (lb:Option Addr) (ll:Nat) (H2:AH),apN (bs.drop k) st=apN (bs.drop (k + 1)) (apUnit st1 bd)→ApF L N C (k + 1) (apUnit st1 bd)→st1.nx.seq<18446744073709551616→st1.ea.length≤1000000→apAt st1≤4096 →
        Ap H2 H0.next iN i cb st1.nx fb fl st1.fr bb' bl st1.bg eb el st1.ea lb ll st1.la→Fr [] H0 H2 →
        (∀ (Ae Aw Ax Az AX AY AZ Ba Bb Bc Bd Be Bf Bg Bh Bi Bj Bk Bl Bm Bn Bo Bp Bq Br Bs Bt Bu Bv Bw Bx By Bz B0 B1 B2 B3 B4 B5 B6 B7 B8 B9 BA BB BC BD BE BF BG BH BI BJ BK BL BM BN BO BP BQ BR BS BT BU BV BW BX BY BZ Ca Cb Cc Cd Ce Cf Cg Ch Ci Cj Ck Cl Cm Cn Co Cp Cq Cr Cs Ct Cu Cv Cw Cx Cy Cz C0 C1 C2 C3 C4 C5 C6 C7 C8 C9 CA CB CC CD CH CI CJ CK CL CM CN CO CP CQ CR CS CT CU CV CW CX CY CZ Da Db Dc Dd De Df Dg Dh:Value),f18_J8_B (some ⟨il,0,none⟩) Aa (bs.length) Ab Ac Ad Ae Af Ag (iN) (fb) (fl) (0) (bb') (bl) (0) (eb) (el) (0) (lb) (ll) (0) Au (bd) Aw Ax (apBytes st1 bd) Az ((apAt st1:Int)) A1 A2 A3 A4 A5 A6 A7 A8 A9 AA AB AC AD AE AF AG AI AJ AK AL AM AN AO AP AQ AR AS AT AU AV (bb) (bs.length) (bc) ((bs.length:Int)) ((k:Int)) AX AY AZ Ba Bb Bc Bd Be Bf Bg Bh Bi Bj Bk Bl Bm Bn Bo Bp Bq Br Bs Bt Bu Bv Bw Bx By Bz B0 B1 B2 B3 B4 B5 B6 B7 B8 B9 BA BB BC BD BE BF BG BH BI BJ BK BL BM BN BO BP BQ BR BS BT BU BV BW BX BY BZ Ca Cb Cc Cd Ce Cf Cg Ch Ci Cj Ck Cl Cm Cn Co Cp Cq Cr Cs Ct Cu Cv Cw Cx Cy Cz C0 C1 C2 C3 C4 C5 C6 C7 C8 C9 CA CB CC CD CH CI CJ CK CL CM CN CO CP CQ CR CS CT CU CV CW CX CY CZ Da Db Dc Dd De Df Dg Dh Di Dj Dk Dl Dm Dn Do Dp Dq Dr Ds Dt Du Dv (H2) (K) R):=by
      intro st1 cb fb fl bb' bl eb el lb ll H2 hU hq u6 u7 u8 ap2 f2
      intros
      unfold f18_J8_B
      have hea:(apUnit st1 bd).ea=if 64<(apBytes st1 bd).size then st1.ea ++ [(apAt st1 + 1,(apBytes st1 bd).extract 64 (apBytes st1 bd).size)] else st1.ea:=rfl
      have hll:=ap2.ear.len
      rw [wcells_length] at hll
      have hc0:=f2.next
      refine wIf_d (fun hgt=>?_) (fun hgt=>?_)
      · rw [if_pos (by omega)] at hea
        have e1:IntKind.i64.wrap ((apAt st1:Int) + 1)=((apAt st1 + 1:Nat):Int):=wi1 _ (by omega)
        rw [e1]
        refine wSlS_at (by omega) (by omega) (by omega) ?_
        refine app1 ap2.ear hc0 rfl rfl (by omega) (by omega) (fun o H3 hown f23 ho=>?_)
        have hown':OwnC H0.next H3 2 (some ⟨o,0,none⟩) (el + 1) 0 (wcells (apUnit st1 bd).ea):=by
          rw [hea,← wcells_snoc]; exact hown
        have ap3:=ap2.earA hown' f23 ho
        have f3:Fr [] H0 H3:=f2.trans' f23 (fun z hz=>.inr ((ap2.ear.low z hz).1))
        rw [f18_J9_eq]
        exact J9 st1 cb fb fl bb' bl _ _ lb ll H3 hU hq u6 ap3 f3 ..
      · rw [if_neg (by omega)] at hea
        rw [f18_J9_eq]
        exact J9 st1 cb fb fl bb' bl eb el lb ll H2 hU hq u6 (by rw [hea]; exact ap2) f2 ..
    have J7:∀ (st1:Ast) (cb fb:Option Addr) (fl:Nat) (bb':Option Addr) (bl:Nat) (eb:Option Addr) (el:Nat) (lb:Option Addr) (ll:Nat) (H2:AH),apN (bs.drop k) st=apN (bs.drop (k + 1)) (apUnit st1 bd)→ApF L N C (k + 1) (apUnit st1 bd)→st1.nx.seq<18446744073709551616→st1.ea.length≤1000000 →
        Ap H2 H0.next iN i cb st1.nx fb fl st1.fr bb' bl st1.bg eb el st1.ea lb ll st1.la→Fr [] H0 H2 →
        (∀ (Ae Aw Ax AX AY AZ Ba Bb Bc Bd Be Bf Bg Bh Bi Bj Bk Bl Bm Bn Bo Bp Bq Br Bs Bt Bu Bv Bw Bx By Bz B0 B1 B2 B3 B4 B5 B6 B7 B8 B9 BA BB BC BD BE BF BG BH BI BJ BK BL BM BN BO BP BQ BR BS BT BU BV BW BX BY BZ Ca Cb Cc Cd Ce Cf Cg Ch Ci Cj Ck Cl Cm Cn CE CF CG CH CI CJ CK CL CM CN CO CP CQ CR CS CT CU CV CW CX CY CZ Da Db Dc Dd De Df Dg Dh:Value),f18_J7_B (some ⟨il,0,none⟩) Aa (bs.length) Ab Ac Ad Ae Af Ag (iN) (fb) (fl) (0) (bb') (bl) (0) (eb) (el) (0) (lb) (ll) (0) Au (bd) Aw Ax A1 A2 A3 A4 A5 A6 A7 A8 A9 AA AB AC AD AE AF AG AI AJ AK AL AM AN AO AP AQ AR AS AT AU AV (bb) (bs.length) (bc) ((bs.length:Int)) ((k:Int)) AX AY AZ Ba Bb Bc Bd Be Bf Bg Bh Bi Bj Bk Bl Bm Bn Bo Bp Bq Br Bs Bt Bu Bv Bw Bx By Bz B0 B1 B2 B3 B4 B5 B6 B7 B8 B9 BA BB BC BD BE BF BG BH BI BJ BK BL BM BN BO BP BQ BR BS BT BU BV BW BX BY BZ Ca Cb Cc Cd Ce Cf Cg Ch Ci Cj Ck Cl Cm Cn CE CF CG CH CI CJ CK CL CM CN CO CP CQ CR CS CT CU CV CW CX CY CZ Da Db Dc Dd De Df Dg Dh Di Dj Dk Dl Dm Dn Do Dp Dq Dr Ds Dt Du Dv (H2) (K) R):=by
      intro st1 cb fb fl bb' bl eb el lb ll H2 hU hq u6 u7 ap2 f2
      intros
      unfold f18_J7_B
      have hls:st1.nx.last≤st1.nx.serial:=hq.las
      have hsr:st1.nx.serial<4294967296:=hq.ser
      have hcne:st1.nx.chain ≠ []:=hq.cne
      have hchm:∀ z ∈ st1.nx.chain,z<N:=hq.chm
      have hpe:st1.nx.per=L.per:=hq.per
      have hatp:st1.nx.at_ + secsN (bd.size:Int)≤L.per:=hq.atp
      obtain ⟨z1,z2,z3⟩:=apBytes_size (st:=st1) hlb
      refine ldI_at ap2.own rfl (ldI_at ap2.own rfl (wCall_of (put_call st1.nx.last st1.nx.seq 2 bd (by omega) u6 (fun H3 f23=>opT_at rfl (opS_at (opI_at ?_))))))
      have ap3:=ap2.frm f23
      have f3:=f2.trans f23
      have x3:=x0.fr f3
      refine wPt_at (ldL_at ap3.own rfl (ldL_at ap3.own rfl ?_))
      have hpos:1≤st1.nx.chain.length:=by
        have:=List.length_pos_iff.2 hcne; omega
      rcases ap3.ch with ⟨rfl,e,_⟩ | ⟨oc,rfl,_,hcl,hoc,_⟩
      · omega
      have hbound:st1.nx.chain.length≤5000000000:=by have:st1.nx.chain.length + st1.fr.length=C:=hq.cnt; omega
      have ei:IntKind.i64.wrap ((st1.nx.chain.length:Int) - 1)=((st1.nx.chain.length - 1:Nat):Int):=by rw [wi _ (by omega) (by omega)]; omega
      rw [ei]
      have hg:(ints st1.nx.chain)[0 + Int.toNat ((st1.nx.chain.length - 1:Nat):Int) * 1]?=some (.int .i64 ((st1.nx.chain.getLastD 0:Nat):Int)):=by
        have:=ints_at st1.nx.chain (st1.nx.chain.length - 1) (by omega)
        rw [last_getD] at this
        rw [← this]; congr 1; omega
      have hlm:=hchm _ (getLastD_mem hcne)
      have hms:=mul_seg hN hlm
      refine wIx_at (by omega) (by omega) (ldI_at hoc hg (ldI_at x3.lg.own rfl (ldI_at ap3.own rfl ?_)))
      have ea:IntKind.i64.wrap (IntKind.i64.wrap (((st1.nx.chain.getLastD 0:Nat):Int) * (L.per:Int)) + (st1.nx.at_:Int))=(apAt st1:Int):=by
        have e:((st1.nx.chain.getLastD 0:Nat):Int) * (L.per:Int)=((st1.nx.chain.getLastD 0 * L.per:Nat):Int):=by push_cast; rfl
        rw [e]
        unfold apAt
        rw [hpe]
        generalize st1.nx.chain.getLastD 0 * L.per=z at hms ⊢
        rw [wi (z:Int) (by omega) (by omega),wi _ (by omega) (by omega)]; push_cast; rfl
      rw [ea]
      have hun:(putU st1.nx.last st1.nx.seq 2 bd).1=apBytes st1 bd:=by unfold apBytes; rfl
      rw [hun]
      have u8:apAt st1≤4096:=by unfold apAt; rw [hpe]; omega
      rw [f18_J8_eq]
      exact J8 st1 (some ⟨oc,0,none⟩) fb fl bb' bl eb el lb ll H3 hU hq u6 u7 u8 ap3 f3 ..
    -- a segment is begun
    have hlen1:=ap1.fre.len
    have hful:apFull st=false→2≤st.fr.length∧st.nx.serial ≠ 4294967295:=by
      intro h; unfold apFull at h; simp only [Bool.or_eq_false_iff,decide_eq_false_iff_not] at h; exact ⟨by omega,h.2⟩
    have hper:st.nx.per=L.per:=hf1.per
    have heal:=hf1.eal
    have hcnt1:=hf1.cnt
    have hbgn1:=hf1.bgn
    have J6:apNeed st bd=true→apFull st=false→∀ (cb bb':Option Addr) (bl:Nat) (eb:Option Addr) (el:Nat) (H2:AH),Ap H2 H0.next iN i cb (apSeg st).nx Ah Aj st.fr bb' bl (apSeg st).bg eb el (apSeg st).ea Ar At st.la→Fr [] H0 H2→(∀ (Ae Aw Ax Ay Az A0 AX AY AZ Ba Bb Bc Bd Be Bf Bg Bh Bi Bj Bk Bl Bm Bn Bo Bp Bq Br Bs Bt Bu Bv Bw Bx By Bz B0 B1 B2 B3 B4 B5 B6 B7 B8 B9 BA BB BC BD BE BF BG BH BI BJ BK BL BM BN BO BP BQ BR BS BT BU BV BW BX BY BZ Ca Cb Cc Cd Ce Cf Cg Ch Ci Cj Ck Cl Co Cp Cq Cr Cs Ct Cu Cv Cw Cx Cy Cz C0 C1 C2 C3 C4 C5 C6 C7 C8 C9 CA CB CC CD CE CF CG CH CI CJ CK CL CM CN CO CP CQ CR CS CT CU CV CW CX CY CZ Da Db Dc Dd De Df Dg Dh:Value),f18_J6_B (some ⟨il,0,none⟩) Aa (bs.length) Ab Ac Ad Ae Af Ag (iN) (Ah) (Aj) (0) (bb') (bl) (0) (eb) (el) (0) (Ar) (At) (0) Au (bd) Aw Ax Ay Az A0 A1 A2 A3 A4 A5 A6 A7 A8 A9 AA AB AC AD AE AF AG AI AJ AK AL AM AN AO AP AQ AR AS AT AU AV (bb) (bs.length) (bc) ((bs.length:Int)) ((k:Int)) AX AY AZ Ba Bb Bc Bd Be Bf Bg Bh Bi Bj Bk Bl Bm Bn Bo Bp Bq Br Bs Bt Bu Bv Bw Bx By Bz B0 B1 B2 B3 B4 B5 B6 B7 B8 B9 BA BB BC BD BE BF BG BH BI BJ BK BL BM BN BO BP BQ BR BS BT BU BV BW BX BY BZ Ca Cb Cc Cd Ce Cf Cg Ch Ci Cj Ck Cl Co Cp Cq Cr Cs Ct Cu Cv Cw Cx Cy Cz C0 C1 C2 C3 C4 C5 C6 C7 C8 C9 CA CB CC CD CE CF CG CH CI CJ CK CL CM CN CO CP CQ CR CS CT CU CV CW CX CY CZ Da Db Dc Dd De Df Dg Dh Di Dj Dk Dl Dm Dn Do Dp Dq Dr Ds Dt Du Dv (H2) (K) R):=by
      intro hn hfu cb bb' bl eb el H2 ap2 f2
      intros
      unfold f18_J6_B
      obtain ⟨o,kk,cs,e,ho,hc,hg,hd,hln⟩:=frs_head ap2.fre (hful hfu).1
      have h2:=(hful hfu).1
      subst e
      refine wSl_at (by omega) (by omega) (by omega) ho (by omega) ?_
      have e1:((Aj:Int) - 1).toNat=Aj - 1:=by omega
      rw [e1,f18_J7_eq]
      refine J7 (apSeg st) cb (some ⟨o,kk + Int.toNat 1 * 1,none⟩) (Aj - 1) bb' bl eb el Ar At H2 (by rw [hstep,if_pos hn,if_neg (by rw [hfu]; simp)]) (apSeg_f hb1 hN hlb hf1 hfu) hf1.sq ?_ ⟨ap2.own,ap2.low,ap2.ch,.inr ⟨o,kk + 1,cs,rfl,ho,hc,hd,by omega,?_⟩,ap2.beg,ap2.ear,ap2.lat,ap2.d1,ap2.d2,ap2.d3,ap2.d4⟩ f2 ..
      · show (st.ea ++ [_]).length≤_
        rw [List.length_append]; show _ + 1≤_; omega
      · show Aj - 1=st.fr.tail.length
        rw [List.length_tail]; omega
    have J5:apNeed st bd=true→apFull st=false→∀ (bb':Option Addr) (bl:Nat) (eb:Option Addr) (el:Nat) (H2:AH),Ap H2 H0.next iN i cb1 { st.nx with serial:=st.nx.serial + 1 } Ah Aj st.fr bb' bl (apSeg st).bg eb el (apSeg st).ea Ar At st.la→Fr [] H0 H2→(∀ (Ae Aw Ax Ay Az A0 AX AY AZ Ba Bb Bc Bd Be Bf Bg Bh Bi Bj Bk Bl Bm Bn Bo Bp Bq Br Bs Bt Bu Bv Bw Bx By Bz B0 B1 B2 B3 B4 B5 B6 B7 B8 B9 BA BB BC BD BE BF BG BH BI BJ BK BL BM BN BO BP BQ BR BS BT BU BV BW BX BY BZ Cm Cn Co Cp Cq Cr Cs Ct Cu Cv Cw Cx Cy Cz C0 C1 C2 C3 C4 C5 C6 C7 C8 C9 CA CB CC CD CE CF CG CH CI CJ CK CL CM CN CO CP CQ CR CS CT CU CV CW CX CY CZ Da Db Dc Dd De Df Dg Dh:Value),f18_J5_B (some ⟨il,0,none⟩) Aa (bs.length) Ab Ac Ad Ae Af Ag (iN) (Ah) (Aj) (0) (bb') (bl) (0) (eb) (el) (0) (Ar) (At) (0) Au (bd) Aw Ax Ay Az A0 A1 A2 A3 A4 A5 A6 A7 A8 A9 AA AB AC AD AE AF AG AI AJ AK AL AM AN AO AP AQ AR AS AT AU AV (bb) (bs.length) (bc) ((bs.length:Int)) ((k:Int)) AX AY AZ Ba Bb Bc Bd Be Bf Bg Bh Bi Bj Bk Bl Bm Bn Bo Bp Bq Br Bs Bt Bu Bv Bw Bx By Bz B0 B1 B2 B3 B4 B5 B6 B7 B8 B9 BA BB BC BD BE BF BG BH BI BJ BK BL BM BN BO BP BQ BR BS BT BU BV BW BX BY BZ Cm Cn Co Cp Cq Cr Cs Ct Cu Cv Cw Cx Cy Cz C0 C1 C2 C3 C4 C5 C6 C7 C8 C9 CA CB CC CD CE CF CG CH CI CJ CK CL CM CN CO CP CQ CR CS CT CU CV CW CX CY CZ Da Db Dc Dd De Df Dg Dh Di Dj Dk Dl Dm Dn Do Dp Dq Dr Ds Dt Du Dv (H2) (K) R):=by
      intro hn hfu bb' bl eb el H2 ap2 f2
      intros
      unfold f18_J5_B
      obtain ⟨o,kk,cs,e,ho,hc,hg,hd,hln⟩:=frs_head ap2.fre (hful hfu).1
      have h2:=(hful hfu).1
      subst e
      have hlow:=ap2.low
      have hc0:=f2.next
      have hx:=Has.new H2 (.row [.int .i64 ((st.fr.headD 0:Nat):Int)] 1)
      have fp:Fr [] H2 (H2.push (.row [.int .i64 ((st.fr.headD 0:Nat):Int)] 1)):=(Fr.refl [] H2).push _
      have ap3:=ap2.frm fp
      have f3:=f2.trans fp
      have hnx3:H0.next≤(H2.push (.row [.int .i64 ((st.fr.headD 0:Nat):Int)] 1)).next:=f3.next
      have tail:∀ (o':Nat) (H4:AH),OwnC H0.next H4 1 (some ⟨o',0,none⟩) (st.nx.chain.length + 1) 0 (ints st.nx.chain ++ [.int .i64 ((st.fr.headD 0:Nat):Int)])→Fr (ownS cb1) (H2.push (.row [.int .i64 ((st.fr.headD 0:Nat):Int)] 1)) H4→(H2.push (.row [.int .i64 ((st.fr.headD 0:Nat):Int)] 1)).next≤o' →
          Has H4 iN (.row (lrow i cb1 st.nx.chain.length 0 { st.nx with serial:=st.nx.serial + 1 }) 0)∧Ap (H4.set iN (.row (setCells (lrow i cb1 st.nx.chain.length 0 { st.nx with serial:=st.nx.serial + 1 }) 2 [.slice (some ⟨o',0,none⟩) (st.nx.chain.length + 1) 0]) 0)) H0.next iN i (some ⟨o',0,none⟩) { st.nx with serial:=st.nx.serial + 1,chain:=st.nx.chain ++ [st.fr.headD 0] } (some ⟨o,kk,none⟩) Aj st.fr bb' bl (apSeg st).bg eb el (apSeg st).ea Ar At st.la∧Fr [] H0 H4:=by
        intro o' H4 hown f4 ho'
        rw [ints_snoc] at hown
        obtain ⟨q1,q2⟩:=ap3.chA hown f4 ho' ap3.own.lt
        exact ⟨q1,q2,f3.trans' f4 (fun z hz=>.inr ((ap3.ch.low z hz).1))⟩
      refine wIx_at (by omega) (by omega) (ldI_at ho hg (ldI_at ap2.own rfl ⟨?_,?_⟩))
      · refine ldL_at ap2.own rfl ⟨PinOK_at ap2.own (by simp) rfl,PinOK_1 ho hg,wBs_at ⟨PinOK_at ap3.own (by simp) rfl,app_row ap3.ch hnx3 hx rfl rfl (by show (st.nx.chain.length + 1) * 8≤_; omega) (by show st.nx.chain.length + 1≤_; omega) (fun o' H4 hown f4 ho'=>?_)⟩⟩
        obtain ⟨own4,ap4,f40⟩:=tail o' H4 hown f4 ho'
        refine ⟨PinOK_at own4 (by simp) rfl,wSt_at own4 (by simp) (wSt_at ap4.own (by simp) ?_)⟩
        have ap5:=ap4.setN (k:=4) (vs:=[.int .u32 ((st.nx.serial + 1:Nat):Int)]) (nx':={ st.nx with serial:=st.nx.serial + 1,chain:=st.nx.chain ++ [st.fr.headD 0],last:=st.nx.serial + 1 }) rfl rfl
        refine wSt_at ap5.own (by simp) ?_
        have ap6:=ap5.setN (k:=7) (vs:=[.int .i64 1]) (nx':=(apSeg st).nx) rfl rfl
        rw [f18_J6_eq]
        exact J6 hn hfu _ bb' bl eb el _ ap6 (((f40.set (.inr hlow) _).set (.inr hlow) _).set (.inr hlow) _) ..
      · refine wBs_at ⟨PinOK_at ap3.own (by simp) rfl,ldL_at ap3.own rfl (app_row ap3.ch hnx3 hx rfl rfl (by show (st.nx.chain.length + 1) * 8≤_; omega) (by show st.nx.chain.length + 1≤_; omega) (fun o' H4 hown f4 ho'=>?_))⟩
        obtain ⟨own4,ap4,f40⟩:=tail o' H4 hown f4 ho'
        refine ⟨PinOK_at own4 (by simp) rfl,wSt_at own4 (by simp) (wSt_at ap4.own (by simp) ?_)⟩
        have ap5:=ap4.setN (k:=4) (vs:=[.int .u32 ((st.nx.serial + 1:Nat):Int)]) (nx':={ st.nx with serial:=st.nx.serial + 1,chain:=st.nx.chain ++ [st.fr.headD 0],last:=st.nx.serial + 1 }) rfl rfl
        refine wSt_at ap5.own (by simp) ?_
        have ap6:=ap5.setN (k:=7) (vs:=[.int .i64 1]) (nx':=(apSeg st).nx) rfl rfl
        rw [f18_J6_eq]
        exact J6 hn hfu _ bb' bl eb el _ ap6 (((f40.set (.inr hlow) _).set (.inr hlow) _).set (.inr hlow) _) ..
    have J4:apNeed st bd=true→apFull st=false→∀ (H2:AH),Ap H2 H0.next iN i cb1 { st.nx with serial:=st.nx.serial + 1 } Ah Aj st.fr Ak Am st.bg An Aq st.ea Ar At st.la→Fr [] H0 H2→(∀ (Ae Ax Ay Az A0 AX AY AZ Ba Bb Bc Bd Be Bf Bg Bh Bi Bj Bk Bl Bm Bn Bo Bp Bq Br Bs Bt Bu Bv Bw Bx By Bz B0 B1 B2 B3 B4 B5 B6 B7 B8 B9 BA BB BC BD BE BF BG Ca Cb Cc Cd Ce Cf Cg Ch Ci Cj Ck Cl Cm Cn Co Cp Cq Cr Cs Ct Cu Cv Cw Cx Cy Cz C0 C1 C2 C3 C4 C5 C6 C7 C8 C9 CA CB CC CD CE CF CG CH CI CJ CK CL CM CN CO CP CQ CR CS CT CU CV CW CX CY CZ Da Db Dc Dd De Df Dg Dh:Value),f18_J4_B (some ⟨il,0,none⟩) Aa (bs.length) Ab Ac Ad Ae Af Ag (iN) (Ah) (Aj) (0) (Ak) (Am) (0) (An) (Aq) (0) (Ar) (At) (0) Au (bd) (apHead st) Ax Ay Az A0 A1 A2 A3 A4 A5 A6 A7 A8 A9 AA AB AC AD AE AF AG AI AJ AK AL AM AN AO AP AQ AR AS AT AU AV (bb) (bs.length) (bc) ((bs.length:Int)) ((k:Int)) AX AY AZ Ba Bb Bc Bd Be Bf Bg Bh Bi Bj Bk Bl Bm Bn Bo Bp Bq Br Bs Bt Bu Bv Bw Bx By Bz B0 B1 B2 B3 B4 B5 B6 B7 B8 B9 BA BB BC BD BE BF BG Ca Cb Cc Cd Ce Cf Cg Ch Ci Cj Ck Cl Cm Cn Co Cp Cq Cr Cs Ct Cu Cv Cw Cx Cy Cz C0 C1 C2 C3 C4 C5 C6 C7 C8 C9 CA CB CC CD CE CF CG CH CI CJ CK CL CM CN CO CP CQ CR CS CT CU CV CW CX CY CZ Da Db Dc Dd De Df Dg Dh Di Dj Dk Dl Dm Dn Do Dp Dq Dr Ds Dt Du Dv (H2) (K) R):=by
      intro hn hfu H2 ap2 f2
      intros
      unfold f18_J4_B
      obtain ⟨o,kk,cs,e,ho,hc,hg,hd,hln⟩:=frs_head ap2.fre (hful hfu).1
      have h2:=(hful hfu).1
      subst e
      have hc0:=f2.next
      have hbl:=ap2.beg.len
      rw [ints_length] at hbl
      have hell:=ap2.ear.len
      rw [wcells_length] at hell
      have hNN:N≤4096:=by
        have:N * 1≤N * L.per:=Nat.mul_le_mul_left _ (by omega)
        omega
      have hhN:st.fr.headD 0<N:=by
        have:=hf1.frm
        cases hfr:st.fr with
        | nil=>rw [hfr] at h2; simp at h2
        | cons f fr=>exact this f (by rw [hfr]; simp)
      have hms:=mul_seg hN hhN
      refine wIx_at (by omega) (by omega) (ldI_at ho hg (app1 ap2.beg hc0 rfl rfl (by omega) (by omega) (fun o' H3 hown f23 ho'=>?_)))
      rw [ints_snoc] at hown
      have ap3:Ap H3 H0.next iN i cb1 { st.nx with serial:=st.nx.serial + 1 } (some ⟨o,kk,none⟩) Aj st.fr (some ⟨o',0,none⟩) (Am + 1) (apSeg st).bg An Aq st.ea Ar At st.la:=ap2.begA hown f23 ho'
      have f3:Fr [] H0 H3:=f2.trans' f23 (fun z hz=>.inr ((ap2.beg.low z hz).1))
      have ho3:=ho.fr f23 (ap2.d3 o (by simp [ownS]))
      have x3:=x0.fr f3
      refine wIx_at (by omega) (by omega) (wPt_at (ldI_at ho3 hg (ldI_at x3.lg.own rfl ?_)))
      have em:IntKind.i64.wrap (((st.fr.headD 0:Nat):Int) * (L.per:Int))=((st.fr.headD 0 * st.nx.per:Nat):Int):=by
        rw [hper]
        have e:((st.fr.headD 0:Nat):Int) * (L.per:Int)=((st.fr.headD 0 * L.per:Nat):Int):=by push_cast; rfl
        rw [e]
        generalize st.fr.headD 0 * L.per=z at hms ⊢
        exact wi _ (by omega) (by omega)
      rw [em]
      have hx:=Has.new H3 (.row [.int .i64 ((st.fr.headD 0 * st.nx.per:Nat):Int),.string (apHead st)] 2)
      have fp:Fr [] H3 (H3.push (.row [.int .i64 ((st.fr.headD 0 * st.nx.per:Nat):Int),.string (apHead st)] 2)):=(Fr.refl [] H3).push _
      have ap4:=ap3.frm fp
      have f4:=f3.trans fp
      have x4:=x0.fr f4
      refine wBs_at ⟨PinOK_at x4.lg.own (by simp) rfl,PinOK_1 (ho3.fr fp (by simp)) hg,app_row ap4.ear f4.next hx rfl rfl (by omega) (by omega) (fun o5 H5 hown5 f45 ho5=>?_)⟩
      have hown5':OwnC H0.next H5 2 (some ⟨o5,0,none⟩) (Aq + 1) 0 (wcells (apSeg st).ea):=by
        have e:wcells (apSeg st).ea=wcells st.ea ++ [.int .i64 ((st.fr.headD 0 * st.nx.per:Nat):Int),.string (apHead st)]:=(wcells_snoc _ _ _).symm
        rw [e]; exact hown5
      have ap5:=ap4.earA hown5' f45 ho5
      have f5:Fr [] H0 H5:=f4.trans' f45 (fun z hz=>.inr ((ap4.ear.low z hz).1))
      have x5:=x0.fr f5
      have hoe:o ∉ ownS An:=fun hz=>row_ne (ho3.fr fp (by simp)) (ap4.ear.low o hz).2.2 (by decide) rfl
      refine ⟨PinOK_at x5.lg.own (by simp) rfl,PinOK_1 ((ho3.fr fp (by simp)).fr f45 hoe) hg,?_⟩
      rw [f18_J5_eq]
      exact J5 hn hfu _ _ _ _ H5 ap5 f5 ..
    have J3:apNeed st bd=true→apFull st=false→(∀ (Ae Ay Az A0 AX AY AZ Ba Bb Bc Bd Be Bf Bg Bh Bi Bj Bk Bl Bm Bn Bo Bp Bq Br Bs Bt Bu Bv Bw Bx BH BI BJ BK BL BM BN BO BP BQ BR BS BT BU BV BW BX BY BZ Ca Cb Cc Cd Ce Cf Cg Ch Ci Cj Ck Cl Cm Cn Co Cp Cq Cr Cs Ct Cu Cv Cw Cx Cy Cz C0 C1 C2 C3 C4 C5 C6 C7 C8 C9 CA CB CC CD CE CF CG CH CI CJ CK CL CM CN CO CP CQ CR CS CT CU CV CW CX CY CZ Da Db Dc Dd De Df Dg Dh:Value),f18_J3_B (some ⟨il,0,none⟩) Aa (bs.length) Ab Ac Ad Ae Af Ag (iN) (Ah) (Aj) (0) (Ak) (Am) (0) (An) (Aq) (0) (Ar) (At) (0) Au (bd) Ay Az A0 A1 A2 A3 A4 A5 A6 A7 A8 A9 AA AB AC AD AE AF AG AI AJ AK AL AM AN AO AP AQ AR AS AT AU AV (bb) (bs.length) (bc) ((bs.length:Int)) ((k:Int)) AX AY AZ Ba Bb Bc Bd Be Bf Bg Bh Bi Bj Bk Bl Bm Bn Bo Bp Bq Br Bs Bt Bu Bv Bw Bx BH BI BJ BK BL BM BN BO BP BQ BR BS BT BU BV BW BX BY BZ Ca Cb Cc Cd Ce Cf Cg Ch Ci Cj Ck Cl Cm Cn Co Cp Cq Cr Cs Ct Cu Cv Cw Cx Cy Cz C0 C1 C2 C3 C4 C5 C6 C7 C8 C9 CA CB CC CD CE CF CG CH CI CJ CK CL CM CN CO CP CQ CR CS CT CU CV CW CX CY CZ Da Db Dc Dd De Df Dg Dh Di Dj Dk Dl Dm Dn Do Dp Dq Dr Ds Dt Du Dv (H1) (K) R):=by
      intro hn hfu
      intros
      unfold f18_J3_B
      have hser:=hf1.ser
      have hsr:=(hful hfu).2
      have hlas:=hf1.las
      have hsq:=hf1.sq
      have ew:IntKind.u32.wrap ((st.nx.serial:Int) + 1)=((st.nx.serial + 1:Nat):Int):=by
        have e:(st.nx.serial:Int) + 1=((st.nx.serial + 1:Nat):Int):=by push_cast; rfl
        rw [e,w32n _ (by omega)]
      refine ldI_at ap1.own rfl ?_
      rw [ew]
      refine wSt_at ap1.own (by simp) ?_
      have ap2:=ap1.setN (k:=5) (vs:=[.int .u32 ((st.nx.serial + 1:Nat):Int)]) (nx':={ st.nx with serial:=st.nx.serial + 1 }) rfl rfl
      have f2:Fr [] H0 _:=f1.set (.inr ap1.low) (.row (setCells (lrow i cb1 st.nx.chain.length 0 st.nx) 5 [.int .u32 ((st.nx.serial + 1:Nat):Int)]) 0)
      generalize (H1.set iN (.row (setCells (lrow i cb1 st.nx.chain.length 0 st.nx) 5 [.int .u32 ((st.nx.serial + 1:Nat):Int)]) 0))=H2 at ap2 f2 ⊢
      have x2:=x0.fr f2
      refine wPt_at (ldI_at ap2.own rfl (ldI_at x2.lg.own rfl (ldI_at ap2.own rfl (ldI_at ap2.own rfl (wCall_of (puth_call ⟨st.nx.serial + 1,L.base,st.nx.last,st.nx.seq⟩ ⟨by show st.nx.serial + 1<_; omega,hbN,by show st.nx.last<_; omega,hsq⟩ (fun H3 f23=>opT_at rfl (opS_at (opI_at ?_)))))))))
      have ap3:=ap2.frm f23
      have f3:=f2.trans f23
      have x3:=x0.fr f3
      refine ⟨PinOK_at ap3.own (by simp) rfl,PinOK_at ap3.own (by simp) rfl,PinOK_at x3.lg.own (by simp) rfl,PinOK_at ap3.own (by simp) rfl,?_⟩
      have eh:(putH ⟨st.nx.serial + 1,L.base,st.nx.last,st.nx.seq⟩).1=apHead st:=by
        unfold apHead; rw [hf1.bas]
      rw [eh,f18_J4_eq]
      exact J4 hn hfu H3 ap3 f3 ..
    have J2:apNeed st bd=true→∀ v,v=apFull st→(∀ (Ae Aw Ax Ay Az A0 AX AY AZ Ba Bb Bc Bd Be Bf Bg Bh Bi Bj Bk Bl Bm Bn Bo Bp Bq Br Bs Bt Bu Bv Bw By Bz B0 B1 B2 B3 B4 B5 B6 B7 B8 B9 BA BB BC BD BE BF BG BH BI BJ BK BL BM BN BO BP BQ BR BS BT BU BV BW BX BY BZ Ca Cb Cc Cd Ce Cf Cg Ch Ci Cj Ck Cl Cm Cn Co Cp Cq Cr Cs Ct Cu Cv Cw Cx Cy Cz C0 C1 C2 C3 C4 C5 C6 C7 C8 C9 CA CB CC CD CE CF CG CH CI CJ CK CL CM CN CO CP CQ CR CS CT CU CV CW CX CY CZ Da Db Dc Dd De Df Dg Dh:Value),f18_J2_B (some ⟨il,0,none⟩) Aa (bs.length) Ab Ac Ad Ae Af Ag (iN) (Ah) (Aj) (0) (Ak) (Am) (0) (An) (Aq) (0) (Ar) (At) (0) Au (bd) Aw Ax Ay Az A0 A1 A2 A3 A4 A5 A6 A7 A8 A9 AA AB AC AD AE AF AG AI AJ AK AL AM AN AO AP AQ AR AS AT AU AV (bb) (bs.length) (bc) ((bs.length:Int)) ((k:Int)) AX AY AZ Ba Bb Bc Bd Be Bf Bg Bh Bi Bj Bk Bl Bm Bn Bo Bp Bq Br Bs Bt Bu Bv Bw (v) By Bz B0 B1 B2 B3 B4 B5 B6 B7 B8 B9 BA BB BC BD BE BF BG BH BI BJ BK BL BM BN BO BP BQ BR BS BT BU BV BW BX BY BZ Ca Cb Cc Cd Ce Cf Cg Ch Ci Cj Ck Cl Cm Cn Co Cp Cq Cr Cs Ct Cu Cv Cw Cx Cy Cz C0 C1 C2 C3 C4 C5 C6 C7 C8 C9 CA CB CC CD CE CF CG CH CI CJ CK CL CM CN CO CP CQ CR CS CT CU CV CW CX CY CZ Da Db Dc Dd De Df Dg Dh Di Dj Dk Dl Dm Dn Do Dp Dq Dr Ds Dt Du Dv (H1) (K) R):=by
      intro hn v hv
      intros
      unfold f18_J2_B
      refine wIf_b (fun hc=>?_) (fun hc=>?_)
      · refine hfail ?_ H1 f1
        rw [hap,hstep,if_pos hn,if_pos (by rw [← hv]; exact hc)]
      · rw [f18_J3_eq]
        exact J3 hn (by rw [← hv]; exact hc) ..
    have J1:∀ v,v=apNeed st bd→(∀ (Ae Aw Ax Ay Az A0 AX AY AZ Ba Bb Bc Bd Be Bf Bg Bh Bi Bj Bk Bl Bm Bn Bo Bq Br Bs Bt Bu Bv Bw Bx By Bz B0 B1 B2 B3 B4 B5 B6 B7 B8 B9 BA BB BC BD BE BF BG BH BI BJ BK BL BM BN BO BP BQ BR BS BT BU BV BW BX BY BZ Ca Cb Cc Cd Ce Cf Cg Ch Ci Cj Ck Cl Cm Cn Co Cp Cq Cr Cs Ct Cu Cv Cw Cx Cy Cz C0 C1 C2 C3 C4 C5 C6 C7 C8 C9 CA CB CC CD CE CF CG CH CI CJ CK CL CM CN CO CP CQ CR CS CT CU CV CW CX CY CZ Da Db Dc Dd De Df Dg Dh:Value),f18_J1_B (some ⟨il,0,none⟩) Aa (bs.length) Ab Ac Ad Ae Af Ag (iN) (Ah) (Aj) (0) (Ak) (Am) (0) (An) (Aq) (0) (Ar) (At) (0) Au (bd) Aw Ax Ay Az A0 A1 A2 A3 A4 A5 A6 A7 A8 A9 AA AB AC AD AE AF AG AI AJ AK AL AM AN AO AP AQ AR AS AT AU AV (bb) (bs.length) (bc) ((bs.length:Int)) ((k:Int)) AX AY AZ Ba Bb Bc Bd Be Bf Bg Bh Bi Bj Bk Bl Bm Bn Bo (v) Bq Br Bs Bt Bu Bv Bw Bx By Bz B0 B1 B2 B3 B4 B5 B6 B7 B8 B9 BA BB BC BD BE BF BG BH BI BJ BK BL BM BN BO BP BQ BR BS BT BU BV BW BX BY BZ Ca Cb Cc Cd Ce Cf Cg Ch Ci Cj Ck Cl Cm Cn Co Cp Cq Cr Cs Ct Cu Cv Cw Cx Cy Cz C0 C1 C2 C3 C4 C5 C6 C7 C8 C9 CA CB CC CD CE CF CG CH CI CJ CK CL CM CN CO CP CQ CR CS CT CU CV CW CX CY CZ Da Db Dc Dd De Df Dg Dh Di Dj Dk Dl Dm Dn Do Dp Dq Dr Ds Dt Du Dv (H1) (K) R):=by
      intro v hv
      intros
      unfold f18_J1_B
      refine wIf_b (fun hc=>?_) (fun hc=>?_)
      · refine wIf_d (fun h2=>?_) (fun h2=>?_)
        · rw [f18_J2_eq]
          refine J2 (by rw [← hv]; exact hc) true ?_ ..
          unfold apFull
          rw [decide_eq_true (by omega:st.fr.length<2)]; rfl
        · refine ldI_at ap1.own rfl ?_
          rw [f18_J2_eq]
          refine J2 (by rw [← hv]; exact hc) _ ?_ ..
          unfold apFull
          rw [decide_eq_false (by omega:¬ st.fr.length<2),Bool.false_or]
          by_cases h3:st.nx.serial=4294967295
          · rw [decide_eq_true h3,decide_eq_true (by omega)]
          · rw [decide_eq_false h3,decide_eq_false (by omega)]
      · have hn:apNeed st bd=false:=by rw [← hv]; exact hc
        rw [f18_J7_eq]
        exact J7 st cb1 Ah Aj Ak Am An Aq Ar At H1 (by rw [hstep,if_neg (by rw [hn]; simp)]) (apUnit_f hN hlb hf1 hn) hf1.sq (by omega) ap1 f1 ..
    intros
    unfold f18_R1
    refine wIf_dt (by omega) ?_
    rcases hbr with ⟨_,e,_⟩ | ⟨ob,cs,rfl,hob,_,hat⟩
    · omega
    have hob1:=hob.fr f1 (by simp)
    have hat':=hat k hlt
    rw [hbd] at hat'
    have t0:0 + Int.toNat (k:Int) * 1=k:=by omega
    refine wIx_at (by omega) (by omega) ?_
    rw [t0]
    refine ldS_at hob1 hat' (ldI_at ap1.own rfl ?_)
    have pin7:∀ {Q:Prop},Q→wPin iN 7 [.int .i64 (st.nx.at_:Int)] H1 Q:=fun h=>⟨PinOK_at ap1.own (by simp) rfl,h⟩
    have ld7:∀ {F:Int→Prop},F (st.nx.at_:Int)→ldI .i64 iN 7 H1 F:=fun h=>ldI_at ap1.own rfl h
    have x1:=x0.fr f1
    have ldp:∀ {F:Int→Prop},F (L.per:Int)→ldI .i64 il (0 + 1) H1 F:=fun h=>ldI_at x1.lg.own rfl h
    have sec:∀ {F G:Value→AH→Prop},F (.int .i64 ((secsN (bd.size:Int):Nat):Int)) H1→wCall Tryz.prog 48 [.int .i64 (bd.size:Int)] H1 F G:=fun h=>wCall_of (sectors_call _ h)
    have hatp:=hf1.atp
    obtain ⟨z1,z2,z3⟩:=apBytes_size (st:=st) hlb
    refine wIf_d (fun h0=>?_) (fun h0=>?_)
    · have e:true=apNeed st bd:=by
        unfold apNeed
        rw [decide_eq_true (by omega:st.nx.at_=0)]; rfl
      repeat' (first | (with_reducible refine And.intro ?_ ?_) | (with_reducible refine pin7 ?_))
      all_goals (rw [f18_J1_eq]; exact J1 true e ..)
    · have e:decide (IntKind.i64.wrap ((st.nx.at_:Int) + ((secsN (bd.size:Int):Nat):Int)) > (L.per:Int))=apNeed st bd:=by
        unfold apNeed
        rw [decide_eq_false (by omega:¬ st.nx.at_=0),Bool.false_or,hper,wi _ (by omega) (by omega)]
        by_cases h3:L.per<st.nx.at_ + secsN (bd.size:Int)
        · rw [decide_eq_true h3,decide_eq_true (by omega)]
        · rw [decide_eq_false h3,decide_eq_false (by omega)]
      refine wPt_at ?_
      repeat' (first | (with_reducible refine And.intro ?_ ?_) | (with_reducible refine pin7 ?_) | (with_reducible refine ld7 ?_) | (with_reducible refine ldp ?_) | (with_reducible refine sec ?_) | (with_reducible refine opI_at ?_))
      all_goals (rw [f18_J1_eq]; exact J1 _ e ..)
  refine round _ (fun st' cb fb fl bb' bl eb el lb ll H' h1 h2 h3 h4=>?_) ..
  intros
  exact ⟨bs.length - (k + 1),by omega,f18_I1_mk ⟨k + 1,st',cb,wi1 k (by omega),by omega,rfl,rfl,rfl,rfl,rfl,hap.trans h1,h2,h3,h4⟩⟩
end Go.Proofs.YtjhbbbcelnlnpaaGreatDoor
