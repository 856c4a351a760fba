/- slices.Sort over a slice of uint32. -/
import Derived.Test.YtjhbbbcelnlnpaaGreatDoorWNbl
import Derived.Test.YtjhbbbcelnlnpaaGreatDoorWNbm
namespace Go.Proofs.YtjhbbbcelnlnpaaGreatDoor
open Go.RowKit

def ins (x:Nat):List Nat→List Nat
  | []=>[x]
  | y :: l=>if x≤y then x :: y :: l else y :: ins x l
def isort:List Nat→List Nat
  | []=>[]
  | x :: l=>ins x (isort l)
theorem ins_perm (x:Nat):∀ l,(ins x l).Perm (x :: l)
  | []=>.refl _
  | y :: l=>by
    unfold ins
    split
    · exact .refl _
    · exact ((ins_perm x l).cons y).trans (.swap x y l)
theorem isort_perm:∀ l,(isort l).Perm l
  | []=>.refl _
  | x :: l=>(ins_perm x (isort l)).trans ((isort_perm l).cons x)
theorem ins_sorted (x:Nat):∀ l,l.Pairwise (·≤·)→(ins x l).Pairwise (·≤·)
  | [],_=>by simp [ins]
  | y :: l,h=>by
    unfold ins
    rw [List.pairwise_cons] at h
    split
    · rename_i hxy
      rw [List.pairwise_cons,List.pairwise_cons]
      refine ⟨fun z hz=>?_,h⟩
      rcases List.mem_cons.1 hz with rfl | hz
      · exact hxy
      · exact Nat.le_trans hxy (h.1 z hz)
    · rename_i hxy
      rw [List.pairwise_cons]
      refine ⟨fun z hz=>?_,ins_sorted x l h.2⟩
      rcases List.mem_cons.1 ((ins_perm x l).mem_iff.1 hz) with rfl | hz
      · omega
      · exact h.1 z hz
theorem isort_sorted:∀ l,(isort l).Pairwise (·≤·)
  | []=>.nil
  | x :: l=>ins_sorted x _ (isort_sorted l)
theorem isort_of {l ys:List Nat} (h:ys.Perm l) (hs:ys.Pairwise (·≤·)):ys=isort l :=
  List.Perm.eq_of_pairwise (fun a b _ _ h1 h2=>Nat.le_antisymm h1 h2) hs (isort_sorted l) (h.trans (isort_perm l).symm)
section
variable {H:AH} {R:AEnd→AH→Prop}
theorem nan_call (x:Int) (h:R (.ret (.bool false)) H):ACall Tryz.prog 130 [.int .u32 x] H R:=by
  apply f130_call
  unfold f130_B
  rw [decide_eq_true (rfl:x=x)]; exact h
theorem less_call (x y:Int) (h:R (.ret (.bool (decide (x<y)))) H):ACall Tryz.prog 95 [.int .u32 x,.int .u32 y] H R:=by
  apply f95_call
  unfold f95_B
  exact wCall_of (nan_call x (opB_at (wIf_f rfl h)))
theorem getD_mid (A B:List Nat) (x:Nat):(A ++ x :: B).getD A.length 0=x:=by
  rw [List.getD_eq_getElem?_getD,List.getElem?_append_right (Nat.le_refl _)]; simp
set_option maxRecDepth 20000 in
theorem insertion_call {o:Nat} {xs:List Nat} (ho:Has H o (.row (u32s xs) 1)) (hl:xs.length<1099511627776) (h:∀ H' ys,Has H' o (.row (u32s ys) 1)→ys.Perm xs→ys.Pairwise (·≤·)→Fr [o] H H'→R (.ret (.tuple #[])) H') :
    ACall Tryz.prog 89 [.slice (some ⟨o,0,none⟩) xs.length 0,.int .i64 0,.int .i64 (xs.length:Int)] H R:=by
  apply f89_call
  unfold f89_B
  have L0:(∀ (Ac Ad Ae Ag Ah Ai Aj Ak Al Am An Ao Ap Aq Ar As At Au Av Aw Ax Ay Az A0 A1 A2 A3 A4 A5 A6 A7 A8 A9 AA AB AC AD AE AF AG AI AJ AK AL AM:Value),f89_L0 R [(.slice (some ⟨o,0,none⟩) (xs.length) (0)),(.int .i64 (0)),(.int .i64 ((xs.length:Int))),Ac,Ad,Ae,(.int .i64 (1)),Ag,Ah,Ai,Aj,Ak,Al,Am,An,Ao,Ap,Aq,Ar,As,At,Au,Av,Aw,Ax,Ay,Az,A0,A1,A2,A3,A4,A5,A6,A7,A8,A9,AA,AB,AC,AD,AE,AF,AG,AI,AJ,AK,AL,AM] H):=by
    intro Ac Ad Ae Ag Ah Ai Aj Ak Al Am An Ao Ap Aq Ar As At Au Av Aw Ax Ay Az A0 A1 A2 A3 A4 A5 A6 A7 A8 A9 AA AB AC AD AE AF AG AI AJ AK AL AM
    refine f89_L0_rule (J:=fun m Af H'=>∃ (i:Nat) (ys:List Nat),Af=(i:Int)∧1≤i∧i≤xs.length + 1∧m=xs.length + 1 - i∧Has H' o (.row (u32s ys) 1)∧ys.Perm xs∧(ys.take i).Pairwise (·≤·)∧Fr [o] H H') xs.length
      ⟨1,xs,rfl,by omega,by omega,by omega,ho,.refl _,?_,Fr.refl _ _⟩ ?_
    · cases xs <;> simp
    rintro m Af H1 ⟨i,ys,rfl,hi1,hi2,rfl,h1,hp,hs,f1⟩
    intros
    have hyl:ys.length=xs.length:=hp.length_eq
    have round:∀ K:List Value→AH→Prop,(∀ (H2:AH) (zs:List Nat),Has H2 o (.row (u32s zs) 1)→zs.Perm xs→(zs.take (i + 1)).Pairwise (·≤·)→Fr [o] H H2→i<xs.length →
        (∀ (Ag Aj Ak Al Am An Ao Ap Aq Ar As At Au Av Aw Ax Ay Az A0 A1 A2 A3 A4 A5 A6 A7 A8 A9 AA AB AC AD AE AF AG AI AJ AK AL AM:Value),K [(.slice (some ⟨o,0,none⟩) (xs.length) (0)),(.int .i64 (0)),(.int .i64 ((xs.length:Int))),Ac,Ad,Ae,(.int .i64 (IntKind.i64.wrap ((i:Int) + 1))),Ag,Ah,Ai,Aj,Ak,Al,Am,An,Ao,Ap,Aq,Ar,As,At,Au,Av,Aw,Ax,Ay,Az,A0,A1,A2,A3,A4,A5,A6,A7,A8,A9,AA,AB,AC,AD,AE,AF,AG,AI,AJ,AK,AL,AM] H2)) →
        (∀ (Ag Aj Ak Al Am An Ao Ap Aq Ar As At Au Av Aw Ax Ay Az A0 A1 A2 A3 A4 A5 A6 A7 A8 A9 AA AB AC AD AE AF AG AI AJ AK AL AM:Value),f89_R0 (some ⟨o,0,none⟩) (xs.length) (0) (0) ((xs.length:Int)) Ac Ad Ae ((i:Int)) Ag Ah Ai Aj Ak Al Am An Ao Ap Aq Ar As At Au Av Aw Ax Ay Az A0 A1 A2 A3 A4 A5 A6 A7 A8 A9 AA AB AC AD AE AF AG AI AJ AK AL AM (H1) (K) R):=by
      intro K hK
      intros
      unfold f89_R0
      refine wIf_d (fun hlt=>?_) (fun hge=>?_)
      rotate_left
      · refine h H1 ys h1 hp ?_ f1
        rw [List.take_of_length_le (by omega)] at hs; exact hs
      have hlt:i<xs.length:=by omega
      have J3:∀ (H2:AH) (zs:List Nat),Has H2 o (.row (u32s zs) 1)→zs.Perm xs→(zs.take (i + 1)).Pairwise (·≤·)→Fr [o] H H2 →
          (∀ (Ag Aj Ak Al Ao Ap Aq Ar As At Au Av Aw Ax Ay Az A0 A1 A2 A3 A4 A5 A6 A7 A8 A9 AA AB AC AD AE AF AG AI AJ AK AL AM:Value),f89_J3_B (some ⟨o,0,none⟩) (xs.length) (0) (0) ((xs.length:Int)) Ac Ad Ae ((i:Int)) Ag Ah Ai Aj Ak Al Ao Ap Aq Ar As At Au Av Aw Ax Ay Az A0 A1 A2 A3 A4 A5 A6 A7 A8 A9 AA AB AC AD AE AF AG AI AJ AK AL AM (H2) (K) R):=by
        intro H2 zs g1 g2 g3 g4
        intros
        unfold f89_J3_B
        exact hK H2 zs g1 g2 g3 g4 hlt ..
      have L1:(∀ (Aj Ak Al Am An Ao Ap Aq Ar As At Au Av Aw Ax Ay Az A0 A1 A2 A3 A4 A5 A6 A7 A8 A9 AA AB AC AD AE AF AG AI AJ AK AL AM:Value),f89_L1 (K) R [(.slice (some ⟨o,0,none⟩) (xs.length) (0)),(.int .i64 (0)),(.int .i64 ((xs.length:Int))),Ac,Ad,Ae,(.int .i64 ((i:Int))),(.int .i64 ((i:Int))),Ah,Ai,Aj,Ak,Al,Am,An,Ao,Ap,Aq,Ar,As,At,Au,Av,Aw,Ax,Ay,Az,A0,A1,A2,A3,A4,A5,A6,A7,A8,A9,AA,AB,AC,AD,AE,AF,AG,AI,AJ,AK,AL,AM] H1):=by
        intro Aj Ak Al Am An Ao Ap Aq Ar As At Au Av Aw Ax Ay Az A0 A1 A2 A3 A4 A5 A6 A7 A8 A9 AA AB AC AD AE AF AG AI AJ AK AL AM
        refine f89_L1_rule (J:=fun m Ag H'=>∃ (A M T:List Nat) (x:Nat),Ag=(A.length:Int)∧m=A.length∧A.length + M.length=i∧Has H' o (.row (u32s (A ++ x :: M ++ T)) 1)∧(A ++ x :: M ++ T).Perm xs∧(A ++ M).Pairwise (·≤·)∧(∀ y ∈ M,x≤y)∧Fr [o] H H') i
          ⟨ys.take i,[],ys.drop (i + 1),ys[i],by rw [List.length_take]; omega,by rw [List.length_take]; omega,by rw [List.length_take,List.length_nil]; omega,?_,?_,by simpa using hs,fun y hy=>absurd hy (List.not_mem_nil),f1⟩ ?_
        · have e:ys.take i ++ ys[i] :: [] ++ ys.drop (i + 1)=ys:=by simp
          rw [e]; exact h1
        · have e:ys.take i ++ ys[i] :: [] ++ ys.drop (i + 1)=ys:=by simp
          rw [e]; exact hp
        rintro m Ag H2 ⟨A,M,T,x,rfl,rfl,hAM,g1,gp,gs,gm,f2⟩
        intros
        have hlen:(A ++ x :: M ++ T).length=xs.length:=gp.length_eq
        have hlen2:A.length + (M.length + 1) + T.length=xs.length:=by
          rw [← hlen]; simp; omega
        have round1:∀ K1:List Value→AH→Prop,(∀ (H3:AH) (B:List Nat) (y:Nat),A=B ++ [y]→Has H3 o (.row (u32s (B ++ x :: (y :: M) ++ T)) 1)→(B ++ x :: (y :: M) ++ T).Perm xs→(B ++ (y :: M)).Pairwise (·≤·)→(∀ z ∈ y :: M,x≤z)→Fr [o] H H3 →
            (∀ (Ap Aq Ar As At Au Av Aw Ax Ay Az A0 A1 A2 A3 A4 A5 A6 A7 A8 A9 AA AB AC AD AE AF AG AI AJ AK AL AM:Value),K1 [(.slice (some ⟨o,0,none⟩) (xs.length) (0)),(.int .i64 (0)),(.int .i64 ((xs.length:Int))),Ac,Ad,Ae,(.int .i64 ((i:Int))),(.int .i64 (IntKind.i64.wrap ((A.length:Int) - 1))),Ah,Ai,Aj,Ak,Al,Am,An,Ao,Ap,Aq,Ar,As,At,Au,Av,Aw,Ax,Ay,Az,A0,A1,A2,A3,A4,A5,A6,A7,A8,A9,AA,AB,AC,AD,AE,AF,AG,AI,AJ,AK,AL,AM] H3)) →
            (∀ (Ap Aq Ar As At Au Av Aw Ax Ay Az A0 A1 A2 A3 A4 A5 A6 A7 A8 A9 AA AB AC AD AE AF AG AI AJ AK AL AM:Value),f89_R1 (some ⟨o,0,none⟩) (xs.length) (0) (0) ((xs.length:Int)) Ac Ad Ae ((i:Int)) ((A.length:Int)) Ah Ai Aj Ak Al Am An Ao Ap Aq Ar As At Au Av Aw Ax Ay Az A0 A1 A2 A3 A4 A5 A6 A7 A8 A9 AA AB AC AD AE AF AG AI AJ AK AL AM (H2) (K) (K1) R):=by
          intro K1 hK1
          have out:(A=[]∨∃ B y,A=B ++ [y]∧y≤x)→((A ++ x :: M ++ T).take (i + 1)).Pairwise (·≤·):=by
            intro hA
            have e:(A ++ x :: M ++ T).take (i + 1)=A ++ x :: M:=by
              rw [List.take_append_of_le_length (by simp; omega),List.take_of_length_le (by simp; omega)]
            rw [e]
            rw [List.pairwise_append] at gs ⊢
            refine ⟨gs.1,List.pairwise_cons.2 ⟨gm,gs.2.1⟩,fun a ha b hb=>?_⟩
            rcases List.mem_cons.1 hb with rfl | hb
            · rcases hA with rfl | ⟨B,y,rfl,hy⟩
              · cases ha
              · have:∀ a ∈ B ++ [y],a≤y:=by
                  intro a ha
                  rcases List.mem_append.1 ha with ha | ha
                  · exact (List.pairwise_append.1 gs.1).2.2 a ha y (by simp)
                  · simp at ha; omega
                exact Nat.le_trans (this a ha) hy
            · exact gs.2.2 a ha b hb
          have J0:∀ v:Bool,(v=false→A=[]∨∃ B y,A=B ++ [y]∧y≤x)→(v=true→∃ B y,A=B ++ [y]∧x<y) →
              (∀ (Ap Aq Ar As At Au Av Aw Ax Ay Az A0 A1 A2 A4 A5 A6 A7 A8 A9 AA AB AC AD AE AF AG AI AJ AK AL AM:Value),f89_J0_B (some ⟨o,0,none⟩) (xs.length) (0) (0) ((xs.length:Int)) Ac Ad Ae ((i:Int)) ((A.length:Int)) Ah Ai Aj Ak Al Am An Ao Ap Aq Ar As At Au Av Aw Ax Ay Az A0 A1 A2 (v) A4 A5 A6 A7 A8 A9 AA AB AC AD AE AF AG AI AJ AK AL AM (H2) (K) (K1) R):=by
            intro v hv0 hv1
            intros
            unfold f89_J0_B
            refine wIf_b (fun hc=>?_) (fun hc=>?_)
            · obtain ⟨B,y,rfl,hxy⟩:=hv1 hc
              rw [f89_J1_eq]
              unfold f89_J1_B
              have hBl:(B ++ [y]).length=B.length + 1:=by simp
              rw [hBl] at hlen2 hAM hK1 ⊢
              have ej:IntKind.i64.wrap (((B.length + 1:Nat):Int) - 1)=(B.length:Int):=by rw [wi _ (by omega) (by omega)]; push_cast; omega
              rw [ej] at hK1 ⊢
              have t1:0 + Int.toNat ((B.length + 1:Nat):Int) * 1=B.length + 1:=by omega
              have t2:0 + Int.toNat (B.length:Int) * 1=B.length:=by omega
              have eL:B ++ [y] ++ x :: M ++ T=B ++ y :: x :: M ++ T:=by simp
              rw [eL] at g1 gp hlen
              have c1:(u32s (B ++ y :: x :: M ++ T))[B.length]?=some (.int .u32 (y:Int)):=by
                rw [u32s_at _ _ (by omega)]
                have:(B ++ y :: x :: M ++ T).getD B.length 0=y:=by rw [List.append_assoc]; exact getD_mid _ _ _
                rw [this]
              have c2:(u32s (B ++ y :: x :: M ++ T))[B.length + 1]?=some (.int .u32 (x:Int)):=by
                rw [u32s_at _ _ (by omega)]
                have:(B ++ y :: x :: M ++ T).getD (B.length + 1) 0=x:=by
                  have:=getD_mid (B ++ [y]) (M ++ T) x
                  rw [hBl] at this
                  rw [← this]; congr 1; simp
                rw [this]
              refine wIx_at (by omega) (by omega) (wIx_at (by omega) (by omega) ?_)
              rw [t1,t2]
              refine ldI_at g1 c1 (ldI_at g1 c2 (wIx_at (by omega) (by omega) ?_))
              rw [t1]
              have hul:(u32s (B ++ y :: x :: M ++ T)).length=xs.length:=by rw [u32s_length,hlen]
              refine wSt_at g1 (by rw [hul]; simp; omega) ?_
              rw [u32s_set]
              have g2:=g1.set (.row (u32s ((B ++ y :: x :: M ++ T).set (B.length + 1) y)) 1)
              refine wIx_at (by omega) (by omega) ?_
              rw [t2]
              refine wSt_at g2 (by rw [u32s_length,List.length_set,hlen]; show B.length + 1≤_; omega) ?_
              rw [u32s_set]
              have g3:=g2.set (.row (u32s (((B ++ y :: x :: M ++ T).set (B.length + 1) y).set B.length x)) 1)
              have eS:((B ++ y :: x :: M ++ T).set (B.length + 1) y).set B.length x=B ++ x :: (y :: M) ++ T:=by
                rw [List.append_assoc,List.set_append_right _ _ (by omega),List.set_append_right _ _ (by omega)]
                simp
              rw [eS] at g3 ⊢
              rw [f89_J2_eq]
              unfold f89_J2_B
              rw [ej]
              refine hK1 _ B y rfl g3 ?_ ?_ ?_ ((f2.set (.inl (by simp)) _).set (.inl (by simp)) _) ..
              · refine List.Perm.trans ?_ gp
                rw [List.append_assoc,List.append_assoc]
                exact (List.Perm.swap y x (M ++ T)).append_left B
              · have:B ++ y :: M=B ++ [y] ++ M:=by simp
                rw [this]; exact gs
              · intro z hz
                rcases List.mem_cons.1 hz with rfl | hz
                · omega
                · exact gm z hz
            · rw [f89_J3_eq]
              exact J3 H2 _ g1 gp (out (hv0 hc)) f2 ..
          intros
          unfold f89_R1
          refine wIf_d (fun hpos=>?_) (fun hpos=>?_)
          · rcases List.eq_nil_or_concat A with rfl | ⟨B,y,rfl⟩
            · simp at hpos
            rw [List.concat_eq_append] at *
            have hBl:(B ++ [y]).length=B.length + 1:=by simp
            rw [hBl] at hlen2 hAM J0 ⊢
            have ej:IntKind.i64.wrap (((B.length + 1:Nat):Int) - 1)=(B.length:Int):=by rw [wi _ (by omega) (by omega)]; push_cast; omega
            rw [ej]
            have t1:0 + Int.toNat ((B.length + 1:Nat):Int) * 1=B.length + 1:=by omega
            have t2:0 + Int.toNat (B.length:Int) * 1=B.length:=by omega
            have eL:B ++ [y] ++ x :: M ++ T=B ++ y :: x :: M ++ T:=by simp
            rw [eL] at hlen
            have g1':=g1
            rw [eL] at g1'
            have c1:(u32s (B ++ y :: x :: M ++ T))[B.length]?=some (.int .u32 (y:Int)):=by
              rw [u32s_at _ _ (by omega)]
              have:(B ++ y :: x :: M ++ T).getD B.length 0=y:=by rw [List.append_assoc]; exact getD_mid _ _ _
              rw [this]
            have c2:(u32s (B ++ y :: x :: M ++ T))[B.length + 1]?=some (.int .u32 (x:Int)):=by
              rw [u32s_at _ _ (by omega)]
              have:(B ++ y :: x :: M ++ T).getD (B.length + 1) 0=x:=by
                have:=getD_mid (B ++ [y]) (M ++ T) x
                rw [hBl] at this
                rw [← this]; congr 1; simp
              rw [this]
            refine wIx_at (by omega) (by omega) (wIx_at (by omega) (by omega) ?_)
            rw [t1,t2]
            have fin:(decide ((x:Int)<(y:Int))=false→B ++ [y]=[]∨∃ B' y',B ++ [y]=B' ++ [y']∧y'≤x)∧(decide ((x:Int)<(y:Int))=true→∃ B' y',B ++ [y]=B' ++ [y']∧x<y') :=
              ⟨fun e=>.inr ⟨B,y,rfl,by have:=of_decide_eq_false e; omega⟩,fun e=>⟨B,y,rfl,by have:=of_decide_eq_true e; omega⟩⟩
            constructor
            · refine ldI_at g1' c2 (ldI_at g1' c1 (wCall_of (less_call _ _ (opB_at ?_))))
              rw [f89_J0_eq]
              exact J0 _ fin.1 fin.2 ..
            · refine ldI_at g1' c1 (ldI_at g1' c2 (wCall_of (less_call _ _ (opB_at ?_))))
              rw [f89_J0_eq]
              exact J0 _ fin.1 fin.2 ..
          · have hA:A=[]:=List.length_eq_zero_iff.1 (by omega)
            constructor
            · rw [f89_J0_eq]
              exact J0 false (fun _=>.inl hA) (fun e=>by cases e) ..
            · rw [f89_J0_eq]
              exact J0 false (fun _=>.inl hA) (fun e=>by cases e) ..
        refine round1 _ (fun H3 B y hA k1 k2 k3 k4 k5=>?_) ..
        intros
        subst hA
        have hBl:(B ++ [y]).length=B.length + 1:=by simp
        have ej:IntKind.i64.wrap (((B ++ [y]).length:Int) - 1)=(B.length:Int):=by rw [hBl,wi _ (by omega) (by omega)]; push_cast; omega
        exact ⟨B.length,by omega,f89_I1_mk ⟨B,y :: M,T,x,ej,rfl,by simp; omega,k1,k2,k3,k4,k5⟩⟩
      exact L1 ..
    refine round _ (fun H2 zs g1 g2 g3 g4 hlt=>?_) ..
    intros
    exact ⟨xs.length + 1 - (i + 1),by omega,f89_I0_mk ⟨i + 1,zs,wi1 i (by omega),by omega,by omega,rfl,g1,g2,g3,g4⟩⟩
  exact L0 ..
set_option maxRecDepth 20000 in
theorem pdq_small {o:Nat} {xs:List Nat} (ho:Has H o (.row (u32s xs) 1)) (hl:xs.length≤12) (lim:Int) (h:∀ H' ys,Has H' o (.row (u32s ys) 1)→ys.Perm xs→ys.Pairwise (·≤·)→Fr [o] H H'→R (.ret (.tuple #[])) H') :
    ACall Tryz.prog 64 [.slice (some ⟨o,0,none⟩) xs.length 0,.int .i64 0,.int .i64 (xs.length:Int),.int .i64 lim] H R:=by
  apply f64_call
  unfold f64_B
  refine f64_L0_rule (J:=fun m Aa Ab Ac Ah Ai H'=>Aa=0∧Ab=(xs.length:Int)∧H'=H) 0 ⟨rfl,rfl,rfl⟩ ?_
  rintro m Aa Ab Ac Ah Ai H' ⟨rfl,rfl,rfl⟩
  intros
  unfold f64_R0
  have e:IntKind.i64.wrap ((xs.length:Int) - 0)=(xs.length:Int):=by rw [wi _ (by omega) (by omega)]; omega
  rw [e]
  refine wIf_dt (by omega) (wCall_of (insertion_call ho (by omega) h))
theorem insertion_none (h:R (.ret (.tuple #[])) H):ACall Tryz.prog 89 [.slice none 0 0,.int .i64 0,.int .i64 0] H R:=by
  apply f89_call
  unfold f89_B
  refine f89_L0_rule (J:=fun m Af H'=>Af=1∧H'=H) 0 ⟨rfl,rfl⟩ ?_
  rintro m Af H' ⟨rfl,rfl⟩
  intros
  unfold f89_R0
  exact wIf_df (by omega) h
theorem pdq_none (lim:Int) (h:R (.ret (.tuple #[])) H):ACall Tryz.prog 64 [.slice none 0 0,.int .i64 0,.int .i64 0,.int .i64 lim] H R:=by
  apply f64_call
  unfold f64_B
  refine f64_L0_rule (J:=fun m Aa Ab Ac Ah Ai H'=>Aa=0∧Ab=0∧H'=H) 0 ⟨rfl,rfl,rfl⟩ ?_
  rintro m Aa Ab Ac Ah Ai H' ⟨rfl,rfl,rfl⟩
  intros
  unfold f64_R0
  have e:IntKind.i64.wrap ((0:Int) - 0)=0:=by decide
  rw [e]
  exact wIf_dt (by decide) (wCall_of (insertion_none h))
theorem len_call (n:Nat) (hn:n≤18446744073709551615) (h:∀ v:Int,R (.ret (.int .i64 v)) H):ACall Tryz.prog 65 [.int .u64 (n:Int)] H R:=by
  refine acall_keep (.int .i64 (Lib.bitLen n)) ?_ (h _)
  intro B w0 μ w cargs hr ha
  obtain ⟨hs,hat⟩:=ha
  obtain ⟨c0,h0,hv0⟩:=hat 0 _ rfl
  cases hv0
  have hc:cargs=#[.int .u64 (n:Int)]:=by
    apply Array.ext
    · simpa using hs.symm
    · intro i g1 g2
      have hi:i=0:=by simp at g2; omega
      subst hi
      rw [Array.getElem?_eq_getElem g1] at h0
      exact Option.some.inj h0
  subst hc
  refine (Shl.bits_Len (n:Int) w (by omega) (by omega)).mono ?_
  rintro e w' ⟨rfl,rfl⟩
  exact ⟨⟨_,rfl,.int _ _⟩,Below.refl _ _⟩
theorem sort_call {b:Option Addr} {n c:Nat} {xs:List Nat} (hs:OwnC 0 H 1 b n c (u32s xs)) (hl:xs.length≤12)
    (h:∀ H',OwnC 0 H' 1 b n c (u32s (isort xs))→Fr (ownS b) H H'→R (.ret (.tuple #[])) H'):ACall Tryz.prog 34 [.slice b n c] H R:=by
  have hn:=hs.len
  rw [u32s_length] at hn
  apply f34_call
  unfold f34_B
  have ew:IntKind.u64.wrap (n:Int)=(n:Int):=wu n (by omega)
  rw [ew]
  refine wCall_of (len_call n (by omega) (fun v=>opI_at ?_))
  rcases hs with ⟨rfl,rfl,rfl,e⟩ | ⟨o,rfl,rfl,hnl,ho,_⟩
  · have hx:xs=[]:=List.length_eq_zero_iff.1 (by omega)
    subst hx
    refine wCall_of (pdq_none v (h H (.inl ⟨rfl,rfl,rfl,rfl⟩) (Fr.refl _ _)))
  · have:n=xs.length:=by omega
    subst this
    refine wCall_of (pdq_small ho hl v (fun H' ys g1 g2 g3 f=>?_))
    have e:=isort_of g2 g3
    subst e
    exact h H' (.inr ⟨o,rfl,rfl,by rw [u32s_length,(isort_perm xs).length_eq]; omega,g1,Nat.zero_le _⟩) f
end
end Go.Proofs.YtjhbbbcelnlnpaaGreatDoor
