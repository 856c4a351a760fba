/- A unit there and back; a unit of which bytes are turned: the plain laws. Heads: the plain facts. Heads: the walks. Heads: the document's walk. Heads out of bytes: the walks. -/
import Derived.Test.YtjhbbbcelnlnpaaGreatDoorWNat
import Derived.Test.YtjhbbbcelnlnpaaGreatDoorWNaq
namespace Go.Proofs.YtjhbbbcelnlnpaaGreatDoor
open Go.RowKit

attribute [local irreducible] secsN crcSum nval Lib.trimB padN
/-! Turned bytes. -/
/-! The chapter's examples. -/
section
variable {H:AH} {R:AEnd→AH→Prop}
end
end Go.Proofs.YtjhbbbcelnlnpaaGreatDoor
namespace Go.Proofs.YtjhbbbcelnlnpaaGreatDoor
open Go.RowKit

structure HV where
  sr:Nat
  ba:Nat
  pr:Nat
  sq:Nat
abbrev hvC (v:HV):List Value:=[.int .u32 (v.sr:Int), .int .u32 (v.ba:Int), .int .u32 (v.pr:Int), .int .u64 (v.sq:Int)]
abbrev zhC:List Value:=[.int .u32 0, .int .u32 0, .int .u32 0, .int .u64 0]
def okH (v:HV):Prop:=1≤v.ba∧v.ba≤v.sr∧v.pr<v.sr
instance (v:HV):Decidable (okH v):=inferInstanceAs (Decidable (_∧_))
def HV.fits (v:HV):Prop:=v.sr<4294967296∧v.ba<4294967296∧v.pr<4294967296∧v.sq<18446744073709551616
def midL (v:HV):List UInt8:=be 4 v.sr ++ (be 4 v.ba ++ (be 4 v.pr ++ be 8 v.sq))
def headL (v:HV):List UInt8:=72 :: (midL v ++ List.replicate 39 0)
def hsecL (v:HV):List UInt8:=be 4 (sumL (headL v)) ++ headL v
def putH (v:HV):ByteArray × Int:=if okH v then (ofL (hsecL v), 0) else (⟨#[]⟩, 2)
def zeroH:HV:=⟨0, 0, 0, 0⟩
def hOf (s:ByteArray):HV:=⟨num s 5 9, num s 9 13, num s 13 17, num s 17 25⟩
def hBad (s:ByteArray):Prop:=s.data.toList.getD 4 0 ≠ 72∨(crcSum (s.extract 4 64)).toNat ≠ num s 0 4∨Lib.trimB (s.extract 25 64).data.toList 0 ≠ []
instance (s:ByteArray):Decidable (hBad s):=inferInstanceAs (Decidable (_∨_))
def getH (s:ByteArray):HV × Bool:=if s.size ≠ 64 then (zeroH, false) else if hBad s then (zeroH, false) else if okH (hOf s) then (hOf s, true) else (zeroH, false)
theorem midL_length (v:HV):(midL v).length=20:=by unfold midL; simp only [List.length_append, be_length]
theorem headL_length (v:HV):(headL v).length=60:=by unfold headL; simp only [List.length_cons, List.length_append, midL_length, List.length_replicate]
theorem hsecL_length (v:HV):(hsecL v).length=64:=by unfold hsecL; simp only [List.length_append, be_length, headL_length]
theorem hOf_fits (s:ByteArray):(hOf s).fits:=⟨num_lt s 5 9 (by omega), num_lt s 9 13 (by omega), num_lt s 13 17 (by omega), num_lt8 s 17 25 (by omega)⟩
theorem getH_size (s:ByteArray) (h:s.size ≠ 64):getH s=(zeroH, false):=by unfold getH; rw [if_pos h]
theorem getH_bad (s:ByteArray) (h:s.size=64) (h2:hBad s):getH s=(zeroH, false):=by unfold getH; rw [if_neg (fun e=>e h), if_pos h2]
theorem getH_not (s:ByteArray) (h:s.size=64) (h2:¬ hBad s) (h3:¬ okH (hOf s)):getH s=(zeroH, false):=by unfold getH; rw [if_neg (fun e=>e h), if_neg h2, if_neg h3]
theorem getH_good (s:ByteArray) (h:s.size=64) (h2:¬ hBad s) (h3:okH (hOf s)):getH s=(hOf s, true):=by unfold getH; rw [if_neg (fun e=>e h), if_neg h2, if_pos h3]

attribute [local irreducible] nval crcSum Lib.trimB
end Go.Proofs.YtjhbbbcelnlnpaaGreatDoor
namespace Go.Proofs.YtjhbbbcelnlnpaaGreatDoor
open Go.RowKit

section
variable {H:AH} {R:AEnd→AH→Prop}
theorem sth_at {o:Nat} {cs:List Value} (hb:Has H o (.row cs 0)) (hl:cs.length=4) {a b c d:Int} {K:Int→Int→Int→Int→AH→Prop} (hk:K a b c d (H.set o (.row [.int .u32 a, .int .u32 b, .int .u32 c, .int .u64 d] 0))) :
    wSt o 0 [.int .u32 a, .int .u32 b, .int .u32 c, .int .u64 d] H fun H2=>wPt (some ⟨o, 0, none⟩) fun i k=>ldI .u32 i k H2 fun n=>ldI .u32 i (k + 1) H2 fun m=>ldI .u32 i (k + 2) H2 fun q=>ldI .u64 i (k + 3) H2 fun t=>K n m q t H2:=by
  match cs, hl with
  | [x, y, z, w], _ =>
    have hs:=hb.set (.row [.int .u32 a, .int .u32 b, .int .u32 c, .int .u64 d] 0)
    exact wSt_at hb (by simp) (wPt_at (ldI_at hs rfl (ldI_at hs rfl (ldI_at hs rfl (ldI_at hs rfl hk)))))
theorem ldh_at {o:Nat} {a b c d:Int} (hb:Has H o (.row [.int .u32 a, .int .u32 b, .int .u32 c, .int .u64 d] 0)) {K:Int→Int→Int→Int→Prop} (hk:K a b c d) :
    wPt (some ⟨o, 0, none⟩) fun i k=>ldI .u32 i k H fun n=>ldI .u32 i (k + 1) H fun m=>ldI .u32 i (k + 2) H fun q=>ldI .u64 i (k + 3) H fun t=>K n m q t :=
  wPt_at (ldI_at hb rfl (ldI_at hb rfl (ldI_at hb rfl (ldI_at hb rfl hk))))
theorem right_call (v:HV) (h:∀ H', Fr [] H H'→R (.ret (.bool (decide (okH v)))) H'):ACall Tryz.prog 75 [.agg (hvC v).toArray] H R:=by
  apply f75_call
  unfold f75_B
  refine wNew_at ?_
  have hb:=Has.new H (.row (hvC v) 0)
  have f0:Fr [] H (H.push (.row (hvC v) 0)):=(Fr.refl [] H).push _
  generalize H.push (.row (hvC v) 0)=H1 at hb f0 ⊢
  generalize H.next=o at hb
  have h:=h H1 f0
  refine ldI_at hb rfl (wIf_d (fun c1=>?_) (fun c1=>?_))
  · refine ldI_at hb rfl (ldI_at hb rfl (wIf_d (fun c2=>?_) (fun c2=>?_)))
    · refine ldI_at hb rfl (ldI_at hb rfl ?_)
      have e:decide (((v.pr:Nat):Int)<((v.sr:Nat):Int))=decide (okH v):=by
        refine decide_eq_decide.2 ⟨fun x=>⟨by omega, by omega, by omega⟩, fun x=>?_⟩
        have:=x.2.2; omega
      rw [e]; exact h
    · have e:decide (okH v)=false:=decide_eq_false fun x=>by have:=x.2.1; omega
      rwa [e] at h
  · have e:decide (okH v)=false:=decide_eq_false fun x=>by have:=x.1; omega
    rwa [e] at h
theorem headL_cat (v:HV):⟨#[72]⟩ ++ ofL (be 4 v.sr) ++ ofL (be 4 v.ba) ++ ofL (be 4 v.pr) ++ ofL (be 8 v.sq) ++ ofL (List.replicate 39 0)=ofL (headL v):=by
  have e:(⟨#[72]⟩:ByteArray)=ofL [72]:=rfl
  unfold headL midL
  rw [e]
  simp only [ofL_append, List.append_assoc, List.singleton_append, List.cons_append, List.nil_append]
theorem sz72:(⟨#[72]⟩:ByteArray).size=1:=rfl
attribute [local irreducible] headL sumL crcSum be
set_option maxRecDepth 20000 in
set_option maxHeartbeats 400000 in
theorem puth_call (v:HV) (hv:v.fits) (h:∀ H', Fr [] H H'→R (.ret (.tuple #[.string (putH v).1, .int .i64 (putH v).2])) H'):ACall Tryz.prog 49 [.agg (hvC v).toArray] H R:=by
  obtain ⟨w1, w2, w3, w4⟩:=hv
  apply f49_call
  unfold f49_B
  unfold putH at h
  refine wNew_at ?_
  have hb:=Has.new H (.row (hvC v) 0)
  have f0:Fr [] H (H.push (.row (hvC v) 0)):=(Fr.refl [] H).push _
  generalize H.push (.row (hvC v) 0)=H1 at hb f0 ⊢
  generalize H.next=o at hb
  refine ldI_at hb rfl (ldI_at hb rfl (ldI_at hb rfl (ldI_at hb rfl (wCall_of (right_call v (fun H2 f2=>opB_at ?_))))))
  have hb2:=hb.fr f2 (by simp)
  have f02:=f0.trans f2
  by_cases ok:okH v
  · rw [if_pos ok] at h
    refine wIf_f (by rw [decide_eq_true ok]; rfl) ?_
    have e1:IntKind.u64.wrap (v.sr:Int)=(v.sr:Int):=wu _ (by omega)
    have e2:IntKind.u64.wrap (v.ba:Int)=(v.ba:Int):=wu _ (by omega)
    have e3:IntKind.u64.wrap (v.pr:Int)=(v.pr:Int):=wu _ (by omega)
    refine ldI_at hb2 rfl (ldI_at hb2 rfl (ldI_at hb2 rfl (ldI_at hb2 rfl ?_)))
    rw [e1, e2, e3]
    refine wCall_of (fixed_call v.sr 4 (by omega) (by omega) (fun H3 f3=>opS_at ?_))
    have hb3:=hb2.fr f3 (by simp)
    refine ⟨PinOK_at hb3 (by simp) rfl, PinOK_at hb3 (by simp) rfl, PinOK_at hb3 (by simp) rfl, PinOK_at hb3 (by simp) rfl, wCat_at (by rw [sz72, ofL_size, be_length]; omega) ?_⟩
    refine wCall_of (fixed_call v.ba 4 (by omega) (by omega) (fun H4 f4=>opS_at ?_))
    have hb4:=hb3.fr f4 (by simp)
    refine ⟨PinOK_at hb4 (by simp) rfl, PinOK_at hb4 (by simp) rfl, PinOK_at hb4 (by simp) rfl, PinOK_at hb4 (by simp) rfl, wCat_at (by simp only [ByteArray.size_append, sz72, ofL_size, be_length]; omega) ?_⟩
    refine wCall_of (fixed_call v.pr 4 (by omega) (by omega) (fun H5 f5=>opS_at ?_))
    have hb5:=hb4.fr f5 (by simp)
    refine ⟨PinOK_at hb5 (by simp) rfl, PinOK_at hb5 (by simp) rfl, PinOK_at hb5 (by simp) rfl, PinOK_at hb5 (by simp) rfl, wCat_at (by simp only [ByteArray.size_append, sz72, ofL_size, be_length]; omega) ?_⟩
    refine wCall_of (fixed_call v.sq 8 (by omega) (by omega) (fun H6 f6=>opS_at ?_))
    have hb6:=hb5.fr f6 (by simp)
    refine ⟨PinOK_at hb6 (by simp) rfl, PinOK_at hb6 (by simp) rfl, PinOK_at hb6 (by simp) rfl, wCat_at (by simp only [ByteArray.size_append, sz72, ofL_size, be_length]; omega) ?_⟩
    have f06:=(((f02.trans f3).trans f4).trans f5).trans f6
    rw [f49_J0_eq]
    unfold f49_J0_B
    have hs:(⟨#[72]⟩ ++ ofL (be 4 v.sr) ++ ofL (be 4 v.ba) ++ ofL (be 4 v.pr) ++ ofL (be 8 v.sq)).size=21:=by simp only [ByteArray.size_append, sz72, ofL_size, be_length]
    rw [hs]
    have e39:IntKind.i64.wrap (60 - ((21:Nat):Int))=((39:Nat):Int):=by rw [wi _ (by omega) (by omega)]; rfl
    rw [e39]
    refine wCall_of (repeat_call 39 (by omega) (opS_at (wCat_at (by rw [hs, ofL_size, List.length_replicate]; omega) ?_)))
    rw [headL_cat]
    have hl:=headL_length v
    have hsl:=sumL_lt (headL v)
    refine wCall_of (sum_call _ (by rw [ofL_size]; omega) (fun H7 f7=>opI_at ?_))
    have e4:IntKind.u64.wrap (((crcSum (ofL (headL v))).toNat:Nat):Int)=((sumL (headL v):Nat):Int):=by
      have:sumL (headL v)=(crcSum (ofL (headL v))).toNat:=by unfold sumL; rfl
      rw [this] at hsl ⊢
      exact wu _ (by omega)
    rw [e4]
    refine wCall_of (fixed_call _ 4 (by omega) (by omega) (fun H8 f8=>opS_at (wCat_at (by rw [ofL_size, ofL_size, be_length]; omega) ?_)))
    rw [ofL_append]
    exact h _ ((f06.trans f7).trans f8)
  · rw [if_neg ok] at h
    exact wIf_t (by rw [decide_eq_false ok]; rfl) (h _ f02)
end
end Go.Proofs.YtjhbbbcelnlnpaaGreatDoor
namespace Go.Proofs.YtjhbbbcelnlnpaaGreatDoor
open Go.RowKit

section
variable {H:AH} {R:AEnd→AH→Prop}
attribute [local irreducible] headL sumL crcSum be ofL
end
end Go.Proofs.YtjhbbbcelnlnpaaGreatDoor
namespace Go.Proofs.YtjhbbbcelnlnpaaGreatDoor
open Go.RowKit
attribute [local irreducible] num secsN nval crcSum ofL Lib.trimB be headL sumL putH hsecL

section
variable {H:AH} {R:AEnd→AH→Prop}
def Sg (H0:AH) (o:Nat) (z:List Nat) (H:AH):Prop:=Has H o (.row zhC 0)∧H0.next≤o∧Fr [] H0 H∧∀ q ∈ z, Has H q (.row zhC 0)∧q ≠ o∧H0.next≤q
def Sz (H0:AH) (o q:Nat) (a b c d:Int) (H:AH):Prop:=Has H o (.row zhC 0)∧H0.next≤o∧Fr [] H0 H∧Has H q (.row [.int .u32 a, .int .u32 b, .int .u32 c, .int .u64 d] 0)∧q ≠ o∧H0.next≤q
theorem sg_fr {H0 H1 H2:AH} {o:Nat} {z:List Nat} (s:Sg H0 o z H1) (f:Fr [] H1 H2):Sg H0 o z H2 :=
  ⟨s.1.fr f (by simp), s.2.1, s.2.2.1.trans f, fun q hq=>⟨(s.2.2.2 q hq).1.fr f (by simp), (s.2.2.2 q hq).2⟩⟩
theorem sg_num {H0 H1:AH} {o:Nat} {z:List Nat} (s:Sg H0 o z H1) {t:ByteArray} (ht:t.size≤8) {K:Int→AH→Prop} {Kp:Value→AH→Prop}
    (h:∀ H2, Sg H0 o z H2→K ((nval t.data.toList:Nat):Int) H2):wCall Tryz.prog 87 [.string t] H1 (fun r H2=>opI .u64 r fun n=>K n H2) Kp :=
  wCall_of (number_call t ht (fun H2 f2=>opI_at (h H2 (sg_fr s f2))))
theorem sg_new {H0 H1:AH} {o:Nat} (s:Sg H0 o [] H1) {K:Nat→AH→Prop} (h:∀ q H2, Sg H0 o [q] H2→K q H2):wNew [(.int .u32 0), (.int .u32 0), (.int .u32 0), (.int .u64 0)] H1 K:=by
  refine wNew_at (h _ _ ⟨s.1.push _, s.2.1, s.2.2.1.push _, fun q hq=>?_⟩)
  rw [List.mem_singleton.1 hq]
  exact ⟨Has.new _ _, s.1.ne', s.2.2.1.next⟩
theorem sg_st {H0 H1:AH} {o q:Nat} (s:Sg H0 o [q] H1) {a b c d:Int} {K:AH→Prop} (h:∀ H2, Sz H0 o q a b c d H2→K H2):wSt q 0 [(.int .u32 a), (.int .u32 b), (.int .u32 c), (.int .u64 d)] H1 K:=by
  obtain ⟨x1, x2, x3⟩:=s.2.2.2 q (by simp)
  exact wSt_at x1 (by simp) (h _ ⟨s.1.setne x2.symm _, s.2.1, s.2.2.1.set (.inr x3) _, x1.set _, x2, x3⟩)
theorem sz_out {H0 H1:AH} {o:Nat} {cs:List Value} (hb:Has H1 o (.row cs 0)) (hl:cs.length=4) (hn:H0.next≤o) (f:Fr [] H0 H1) {a b c d:Int} {K:Int→Int→Int→Int→AH→Prop} (hk:∀ H2, Fr [] H0 H2→K a b c d H2) :
    wSt o 0 [.int .u32 a, .int .u32 b, .int .u32 c, .int .u64 d] H1 fun H2=>wPt (some ⟨o, 0, none⟩) fun i k=>ldI .u32 i k H2 fun n=>ldI .u32 i (k + 1) H2 fun m=>ldI .u32 i (k + 2) H2 fun q=>ldI .u64 i (k + 3) H2 fun t=>K n m q t H2 :=
  sth_at hb hl (hk _ (f.set (.inr hn) _))
theorem num32 (s:ByteArray) (a b:Nat) (hb:b≤a + 4):IntKind.u32.wrap ((num s a b:Nat):Int)=((num s a b:Nat):Int):=by
  have:=num_lt s a b hb
  rw [wrap32_eq]; omega
set_option maxRecDepth 20000 in
set_option maxHeartbeats 1000000 in
theorem geth_call (s:ByteArray) (hs:s.size≤140737488355328) (h:∀ H', Fr [] H H'→R (.ret (.tuple #[.agg (hvC (getH s).1).toArray, .bool (getH s).2])) H'):ACall Tryz.prog 63 [.string s] H R:=by
  apply f63_call
  unfold f63_B
  have hz:getH s=(zeroH, false)→∀ H', Fr [] H H'→R (.ret (.tuple #[.agg #[.int .u32 0, .int .u32 0, .int .u32 0, .int .u64 0], .bool false])) H':=fun he=>by rw [he] at h; exact h
  have hv:getH s=(hOf s, true)→∀ H', Fr [] H H'→R (.ret (.tuple #[.agg #[.int .u32 ((num s 5 9:Nat):Int), .int .u32 ((num s 9 13:Nat):Int), .int .u32 ((num s 13 17:Nat):Int), .int .u64 ((num s 17 25:Nat):Int)], .bool true])) H':=fun he=>by rw [he] at h; exact h
  clear h
  refine wNew_at ?_
  have st:Sg H H.next [] (H.push (.row zhC 0)):=⟨Has.new _ _, Nat.le_refl _, (Fr.refl [] H).push _, fun q hq=>by cases hq⟩
  generalize H.push (.row zhC 0)=H1 at st ⊢
  generalize H.next=o at st ⊢
  refine wIf_n (fun c1=>?_) (fun c1=>?_)
  · rw [f63_J0_eq]
    unfold f63_J0_B
    exact wIf_t rfl (wPt_at (sz_out st.1 rfl st.2.1 st.2.2.1 (hz (getH_size s (by omega)))))
  · have g1:s.size=64:=by omega
    refine wIxS_at (by omega) (by omega) (wIf_n (fun c2=>?_) (fun c2=>?_))
    · rw [f63_J0_eq]
      unfold f63_J0_B
      refine wIf_t rfl (wPt_at (sz_out st.1 rfl st.2.1 st.2.2.1 (hz (getH_bad s g1 (.inl fun e=>c2 ?_)))))
      have e:s.data.toList.getD (Int.toNat 4) 0=72:=e
      rw [e]; rfl
    · refine wSlS_at (by omega) (by omega) (by omega) (wSlS_at (by omega) (by omega) (by omega) ?_)
      have hx1:s.extract (Int.toNat 4) (Int.toNat (s.size:Int))=s.extract 4 64:=by rw [g1]; rfl
      have hx2:s.extract (Int.toNat 25) (Int.toNat (s.size:Int))=s.extract 25 64:=by rw [g1]; rfl
      have hx3:nval (s.extract (Int.toNat 0) (Int.toNat 4)).data.toList=num s 0 4:=num_def s 0 4
      rw [hx1]
      refine wCall_of (sum_call _ (by rw [ByteArray.size_extract]; omega) (fun H2 f2=>opI_at ?_))
      have st2:=sg_fr st f2
      refine sg_num st2 (by rw [ByteArray.size_extract]; omega) (fun H3 st3=>?_)
      rw [hx3]
      have hcl:(crcSum (s.extract 4 64)).toNat<4294967296:=(crcSum (s.extract 4 64)).isLt
      have e4:IntKind.u64.wrap (((crcSum (s.extract 4 64)).toNat:Nat):Int)=(((crcSum (s.extract 4 64)).toNat:Nat):Int):=wu _ (by omega)
      rw [e4]
      refine wIf_n (fun c3=>?_) (fun c3=>?_)
      · rw [f63_J0_eq]
        unfold f63_J0_B
        exact wIf_t rfl (wPt_at (sz_out st3.1 rfl st3.2.1 st3.2.2.1 (hz (getH_bad s g1 (.inr (.inl fun e=>c3 (by rw [e])))))))
      · refine wSlS_at (by omega) (by omega) (by omega) ?_
        rw [hx2]
        refine wCall_of (trim_call (s.extract 25 64) (by rw [ByteArray.size_extract]; omega) (opS_at ?_))
        rw [f63_J0_eq]
        unfold f63_J0_B
        refine wIf_n (fun c4=>?_) (fun c4=>?_)
        · exact wPt_at (sz_out st3.1 rfl st3.2.1 st3.2.2.1 (hz (getH_bad s g1 (.inr (.inr fun e=>c4 (by rw [e]; exact ofL_nil))))))
        · have hnb:¬ hBad s:=by
            rintro (x | x | x)
            · refine x (UInt8.toNat_inj.1 ?_)
              have c2:((s.data.toList.getD 4 0).toNat:Int)=72:=c2
              show _=72
              omega
            · exact x (by omega)
            · exact x (ofL_inj (c4.trans ofL_nil.symm))
          rw [f63_J1_eq]
          unfold f63_J1_B
          refine wSlS_at (by omega) (by omega) (by omega) (wSlS_at (by omega) (by omega) (by omega) (wSlS_at (by omega) (by omega) (by omega) (wSlS_at (by omega) (by omega) (by omega) ?_)))
          have y1:nval (s.extract (Int.toNat 5) (Int.toNat 9)).data.toList=num s 5 9:=num_def s 5 9
          have y2:nval (s.extract (Int.toNat 9) (Int.toNat 13)).data.toList=num s 9 13:=num_def s 9 13
          have y3:nval (s.extract (Int.toNat 13) (Int.toNat 17)).data.toList=num s 13 17:=num_def s 13 17
          have y4:nval (s.extract (Int.toNat 17) (Int.toNat 25)).data.toList=num s 17 25:=num_def s 17 25
          have z1:(s.extract (Int.toNat 5) (Int.toNat 9)).size≤8:=by rw [ByteArray.size_extract]; omega
          have z2:(s.extract (Int.toNat 9) (Int.toNat 13)).size≤8:=by rw [ByteArray.size_extract]; omega
          have z3:(s.extract (Int.toNat 13) (Int.toNat 17)).size≤8:=by rw [ByteArray.size_extract]; omega
          have z4:(s.extract (Int.toNat 17) (Int.toNat 25)).size≤8:=by rw [ByteArray.size_extract]; omega
          have last:∀ q H4, Sz H o q ((num s 5 9:Nat):Int) ((num s 9 13:Nat):Int) ((num s 13 17:Nat):Int) ((num s 17 25:Nat):Int) H4→f63_J2_B (some ⟨o, 0, none⟩) (some ⟨q, 0, none⟩) H4 R:=by
            intro q H4 ⟨x1, x2, x3, x4, x5, x6⟩
            unfold f63_J2_B
            refine ldh_at x4 (wCall_of (right_call (hOf s) (fun H5 f5=>opB_at ?_)))
            have x1:=x1.fr f5 (by simp)
            have x4:=x4.fr f5 (by simp)
            have x3:=x3.trans f5
            by_cases ok:okH (hOf s)
            · rw [decide_eq_true ok]
              exact wIf_f rfl (ldh_at x4 (wPt_at (sz_out x1 rfl x2 x3 (hv (getH_good s g1 hnb ok)))))
            · rw [decide_eq_false ok]
              exact wIf_t rfl (wPt_at (sz_out x1 rfl x2 x3 (hz (getH_not s g1 hnb ok))))
          clear hz hv st st2
          have n1:=num32 s 5 9 (by omega)
          have n2:=num32 s 9 13 (by omega)
          have n3:=num32 s 13 17 (by omega)
          repeat' (first
            | (with_reducible exact last _ _ (by assumption))
            | (with_reducible refine And.intro ?_ ?_)
            | ((with_reducible refine sg_num (by assumption) ?zza (fun _ _=>?_)); (case zza=>assumption))
            | (with_reducible refine sg_new (by assumption) (fun _ _ _=>?_))
            | (rw [y1, y2, y3, y4, n1, n2, n3]; with_reducible refine sg_st (by assumption) (fun _ _=>?_))
            | rw [f63_J2_eq])
end
end Go.Proofs.YtjhbbbcelnlnpaaGreatDoor
