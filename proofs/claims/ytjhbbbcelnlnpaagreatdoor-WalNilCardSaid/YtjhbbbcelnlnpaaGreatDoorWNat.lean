/- A unit out of bytes: plain facts. A unit out of bytes: the program's way and the document's. A unit out of bytes: the walks. -/
import Derived.Test.YtjhbbbcelnlnpaaGreatDoorWNas
namespace Go.Proofs.YtjhbbbcelnlnpaaGreatDoor
open Go.RowKit

structure UV where
  sr:Nat
  sq:Nat
  kd:Int
  body:ByteArray
def zeroU:UV:=⟨0, 0, 0, ⟨#[]⟩⟩
def num (s:ByteArray) (a b:Nat):Nat:=nval (s.extract a b).data.toList
def getN (s:ByteArray):Nat:=num s 17 21
def getBad (s:ByteArray):Prop:=(crcSum (s.extract 4 (21 + getN s))).toNat ≠ num s 0 4∨Lib.trimB (s.extract (21 + getN s) (secsN (getN s) * 64)).data.toList 0 ≠ []
instance (s:ByteArray):Decidable (getBad s):=inferInstanceAs (Decidable (_∨_))
def getV (s:ByteArray):UV:=⟨num s 4 8, num s 8 16, ((s.data.toList.getD 16 0).toNat:Int), s.extract 21 (21 + getN s)⟩
def getU (s:ByteArray):UV × Int :=
  if s.size<21 then (zeroU, 3) else if 1048576<getN s then (zeroU, 4) else if s.size<secsN (getN s) * 64 then (zeroU, 3) else if getBad s then (zeroU, 4) else (getV s, 0)

theorem num_lt (s:ByteArray) (a b:Nat) (hb:b≤a + 4):num s a b<4294967296:=by
  unfold num
  have h1:=nval_lt (s.extract a b).data.toList
  have h2:(s.extract a b).data.toList.length≤4:=by rw [data_extract_l, List.length_take]; omega
  have h3:256 ^ (s.extract a b).data.toList.length≤256 ^ 4:=Nat.pow_le_pow_right (by omega) h2
  omega
theorem num_lt8 (s:ByteArray) (a b:Nat) (hb:b≤a + 8):num s a b<18446744073709551616:=by
  unfold num
  have h2:(s.extract a b).data.toList.length≤8:=by rw [data_extract_l, List.length_take]; omega
  exact nval8 h2
theorem secs_nat (n:Nat) (h:n≤1048576):secsN n=(n + 84) / 64:=by unfold secsN; rw [if_neg (by omega)]; omega
theorem ext_size (s:ByteArray) (a b:Nat) (h:b≤s.size):(s.extract a b).size=b - a:=by rw [ByteArray.size_extract]; omega

/-! Where noughts alone are trimmed. -/
/-! Pieces of a row. -/
end Go.Proofs.YtjhbbbcelnlnpaaGreatDoor
namespace Go.Proofs.YtjhbbbcelnlnpaaGreatDoor
open Go.RowKit

theorem getU_short (s:ByteArray) (h:s.size<21):getU s=(zeroU, 3):=by unfold getU; rw [if_pos h]
theorem getU_long (s:ByteArray) (h:¬ s.size<21) (h2:1048576<getN s):getU s=(zeroU, 4):=by unfold getU; rw [if_neg h, if_pos h2]
theorem getU_few (s:ByteArray) (h:¬ s.size<21) (h2:¬ 1048576<getN s) (h3:s.size<secsN (getN s) * 64):getU s=(zeroU, 3):=by unfold getU; rw [if_neg h, if_neg h2, if_pos h3]
theorem getU_bad (s:ByteArray) (h:¬ s.size<21) (h2:¬ 1048576<getN s) (h3:¬ s.size<secsN (getN s) * 64) (h4:getBad s):getU s=(zeroU, 4):=by unfold getU; rw [if_neg h, if_neg h2, if_neg h3, if_pos h4]
theorem getU_good (s:ByteArray) (h:¬ s.size<21) (h2:¬ 1048576<getN s) (h3:¬ s.size<secsN (getN s) * 64) (h4:¬ getBad s):getU s=(getV s, 0):=by unfold getU; rw [if_neg h, if_neg h2, if_neg h3, if_neg h4]
abbrev uvC (u:UV):List Value:=unitC u.sr u.sq u.kd u.body
abbrev zC:List Value:=[.int .u32 0, .int .u64 0, .int .i64 0, .string ⟨#[]⟩]
section
variable {H:AH} {R:AEnd→AH→Prop}
theorem st4_at {o:Nat} {cs:List Value} (hb:Has H o (.row cs 0)) (hl:cs.length=4) {a b c:Int} {d:ByteArray} {K:Int→Int→Int→ByteArray→AH→Prop} (hk:K a b c d (H.set o (.row [.int .u32 a, .int .u64 b, .int .i64 c, .string d] 0))) :
    wSt o 0 [.int .u32 a, .int .u64 b, .int .i64 c, .string d] H fun H2=>wPt (some ⟨o, 0, none⟩) fun i k=>ldI .u32 i k H2 fun n=>ldI .u64 i (k + 1) H2 fun m=>ldI .i64 i (k + 2) H2 fun q=>ldS i (k + 3) H2 fun t=>K n m q t H2:=by
  match cs, hl with
  | [x, y, z, w], _ =>
    have hs:=hb.set (.row [.int .u32 a, .int .u64 b, .int .i64 c, .string d] 0)
    exact wSt_at hb (by simp) (wPt_at (ldI_at hs rfl (ldI_at hs rfl (ldI_at hs rfl (ldS_at hs rfl hk)))))
end
end Go.Proofs.YtjhbbbcelnlnpaaGreatDoor
namespace Go.Proofs.YtjhbbbcelnlnpaaGreatDoor
open Go.RowKit

theorem num_def (s:ByteArray) (a b:Nat):nval (s.extract a b).data.toList=num s a b:=rfl
theorem getN_def (s:ByteArray):num s 17 21=getN s:=rfl
theorem getN_lt (s:ByteArray):getN s<4294967296:=num_lt s 17 21 (by omega)
theorem ofL_nil:ofL []=⟨#[]⟩:=rfl
attribute [local irreducible] getN num secsN nval crcSum ofL Lib.trimB
section
variable {H:AH} {R:AEnd→AH→Prop}
set_option maxRecDepth 20000 in
set_option maxHeartbeats 400000 in
theorem get_call (s:ByteArray) (hs:s.size≤140737488355328) (h:∀ H', Fr [] H H'→R (.ret (.tuple #[.agg (uvC (getU s).1).toArray, .int .i64 (getU s).2])) H'):ACall Tryz.prog 100 [.string s] H R:=by
  apply f100_call
  unfold f100_B
  have hz:∀ e, getU s=(zeroU, e)→∀ H', Fr [] H H'→R (.ret (.tuple #[.agg #[.int .u32 0, .int .u64 0, .int .i64 0, .string ⟨#[]⟩], .int .i64 e])) H':=fun e he=>by rw [he] at h; exact h
  have hv:getU s=(getV s, 0)→∀ H', Fr [] H H'→R (.ret (.tuple #[.agg #[.int .u32 ((num s 4 8:Nat):Int), .int .u64 ((num s 8 16:Nat):Int), .int .i64 ((s.data.toList.getD 16 0).toNat:Int), .string (s.extract 21 (21 + getN s))], .int .i64 0])) H':=fun he=>by rw [he] at h; exact h
  clear h
  refine wNew_at ?_
  have hb:=Has.new H (.row zC 0)
  have f0:Fr [] H (H.push (.row zC 0)):=(Fr.refl [] H).push _
  have hge:H.next≤H.next:=Nat.le_refl _
  generalize ho:H.next=o at hb hge ⊢
  generalize H.push (.row zC 0)=H1 at hb f0 ⊢
  refine wIf_d (fun c1=>?_) (fun c1=>?_)
  · exact st4_at hb rfl (hz 3 (getU_short s (by omega)) _ (f0.set (.inr (by omega)) _))
  · have g1:¬ s.size<21:=by omega
    refine wSlS_at (by omega) (by omega) (by omega) ?_
    have hnum:∀ a b, b≤a + 8→(s.extract a b).size≤8:=fun a b hab=>by rw [ByteArray.size_extract]; omega
    refine wCall_of (number_call _ (hnum 17 21 (by omega)) (fun H2 f2=>opI_at ?_))
    have hb2:=hb.fr f2 (by simp)
    have f02:=f0.trans f2
    have hN:nval (s.extract (Int.toNat 17) (Int.toNat 21)).data.toList=getN s:=(num_def s 17 21).trans (getN_def s)
    rw [hN]
    have hNl:getN s<4294967296:=getN_lt s
    refine wIf_d (fun c2=>?_) (fun c2=>?_)
    · exact st4_at hb2 rfl (hz 4 (getU_long s g1 (by omega)) _ (f02.set (.inr (by omega)) _))
    · have g2:¬ 1048576<getN s:=by omega
      have e1:IntKind.i64.wrap ((getN s:Nat):Int)=((getN s:Nat):Int):=wi _ (by omega) (by omega)
      have hsec:=secs_nat (getN s) (by omega)
      rw [e1]
      refine wCall_of (sectors_call _ (opI_at ?_))
      have e2:IntKind.i64.wrap (((secsN (getN s):Nat):Int) * 64)=((secsN (getN s) * 64:Nat):Int):=by rw [wi _ (by omega) (by omega)]; omega
      rw [e2]
      refine wIf_d (fun c3=>?_) (fun c3=>?_)
      · exact st4_at hb2 rfl (hz 3 (getU_few s g1 g2 (by omega)) _ (f02.set (.inr (by omega)) _))
      · have g3:¬ s.size<secsN (getN s) * 64:=by omega
        have e3:IntKind.i64.wrap (21 + ((getN s:Nat):Int))=((21 + getN s:Nat):Int):=by rw [wi _ (by omega) (by omega)]; omega
        rw [e3]
        refine wSlS_at (by omega) (by omega) (by omega) (wSlS_at (by omega) (by omega) (by omega) ?_)
        have hsl:(s.extract (Int.toNat 4) (Int.toNat ((21 + getN s:Nat):Int)))=s.extract 4 (21 + getN s):=rfl
        rw [hsl]
        refine wCall_of (sum_call _ (by rw [ByteArray.size_extract]; omega) (fun H3 f3=>opI_at ?_))
        have hb3:=hb2.fr f3 (by simp)
        have f03:=f02.trans f3
        refine wCall_of (number_call _ (hnum 0 4 (by omega)) (fun H4 f4=>opI_at ?_))
        have hb4:=hb3.fr f4 (by simp)
        have f04:=f03.trans f4
        have h04:nval (s.extract (Int.toNat 0) (Int.toNat 4)).data.toList=num s 0 4:=num_def s 0 4
        rw [h04]
        have hcl:(crcSum (s.extract 4 (21 + getN s))).toNat<4294967296:=(crcSum (s.extract 4 (21 + getN s))).isLt
        have e4:IntKind.u64.wrap (((crcSum (s.extract 4 (21 + getN s))).toNat:Nat):Int)=(((crcSum (s.extract 4 (21 + getN s))).toNat:Nat):Int):=wu _ (by omega)
        rw [e4]
        refine wIf_n (fun c4=>?_) (fun c4=>?_)
        · rw [f100_J0_eq]
          unfold f100_J0_B
          exact wIf_t rfl (wPt_at (st4_at hb4 rfl (hz 4 (getU_bad s g1 g2 g3 (.inl (by omega))) _ (f04.set (.inr (by omega)) _))))
        · refine wCall_of (sectors_call _ (opI_at ?_))
          rw [e2]
          refine wSlS_at (by omega) (by omega) (by omega) ?_
          have hsl2:(s.extract (Int.toNat ((21 + getN s:Nat):Int)) (Int.toNat ((secsN (getN s) * 64:Nat):Int)))=s.extract (21 + getN s) (secsN (getN s) * 64):=rfl
          rw [hsl2]
          have hts:(s.extract (21 + getN s) (secsN (getN s) * 64)).size≤9223372036854775807:=by rw [ByteArray.size_extract]; omega
          refine wCall_of (trim_call (s.extract (21 + getN s) (secsN (getN s) * 64)) hts ?_)
          refine opS_at ?_
          rw [f100_J0_eq]
          unfold f100_J0_B
          refine wIf_n (fun c5=>?_) (fun c5=>?_)
          · exact wPt_at (st4_at hb4 rfl (hz 4 (getU_bad s g1 g2 g3 (.inr (fun e=>c5 (by rw [e]; exact ofL_nil)))) _ (f04.set (.inr (by omega)) _)))
          · have hnb:¬ getBad s:=by
              rintro (h | h)
              · exact h (by omega)
              · exact h (ofL_inj (c5.trans ofL_nil.symm))
            rw [f100_J1_eq]
            unfold f100_J1_B
            refine wSlS_at (by omega) (by omega) (by omega) (wSlS_at (by omega) (by omega) (by omega) (wIxS_at (by omega) (by omega) (wSlS_at (by omega) (by omega) (by omega) ?_)))
            refine wCall_of (number_call _ (hnum 4 8 (by omega)) (fun H5 f5=>opI_at ?_))
            have hb5:=hb4.fr f5 (by simp)
            refine wCall_of (number_call _ (hnum 8 16 (by omega)) (fun H6 f6=>opI_at ?_))
            have hb6:=hb5.fr f6 (by simp)
            have f06:=(f04.trans f5).trans f6
            have e5:IntKind.u32.wrap ((nval (s.extract (Int.toNat 4) (Int.toNat 8)).data.toList:Nat):Int)=((num s 4 8:Nat):Int):=by
              have:=num_lt s 4 8 (by omega)
              have h48:nval (s.extract (Int.toNat 4) (Int.toNat 8)).data.toList=num s 4 8:=num_def s 4 8
              rw [h48, wrap32_eq]; omega
            have e6:IntKind.i64.wrap ((s.data.toList.getD (Int.toNat 16) 0).toNat:Int)=((s.data.toList.getD 16 0).toNat:Int):=by
              have:=UInt8.toNat_lt (s.data.toList.getD 16 0)
              have e:(s.data.toList.getD (Int.toNat 16) 0)=s.data.toList.getD 16 0:=rfl
              rw [e]
              exact wi _ (by omega) (by omega)
            have h816:nval (s.extract (Int.toNat 8) (Int.toNat 16)).data.toList=num s 8 16:=num_def s 8 16
            rw [e5, e6, h816]
            exact wPt_at (st4_at hb6 rfl (hv (getU_good s g1 g2 g3 hnb) _ (f06.set (.inr (by omega)) _)))
end
end Go.Proofs.YtjhbbbcelnlnpaaGreatDoor
