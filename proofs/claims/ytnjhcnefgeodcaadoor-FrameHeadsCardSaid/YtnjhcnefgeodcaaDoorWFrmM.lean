/- Heads out of bytes: the walks. -/
import Derived.Test.YtnjhcnefgeodcaaDoorWFrmL
import Derived.Test.YtnjhcnefgeodcaaDoorWFrmG
namespace Go.Proofs.YtnjhcnefgeodcaaDoor
set_option linter.unusedVariables false
set_option linter.unusedSimpArgs false
open Go.RowKit
attribute [local irreducible] num secsN nval crcSum ofL Lib.trimB be headL sumL putH hsecL

section
variable {H : AH} {R : AEnd → AH → Prop}
/-- The result's row is there, and the head's, if any. -/
def Sg (H0 : AH) (o : Nat) (z : List Nat) (H : AH) : Prop := Has H o (.row zhC 0) ∧ H0.next ≤ o ∧ Fr [] H0 H ∧ ∀ q ∈ z, Has H q (.row zhC 0) ∧ q ≠ o ∧ H0.next ≤ q
/-- Both are there, the head's full. -/
def Sz (H0 : AH) (o q : Nat) (a b c d : Int) (H : AH) : Prop := Has H o (.row zhC 0) ∧ H0.next ≤ o ∧ Fr [] H0 H ∧ Has H q (.row [.int .u32 a, .int .u32 b, .int .u32 c, .int .u64 d] 0) ∧ q ≠ o ∧ H0.next ≤ q
theorem sg_fr {H0 H1 H2 : AH} {o : Nat} {z : List Nat} (s : Sg H0 o z H1) (f : Fr [] H1 H2) : Sg H0 o z H2 :=
  ⟨s.1.fr f (by simp), s.2.1, s.2.2.1.trans f, fun q hq => ⟨(s.2.2.2 q hq).1.fr f (by simp), (s.2.2.2 q hq).2⟩⟩
theorem sg_num {H0 H1 : AH} {o : Nat} {z : List Nat} (s : Sg H0 o z H1) {t : ByteArray} (ht : t.size ≤ 8) {K : Int → AH → Prop} {Kp : Value → AH → Prop}
    (h : ∀ H2, Sg H0 o z H2 → K ((nval t.data.toList : Nat) : Int) H2) : wCall Tryd.prog 26 [.string t] H1 (fun r H2 => opI .u64 r fun n => K n H2) Kp :=
  wCall_of (number_call t ht (fun H2 f2 => opI_at (h H2 (sg_fr s f2))))
theorem sg_val {H0 H1 : AH} {o : Nat} {z : List Nat} (s : Sg H0 o z H1) {t : ByteArray} (ht : t.size ≤ 8) {K : Int → AH → Prop} {Kp : Value → AH → Prop}
    (h : ∀ H2, Sg H0 o z H2 → K ((nval t.data.toList : Nat) : Int) H2) : wCall Tryd.prog 28 [.string t] H1 (fun r H2 => opI .u64 r fun n => K n H2) Kp :=
  wCall_of (rvalue_call t ht (opI_at (h H1 s)))
theorem sg_new {H0 H1 : AH} {o : Nat} (s : Sg H0 o [] H1) {K : Nat → AH → Prop} (h : ∀ q H2, Sg H0 o [q] H2 → K q H2) : wNew [(.int .u32 0), (.int .u32 0), (.int .u32 0), (.int .u64 0)] H1 K := by
  refine wNew_at (h _ _ ⟨s.1.push _, s.2.1, s.2.2.1.push _, fun q hq => ?_⟩)
  rw [List.mem_singleton.1 hq]
  exact ⟨Has.new _ _, s.1.ne', s.2.2.1.next⟩
theorem sg_st {H0 H1 : AH} {o q : Nat} (s : Sg H0 o [q] H1) {a b c d : Int} {K : AH → Prop} (h : ∀ H2, Sz H0 o q a b c d H2 → K H2) : wSt q 0 [(.int .u32 a), (.int .u32 b), (.int .u32 c), (.int .u64 d)] H1 K := by
  obtain ⟨x1, x2, x3⟩ := s.2.2.2 q (by simp)
  exact wSt_at x1 (by simp) (h _ ⟨s.1.setne x2.symm _, s.2.1, s.2.2.1.set (.inr x3) _, x1.set _, x2, x3⟩)
/-- The result's row full, and the four cells loaded. -/
theorem sz_out {H0 H1 : AH} {o : Nat} {cs : List Value} (hb : Has H1 o (.row cs 0)) (hl : cs.length = 4) (hn : H0.next ≤ o) (f : Fr [] H0 H1) {a b c d : Int} {K : Int → Int → Int → Int → AH → Prop} (hk : ∀ H2, Fr [] H0 H2 → K a b c d H2) :
    wSt o 0 [.int .u32 a, .int .u32 b, .int .u32 c, .int .u64 d] H1 fun H2 => wPt (some ⟨o, 0, none⟩) fun i k => ldI .u32 i k H2 fun n => ldI .u32 i (k + 1) H2 fun m => ldI .u32 i (k + 2) H2 fun q => ldI .u64 i (k + 3) H2 fun t => K n m q t H2 :=
  sth_at hb hl (hk _ (f.set (.inr hn) _))
theorem num32 (s : ByteArray) (a b : Nat) (hb : b ≤ a + 4) : IntKind.u32.wrap ((num s a b : Nat) : Int) = ((num s a b : Nat) : Int) := by
  have := num_lt s a b hb
  rw [wrap32_eq]; omega
set_option maxRecDepth 20000 in
set_option maxHeartbeats 1000000 in
theorem geth_call (s : ByteArray) (hs : s.size ≤ 140737488355328) (h : ∀ H', Fr [] H H' → R (.ret (.tuple #[.agg (hvC (getH s).1).toArray, .bool (getH s).2])) H') : ACall Tryd.prog 16 [.string s] H R := by
  apply f16_call
  unfold f16_B
  have hz : getH s = (zeroH, false) → ∀ H', Fr [] H H' → R (.ret (.tuple #[.agg #[.int .u32 0, .int .u32 0, .int .u32 0, .int .u64 0], .bool false])) H' := fun he => by rw [he] at h; exact h
  have hv : getH s = (hOf s, true) → ∀ H', Fr [] H H' → R (.ret (.tuple #[.agg #[.int .u32 ((num s 5 9 : Nat) : Int), .int .u32 ((num s 9 13 : Nat) : Int), .int .u32 ((num s 13 17 : Nat) : Int), .int .u64 ((num s 17 25 : Nat) : Int)], .bool true])) H' := fun he => by rw [he] at h; exact h
  clear h
  refine wNew_at ?_
  have st : Sg H H.next [] (H.push (.row zhC 0)) := ⟨Has.new _ _, Nat.le_refl _, (Fr.refl [] H).push _, fun q hq => by cases hq⟩
  generalize H.push (.row zhC 0) = H1 at st ⊢
  generalize H.next = o at st ⊢
  refine wIf_n (fun c1 => ?_) (fun c1 => ?_)
  · rw [f16_J0_eq]
    unfold f16_J0_B
    exact wIf_t rfl (wPt_at (sz_out st.1 rfl st.2.1 st.2.2.1 (hz (getH_size s (by omega)))))
  · have g1 : s.size = 64 := by omega
    refine wIxS_at (by omega) (by omega) (wIf_n (fun c2 => ?_) (fun c2 => ?_))
    · rw [f16_J0_eq]
      unfold f16_J0_B
      refine wIf_t rfl (wPt_at (sz_out st.1 rfl st.2.1 st.2.2.1 (hz (getH_bad s g1 (.inl fun e => c2 ?_)))))
      have e : s.data.toList.getD (Int.toNat 4) 0 = 72 := e
      rw [e]; rfl
    · refine wSlS_at (by omega) (by omega) (by omega) (wSlS_at (by omega) (by omega) (by omega) ?_)
      have hx1 : s.extract (Int.toNat 4) (Int.toNat (s.size : Int)) = s.extract 4 64 := by rw [g1]; rfl
      have hx2 : s.extract (Int.toNat 25) (Int.toNat (s.size : Int)) = s.extract 25 64 := by rw [g1]; rfl
      have hx3 : nval (s.extract (Int.toNat 0) (Int.toNat 4)).data.toList = num s 0 4 := num_def s 0 4
      rw [hx1]
      refine wCall_of (sum_call _ (by rw [ByteArray.size_extract]; omega) (fun H2 f2 => opI_at ?_))
      have st2 := sg_fr st f2
      refine sg_num st2 (by rw [ByteArray.size_extract]; omega) (fun H3 st3 => ?_)
      rw [hx3]
      have hcl : (crcSum (s.extract 4 64)).toNat < 4294967296 := (crcSum (s.extract 4 64)).isLt
      have e4 : IntKind.u64.wrap (((crcSum (s.extract 4 64)).toNat : Nat) : Int) = (((crcSum (s.extract 4 64)).toNat : Nat) : Int) := wu _ (by omega)
      rw [e4]
      refine wIf_n (fun c3 => ?_) (fun c3 => ?_)
      · rw [f16_J0_eq]
        unfold f16_J0_B
        exact wIf_t rfl (wPt_at (sz_out st3.1 rfl st3.2.1 st3.2.2.1 (hz (getH_bad s g1 (.inr (.inl fun e => c3 (by rw [e])))))))
      · refine wSlS_at (by omega) (by omega) (by omega) ?_
        rw [hx2]
        refine wCall_of (trim_call (s.extract 25 64) (by rw [ByteArray.size_extract]; omega) (opS_at ?_))
        rw [f16_J0_eq]
        unfold f16_J0_B
        refine wIf_n (fun c4 => ?_) (fun c4 => ?_)
        · exact wPt_at (sz_out st3.1 rfl st3.2.1 st3.2.2.1 (hz (getH_bad s g1 (.inr (.inr fun e => c4 (by rw [e]; exact ofL_nil))))))
        · have hnb : ¬ hBad s := by
            rintro (x | x | x)
            · refine x (UInt8.toNat_inj.1 ?_)
              have c2 : ((s.data.toList.getD 4 0).toNat : Int) = 72 := c2
              show _ = 72
              omega
            · exact x (by omega)
            · exact x (ofL_inj (c4.trans ofL_nil.symm))
          rw [f16_J1_eq]
          unfold f16_J1_B
          refine wSlS_at (by omega) (by omega) (by omega) (wSlS_at (by omega) (by omega) (by omega) (wSlS_at (by omega) (by omega) (by omega) (wSlS_at (by omega) (by omega) (by omega) ?_)))
          have y1 : nval (s.extract (Int.toNat 5) (Int.toNat 9)).data.toList = num s 5 9 := num_def s 5 9
          have y2 : nval (s.extract (Int.toNat 9) (Int.toNat 13)).data.toList = num s 9 13 := num_def s 9 13
          have y3 : nval (s.extract (Int.toNat 13) (Int.toNat 17)).data.toList = num s 13 17 := num_def s 13 17
          have y4 : nval (s.extract (Int.toNat 17) (Int.toNat 25)).data.toList = num s 17 25 := num_def s 17 25
          have z1 : (s.extract (Int.toNat 5) (Int.toNat 9)).size ≤ 8 := by rw [ByteArray.size_extract]; omega
          have z2 : (s.extract (Int.toNat 9) (Int.toNat 13)).size ≤ 8 := by rw [ByteArray.size_extract]; omega
          have z3 : (s.extract (Int.toNat 13) (Int.toNat 17)).size ≤ 8 := by rw [ByteArray.size_extract]; omega
          have z4 : (s.extract (Int.toNat 17) (Int.toNat 25)).size ≤ 8 := by rw [ByteArray.size_extract]; omega
          have last : ∀ q H4, Sz H o q ((num s 5 9 : Nat) : Int) ((num s 9 13 : Nat) : Int) ((num s 13 17 : Nat) : Int) ((num s 17 25 : Nat) : Int) H4 → f16_J2_B (some ⟨o, 0, none⟩) (some ⟨q, 0, none⟩) H4 R := by
            intro q H4 ⟨x1, x2, x3, x4, x5, x6⟩
            unfold f16_J2_B
            refine ldh_at x4 (wCall_of (right_call (hOf s) (fun H5 f5 => opB_at ?_)))
            have x1 := x1.fr f5 (by simp)
            have x4 := x4.fr f5 (by simp)
            have x3 := x3.trans f5
            by_cases ok : okH (hOf s)
            · rw [decide_eq_true ok]
              exact wIf_f rfl (ldh_at x4 (wPt_at (sz_out x1 rfl x2 x3 (hv (getH_good s g1 hnb ok)))))
            · rw [decide_eq_false ok]
              exact wIf_t rfl (wPt_at (sz_out x1 rfl x2 x3 (hz (getH_not s g1 hnb ok))))
          clear hz hv st st2
          have n1 := num32 s 5 9 (by omega)
          have n2 := num32 s 9 13 (by omega)
          have n3 := num32 s 13 17 (by omega)
          repeat' (first
            | (with_reducible exact last _ _ (by assumption))
            | (with_reducible refine And.intro ?_ ?_)
            | ((with_reducible refine sg_num (by assumption) ?zza (fun _ _ => ?_)); (case zza => assumption))
            | (with_reducible refine sg_new (by assumption) (fun _ _ _ => ?_))
            | (rw [y1, y2, y3, y4, n1, n2, n3]; with_reducible refine sg_st (by assumption) (fun _ _ => ?_))
            | rw [f16_J2_eq])
end
end Go.Proofs.YtnjhcnefgeodcaaDoor
