/- A unit out of bytes: the walks. -/
import Derived.Test.YtnjhcnefgeodcaaDoorWFrmF
namespace Go.Proofs.YtnjhcnefgeodcaaDoor
set_option linter.unusedVariables false
set_option linter.unusedSimpArgs false
open Go.RowKit

theorem num_def (s : ByteArray) (a b : Nat) : nval (s.extract a b).data.toList = num s a b := rfl
theorem getN_def (s : ByteArray) : num s 17 21 = getN s := rfl
theorem getN_lt (s : ByteArray) : getN s < 4294967296 := num_lt s 17 21 (by omega)
theorem ofL_nil : ofL [] = ⟨#[]⟩ := rfl
attribute [local irreducible] getN num secsN nval crcSum ofL Lib.trimB
section
variable {H : AH} {R : AEnd → AH → Prop}
set_option maxRecDepth 20000 in
set_option maxHeartbeats 400000 in
theorem get_call (s : ByteArray) (hs : s.size ≤ 140737488355328) (h : ∀ H', Fr [] H H' → R (.ret (.tuple #[.agg (uvC (getU s).1).toArray, .int .i64 (getU s).2])) H') : ACall Tryd.prog 14 [.string s] H R := by
  apply f14_call
  unfold f14_B
  have hz : ∀ e, getU s = (zeroU, e) → ∀ H', Fr [] H H' → R (.ret (.tuple #[.agg #[.int .u32 0, .int .u64 0, .int .i64 0, .string ⟨#[]⟩], .int .i64 e])) H' := fun e he => by rw [he] at h; exact h
  have hv : getU s = (getV s, 0) → ∀ H', Fr [] H H' → R (.ret (.tuple #[.agg #[.int .u32 ((num s 4 8 : Nat) : Int), .int .u64 ((num s 8 16 : Nat) : Int), .int .i64 ((s.data.toList.getD 16 0).toNat : Int), .string (s.extract 21 (21 + getN s))], .int .i64 0])) H' := fun he => by rw [he] at h; exact h
  clear h
  refine wNew_at ?_
  have hb := Has.new H (.row zC 0)
  have f0 : Fr [] H (H.push (.row zC 0)) := (Fr.refl [] H).push _
  have hge : H.next ≤ H.next := Nat.le_refl _
  generalize ho : H.next = o at hb hge ⊢
  generalize H.push (.row zC 0) = H1 at hb f0 ⊢
  refine wIf_d (fun c1 => ?_) (fun c1 => ?_)
  · exact st4_at hb rfl (hz 3 (getU_short s (by omega)) _ (f0.set (.inr (by omega)) _))
  · have g1 : ¬ s.size < 21 := by omega
    refine wSlS_at (by omega) (by omega) (by omega) ?_
    have hnum : ∀ a b, b ≤ a + 8 → (s.extract a b).size ≤ 8 := fun a b hab => by rw [ByteArray.size_extract]; omega
    refine wCall_of (number_call _ (hnum 17 21 (by omega)) (fun H2 f2 => opI_at ?_))
    have hb2 := hb.fr f2 (by simp)
    have f02 := f0.trans f2
    have hN : nval (s.extract (Int.toNat 17) (Int.toNat 21)).data.toList = getN s := (num_def s 17 21).trans (getN_def s)
    rw [hN]
    have hNl : getN s < 4294967296 := getN_lt s
    refine wIf_d (fun c2 => ?_) (fun c2 => ?_)
    · exact st4_at hb2 rfl (hz 4 (getU_long s g1 (by omega)) _ (f02.set (.inr (by omega)) _))
    · have g2 : ¬ 1048576 < getN s := by omega
      have e1 : IntKind.i64.wrap ((getN s : Nat) : Int) = ((getN s : Nat) : Int) := wi _ (by omega) (by omega)
      have hsec := secs_nat (getN s) (by omega)
      rw [e1]
      refine wCall_of (sectors_call _ (opI_at ?_))
      have e2 : IntKind.i64.wrap (((secsN (getN s) : Nat) : Int) * 64) = ((secsN (getN s) * 64 : Nat) : Int) := by rw [wi _ (by omega) (by omega)]; omega
      rw [e2]
      refine wIf_d (fun c3 => ?_) (fun c3 => ?_)
      · exact st4_at hb2 rfl (hz 3 (getU_few s g1 g2 (by omega)) _ (f02.set (.inr (by omega)) _))
      · have g3 : ¬ s.size < secsN (getN s) * 64 := by omega
        have e3 : IntKind.i64.wrap (21 + ((getN s : Nat) : Int)) = ((21 + getN s : Nat) : Int) := by rw [wi _ (by omega) (by omega)]; omega
        rw [e3]
        refine wSlS_at (by omega) (by omega) (by omega) (wSlS_at (by omega) (by omega) (by omega) ?_)
        have hsl : (s.extract (Int.toNat 4) (Int.toNat ((21 + getN s : Nat) : Int))) = s.extract 4 (21 + getN s) := rfl
        rw [hsl]
        refine wCall_of (sum_call _ (by rw [ByteArray.size_extract]; omega) (fun H3 f3 => opI_at ?_))
        have hb3 := hb2.fr f3 (by simp)
        have f03 := f02.trans f3
        refine wCall_of (number_call _ (hnum 0 4 (by omega)) (fun H4 f4 => opI_at ?_))
        have hb4 := hb3.fr f4 (by simp)
        have f04 := f03.trans f4
        have h04 : nval (s.extract (Int.toNat 0) (Int.toNat 4)).data.toList = num s 0 4 := num_def s 0 4
        rw [h04]
        have hcl : (crcSum (s.extract 4 (21 + getN s))).toNat < 4294967296 := (crcSum (s.extract 4 (21 + getN s))).isLt
        have e4 : IntKind.u64.wrap (((crcSum (s.extract 4 (21 + getN s))).toNat : Nat) : Int) = (((crcSum (s.extract 4 (21 + getN s))).toNat : Nat) : Int) := wu _ (by omega)
        rw [e4]
        refine wIf_n (fun c4 => ?_) (fun c4 => ?_)
        · rw [f14_J0_eq]
          unfold f14_J0_B
          exact wIf_t rfl (wPt_at (st4_at hb4 rfl (hz 4 (getU_bad s g1 g2 g3 (.inl (by omega))) _ (f04.set (.inr (by omega)) _))))
        · refine wCall_of (sectors_call _ (opI_at ?_))
          rw [e2]
          refine wSlS_at (by omega) (by omega) (by omega) ?_
          have hsl2 : (s.extract (Int.toNat ((21 + getN s : Nat) : Int)) (Int.toNat ((secsN (getN s) * 64 : Nat) : Int))) = s.extract (21 + getN s) (secsN (getN s) * 64) := rfl
          rw [hsl2]
          have hts : (s.extract (21 + getN s) (secsN (getN s) * 64)).size ≤ 9223372036854775807 := by rw [ByteArray.size_extract]; omega
          refine wCall_of (trim_call (s.extract (21 + getN s) (secsN (getN s) * 64)) hts ?_)
          refine opS_at ?_
          rw [f14_J0_eq]
          unfold f14_J0_B
          refine wIf_n (fun c5 => ?_) (fun c5 => ?_)
          · exact wPt_at (st4_at hb4 rfl (hz 4 (getU_bad s g1 g2 g3 (.inr (fun e => c5 (by rw [e]; exact ofL_nil)))) _ (f04.set (.inr (by omega)) _)))
          · have hnb : ¬ getBad s := by
              rintro (h | h)
              · exact h (by omega)
              · exact h (ofL_inj (c5.trans ofL_nil.symm))
            rw [f14_J1_eq]
            unfold f14_J1_B
            refine wSlS_at (by omega) (by omega) (by omega) (wSlS_at (by omega) (by omega) (by omega) (wIxS_at (by omega) (by omega) (wSlS_at (by omega) (by omega) (by omega) ?_)))
            refine wCall_of (number_call _ (hnum 4 8 (by omega)) (fun H5 f5 => opI_at ?_))
            have hb5 := hb4.fr f5 (by simp)
            refine wCall_of (number_call _ (hnum 8 16 (by omega)) (fun H6 f6 => opI_at ?_))
            have hb6 := hb5.fr f6 (by simp)
            have f06 := (f04.trans f5).trans f6
            have e5 : IntKind.u32.wrap ((nval (s.extract (Int.toNat 4) (Int.toNat 8)).data.toList : Nat) : Int) = ((num s 4 8 : Nat) : Int) := by
              have := num_lt s 4 8 (by omega)
              have h48 : nval (s.extract (Int.toNat 4) (Int.toNat 8)).data.toList = num s 4 8 := num_def s 4 8
              rw [h48, wrap32_eq]; omega
            have e6 : IntKind.i64.wrap ((s.data.toList.getD (Int.toNat 16) 0).toNat : Int) = ((s.data.toList.getD 16 0).toNat : Int) := by
              have := UInt8.toNat_lt (s.data.toList.getD 16 0)
              have e : (s.data.toList.getD (Int.toNat 16) 0) = s.data.toList.getD 16 0 := rfl
              rw [e]
              exact wi _ (by omega) (by omega)
            have h816 : nval (s.extract (Int.toNat 8) (Int.toNat 16)).data.toList = num s 8 16 := num_def s 8 16
            rw [e5, e6, h816]
            exact wPt_at (st4_at hb6 rfl (hv (getU_good s g1 g2 g3 hnb) _ (f06.set (.inr (by omega)) _)))
set_option maxRecDepth 20000 in
set_option maxHeartbeats 400000 in
theorem rget_call (s : ByteArray) (hs : s.size ≤ 140737488355328) (h : ∀ H', Fr [] H H' → R (.ret (.tuple #[.agg (uvC (getU s).1).toArray, .int .i64 (getU s).2])) H') : ACall Tryd.prog 15 [.string s] H R := by
  apply f15_call
  unfold f15_B
  have hz : ∀ e, getU s = (zeroU, e) → ∀ H', Fr [] H H' → R (.ret (.tuple #[.agg #[.int .u32 0, .int .u64 0, .int .i64 0, .string ⟨#[]⟩], .int .i64 e])) H' := fun e he => by rw [he] at h; exact h
  have hv : getU s = (getV s, 0) → ∀ H', Fr [] H H' → R (.ret (.tuple #[.agg #[.int .u32 ((num s 4 8 : Nat) : Int), .int .u64 ((num s 8 16 : Nat) : Int), .int .i64 ((s.data.toList.getD 16 0).toNat : Int), .string (s.extract 21 (21 + getN s))], .int .i64 0])) H' := fun he => by rw [he] at h; exact h
  clear h
  refine wNew_at ?_
  have hb := Has.new H (.row zC 0)
  have f0 : Fr [] H (H.push (.row zC 0)) := (Fr.refl [] H).push _
  have hge : H.next ≤ H.next := Nat.le_refl _
  generalize ho : H.next = o at hb hge ⊢
  generalize H.push (.row zC 0) = H1 at hb f0 ⊢
  refine wIf_d (fun c1 => ?_) (fun c1 => ?_)
  · exact st4_at hb rfl (hz 3 (getU_short s (by omega)) _ (f0.set (.inr (by omega)) _))
  · have g1 : ¬ s.size < 21 := by omega
    refine wSlS_at (by omega) (by omega) (by omega) ?_
    have hnum : ∀ a b, b ≤ a + 8 → (s.extract a b).size ≤ 8 := fun a b hab => by rw [ByteArray.size_extract]; omega
    refine wCall_of (rvalue_call _ (hnum 17 21 (by omega)) (opI_at ?_))
    have hN : nval (s.extract (Int.toNat 17) (Int.toNat 21)).data.toList = getN s := (num_def s 17 21).trans (getN_def s)
    rw [hN]
    have hNl : getN s < 4294967296 := getN_lt s
    refine wIf_d (fun c2 => ?_) (fun c2 => ?_)
    · exact st4_at hb rfl (hz 4 (getU_long s g1 (by omega)) _ (f0.set (.inr (by omega)) _))
    · have g2 : ¬ 1048576 < getN s := by omega
      have hsec := secs_nat (getN s) (by omega)
      have e1 : IntKind.i64.wrap ((getN s : Nat) : Int) = ((getN s : Nat) : Int) := wi _ (by omega) (by omega)
      have e2 : IntKind.i64.wrap (IntKind.i64.wrap (Int.tdiv (IntKind.i64.wrap (IntKind.i64.wrap (((getN s : Nat) : Int) + 21) + 63)) 64) * 64) = ((secsN (getN s) * 64 : Nat) : Int) := by
        rw [wi (((getN s : Nat) : Int) + 21) (by omega) (by omega), wi (((getN s : Nat) : Int) + 21 + 63) (by omega) (by omega), Int.tdiv_eq_ediv_of_nonneg (by omega), wi ((((getN s : Nat) : Int) + 21 + 63) / 64) (by omega) (by omega), wi _ (by omega) (by omega)]
        omega
      rw [e1, e2]
      refine wIf_d (fun c3 => ?_) (fun c3 => ?_)
      · exact st4_at hb rfl (hz 3 (getU_few s g1 g2 (by omega)) _ (f0.set (.inr (by omega)) _))
      · have g3 : ¬ s.size < secsN (getN s) * 64 := by omega
        have e3 : IntKind.i64.wrap (21 + ((getN s : Nat) : Int)) = ((21 + getN s : Nat) : Int) := by rw [wi _ (by omega) (by omega)]; omega
        rw [e3]
        refine wSlS_at (by omega) (by omega) (by omega) (wSlS_at (by omega) (by omega) (by omega) (wIxS_at (by omega) (by omega) (wSlS_at (by omega) (by omega) (by omega) ?_)))
        have e5 : IntKind.u32.wrap ((nval (s.extract (Int.toNat 4) (Int.toNat 8)).data.toList : Nat) : Int) = (((getV s).sr : Nat) : Int) := by
          have := num_lt s 4 8 (by omega)
          have h48 : nval (s.extract (Int.toNat 4) (Int.toNat 8)).data.toList = num s 4 8 := num_def s 4 8
          show _ = ((num s 4 8 : Nat) : Int)
          rw [h48, wrap32_eq]; omega
        have e6 : IntKind.i64.wrap ((s.data.toList.getD (Int.toNat 16) 0).toNat : Int) = (getV s).kd := by
          have := UInt8.toNat_lt (s.data.toList.getD 16 0)
          have e : (s.data.toList.getD (Int.toNat 16) 0) = s.data.toList.getD 16 0 := rfl
          rw [e]
          show _ = ((s.data.toList.getD 16 0).toNat : Int)
          exact wi _ (by omega) (by omega)
        have e7 : (nval (s.extract (Int.toNat 8) (Int.toNat 16)).data.toList) = (getV s).sq := num_def s 8 16
        have e8 : s.extract (Int.toNat 21) (Int.toNat ((21 + getN s : Nat) : Int)) = (getV s).body := rfl
        rw [e6, e8]
        have hsr : (getV s).sr < 4294967296 := num_lt s 4 8 (by omega)
        have hsq : (getV s).sq < 18446744073709551616 := num_lt8 s 8 16 (by omega)
        -- behind the unit's cells
        have hj : ∀ (H3 : AH) (q : Nat), Has H3 q (.row (uvC (getV s)) 0) → Has H3 o (.row zC 0) → q ≠ o → Fr [] H H3 → f15_J0_B s (some ⟨o, 0, none⟩) ((secsN (getN s) * 64 : Nat) : Int) (some ⟨q, 0, none⟩) H3 R := by
          intro H3 q hq hb3 hne f3
          unfold f15_J0_B
          refine ld4_at hq ?_
          refine wCall_of (rput_call _ _ _ _ hsr hsq (fun H4 f4 => opT_at rfl (opS_at (opI_at (wSlS_at (by omega) (by omega) (by omega) ?_)))))
          have hq4 := hq.fr f4 (by simp)
          have hb4 := hb3.fr f4 (by simp)
          have f04 := f3.trans f4
          have hpg := put_get s (by omega) (by omega)
          have hsl2 : (s.extract (Int.toNat 0) (Int.toNat ((secsN (getN s) * 64 : Nat) : Int))) = s.extract 0 (secsN (getN s) * 64) := rfl
          rw [hsl2]
          refine wIf_n (fun c4 => ?_) (fun c4 => ?_)
          · have hbad : getBad s := Decidable.byContradiction fun e => c4 (hpg.2 e)
            exact wPt_at (st4_at hb4 rfl (hz 4 (getU_bad s g1 g2 g3 hbad) _ (f04.set (.inr (by omega)) _)))
          · exact ld4_at hq4 (wPt_at (st4_at hb4 rfl (hv (getU_good s g1 g2 g3 (hpg.1 c4)) _ (f04.set (.inr (by omega)) _))))
        -- the unit's cells, made at whatever time
        have hset : ∀ (H3 : AH) (q : Nat) , Has H3 q (.row zC 0) → Has H3 o (.row zC 0) → q ≠ o → H.next ≤ q → Fr [] H H3 →
            Has (H3.set q (.row (uvC (getV s)) 0)) q (.row (uvC (getV s)) 0) ∧ Has (H3.set q (.row (uvC (getV s)) 0)) o (.row zC 0) ∧ Fr [] H (H3.set q (.row (uvC (getV s)) 0)) := by
          intro H3 q hq hb3 hne hqn f3
          exact ⟨hq.set _, hb3.setne hne.symm _, f3.set (.inr hqn) _⟩
        have hol := hb.lt
        have hn1 := f0.next
        refine ⟨wCall_of (rvalue_call _ (hnum 4 8 (by omega)) (opI_at ⟨wCall_of (rvalue_call _ (hnum 8 16 (by omega)) (opI_at (wNew_at ?_))), wNew_at (wCall_of (rvalue_call _ (hnum 8 16 (by omega)) (opI_at ?_)))⟩)), wNew_at (wCall_of (rvalue_call _ (hnum 4 8 (by omega)) (opI_at (wCall_of (rvalue_call _ (hnum 8 16 (by omega)) (opI_at ?_))))))⟩ <;>
        · rw [e5, e7]
          obtain ⟨g1, g2, g3⟩ := hset (H1.push (.row zC 0)) H1.next (Has.new _ _) (hb.push _) (by omega) (by omega) (f0.push _)
          refine wSt_at (Has.new _ _) (by simp) ?_
          rw [f15_J0_eq]
          exact hj _ H1.next g1 g2 (by omega) g3
end
end Go.Proofs.YtnjhcnefgeodcaaDoor
