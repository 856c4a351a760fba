/- A unit's sectors. -/
import Derived.Test.YtnjhcnefgeodcaaDoorWFrmC
import Derived.Test.YtnjhcnefgeodcaaDoorWGenG
namespace Go.Proofs.YtnjhcnefgeodcaaDoor
set_option linter.unusedVariables false
set_option linter.unusedSimpArgs false
open Go.RowKit

def padN (n : Nat) : Nat := (64 - n % 64) % 64
def padL (l : List UInt8) : List UInt8 := l ++ List.replicate (padN l.length) 0
def unitL (sr sq kd : Nat) (body : List UInt8) : List UInt8 := be 4 sr ++ be 8 sq ++ be 1 kd ++ be 4 body.length ++ body
def sumL (l : List UInt8) : Nat := (crcSum (ofL l)).toNat
def sectL (sr sq kd : Nat) (body : List UInt8) : List UInt8 := padL (be 4 (sumL (unitL sr sq kd body)) ++ unitL sr sq kd body)
def putU (sr sq : Nat) (kd : Int) (body : ByteArray) : ByteArray × Int :=
  if 1048576 < body.size then (ByteArray.empty, 5) else if kd < 0 ∨ 255 < kd then (ByteArray.empty, 2) else (ofL (sectL sr sq kd.toNat body.data.toList), 0)
def secsN (n : Int) : Nat := if n < 0 ∨ 1048576 < n then 0 else (n.toNat + 84) / 64
theorem unitL_length (sr sq kd : Nat) (body : List UInt8) : (unitL sr sq kd body).length = 17 + body.length := by
  unfold unitL; simp only [List.length_append, be_length]
theorem padN_lt (n : Nat) : padN n < 64 := by unfold padN; omega
theorem padL_length (l : List UInt8) : (padL l).length = l.length + padN l.length := by unfold padL; simp
theorem sumL_lt (l : List UInt8) : sumL l < 4294967296 := (crcSum (ofL l)).isLt
theorem sectL_length (sr sq kd : Nat) (body : List UInt8) (h : body.length ≤ 1048576) : (sectL sr sq kd body).length = 64 * secsN body.length := by
  unfold sectL
  rw [padL_length, List.length_append, be_length, unitL_length]
  unfold padN secsN
  rw [if_neg (by omega)]
  omega

section
variable {H : AH} {R : AEnd → AH → Prop}
theorem padded_call (l : List UInt8) (hl : l.length ≤ 140737488355328) (h : R (.ret (.string (ofL (padL l)))) H) : ACall Tryd.prog 21 [.string (ofL l)] H R := by
  apply f21_call
  unfold f21_B
  have hp := padN_lt l.length
  have e : Int.tmod (IntKind.i64.wrap (64 - (Int.tmod ((ofL l).size : Int) 64))) 64 = ((padN l.length : Nat) : Int) := by
    rw [ofL_size]
    have e1 : Int.tmod ((l.length : Nat) : Int) 64 = ((l.length % 64 : Nat) : Int) := rfl
    rw [e1, wi _ (by omega) (by omega), show (64 : Int) - ((l.length % 64 : Nat) : Int) = ((64 - l.length % 64 : Nat) : Int) by omega]
    rfl
  rw [e]
  refine wCall_of (repeat_call _ (by omega) (opS_at (wCat_at (by rw [ofL_size, ofL_size]; simp; omega) ?_)))
  rw [ofL_append]
  exact h
theorem whole_call (l : List UInt8) (hl : l.length ≤ 140737488355328) (h : ∀ H', Fr [] H H' → R (.ret (.string (ofL (padL l)))) H') : ACall Tryd.prog 24 [.string (ofL l)] H R := by
  apply f24_call
  unfold f24_B
  have hp := padN_lt l.length
  have e : Int.tmod (IntKind.i64.wrap (64 - (Int.tmod ((ofL l).size : Int) 64))) 64 = ((padN l.length : Nat) : Int) := by
    rw [ofL_size]
    have e1 : Int.tmod ((l.length : Nat) : Int) 64 = ((l.length % 64 : Nat) : Int) := rfl
    rw [e1, wi _ (by omega) (by omega), show (64 : Int) - ((l.length % 64 : Nat) : Int) = ((64 - l.length % 64 : Nat) : Int) by omega]
    rfl
  rw [e]
  refine wMk_at (by omega) (by omega) (by omega) (by omega) ?_
  rw [bcells_rep, Int.toNat_natCast]
  refine wB2S_at (Has.new _ _) (by simp) (wCat_at (by rw [ofL_size, ofL_size]; simp; omega) ?_)
  rw [ofL_append]
  exact h _ ((Fr.refl [] H).push _)
theorem sectors_call (n : Int) (h : R (.ret (.int .i64 ((secsN n : Nat) : Int))) H) : ACall Tryd.prog 12 [.int .i64 n] H R := by
  apply f12_call
  unfold f12_B
  unfold secsN at h
  refine wIf_d (fun e => ?_) (fun e => ?_)
  · rw [if_pos (.inl e)] at h
    rw [f12_J0_eq]
    unfold f12_J0_B
    exact wIf_t rfl h
  · rw [f12_J0_eq]
    unfold f12_J0_B
    refine wIf_d (fun e2 => ?_) (fun e2 => ?_)
    · rw [if_pos (.inr e2)] at h
      exact h
    · rw [if_neg (by omega)] at h
      rw [f12_J1_eq]
      unfold f12_J1_B
      have e3 : IntKind.i64.wrap (Int.tdiv (IntKind.i64.wrap ((IntKind.i64.wrap ((IntKind.i64.wrap (n + 21)) + 64)) - 1)) 64) = (((n.toNat + 84) / 64 : Nat) : Int) := by
        rw [wi (n + 21) (by omega) (by omega), wi (n + 21 + 64) (by omega) (by omega), wi (n + 21 + 64 - 1) (by omega) (by omega), Int.tdiv_eq_ediv_of_nonneg (by omega), wi _ (by omega) (by omega)]
        omega
      rw [e3]
      exact h
set_option maxRecDepth 20000 in
theorem rsectors_call (n : Int) (h : R (.ret (.int .i64 ((secsN n : Nat) : Int))) H) : ACall Tryd.prog 13 [.int .i64 n] H R := by
  apply f13_call
  unfold f13_B
  unfold secsN at h
  refine wIf_d (fun e => ?_) (fun e => ?_)
  · rw [if_pos (.inl e)] at h
    rw [f13_J0_eq]
    unfold f13_J0_B
    exact wIf_t rfl h
  · rw [f13_J0_eq]
    unfold f13_J0_B
    refine wIf_d (fun e2 => ?_) (fun e2 => ?_)
    · rw [if_pos (.inr e2)] at h
      exact h
    · rw [if_neg (by omega)] at h
      rw [f13_J1_eq]
      unfold f13_J1_B
      refine f13_L0_rule (J := fun m s3 H' => ∃ k : Nat, k ≤ (n.toNat + 84) / 64 ∧ m = (n.toNat + 84) / 64 - k ∧ s3 = (k : Int) ∧ H' = H) ((n.toNat + 84) / 64) ⟨0, by omega, by omega, rfl, rfl⟩ ?_
      rintro m s3 H' ⟨k, hk, rfl, rfl, rfl⟩
      intros
      unfold f13_R0
      have e3 : IntKind.i64.wrap ((k : Int) * 64) = (k : Int) * 64 := wi _ (by omega) (by omega)
      have e4 : IntKind.i64.wrap (21 + n) = 21 + n := wi _ (by omega) (by omega)
      rw [e3, e4]
      refine wIf_d (fun hlt => ?_) (fun hlt => ?_)
      · exact ⟨(n.toNat + 84) / 64 - (k + 1), by omega, f13_I0_mk ⟨k + 1, by omega, rfl, wi1 k (by omega), rfl⟩⟩
      · have : k = (n.toNat + 84) / 64 := by omega
        subst this
        exact h
/-- A unit's cells. -/
abbrev unitC (sr sq : Nat) (kd : Int) (body : ByteArray) : List Value := [.int .u32 (sr : Int), .int .u64 (sq : Int), .int .i64 kd, .string body]
set_option maxRecDepth 20000 in
theorem put_call (sr sq : Nat) (kd : Int) (body : ByteArray) (h1 : sr < 4294967296) (h2 : sq < 18446744073709551616) (h : ∀ H', Fr [] H H' → R (.ret (.tuple #[.string (putU sr sq kd body).1, .int .i64 (putU sr sq kd body).2])) H') :
    ACall Tryd.prog 10 [.agg (unitC sr sq kd body).toArray] H R := by
  apply f10_call
  unfold f10_B
  unfold putU at h
  refine wNew_at ?_
  have hb := Has.new H (.row (unitC sr sq kd body) 0)
  have f0 : Fr [] H (H.push (.row (unitC sr sq kd body) 0)) := (Fr.refl [] H).push _
  generalize H.push (.row (unitC sr sq kd body) 0) = H1 at hb f0 ⊢
  generalize H.next = o at hb
  refine ldS_at hb rfl (wIf_d (fun c1 => ?_) (fun c1 => ?_))
  · rw [if_pos (by omega)] at h
    exact h _ f0
  · rw [if_neg (by omega)] at h
    refine ldI_at hb rfl (wIf_d (fun c2 => ?_) (fun c2 => ?_))
    · rw [if_pos (.inl c2)] at h
      rw [f10_J0_eq]
      unfold f10_J0_B
      exact wIf_t rfl (h _ f0)
    · refine ldI_at hb rfl ?_
      rw [f10_J0_eq]
      unfold f10_J0_B
      refine wIf_d (fun c3 => ?_) (fun c3 => ?_)
      · rw [if_pos (.inr c3)] at h
        exact h _ f0
      · rw [if_neg (by omega)] at h
        rw [f10_J1_eq]
        unfold f10_J1_B
        have e1 : IntKind.u64.wrap (sr : Int) = (sr : Int) := wu _ (by omega)
        have e2 : IntKind.u64.wrap kd = ((kd.toNat : Nat) : Int) := by rw [show kd = ((kd.toNat : Nat) : Int) by omega, wu _ (by omega)]; simp
        have e3 : IntKind.u64.wrap (body.size : Int) = (body.size : Int) := wu _ (by omega)
        have hsz := data_len body
        refine wPt_at (wPt_at (wPt_at (wPt_at (wPt_at (ldI_at hb rfl (ldI_at hb rfl (ldI_at hb rfl (ldS_at hb rfl (ldS_at hb rfl ?_)))))))))
        rw [e1, e2, e3]
        refine wCall_of (fixed_call sr 4 (by omega) (by omega) (fun H2 f2 => opS_at ?_))
        have hb2 := hb.fr f2 (by simp)
        refine ⟨PinOK_at hb2 (by simp) rfl, PinOK_at hb2 (by simp) rfl, PinOK_at hb2 (by simp) rfl, PinOK_at hb2 (by simp) rfl, PinOK_at hb2 (by simp) rfl, ?_⟩
        refine wCall_of (fixed_call sq 8 (by omega) (by omega) (fun H3 f3 => opS_at ?_))
        have hb3 := hb2.fr f3 (by simp)
        refine ⟨PinOK_at hb3 (by simp) rfl, PinOK_at hb3 (by simp) rfl, PinOK_at hb3 (by simp) rfl, PinOK_at hb3 (by simp) rfl, wCat_at (by rw [ofL_size, ofL_size, be_length, be_length]; omega) ?_⟩
        refine wCall_of (fixed_call kd.toNat 1 (by omega) (by omega) (fun H4 f4 => opS_at ?_))
        have hb4 := hb3.fr f4 (by simp)
        refine ⟨PinOK_at hb4 (by simp) rfl, PinOK_at hb4 (by simp) rfl, PinOK_at hb4 (by simp) rfl, PinOK_at hb4 (by simp) rfl, wCat_at (by rw [ofL_append, ofL_size, ofL_size]; simp only [List.length_append, be_length]; omega) ?_⟩
        refine wCall_of (fixed_call body.size 4 (by omega) (by omega) (fun H5 f5 => opS_at ?_))
        have hb5 := hb4.fr f5 (by simp)
        refine ⟨PinOK_at hb5 (by simp) rfl, PinOK_at hb5 (by simp) rfl, PinOK_at hb5 (by simp) rfl, PinOK_at hb5 (by simp) rfl, wCat_at (by rw [ofL_append, ofL_append, ofL_size, ofL_size]; simp only [List.length_append, be_length]; omega) (wCat_at (by rw [ofL_append, ofL_append, ofL_append, ofL_size]; simp only [List.length_append, be_length]; omega) ?_)⟩
        have f05 := (((f0.trans f2).trans f3).trans f4).trans f5
        have eu : ofL (be 4 sr) ++ ofL (be 8 sq) ++ ofL (be 1 kd.toNat) ++ ofL (be 4 body.size) ++ body = ofL (unitL sr sq kd.toNat body.data.toList) := by
          unfold unitL
          rw [data_len, ← ofL_append, ← ofL_append, ← ofL_append, ← ofL_append, ofL_data]
        rw [eu, f10_J2_eq]
        unfold f10_J2_B
        have hul := unitL_length sr sq kd.toNat body.data.toList
        have hsl := sumL_lt (unitL sr sq kd.toNat body.data.toList)
        refine wCall_of (sum_call _ (by rw [ofL_size]; omega) (fun H6 f6 => opI_at ?_))
        have e4 : IntKind.u64.wrap (((crcSum (ofL (unitL sr sq kd.toNat body.data.toList))).toNat : Nat) : Int) = ((sumL (unitL sr sq kd.toNat body.data.toList) : Nat) : Int) := wu _ (by unfold sumL at hsl; omega)
        rw [e4]
        refine wCall_of (fixed_call _ 4 (by omega) (by omega) (fun H7 f7 => opS_at (wCat_at (by rw [ofL_size, ofL_size, be_length]; omega) ?_)))
        rw [ofL_append]
        refine wCall_of (padded_call _ (by rw [List.length_append, be_length]; omega) (opS_at ?_))
        exact h _ ((f05.trans f6).trans f7)
set_option maxRecDepth 20000 in
theorem rput_call (sr sq : Nat) (kd : Int) (body : ByteArray) (h1 : sr < 4294967296) (h2 : sq < 18446744073709551616) (h : ∀ H', Fr [] H H' → R (.ret (.tuple #[.string (putU sr sq kd body).1, .int .i64 (putU sr sq kd body).2])) H') :
    ACall Tryd.prog 11 [.agg (unitC sr sq kd body).toArray] H R := by
  apply f11_call
  unfold f11_B
  unfold putU at h
  refine wNew_at ?_
  have hb := Has.new H (.row (unitC sr sq kd body) 0)
  have f0 : Fr [] H (H.push (.row (unitC sr sq kd body) 0)) := (Fr.refl [] H).push _
  generalize H.push (.row (unitC sr sq kd body) 0) = H1 at hb f0 ⊢
  generalize H.next = o at hb
  refine ldS_at hb rfl (wIf_d (fun c1 => ?_) (fun c1 => ?_))
  · rw [if_pos (by omega)] at h
    exact h _ f0
  · rw [if_neg (by omega)] at h
    refine ldI_at hb rfl (wIf_d (fun c2 => ?_) (fun c2 => ?_))
    · rw [if_pos (.inl c2)] at h
      rw [f11_J0_eq]
      unfold f11_J0_B
      exact wIf_t rfl (h _ f0)
    · refine ldI_at hb rfl ?_
      rw [f11_J0_eq]
      unfold f11_J0_B
      refine wIf_d (fun c3 => ?_) (fun c3 => ?_)
      · rw [if_pos (.inr c3)] at h
        exact h _ f0
      · rw [if_neg (by omega)] at h
        rw [f11_J1_eq]
        unfold f11_J1_B
        have e1 : IntKind.u64.wrap (sr : Int) = (sr : Int) := wu _ (by omega)
        have e2 : IntKind.u64.wrap kd = ((kd.toNat : Nat) : Int) := by rw [show kd = ((kd.toNat : Nat) : Int) by omega, wu _ (by omega)]; simp
        have e3 : IntKind.u64.wrap (body.size : Int) = (body.size : Int) := wu _ (by omega)
        have hsz := data_len body
        refine wPt_at (wPt_at (wPt_at (wPt_at (wPt_at (ldI_at hb rfl (ldI_at hb rfl (ldI_at hb rfl (ldS_at hb rfl (ldS_at hb rfl ?_)))))))))
        rw [e1, e2, e3]
        refine wCall_of (rbytes_call sr 4 (by omega) (by omega) (fun H2 f2 => opS_at ?_))
        have hb2 := hb.fr f2 (by simp)
        refine ⟨PinOK_at hb2 (by simp) rfl, PinOK_at hb2 (by simp) rfl, PinOK_at hb2 (by simp) rfl, PinOK_at hb2 (by simp) rfl, PinOK_at hb2 (by simp) rfl, ?_⟩
        refine wCall_of (rbytes_call sq 8 (by omega) (by omega) (fun H3 f3 => opS_at ?_))
        have hb3 := hb2.fr f3 (by simp)
        refine ⟨PinOK_at hb3 (by simp) rfl, PinOK_at hb3 (by simp) rfl, PinOK_at hb3 (by simp) rfl, PinOK_at hb3 (by simp) rfl, wCat_at (by rw [ofL_size, ofL_size, be_length, be_length]; omega) ?_⟩
        refine wCall_of (rbytes_call kd.toNat 1 (by omega) (by omega) (fun H4 f4 => opS_at ?_))
        have hb4 := hb3.fr f4 (by simp)
        refine ⟨PinOK_at hb4 (by simp) rfl, PinOK_at hb4 (by simp) rfl, PinOK_at hb4 (by simp) rfl, PinOK_at hb4 (by simp) rfl, wCat_at (by rw [ofL_append, ofL_size, ofL_size]; simp only [List.length_append, be_length]; omega) ?_⟩
        refine wCall_of (rbytes_call body.size 4 (by omega) (by omega) (fun H5 f5 => opS_at ?_))
        have hb5 := hb4.fr f5 (by simp)
        refine ⟨PinOK_at hb5 (by simp) rfl, PinOK_at hb5 (by simp) rfl, PinOK_at hb5 (by simp) rfl, PinOK_at hb5 (by simp) rfl, wCat_at (by rw [ofL_append, ofL_append, ofL_size, ofL_size]; simp only [List.length_append, be_length]; omega) (wCat_at (by rw [ofL_append, ofL_append, ofL_append, ofL_size]; simp only [List.length_append, be_length]; omega) ?_)⟩
        have f05 := (((f0.trans f2).trans f3).trans f4).trans f5
        have eu : ofL (be 4 sr) ++ ofL (be 8 sq) ++ ofL (be 1 kd.toNat) ++ ofL (be 4 body.size) ++ body = ofL (unitL sr sq kd.toNat body.data.toList) := by
          unfold unitL
          rw [data_len, ← ofL_append, ← ofL_append, ← ofL_append, ← ofL_append, ofL_data]
        rw [eu, f11_J2_eq]
        unfold f11_J2_B
        have hul := unitL_length sr sq kd.toNat body.data.toList
        have hsl := sumL_lt (unitL sr sq kd.toNat body.data.toList)
        refine wCall_of (rsum_call _ (by rw [ofL_size]; omega) (opI_at ?_))
        have e4 : IntKind.u64.wrap (((crcSum (ofL (unitL sr sq kd.toNat body.data.toList))).toNat : Nat) : Int) = ((sumL (unitL sr sq kd.toNat body.data.toList) : Nat) : Int) := wu _ (by unfold sumL at hsl; omega)
        rw [e4]
        refine wCall_of (rbytes_call _ 4 (by omega) (by omega) (fun H7 f7 => opS_at (wCat_at (by rw [ofL_size, ofL_size, be_length]; omega) ?_)))
        rw [ofL_append]
        refine wCall_of (whole_call _ (by rw [List.length_append, be_length]; omega) (fun H8 f8 => opS_at ?_))
        exact h _ ((f05.trans f7).trans f8)
end
end Go.Proofs.YtnjhcnefgeodcaaDoor
