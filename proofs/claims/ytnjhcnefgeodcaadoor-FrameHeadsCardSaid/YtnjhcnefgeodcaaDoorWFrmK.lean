/- Heads: the walks. -/
import Derived.Test.YtnjhcnefgeodcaaDoorWFrmJ
import Derived.Test.YtnjhcnefgeodcaaDoorWGenH
namespace Go.Proofs.YtnjhcnefgeodcaaDoor
set_option linter.unusedVariables false
set_option linter.unusedSimpArgs false
open Go.RowKit

section
variable {H : AH} {R : AEnd → AH → Prop}
/-- Four cells of a head stored, and loaded. -/
theorem sth_at {o : Nat} {cs : List Value} (hb : Has H o (.row cs 0)) (hl : cs.length = 4) {a b c d : Int} {K : Int → Int → Int → Int → AH → Prop} (hk : K a b c d (H.set o (.row [.int .u32 a, .int .u32 b, .int .u32 c, .int .u64 d] 0))) :
    wSt o 0 [.int .u32 a, .int .u32 b, .int .u32 c, .int .u64 d] H fun H2 => wPt (some ⟨o, 0, none⟩) fun i k => ldI .u32 i k H2 fun n => ldI .u32 i (k + 1) H2 fun m => ldI .u32 i (k + 2) H2 fun q => ldI .u64 i (k + 3) H2 fun t => K n m q t H2 := by
  match cs, hl with
  | [x, y, z, w], _ =>
    have hs := hb.set (.row [.int .u32 a, .int .u32 b, .int .u32 c, .int .u64 d] 0)
    exact wSt_at hb (by simp) (wPt_at (ldI_at hs rfl (ldI_at hs rfl (ldI_at hs rfl (ldI_at hs rfl hk)))))
/-- Four cells of a head loaded. -/
theorem ldh_at {o : Nat} {a b c d : Int} (hb : Has H o (.row [.int .u32 a, .int .u32 b, .int .u32 c, .int .u64 d] 0)) {K : Int → Int → Int → Int → Prop} (hk : K a b c d) :
    wPt (some ⟨o, 0, none⟩) fun i k => ldI .u32 i k H fun n => ldI .u32 i (k + 1) H fun m => ldI .u32 i (k + 2) H fun q => ldI .u64 i (k + 3) H fun t => K n m q t :=
  wPt_at (ldI_at hb rfl (ldI_at hb rfl (ldI_at hb rfl (ldI_at hb rfl hk))))
theorem right_call (v : HV) (h : ∀ H', Fr [] H H' → R (.ret (.bool (decide (okH v)))) H') : ACall Tryd.prog 29 [.agg (hvC v).toArray] H R := by
  apply f29_call
  unfold f29_B
  refine wNew_at ?_
  have hb := Has.new H (.row (hvC v) 0)
  have f0 : Fr [] H (H.push (.row (hvC v) 0)) := (Fr.refl [] H).push _
  generalize H.push (.row (hvC v) 0) = H1 at hb f0 ⊢
  generalize H.next = o at hb
  have h := h H1 f0
  refine ldI_at hb rfl (wIf_d (fun c1 => ?_) (fun c1 => ?_))
  · refine ldI_at hb rfl (ldI_at hb rfl (wIf_d (fun c2 => ?_) (fun c2 => ?_)))
    · refine ldI_at hb rfl (ldI_at hb rfl ?_)
      have e : decide (((v.pr : Nat) : Int) < ((v.sr : Nat) : Int)) = decide (okH v) := by
        refine decide_eq_decide.2 ⟨fun x => ⟨by omega, by omega, by omega⟩, fun x => ?_⟩
        have := x.2.2; omega
      rw [e]; exact h
    · have e : decide (okH v) = false := decide_eq_false fun x => by have := x.2.1; omega
      rwa [e] at h
  · have e : decide (okH v) = false := decide_eq_false fun x => by have := x.1; omega
    rwa [e] at h
theorem headL_cat (v : HV) : ⟨#[72]⟩ ++ ofL (be 4 v.sr) ++ ofL (be 4 v.ba) ++ ofL (be 4 v.pr) ++ ofL (be 8 v.sq) ++ ofL (List.replicate 39 0) = ofL (headL v) := by
  have e : (⟨#[72]⟩ : ByteArray) = ofL [72] := rfl
  unfold headL midL
  rw [e]
  simp only [ofL_append, List.append_assoc, List.singleton_append, List.cons_append, List.nil_append]
theorem sz72 : (⟨#[72]⟩ : ByteArray).size = 1 := rfl
attribute [local irreducible] headL sumL crcSum be
set_option maxRecDepth 20000 in
set_option maxHeartbeats 400000 in
theorem puth_call (v : HV) (hv : v.fits) (h : ∀ H', Fr [] H H' → R (.ret (.tuple #[.string (putH v).1, .int .i64 (putH v).2])) H') : ACall Tryd.prog 18 [.agg (hvC v).toArray] H R := by
  obtain ⟨w1, w2, w3, w4⟩ := hv
  apply f18_call
  unfold f18_B
  unfold putH at h
  refine wNew_at ?_
  have hb := Has.new H (.row (hvC v) 0)
  have f0 : Fr [] H (H.push (.row (hvC v) 0)) := (Fr.refl [] H).push _
  generalize H.push (.row (hvC v) 0) = H1 at hb f0 ⊢
  generalize H.next = o at hb
  refine ldI_at hb rfl (ldI_at hb rfl (ldI_at hb rfl (ldI_at hb rfl (wCall_of (right_call v (fun H2 f2 => opB_at ?_))))))
  have hb2 := hb.fr f2 (by simp)
  have f02 := f0.trans f2
  by_cases ok : okH v
  · rw [if_pos ok] at h
    refine wIf_f (by rw [decide_eq_true ok]; rfl) ?_
    have e1 : IntKind.u64.wrap (v.sr : Int) = (v.sr : Int) := wu _ (by omega)
    have e2 : IntKind.u64.wrap (v.ba : Int) = (v.ba : Int) := wu _ (by omega)
    have e3 : IntKind.u64.wrap (v.pr : Int) = (v.pr : Int) := wu _ (by omega)
    refine ldI_at hb2 rfl (ldI_at hb2 rfl (ldI_at hb2 rfl (ldI_at hb2 rfl ?_)))
    rw [e1, e2, e3]
    refine wCall_of (fixed_call v.sr 4 (by omega) (by omega) (fun H3 f3 => opS_at ?_))
    have hb3 := hb2.fr f3 (by simp)
    refine ⟨PinOK_at hb3 (by simp) rfl, PinOK_at hb3 (by simp) rfl, PinOK_at hb3 (by simp) rfl, PinOK_at hb3 (by simp) rfl, wCat_at (by rw [sz72, ofL_size, be_length]; omega) ?_⟩
    refine wCall_of (fixed_call v.ba 4 (by omega) (by omega) (fun H4 f4 => opS_at ?_))
    have hb4 := hb3.fr f4 (by simp)
    refine ⟨PinOK_at hb4 (by simp) rfl, PinOK_at hb4 (by simp) rfl, PinOK_at hb4 (by simp) rfl, PinOK_at hb4 (by simp) rfl, wCat_at (by simp only [ByteArray.size_append, sz72, ofL_size, be_length]; omega) ?_⟩
    refine wCall_of (fixed_call v.pr 4 (by omega) (by omega) (fun H5 f5 => opS_at ?_))
    have hb5 := hb4.fr f5 (by simp)
    refine ⟨PinOK_at hb5 (by simp) rfl, PinOK_at hb5 (by simp) rfl, PinOK_at hb5 (by simp) rfl, PinOK_at hb5 (by simp) rfl, wCat_at (by simp only [ByteArray.size_append, sz72, ofL_size, be_length]; omega) ?_⟩
    refine wCall_of (fixed_call v.sq 8 (by omega) (by omega) (fun H6 f6 => opS_at ?_))
    have hb6 := hb5.fr f6 (by simp)
    refine ⟨PinOK_at hb6 (by simp) rfl, PinOK_at hb6 (by simp) rfl, PinOK_at hb6 (by simp) rfl, wCat_at (by simp only [ByteArray.size_append, sz72, ofL_size, be_length]; omega) ?_⟩
    have f06 := (((f02.trans f3).trans f4).trans f5).trans f6
    rw [f18_J0_eq]
    unfold f18_J0_B
    have hs : (⟨#[72]⟩ ++ ofL (be 4 v.sr) ++ ofL (be 4 v.ba) ++ ofL (be 4 v.pr) ++ ofL (be 8 v.sq)).size = 21 := by simp only [ByteArray.size_append, sz72, ofL_size, be_length]
    rw [hs]
    have e39 : IntKind.i64.wrap (60 - ((21 : Nat) : Int)) = ((39 : Nat) : Int) := by rw [wi _ (by omega) (by omega)]; rfl
    rw [e39]
    refine wCall_of (repeat_call 39 (by omega) (opS_at (wCat_at (by rw [hs, ofL_size, List.length_replicate]; omega) ?_)))
    rw [headL_cat]
    have hl := headL_length v
    have hsl := sumL_lt (headL v)
    refine wCall_of (sum_call _ (by rw [ofL_size]; omega) (fun H7 f7 => opI_at ?_))
    have e4 : IntKind.u64.wrap (((crcSum (ofL (headL v))).toNat : Nat) : Int) = ((sumL (headL v) : Nat) : Int) := by
      have : sumL (headL v) = (crcSum (ofL (headL v))).toNat := by unfold sumL; rfl
      rw [this] at hsl ⊢
      exact wu _ (by omega)
    rw [e4]
    refine wCall_of (fixed_call _ 4 (by omega) (by omega) (fun H8 f8 => opS_at (wCat_at (by rw [ofL_size, ofL_size, be_length]; omega) ?_)))
    rw [ofL_append]
    exact h _ ((f06.trans f7).trans f8)
  · rw [if_neg ok] at h
    exact wIf_t (by rw [decide_eq_false ok]; rfl) (h _ f02)
end
end Go.Proofs.YtnjhcnefgeodcaaDoor
