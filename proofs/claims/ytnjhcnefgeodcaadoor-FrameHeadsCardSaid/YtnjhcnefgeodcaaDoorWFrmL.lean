/- Heads: the document's walk. -/
import Derived.Test.YtnjhcnefgeodcaaDoorWFrmK
namespace Go.Proofs.YtnjhcnefgeodcaaDoor
set_option linter.unusedVariables false
set_option linter.unusedSimpArgs false
open Go.RowKit

section
variable {H : AH} {R : AEnd → AH → Prop}
/-- A head's row is there, and the noughts' row, if any. -/
def St (H0 : AH) (o : Nat) (v : HV) (z : List Nat) (H : AH) : Prop := Has H o (.row (hvC v) 0) ∧ Fr [] H0 H ∧ ∀ q ∈ z, Has H q (.row (bcells (List.replicate 39 0)) 1)
theorem st_pin {H0 H1 : AH} {o : Nat} {v : HV} {z : List Nat} (s : St H0 o v z H1) {k : Nat} {c : Value} {K : Prop} (hk : k < 4) (hc : ((hvC v).drop k).take [c].length = [c]) (h : K) : wPin o k [c] H1 K :=
  ⟨PinOK_at s.1 (by simp; omega) hc, h⟩
theorem st_bytes {H0 H1 : AH} {o : Nat} {v : HV} {z : List Nat} (s : St H0 o v z H1) {n size : Nat} (hn : n < 18446744073709551616) (hs : size ≤ 8) {K : ByteArray → AH → Prop} {Kp : Value → AH → Prop}
    (h : ∀ H2, St H0 o v z H2 → K (ofL (be size n)) H2) : wCall Tryd.prog 23 [.int .u64 (n : Int), .int .i64 (size : Int)] H1 (fun r H2 => opS r fun t => K t H2) Kp :=
  wCall_of (rbytes_call n size hn hs (fun H2 f2 => opS_at (h H2 ⟨s.1.fr f2 (by simp), s.2.1.trans f2, fun q hq => (s.2.2 q hq).fr f2 (by simp)⟩)))
theorem st_b4 {H0 H1 : AH} {o : Nat} {v : HV} {z : List Nat} (s : St H0 o v z H1) {n : Nat} (hn : n < 18446744073709551616) {K : ByteArray → AH → Prop} {Kp : Value → AH → Prop}
    (h : ∀ H2, St H0 o v z H2 → K (ofL (be 4 n)) H2) : wCall Tryd.prog 23 [.int .u64 (n : Int), .int .i64 4] H1 (fun r H2 => opS r fun t => K t H2) Kp := st_bytes s hn (size := 4) (by omega) h
theorem st_b8 {H0 H1 : AH} {o : Nat} {v : HV} {z : List Nat} (s : St H0 o v z H1) {n : Nat} (hn : n < 18446744073709551616) {K : ByteArray → AH → Prop} {Kp : Value → AH → Prop}
    (h : ∀ H2, St H0 o v z H2 → K (ofL (be 8 n)) H2) : wCall Tryd.prog 23 [.int .u64 (n : Int), .int .i64 8] H1 (fun r H2 => opS r fun t => K t H2) Kp := st_bytes s hn (size := 8) (by omega) h
theorem st_mk {H0 H1 : AH} {o : Nat} {v : HV} (s : St H0 o v [] H1) {K : Nat → AH → Prop} (h : ∀ q H2, St H0 o v [q] H2 → K q H2) : wMk [(.int .u8 0)] 1 1 39 39 H1 K := by
  refine wMk_at (by omega) (by omega) (by omega) (by omega) ?_
  rw [bcells_rep]
  refine h _ _ ⟨s.1.push _, s.2.1.push _, fun q hq => ?_⟩
  rw [List.mem_singleton.1 hq]
  exact Has.new _ _
theorem st_str {H0 H1 : AH} {o q : Nat} {v : HV} (s : St H0 o v [q] H1) {K : ByteArray → Prop} (h : K (ofL (List.replicate 39 0))) : wB2S (some ⟨q, 0, none⟩) (Int.toNat 39) 0 H1 K :=
  wB2S_at (s.2.2 q (by simp)) (by rw [List.length_replicate]; rfl) h
attribute [local irreducible] headL sumL crcSum be ofL
set_option maxRecDepth 20000 in
set_option maxHeartbeats 1000000 in
theorem rputh_call (v : HV) (hv : v.fits) (h : ∀ H', Fr [] H H' → R (.ret (.tuple #[.string (putH v).1, .int .i64 (putH v).2])) H') : ACall Tryd.prog 19 [.agg (hvC v).toArray] H R := by
  obtain ⟨w1, w2, w3, w4⟩ := hv
  apply f19_call
  unfold f19_B
  unfold putH at h
  refine wNew_at ?_
  have hb := Has.new H (.row (hvC v) 0)
  have f0 : Fr [] H (H.push (.row (hvC v) 0)) := (Fr.refl [] H).push _
  generalize H.push (.row (hvC v) 0) = H1 at hb f0 ⊢
  generalize H.next = o at hb
  have hno : ¬ okH v → R (.ret (.tuple #[(.string (⟨#[]⟩)), (.int .i64 2)])) H1 := fun no => by
    rw [if_neg no] at h
    exact h _ f0
  refine ldI_at hb rfl (wIf_d (fun c1 => ?_) (fun c1 => ?_))
  · rw [f19_J0_eq]; unfold f19_J0_B; refine wIf_t rfl (hno ?_); exact fun x => by have := x.1; have := x.2.1; omega
  · refine ldI_at hb rfl (wIf_d (fun c2 => ?_) (fun c2 => ?_))
    · rw [f19_J0_eq]; unfold f19_J0_B; refine wIf_t rfl (hno ?_); exact fun x => by have := x.1; omega
    · refine ldI_at hb rfl (ldI_at hb rfl (wIf_d (fun c3 => ?_) (fun c3 => ?_)))
      · rw [f19_J0_eq]; unfold f19_J0_B; refine wIf_t rfl (hno ?_); exact fun x => by have := x.2.1; omega
      · refine ldI_at hb rfl (ldI_at hb rfl ?_)
        rw [f19_J0_eq]
        by_cases c4 : ((v.pr : Nat) : Int) ≥ ((v.sr : Nat) : Int)
        · rw [decide_eq_true c4]; unfold f19_J0_B; refine wIf_t rfl (hno ?_); exact fun x => by have := x.2.2; omega
        · rw [decide_eq_false c4]
          have ok : okH v := ⟨by omega, by omega, by omega⟩
          clear hno
          rw [if_pos ok] at h
          unfold f19_J0_B
          refine wIf_f rfl ?_
          rw [f19_J1_eq]
          unfold f19_J1_B
          have e1 : IntKind.u64.wrap (v.sr : Int) = (v.sr : Int) := wu _ (by omega)
          have e2 : IntKind.u64.wrap (v.ba : Int) = (v.ba : Int) := wu _ (by omega)
          have e3 : IntKind.u64.wrap (v.pr : Int) = (v.pr : Int) := wu _ (by omega)
          refine wPt_at (wPt_at (wPt_at (wPt_at (ldI_at hb rfl (ldI_at hb rfl (ldI_at hb rfl (ldI_at hb rfl ?_)))))))
          rw [e1, e2, e3]
          have hl := headL_length v
          have hsl := sumL_lt (headL v)
          have s1 : (⟨#[72]⟩ ++ ofL (be 4 v.sr)).size = 5 := by simp only [ByteArray.size_append, sz72, ofL_size, be_length]
          have s2 : (⟨#[72]⟩ ++ ofL (be 4 v.sr) ++ ofL (be 4 v.ba)).size = 9 := by simp only [ByteArray.size_append, sz72, ofL_size, be_length]
          have s3 : (⟨#[72]⟩ ++ ofL (be 4 v.sr) ++ ofL (be 4 v.ba) ++ ofL (be 4 v.pr)).size = 13 := by simp only [ByteArray.size_append, sz72, ofL_size, be_length]
          have s4 : (⟨#[72]⟩ ++ ofL (be 4 v.sr) ++ ofL (be 4 v.ba) ++ ofL (be 4 v.pr) ++ ofL (be 8 v.sq)).size = 21 := by simp only [ByteArray.size_append, sz72, ofL_size, be_length]
          have b0 : (⟨#[72]⟩ : ByteArray).size = 1 := rfl
          have b1 : (ofL (be 4 v.sr)).size = 4 := by rw [ofL_size, be_length]
          have b2 : (ofL (be 4 v.ba)).size = 4 := by rw [ofL_size, be_length]
          have b3 : (ofL (be 4 v.pr)).size = 4 := by rw [ofL_size, be_length]
          have b4 : (ofL (be 8 v.sq)).size = 8 := by rw [ofL_size, be_length]
          have b5 : (ofL (List.replicate 39 0)).size = 39 := by rw [ofL_size, List.length_replicate]
          have hcat := headL_cat v
          have st : St H o v [] H1 := ⟨hb, f0, fun q hq => by cases hq⟩
          clear hb f0
          have last : ∀ z H2, St H o v z H2 → f19_J2_B (ofL (headL v)) H2 R := by
            intro z H2 s
            unfold f19_J2_B
            refine wCall_of (rsum_call _ (by rw [ofL_size]; omega) (opI_at ?_))
            have e4 : IntKind.u64.wrap (((crcSum (ofL (headL v))).toNat : Nat) : Int) = ((sumL (headL v) : Nat) : Int) := by
              have : sumL (headL v) = (crcSum (ofL (headL v))).toNat := by unfold sumL; rfl
              rw [this] at hsl ⊢
              exact wu _ (by omega)
            rw [e4]
            refine wCall_of (rbytes_call _ 4 (by omega) (by omega) (fun H8 f8 => opS_at (wCat_at (by rw [ofL_size, ofL_size, be_length]; omega) ?_)))
            rw [ofL_append]
            exact h _ (s.2.1.trans f8)
          generalize headL v = L at hcat last
          clear h
          skip
          skip
          repeat' (first
            | exact last _ _ (by assumption)
            | (with_reducible refine And.intro ?_ ?_)
            | ((with_reducible refine st_pin (by assumption) ?zza ?zzb ?_); (case zza => decide); (case zzb => rfl))
            | ((with_reducible refine st_b4 (by assumption) ?zza (fun _ _ => ?_)); (case zza => omega))
            | ((with_reducible refine st_b8 (by assumption) ?zza (fun _ _ => ?_)); (case zza => omega))
            | (with_reducible refine st_mk (by assumption) (fun _ _ _ => ?_))
            | (with_reducible refine st_str (by assumption) ?_)
            | ((with_reducible refine wCat_at ?zza ?_); (case zza => simp only [ByteArray.size_append, b0, b1, b2, b3, b4, b5]; omega))
            | rw [hcat, f19_J2_eq])
end
end Go.Proofs.YtnjhcnefgeodcaaDoor
