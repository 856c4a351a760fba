/- A unit out of bytes: the program's way and the document's. -/
import Derived.Test.YtnjhcnefgeodcaaDoorWFrmE
namespace Go.Proofs.YtnjhcnefgeodcaaDoor
set_option linter.unusedVariables false
set_option linter.unusedSimpArgs false
open Go.RowKit

theorem be1 (x : UInt8) : be 1 x.toNat = [x] := by
  rw [be_succ]
  have : be 0 x.toNat = [] := rfl
  rw [this]
  congr 1
  apply UInt8.toNat_inj.1
  rw [UInt8.toNat_ofNat']
  have := UInt8.toNat_lt x
  rw [Nat.pow_zero, Nat.div_one]
  omega
theorem be_piece (L : List UInt8) (a k : Nat) (h : a + k ≤ L.length) : be k (nval ((L.drop a).take k)) = (L.drop a).take k := by
  have hl : ((L.drop a).take k).length = k := by rw [List.length_take, List.length_drop]; omega
  have := be_nval ((L.drop a).take k)
  rwa [hl] at this
theorem one_piece (L : List UInt8) (a : Nat) (h : a < L.length) : [L.getD a 0] = (L.drop a).take 1 := by
  rw [List.drop_eq_getElem_cons h, List.take_succ_cons, List.take_zero, List.getD_eq_getElem?_getD, List.getElem?_eq_getElem h]; rfl
theorem num_eq (s : ByteArray) (a b : Nat) : num s a b = nval ((s.data.toList.drop a).take (b - a)) := by unfold num; rw [data_extract_l]
theorem unit_of (s : ByteArray) (h : 21 + getN s ≤ s.size) : unitL (getV s).sr (getV s).sq (getV s).kd.toNat (getV s).body.data.toList = (s.data.toList.drop 4).take (17 + getN s) := by
  have hl := data_len s
  have e5 : (getV s).body.data.toList = (s.data.toList.drop 21).take (getN s) := by
    show (s.extract 21 (21 + getN s)).data.toList = _
    rw [data_extract_l]; congr 1; omega
  have e5l : (getV s).body.data.toList.length = getN s := by rw [e5, List.length_take, List.length_drop]; omega
  unfold unitL
  rw [e5l, e5]
  have e1 : be 4 (getV s).sr = (s.data.toList.drop 4).take 4 := by
    show be 4 (num s 4 8) = _
    rw [num_eq]; exact be_piece _ 4 4 (by omega)
  have e2 : be 8 (getV s).sq = (s.data.toList.drop 8).take 8 := by
    show be 8 (num s 8 16) = _
    rw [num_eq]; exact be_piece _ 8 8 (by omega)
  have e3 : be 1 (getV s).kd.toNat = (s.data.toList.drop 16).take 1 := by
    show be 1 (Int.toNat (((s.data.toList.getD 16 0).toNat : Nat) : Int)) = _
    rw [Int.toNat_natCast, be1, one_piece _ 16 (by omega)]
  have e4 : be 4 (getN s) = (s.data.toList.drop 17).take 4 := by
    unfold getN
    rw [num_eq]; exact be_piece _ 17 4 (by omega)
  rw [e1, e2, e3, e4]
  rw [show 17 + getN s = 4 + (8 + (1 + (4 + getN s))) by omega, List.take_add, List.drop_drop, List.take_add, List.drop_drop, List.take_add, List.drop_drop, List.take_add, List.drop_drop]
  simp only [List.append_assoc]
theorem put_get (s : ByteArray) (h2 : getN s ≤ 1048576) (h3 : secsN (getN s) * 64 ≤ s.size) :
    (putU (getV s).sr (getV s).sq (getV s).kd (getV s).body).1 = s.extract 0 (secsN (getN s) * 64) ↔ ¬ getBad s := by
  have hl := data_len s
  have hk := secs_nat (getN s) h2
  have h21 : 21 + getN s ≤ s.size := by omega
  have hb : (getV s).body.size = getN s := by
    show (s.extract 21 (21 + getN s)).size = _
    rw [ext_size _ _ _ h21]; omega
  have hkd : (getV s).kd = (((s.data.toList.getD 16 0).toNat : Nat) : Int) := rfl
  have hx := UInt8.toNat_lt (s.data.toList.getD 16 0)
  unfold putU
  rw [if_neg (by omega), if_neg (by rw [hkd]; omega)]
  show ofL (sectL _ _ _ _) = _ ↔ _
  unfold sectL
  rw [unit_of s h21, extract_ofL]
  have hU : ((s.data.toList.drop 4).take (17 + getN s)).length = 17 + getN s := by rw [List.length_take, List.length_drop]; omega
  have hpad : padN (be 4 (sumL ((s.data.toList.drop 4).take (17 + getN s))) ++ (s.data.toList.drop 4).take (17 + getN s)).length = secsN (getN s) * 64 - (21 + getN s) := by
    rw [List.length_append, be_length, hU]
    unfold padN
    omega
  unfold padL
  rw [hpad]
  have hsplit : (s.data.toList.drop 0).take (secsN (getN s) * 64 - 0) = (s.data.toList.take 4 ++ (s.data.toList.drop 4).take (17 + getN s)) ++ (s.data.toList.drop (21 + getN s)).take (secsN (getN s) * 64 - (21 + getN s)) := by
    rw [List.drop_zero, Nat.sub_zero, show secsN (getN s) * 64 = 4 + ((17 + getN s) + (secsN (getN s) * 64 - (21 + getN s))) by omega, List.take_add, List.take_add, List.drop_drop, List.append_assoc]
    rw [show 4 + (17 + getN s) = 21 + getN s by omega, show 4 + (17 + getN s + (secsN (getN s) * 64 - (21 + getN s))) - (21 + getN s) = secsN (getN s) * 64 - (21 + getN s) by omega]
  rw [hsplit]
  have hsum : (crcSum (s.extract 4 (21 + getN s))).toNat = sumL ((s.data.toList.drop 4).take (17 + getN s)) := by
    unfold sumL
    rw [extract_ofL, show 21 + getN s - 4 = 17 + getN s by omega]
  have h04 : num s 0 4 = nval (s.data.toList.take 4) := by rw [num_eq]; rfl
  have htr : Lib.trimB (s.extract (21 + getN s) (secsN (getN s) * 64)).data.toList 0 = [] ↔ List.replicate (secsN (getN s) * 64 - (21 + getN s)) 0 = (s.data.toList.drop (21 + getN s)).take (secsN (getN s) * 64 - (21 + getN s)) := by
    rw [trim_nil, data_extract_l]
    have hl2 : ((s.data.toList.drop (21 + getN s)).take (secsN (getN s) * 64 - (21 + getN s))).length = secsN (getN s) * 64 - (21 + getN s) := by rw [List.length_take, List.length_drop]; omega
    rw [hl2]
    exact eq_comm
  have hbe := be_eq_iff (k := 4) (a := sumL ((s.data.toList.drop 4).take (17 + getN s))) (by have := sumL_lt ((s.data.toList.drop 4).take (17 + getN s)); omega) (s.data.toList.take 4) (by rw [List.length_take]; omega)
  unfold getBad
  rw [hsum, h04]
  constructor
  · intro h
    have h := ofL_inj h
    have hlen : (be 4 (sumL ((s.data.toList.drop 4).take (17 + getN s))) ++ (s.data.toList.drop 4).take (17 + getN s)).length = (s.data.toList.take 4 ++ (s.data.toList.drop 4).take (17 + getN s)).length := by
      simp only [List.length_append, be_length, hU, List.length_take]; omega
    obtain ⟨g1, g2⟩ := List.append_inj h hlen
    obtain ⟨g3, _⟩ := List.append_inj g1 (by rw [be_length, List.length_take]; omega)
    rintro (h | h)
    · exact h (hbe.1 g3)
    · exact h (htr.2 g2)
  · intro h
    have g1 := hbe.2 (Decidable.byContradiction fun e => h (.inl e))
    have g2 := htr.1 (Decidable.byContradiction fun e => h (.inr e))
    rw [g1, g2]

theorem getU_short (s : ByteArray) (h : s.size < 21) : getU s = (zeroU, 3) := by unfold getU; rw [if_pos h]
theorem getU_long (s : ByteArray) (h : ¬ s.size < 21) (h2 : 1048576 < getN s) : getU s = (zeroU, 4) := by unfold getU; rw [if_neg h, if_pos h2]
theorem getU_few (s : ByteArray) (h : ¬ s.size < 21) (h2 : ¬ 1048576 < getN s) (h3 : s.size < secsN (getN s) * 64) : getU s = (zeroU, 3) := by unfold getU; rw [if_neg h, if_neg h2, if_pos h3]
theorem getU_bad (s : ByteArray) (h : ¬ s.size < 21) (h2 : ¬ 1048576 < getN s) (h3 : ¬ s.size < secsN (getN s) * 64) (h4 : getBad s) : getU s = (zeroU, 4) := by unfold getU; rw [if_neg h, if_neg h2, if_neg h3, if_pos h4]
theorem getU_good (s : ByteArray) (h : ¬ s.size < 21) (h2 : ¬ 1048576 < getN s) (h3 : ¬ s.size < secsN (getN s) * 64) (h4 : ¬ getBad s) : getU s = (getV s, 0) := by unfold getU; rw [if_neg h, if_neg h2, if_neg h3, if_neg h4]
abbrev uvC (u : UV) : List Value := unitC u.sr u.sq u.kd u.body
abbrev zC : List Value := [.int .u32 0, .int .u64 0, .int .i64 0, .string ⟨#[]⟩]
section
variable {H : AH} {R : AEnd → AH → Prop}
/-- Four cells stored, and loaded. -/
theorem st4_at {o : Nat} {cs : List Value} (hb : Has H o (.row cs 0)) (hl : cs.length = 4) {a b c : Int} {d : ByteArray} {K : Int → Int → Int → ByteArray → AH → Prop} (hk : K a b c d (H.set o (.row [.int .u32 a, .int .u64 b, .int .i64 c, .string d] 0))) :
    wSt o 0 [.int .u32 a, .int .u64 b, .int .i64 c, .string d] H fun H2 => wPt (some ⟨o, 0, none⟩) fun i k => ldI .u32 i k H2 fun n => ldI .u64 i (k + 1) H2 fun m => ldI .i64 i (k + 2) H2 fun q => ldS i (k + 3) H2 fun t => K n m q t H2 := by
  match cs, hl with
  | [x, y, z, w], _ =>
    have hs := hb.set (.row [.int .u32 a, .int .u64 b, .int .i64 c, .string d] 0)
    exact wSt_at hb (by simp) (wPt_at (ldI_at hs rfl (ldI_at hs rfl (ldI_at hs rfl (ldS_at hs rfl hk)))))
/-- Four cells loaded. -/
theorem ld4_at {o : Nat} {a b c : Int} {d : ByteArray} (hb : Has H o (.row [.int .u32 a, .int .u64 b, .int .i64 c, .string d] 0)) {K : Int → Int → Int → ByteArray → Prop} (hk : K a b c d) :
    wPt (some ⟨o, 0, none⟩) fun i k => ldI .u32 i k H fun n => ldI .u64 i (k + 1) H fun m => ldI .i64 i (k + 2) H fun q => ldS i (k + 3) H fun t => K n m q t :=
  wPt_at (ldI_at hb rfl (ldI_at hb rfl (ldI_at hb rfl (ldS_at hb rfl hk))))
end
end Go.Proofs.YtnjhcnefgeodcaaDoor
