/- The statements on units. -/
import Derived.Test.YtnjhcnefgeodcaaDoorWFrmH
import Derived.Test.YtnjhcnefgeodcaaDoorWGenI
import Derived.Test.YtnjhcnefgeodcaaDoorWAbsQ
namespace Go.Proofs.YtnjhcnefgeodcaaDoor
set_option linter.unusedVariables false
set_option linter.unusedSimpArgs false
open Go.RowKit
abbrev unitK : List SK := [.int .u32, .int .u64, .int .i64, .str]
theorem four {l : List Value} {a b c d : Value} (h : l.length = 4) (h0 : l[0]? = some a) (h1 : l[1]? = some b) (h2 : l[2]? = some c) (h3 : l[3]? = some d) : l = [a, b, c, d] := by
  match l, h with
  | [x, y, z, w], _ => simp at h0 h1 h2 h3; rw [h0, h1, h2, h3]
/-- A unit that came in. -/
theorem unit_in {H : AH} {vs : List Value} {ds : List CD} (l : Lies H ds vs) (k : Kds unitK ds) :
    ∃ (sr sq : Nat) (kd : Int) (body : ByteArray), vs = unitC sr sq kd body ∧ sr < 4294967296 ∧ sq < 18446744073709551616 ∧ (-9223372036854775808 ≤ kd ∧ kd ≤ 9223372036854775807) ∧ body.size ≤ 9223372036854775807 := by
  obtain ⟨c0, e0, w0⟩ := l.int k 0 rfl
  obtain ⟨c1, e1, w1⟩ := l.int k 1 rfl
  obtain ⟨c2, e2, w2⟩ := l.int k 2 rfl
  obtain ⟨c3, e3, w3⟩ := l.str k 3 rfl
  obtain ⟨b0, rfl⟩ := wf_u32 w0
  obtain ⟨b1, rfl⟩ := wf_u64 w1
  exact ⟨b0.toNat, b1.toNat, c2, c3, four (l.len.symm.trans k.len) e0 e1 e2 e3, b0.isLt, b1.isLt, wf_i64 w2, w3⟩
theorem u8_xor (a b : UInt8) : IntKind.u8.wrap ((BitVec.ofInt IntKind.u8.bits (a.toNat : Int)) ^^^ (BitVec.ofInt IntKind.u8.bits (b.toNat : Int))).toNat = (((a ^^^ b).toNat : Nat) : Int) := by
  show IntKind.u8.wrap ((BitVec.ofInt 8 (a.toNat : Int)) ^^^ (BitVec.ofInt 8 (b.toNat : Int))).toNat = _
  rw [ofInt_nat, ofInt_nat, BitVec.toNat_xor, BitVec.toNat_ofNat, BitVec.toNat_ofNat, Nat.mod_eq_of_lt a.toNat_lt, Nat.mod_eq_of_lt b.toNat_lt, UInt8.toNat_xor, wrapu8_eq]
  have := Nat.xor_lt_two_pow (n := 8) a.toNat_lt b.toNat_lt
  omega
theorem byte_of (t : BitVec 32) (i : Nat) (h : i < 4) : IntKind.u8.wrap (Int.fdiv ((t.toNat : Nat) : Int) (2 ^ (min (Int.toNat (IntKind.i64.wrap (8 * (i : Int)))) IntKind.u32.bits))) = ((byteOf32 t i).toNat : Int) := by
  rw [wi _ (by omega) (by omega), show (8 * (i : Int)) = ((8 * i : Nat) : Int) by omega, shr_nat t.toNat (8 * i) _ (by show 8 * i ≤ 32; omega), wb]
  unfold byteOf32
  rw [BitVec.toNat_ushiftRight, Nat.shiftRight_eq_div_pow]
  congr 1
  rw [UInt8.toNat_ofNat', UInt8.toNat_ofNat']
  omega
theorem bcells_getD (l : List UInt8) (k : Nat) (h : k < l.length) : (bcells l)[k]? = some (.int .u8 ((l.getD k 0).toNat : Int)) := by
  unfold bcells
  rw [List.getElem?_map, List.getElem?_eq_getElem h, List.getD_eq_getElem?_getD, List.getElem?_eq_getElem h]; rfl
theorem putU_ok {sr sq : Nat} {kd : Int} {body : ByteArray} (h : (putU sr sq kd body).2 = 0) : body.size ≤ 1048576 ∧ 0 ≤ kd ∧ kd ≤ 255 ∧ (putU sr sq kd body).1 = ofL (sectL sr sq kd.toNat body.data.toList) := by
  unfold putU at h ⊢
  split
  · rename_i c; rw [if_pos c] at h; exact absurd h (by show ¬ (5 : Int) = 0; omega)
  · rename_i c
    rw [if_neg c] at h
    split
    · rename_i c2; rw [if_pos c2] at h; exact absurd h (by show ¬ (2 : Int) = 0; omega)
    · exact ⟨by omega, by omega, by omega, rfl⟩
theorem putU_not {sr sq : Nat} {kd : Int} {body : ByteArray} (h : ¬ (putU sr sq kd body).2 = 0) (hb : body.size ≤ 1048576) : (putU sr sq kd body).2 = 2 := by
  unfold putU at h ⊢
  rw [if_neg (by omega)] at h ⊢
  split
  · rfl
  · rename_i c; rw [if_neg c] at h; exact absurd rfl h
attribute [local irreducible] secsN crcSum nval Lib.trimB padN sectL putU getU
section
variable {H : AH} {R : AEnd → AH → Prop}
theorem frow {o : Nat} {a b c d : Value} (x : Has H o (.row [a, b, c, d] 0)) : Has H o (.row [a, b, c, d] 0) := x
set_option maxRecDepth 20000 in
theorem framePuts_law (H : AH) (v0 : List Value) (d0 : List CD) (l0 : Lies H d0 v0) (k0 : Kds unitK d0) (a1 : Int) (w1 : (Lit.int .i64 a1).wf = true) : ACall Tryd.prog 3 [.agg v0.toArray, .int .i64 a1] H AllTrue := by
  obtain ⟨sr, sq, kd, body, rfl, h1, h2, h3, h4⟩ := unit_in l0 k0
  clear l0 k0
  apply f3_call
  unfold f3_B
  refine wNew_at (wCall_of (fawake_call (fun H1 f1 => opB_at (wIf_f rfl ?_))))
  have hb := (Has.new H (.row (unitC sr sq kd body) 0)).fr f1 (by simp)
  generalize H.next = o at hb
  refine ldS_at hb rfl (wIf_d (fun c1 => ?_) (fun c1 => ?_))
  · exact wCall_of (fawake_call (fun H2 f2 => opB_at rfl))
  · refine ldI_at hb rfl (ldI_at hb rfl (ldI_at hb rfl (ldS_at hb rfl (wCall_of (put_call sr sq kd body h1 h2 (fun H2 f2 => opT_at rfl (opS_at (opI_at ?_))))))))
    have hb2 := hb.fr f2 (by simp)
    refine ldI_at hb2 rfl (ldI_at hb2 rfl (ldI_at hb2 rfl (ldS_at hb2 rfl (wCall_of (rput_call sr sq kd body h1 h2 (fun H3 f3 => opT_at rfl (opS_at (opI_at (wCall_of (fawake_call (fun H4 f4 => opB_at (wIf_t rfl (wIf_dt rfl (wIf_dt rfl ?_))))))))))))))
    refine wCall_of (sectors_call a1 (opI_at (wCall_of (rsectors_call a1 (opI_at ?_)))))
    simp
set_option maxRecDepth 20000 in
theorem frameBack_law (H : AH) (v0 : List Value) (d0 : List CD) (l0 : Lies H d0 v0) (k0 : Kds unitK d0) (a1 : ByteArray) (w1 : a1.size ≤ 140737488351232) : ACall Tryd.prog 4 [.agg v0.toArray, .string a1] H AllTrue := by
  obtain ⟨sr, sq, kd, body, rfl, h1, h2, h3, h4⟩ := unit_in l0 k0
  clear l0 k0
  apply f4_call
  unfold f4_B
  refine wNew_at (wCall_of (fawake_call (fun H1 f1 => opB_at (wIf_f rfl ?_))))
  have hb := (Has.new H (.row (unitC sr sq kd body) 0)).fr f1 (by simp)
  generalize H.next = o at hb
  refine ldS_at hb rfl (wIf_d (fun c1 => ?_) (fun c1 => ?_))
  · rw [f4_J0_eq]
    unfold f4_J0_B
    exact wIf_t rfl (wCall_of (fawake_call (fun H2 f2 => opB_at rfl)))
  · rw [f4_J0_eq]
    unfold f4_J0_B
    refine wIf_d (fun c2 => wCall_of (fawake_call (fun H2 f2 => opB_at rfl))) (fun c2 => ?_)
    rw [f4_J1_eq]
    unfold f4_J1_B
    have hbl := data_len body
    refine ld4_at hb (wCall_of (put_call sr sq kd body h1 h2 (fun H2 f2 => opT_at rfl (opS_at (opI_at (wIf_n (fun c3 => ?_) (fun c3 => ?_)))))))
    · refine wCall_of (fawake_call (fun H3 f3 => opB_at (wIf_t rfl ?_)))
      rw [putU_not c3 (by omega)]
      rfl
    · obtain ⟨g1, g2, g3, g4⟩ := putU_ok c3
      rw [g4]
      have hlen := sectL_length sr sq kd.toNat body.data.toList (by omega)
      have hback := not_bad sr sq kd.toNat body.data.toList a1.data.toList (by omega) (by omega) h1 h2
      have hshort := short_get sr sq kd.toNat body.data.toList (by omega) (by omega) h1 h2
      have hsec := secs_nat body.data.toList.length (by omega)
      have hsz : (ofL (sectL sr sq kd.toNat body.data.toList)).size = 64 * secsN body.data.toList.length := by rw [ofL_size, hlen]
      rw [ofL_data] at hback
      have hcat : ofL (sectL sr sq kd.toNat body.data.toList) ++ a1 = ofL (sectL sr sq kd.toNat body.data.toList ++ a1.data.toList) := by rw [← ofL_append, ofL_data]
      generalize sectL sr sq kd.toNat body.data.toList = S at hback hshort hsz hcat
      refine wCat_at (by rw [hsz]; omega) ?_
      rw [hcat]
      refine wCall_of (get_call _ (by rw [← hcat, ByteArray.size_append, hsz]; omega) (fun H3 f3 => ?_))
      rw [hback]
      refine opT_at rfl (opA_at rfl (opI_at (opI_at (opI_at (opS_at (opI_at (wNew_at ?_)))))))
      have hq := Has.new H3 (.row zC 0)
      have hb3 := (hb.fr f2 (by simp)).fr f3 (by simp)
      have hb4 := hb3.push (.row zC 0)
      have hne : o ≠ H3.next := hb3.ne
      generalize H3.push (.row zC 0) = H4 at hq hb4 ⊢
      generalize H3.next = q at hq hne ⊢
      refine wSt_at hq (by simp) ?_
      have hq5 := hq.set (.row [.int .u32 (sr : Int), .int .u64 (sq : Int), .int .i64 ((kd.toNat : Nat) : Int), .string body] 0)
      have hb5 := hb4.setne hne (.row [.int .u32 (sr : Int), .int .u64 (sq : Int), .int .i64 ((kd.toNat : Nat) : Int), .string body] 0)
      show wSlS _ _ _ _
      have hset : H4.set q (.row (setCells zC 0 [.int .u32 (sr : Int), .int .u64 (sq : Int), .int .i64 ((kd.toNat : Nat) : Int), .string body]) 0) = H4.set q (.row [.int .u32 (sr : Int), .int .u64 (sq : Int), .int .i64 ((kd.toNat : Nat) : Int), .string body] 0) := rfl
      rw [hset]
      generalize H4.set q (.row [.int .u32 (sr : Int), .int .u64 (sq : Int), .int .i64 ((kd.toNat : Nat) : Int), .string body] 0) = H5 at hq5 hb5 ⊢
      have e1 : IntKind.i64.wrap (((ofL S).size : Int) - 64) = (((ofL S).size - 64 : Nat) : Int) := by rw [hsz, wi _ (by omega) (by omega)]; omega
      rw [e1]
      refine wSlS_at (by omega) (by omega) (by omega) ?_
      refine wCall_of (get_call _ (by rw [ByteArray.size_extract, hsz]; omega) (fun H6 f6 => ?_))
      have hx : (ofL S).extract (Int.toNat 0) (Int.toNat (((ofL S).size - 64 : Nat) : Int)) = (ofL S).extract 0 ((ofL S).size - 64) := rfl
      rw [hx]
      generalize getU ((ofL S).extract 0 ((ofL S).size - 64)) = gg at hshort
      obtain ⟨⟨y1, y2, y3, y4⟩, ge⟩ := gg
      refine opT_at rfl (opA_at rfl (opI_at (opI_at (opI_at (opS_at (opI_at (wNew_at (wSt_at (Has.new _ _) (by simp) ?_))))))))
      have hq7 := ((hq5.fr f6 (by simp)).push (.row zC 0)).setne (Has.ne (hq5.fr f6 (by simp))) (.row (setCells zC 0 [.int .u32 (y1 : Int), .int .u64 (y2 : Int), .int .i64 y3, .string y4]) 0)
      have hb7 := ((hb5.fr f6 (by simp)).push (.row zC 0)).setne (Has.ne (hb5.fr f6 (by simp))) (.row (setCells zC 0 [.int .u32 (y1 : Int), .int .u64 (y2 : Int), .int .i64 y3, .string y4]) 0)
      refine wCall_of (fawake_call (fun H8 f8 => opB_at (wIf_t rfl (wIf_dt rfl ?_))))
      have hq8 := hq7.fr f8 (by simp)
      have hb8 := hb7.fr f8 (by simp)
      refine ldI_at hq8 rfl (ldI_at hq8 rfl (ldI_at hq8 rfl (ldS_at hq8 rfl (ld4_at hb8 ?_))))
      refine wIf_t (by simp; omega) (wPt_at (ldS_at hb8 rfl (wCall_of (sectors_call _ (opI_at (wIf_dt ?_ ?_))))))
      · rw [hsz, hbl, wi _ (by rw [hbl] at hsec; omega) (by rw [hbl] at hsec; omega)]; omega
      · have : ge = 3 := hshort
        rw [this]; rfl
set_option maxRecDepth 20000 in
theorem frameTurns_law (H : AH) (v0 : List Value) (d0 : List CD) (l0 : Lies H d0 v0) (k0 : Kds unitK d0) (a1 : Int) (w1 : (Lit.int .i64 a1).wf = true) (a2 : Int) (w2 : (Lit.int .u32 a2).wf = true) : ACall Tryd.prog 5 [.agg v0.toArray, .int .i64 a1, .int .u32 a2] H AllTrue := by
  obtain ⟨sr, sq, kd, body, rfl, h1, h2, h3, h4⟩ := unit_in l0 k0
  clear l0 k0
  obtain ⟨t, rfl⟩ := wf_u32 w2
  apply f5_call
  unfold f5_B
  refine wNew_at (wCall_of (fawake_call (fun H1 f1 => opB_at (wIf_f rfl ?_))))
  have hb := (Has.new H (.row (unitC sr sq kd body) 0)).fr f1 (by simp)
  generalize H.next = o at hb
  refine ldI_at hb rfl (ldI_at hb rfl (ldI_at hb rfl (ldS_at hb rfl (wCall_of (put_call sr sq kd body h1 h2 (fun H2 f2 => opT_at rfl (opS_at (opI_at (ldS_at (hb.fr f2 (by simp)) rfl ?_)))))))))
  have hout : ∀ (H3 : AH), wCall Tryd.prog 9 [] H3 (fun r23 H24 => opB r23 fun b27 => AllTrue (.ret (.bool b27)) H24) (fun v26 H25 => AllTrue (.panic v26) H25) := fun H3 => wCall_of (fawake_call (fun H4 f4 => opB_at rfl))
  refine wIf_d (fun c1 => ?_) (fun c1 => ?_)
  · rw [f5_J0_eq]
    unfold f5_J0_B
    exact wIf_t rfl (hout _)
  · refine wIf_n (fun c2 => ?_) (fun c2 => ?_)
    · rw [f5_J0_eq]
      unfold f5_J0_B
      exact wIf_t rfl (hout _)
    · rw [f5_J0_eq]
      unfold f5_J0_B
      refine wIf_d (fun c3 => hout _) (fun c3 => ?_)
      obtain ⟨g1, g2, g3, g4⟩ := putU_ok c2
      rw [g4]
      have ht : t ≠ 0#32 := by rintro rfl; exact c3 rfl
      have hbl := data_len body
      have hlen := sectL_length sr sq kd.toNat body.data.toList (by omega)
      have hsec := secs_nat body.data.toList.length (by omega)
      have hbad := fun k hp => turned_bad sr sq kd.toNat body.data.toList (by omega) (by omega) h1 h2 k t ht hp
      generalize sectL sr sq kd.toNat body.data.toList = L at hlen hbad
      have hLs := ofL_size L
      rw [f5_J1_eq]
      unfold f5_J1_B
      refine wS2B_at (by omega) ?_
      have hr := Has.new H2 (.row (byteCells (ofL L)) 1)
      rw [byteCells_eq, data_ofL] at hr ⊢
      generalize H2.push (.row (bcells L) 1) = H3 at hr ⊢
      generalize H2.next = q at hr ⊢
      have hu : 0 ≤ IntKind.u64.wrap a1 ∧ IntKind.u64.wrap a1 < 18446744073709551616 := by rw [wrapu64_eq]; omega
      generalize hm : IntKind.u64.wrap a1 = m at hu
      have loop : ∀ (k : Nat) (k' : Int), k' = (k : Int) → (4 ≤ k ∧ k + 4 ≤ 17) ∨ (21 ≤ k ∧ k + 4 ≤ L.length) → k + 4 ≤ L.length → ∀ (n : Nat), n = L.length → True := fun _ _ _ _ _ _ _ => trivial
      have k10 : IntKind.i64.wrap (4 + IntKind.i64.wrap (Int.tmod m 10)) = ((4 + (m % 10).toNat : Nat) : Int) := by
        rw [Int.tmod_eq_emod_of_nonneg hu.1, wi (m % 10) (by omega) (by omega), wi _ (by omega) (by omega)]; omega
      rw [k10]
      have hst : ∀ (k : Nat), ((4 ≤ k ∧ k + 4 ≤ 17) ∨ (21 ≤ k ∧ k + 4 ≤ L.length)) → ∀ (i : Nat) (H5 : AH), i < 4 → Has H5 q (.row (bcells (turned L k t i)) 1) →
          ∀ (K : Nat → Nat → Int → Nat → Nat → AH → Prop), (∀ i28 k29 n30 i31 k32, Has (H5.set q (.row (bcells (turned L k t (i + 1))) 1)) q (.row (bcells (turned L k t (i + 1))) 1) → K i28 k29 n30 i31 k32 (H5.set q (.row (bcells (turned L k t (i + 1))) 1))) →
          wIx (some ⟨q, 0, none⟩) (ofL L).size 1 (IntKind.i64.wrap ((k : Int) + (i : Int))) fun i28 k29 => wNn (IntKind.i64.wrap (8 * (i : Int))) (ldI .u8 i28 k29 H5 fun n30 => wIx (some ⟨q, 0, none⟩) (ofL L).size 1 (IntKind.i64.wrap ((k : Int) + (i : Int))) fun i31 k32 =>
            wSt i31 k32 [(.int .u8 (IntKind.u8.wrap ((BitVec.ofInt IntKind.u8.bits n30) ^^^ (BitVec.ofInt IntKind.u8.bits (IntKind.u8.wrap (Int.fdiv ((t.toNat : Nat) : Int) (2 ^ (min (Int.toNat (IntKind.i64.wrap (8 * (i : Int)))) IntKind.u32.bits)))))).toNat))] H5 (K i28 k29 n30 i31 k32)) := by
        intro k hp i H5 hi h5 K hK
        have hTl := turned_length L k t i
        have hk4 : k + 4 ≤ L.length := by omega
        have e1 : IntKind.i64.wrap ((k : Int) + (i : Int)) = ((k + i : Nat) : Int) := by rw [wi _ (by omega) (by omega)]; omega
        rw [e1]
        refine wIx_at (by omega) (by omega) (wNn_at (by rw [wi _ (by omega) (by omega)]; omega) ?_)
        rw [Int.toNat_natCast, Nat.zero_add, Nat.mul_one]
        refine ldI_at h5 (bcells_getD _ _ (by omega)) (wIx_at (by omega) (by omega) ?_)
        rw [Int.toNat_natCast, Nat.zero_add, Nat.mul_one, byte_of t i hi, u8_xor]
        refine wSt_at h5 (by rw [bcells_length]; simp; omega) ?_
        rw [bcells_set]
        exact hK _ _ _ _ _ (h5.set _)
      have hgo : ∀ (k : Nat), ((4 ≤ k ∧ k + 4 ≤ 17) ∨ (21 ≤ k ∧ k + 4 ≤ L.length)) → ∀ (H5 : AH), Has H5 q (.row (bcells (turned L k t 4)) 1) → f5_J4_B (some ⟨q, 0, none⟩) (ofL L).size 0 H5 AllTrue := by
        intro k hp H5 h5
        unfold f5_J4_B
        have hTl := turned_length L k t 4
        refine wB2S_at h5 (by rw [hLs, hTl]) ?_
        refine wCall_of (get_call _ (by rw [ofL_size, hTl]; omega) (fun H6 f6 => ?_))
        have hb4 := hbad k hp
        generalize getU (ofL (turned L k t 4)) = gg at hb4
        obtain ⟨⟨y1, y2, y3, y4⟩, ge⟩ := gg
        refine opT_at rfl (opA_at rfl (opI_at (opI_at (opI_at (opS_at (opI_at (wNew_at (wSt_at (Has.new _ _) (by simp) ?_))))))))
        refine wCall_of (fawake_call (fun H8 f8 => opB_at (wIf_t rfl ?_)))
        have : ge = 4 := hb4
        rw [this]; rfl
      have h10 : (4 ≤ 4 + (m % 10).toNat ∧ 4 + (m % 10).toNat + 4 ≤ 17) ∨ (21 ≤ 4 + (m % 10).toNat ∧ 4 + (m % 10).toNat + 4 ≤ L.length) := by omega
      refine wIf_d (fun c4 => ?_) (fun c4 => ?_)
      · rw [f5_J2_eq]
        unfold f5_J2_B
        refine wIf_d (fun c5 => ?_) (fun c5 => ?_)
        · have e24 : IntKind.u64.wrap (IntKind.i64.wrap (((ofL L).size : Int) - 24)) = ((L.length - 24 : Nat) : Int) := by
            rw [hLs, wi _ (by omega) (by omega), show ((L.length : Nat) : Int) - 24 = ((L.length - 24 : Nat) : Int) by omega, wu _ (by omega)]
          rw [hm, e24]
          refine wNz_at (by omega) ?_
          have ek : IntKind.i64.wrap (21 + IntKind.i64.wrap (Int.tmod m ((L.length - 24 : Nat) : Int))) = ((21 + (m % ((L.length - 24 : Nat) : Int)).toNat : Nat) : Int) := by
            have hp : (0 : Int) < ((L.length - 24 : Nat) : Int) := by omega
            have hlt := Int.emod_lt_of_pos m hp
            have hge := Int.emod_nonneg m (show ((L.length - 24 : Nat) : Int) ≠ 0 by omega)
            rw [Int.tmod_eq_emod_of_nonneg hu.1, wi (m % _) (by omega) (by omega), wi _ (by omega) (by omega)]; omega
          rw [ek]
          have hkp : (4 ≤ 21 + (m % ((L.length - 24 : Nat) : Int)).toNat ∧ 21 + (m % ((L.length - 24 : Nat) : Int)).toNat + 4 ≤ 17) ∨ (21 ≤ 21 + (m % ((L.length - 24 : Nat) : Int)).toNat ∧ 21 + (m % ((L.length - 24 : Nat) : Int)).toNat + 4 ≤ L.length) := by
            have hp : (0 : Int) < ((L.length - 24 : Nat) : Int) := by omega
            have hlt := Int.emod_lt_of_pos m hp
            have hge := Int.emod_nonneg m (show ((L.length - 24 : Nat) : Int) ≠ 0 by omega)
            omega
          generalize 21 + (m % ((L.length - 24 : Nat) : Int)).toNat = k at hkp
          rw [f5_J3_eq]
          unfold f5_J3_B
          refine f5_L0_rule (J := fun n s58 H' => ∃ i : Nat, i ≤ 4 ∧ n = 4 - i ∧ s58 = (i : Int) ∧ Has H' q (.row (bcells (turned L k t i)) 1)) 4 ⟨0, by omega, rfl, rfl, hr⟩ ?_
          rintro n s58 H5 ⟨i, hi, rfl, rfl, h5⟩
          intros
          unfold f5_R0
          refine wIf_d (fun c6 => ?_) (fun c6 => ?_)
          · refine hst k hkp i H5 (by omega) h5 (fun _ _ _ _ _ H33 => _) (fun _ _ _ _ _ h6 => ?_)
            exact ⟨4 - (i + 1), by omega, f5_I0_mk ⟨i + 1, by omega, rfl, wi1 i (by omega), h6⟩⟩
          · have : i = 4 := by omega
            subst this
            rw [f5_J4_eq]
            exact hgo k hkp H5 h5
        · rw [f5_J3_eq]
          unfold f5_J3_B
          generalize 4 + (m % 10).toNat = k at h10
          refine f5_L0_rule (J := fun n s58 H' => ∃ i : Nat, i ≤ 4 ∧ n = 4 - i ∧ s58 = (i : Int) ∧ Has H' q (.row (bcells (turned L k t i)) 1)) 4 ⟨0, by omega, rfl, rfl, hr⟩ ?_
          rintro n s58 H5 ⟨i, hi, rfl, rfl, h5⟩
          intros
          unfold f5_R0
          refine wIf_d (fun c6 => ?_) (fun c6 => ?_)
          · refine hst k h10 i H5 (by omega) h5 (fun _ _ _ _ _ H33 => _) (fun _ _ _ _ _ h6 => ?_)
            exact ⟨4 - (i + 1), by omega, f5_I0_mk ⟨i + 1, by omega, rfl, wi1 i (by omega), h6⟩⟩
          · have : i = 4 := by omega
            subst this
            rw [f5_J4_eq]
            exact hgo k h10 H5 h5
      · rw [f5_J2_eq]
        unfold f5_J2_B
        refine wIf_f rfl ?_
        rw [f5_J3_eq]
        unfold f5_J3_B
        generalize 4 + (m % 10).toNat = k at h10
        refine f5_L0_rule (J := fun n s58 H' => ∃ i : Nat, i ≤ 4 ∧ n = 4 - i ∧ s58 = (i : Int) ∧ Has H' q (.row (bcells (turned L k t i)) 1)) 4 ⟨0, by omega, rfl, rfl, hr⟩ ?_
        rintro n s58 H5 ⟨i, hi, rfl, rfl, h5⟩
        intros
        unfold f5_R0
        refine wIf_d (fun c6 => ?_) (fun c6 => ?_)
        · refine hst k h10 i H5 (by omega) h5 (fun _ _ _ _ _ H33 => _) (fun _ _ _ _ _ h6 => ?_)
          exact ⟨4 - (i + 1), by omega, f5_I0_mk ⟨i + 1, by omega, rfl, wi1 i (by omega), h6⟩⟩
        · have : i = 4 := by omega
          subst this
          rw [f5_J4_eq]
          exact hgo k h10 H5 h5
end
end Go.Proofs.YtnjhcnefgeodcaaDoor
