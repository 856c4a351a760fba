/- A unit there and back; a unit of which bytes are turned: the plain laws. -/
import Derived.Test.YtnjhcnefgeodcaaDoorWFrmG
namespace Go.Proofs.YtnjhcnefgeodcaaDoor
set_option linter.unusedVariables false
set_option linter.unusedSimpArgs false
open Go.RowKit

attribute [local irreducible] secsN crcSum nval Lib.trimB padN
/-- What a unit's sectors are. -/
theorem sect_split (sr sq kd : Nat) (body : List UInt8) : sectL sr sq kd body = be 4 (sumL (unitL sr sq kd body)) ++ (unitL sr sq kd body ++ List.replicate (padN (21 + body.length)) 0) := by
  unfold sectL padL
  rw [List.length_append, be_length, unitL_length, show 4 + (17 + body.length) = 21 + body.length by omega, List.append_assoc]
theorem pad_secs (n : Nat) (h : n ≤ 1048576) : 21 + n + padN (21 + n) = secsN n * 64 := by
  rw [secs_nat n h]; unfold padN; omega
theorem not_bad (sr sq kd : Nat) (body rest : List UInt8) (hk : kd < 256) (hb : body.length ≤ 1048576) (hsr : sr < 4294967296) (hsq : sq < 18446744073709551616) :
    getU (ofL (sectL sr sq kd body ++ rest)) = (⟨sr, sq, (kd : Int), ofL body⟩, 0) := by
  have hc := sumL_lt (unitL sr sq kd body)
  have e : sectL sr sq kd body ++ rest = be 4 (sumL (unitL sr sq kd body)) ++ (unitL sr sq kd body ++ (List.replicate (padN (21 + body.length)) 0 ++ rest)) := by rw [sect_split]; simp only [List.append_assoc]
  obtain ⟨p1, p2, p3, p4, p5, p6, p7⟩ := unit_pieces (sumL (unitL sr sq kd body)) sr sq kd body (List.replicate (padN (21 + body.length)) 0 ++ rest) hk (by omega) hsr hsq hc
  have hlen := sectL_length sr sq kd body hb
  have hpad := pad_secs body.length hb
  have hN : getN (ofL (sectL sr sq kd body ++ rest)) = body.length := by unfold getN; rw [e]; exact p5
  have hsz : (ofL (sectL sr sq kd body ++ rest)).size = 64 * secsN body.length + rest.length := by rw [ofL_size, List.length_append, hlen]
  have hgood : ¬ getBad (ofL (sectL sr sq kd body ++ rest)) := by
    unfold getBad
    rw [hN, e, p7, p1]
    rintro (h | h)
    · exact h rfl
    · refine h ?_
      rw [trim_nil, piece_data]
      have hm := piece_mid (be 4 (sumL (unitL sr sq kd body)) ++ unitL sr sq kd body) (List.replicate (padN (21 + body.length)) 0) rest (21 + body.length) (secsN body.length * 64) (by rw [List.length_append, be_length, unitL_length]; omega) (by rw [List.length_replicate]; omega)
      simp only [List.append_assoc] at hm
      rw [hm, List.length_replicate]
  rw [getU_good _ (by rw [hsz]; omega) (by rw [hN]; omega) (by rw [hN, hsz]; omega) hgood]
  unfold getV
  rw [hN, e, p2, p3, p6]
  show (UV.mk sr sq (((be 4 (sumL (unitL sr sq kd body)) ++ (unitL sr sq kd body ++ (List.replicate (padN (21 + body.length)) 0 ++ rest))).getD 16 0).toNat : Int) (ofL body), (0 : Int)) = _
  rw [p4, UInt8.toNat_ofNat']
  have : kd % 2 ^ 8 = kd := by omega
  rw [this]
theorem short_get (sr sq kd : Nat) (body : List UInt8) (hk : kd < 256) (hb : body.length ≤ 1048576) (hsr : sr < 4294967296) (hsq : sq < 18446744073709551616) :
    (getU ((ofL (sectL sr sq kd body)).extract 0 ((ofL (sectL sr sq kd body)).size - 64))).2 = 3 := by
  have hlen := sectL_length sr sq kd body hb
  have hsz : (ofL (sectL sr sq kd body)).size = 64 * secsN body.length := by rw [ofL_size, hlen]
  have hsec := secs_nat body.length hb
  rw [hsz]
  have hs2 : ((ofL (sectL sr sq kd body)).extract 0 (64 * secsN body.length - 64)).size = 64 * secsN body.length - 64 := by rw [ext_size _ _ _ (by omega)]; omega
  by_cases h21 : 64 * secsN body.length - 64 < 21
  · rw [getU_short _ (by omega)]
  · obtain ⟨_, _, _, _, p5, _, _⟩ := unit_pieces (sumL (unitL sr sq kd body)) sr sq kd body (List.replicate (padN (21 + body.length)) 0) hk (by omega) hsr hsq (sumL_lt _)
    rw [← sect_split] at p5
    have hN : getN ((ofL (sectL sr sq kd body)).extract 0 (64 * secsN body.length - 64)) = body.length := by
      refine Eq.trans ?_ p5
      unfold getN
      unfold num
      rw [data_extract_l, data_extract_l, data_extract_l]
      congr 1
      show List.take 4 (List.drop 17 (List.take _ (List.drop 0 (sectL sr sq kd body)))) = List.take 4 (List.drop 17 (sectL sr sq kd body))
      rw [List.drop_zero, List.drop_take, List.take_take]
      congr 1
      omega
    rw [getU_few _ (by omega) (by rw [hN]; omega) (by rw [hN, hs2]; omega)]

/-! Turned bytes. -/
theorem turned_piece (L : List UInt8) (k : Nat) (t : BitVec 32) (h : k + 4 ≤ L.length) (a m : Nat) (ho : a + m ≤ k ∨ k + 4 ≤ a) : ((turned L k t 4).drop a).take m = (L.drop a).take m := by
  obtain ⟨pre, post, x, y, z, w, h1, h2, h3⟩ := turned_four L k t h
  rw [h3, h1]
  rcases ho with ho | ho
  · rw [List.append_assoc, List.append_assoc, List.drop_append_of_le_length (by omega), List.drop_append_of_le_length (by omega), List.take_append_of_le_length (by rw [List.length_drop]; omega), List.take_append_of_le_length (by rw [List.length_drop]; omega)]
  · have e : ∀ M : List UInt8, M.length = 4 → (pre ++ M ++ post).drop a = post.drop (a - (k + 4)) := by
      intro M hM
      rw [List.drop_append, List.drop_of_length_le (by rw [List.length_append]; omega), List.length_append, hM, h2, List.nil_append]
    rw [e _ rfl, e _ rfl]
theorem fold_cancel (r : BitVec 32) (A B : List UInt8) (hl : A.length = B.length) (h : fold r A = fold r B) (q : BitVec 32) : fold q A = fold q B := by
  rw [fold_split r A, fold_split r B, hl] at h
  have h0 : fold 0#32 A = fold 0#32 B := by
    have := congrArg (fun x => steps (8 * B.length) r ^^^ x) h
    simpa [← BitVec.xor_assoc] using this
  rw [fold_split q A, fold_split q B, hl, h0]
theorem turned_bad (sr sq kd : Nat) (body : List UInt8) (hk : kd < 256) (hb : body.length ≤ 1048576) (hsr : sr < 4294967296) (hsq : sq < 18446744073709551616) (k : Nat) (t : BitVec 32) (ht : t ≠ 0#32)
    (hp : (4 ≤ k ∧ k + 4 ≤ 17) ∨ (21 ≤ k ∧ k + 4 ≤ (sectL sr sq kd body).length)) : (getU (ofL (turned (sectL sr sq kd body) k t 4))).2 = 4 := by
  have hlen := sectL_length sr sq kd body hb
  have hpad := pad_secs body.length hb
  have hsec := secs_nat body.length hb
  obtain ⟨p1, _, _, _, p5, _, p7⟩ := unit_pieces (sumL (unitL sr sq kd body)) sr sq kd body (List.replicate (padN (21 + body.length)) 0) hk (by omega) hsr hsq (sumL_lt _)
  rw [← sect_split] at p1 p5 p7
  have hm := piece_mid (be 4 (sumL (unitL sr sq kd body)) ++ unitL sr sq kd body) (List.replicate (padN (21 + body.length)) 0) [] (21 + body.length) (secsN body.length * 64) (by rw [List.length_append, be_length, unitL_length]; omega) (by rw [List.length_replicate]; omega)
  rw [List.append_nil, List.append_assoc, ← sect_split] at hm
  generalize hL : sectL sr sq kd body = L at *
  have hk4 : k + 4 ≤ L.length := by omega
  have hTl := turned_length L k t 4
  have pc := turned_piece L k t hk4
  generalize hT : turned L k t 4 = T at hTl pc ⊢
  have hsz : (ofL T).size = 64 * secsN body.length := by rw [ofL_size, hTl, hlen]
  have hN : getN (ofL T) = body.length := by
    rw [← p5]
    unfold getN num
    rw [piece_data, piece_data, pc 17 (21 - 17) (by omega)]
  have h0 : num (ofL T) 0 4 = sumL (unitL sr sq kd body) := by
    rw [← p1]
    unfold num
    rw [piece_data, piece_data, pc 0 (4 - 0) (by omega)]
  have hbad : getBad (ofL T) := by
    refine Decidable.byContradiction fun hn => ?_
    unfold getBad at hn
    rw [hN, h0] at hn
    have g1 : (crcSum ((ofL T).extract 4 (21 + body.length))).toNat = sumL (unitL sr sq kd body) := Decidable.byContradiction fun e => hn (.inl e)
    have g2 : Lib.trimB ((ofL T).extract (21 + body.length) (secsN body.length * 64)).data.toList 0 = [] := Decidable.byContradiction fun e => hn (.inr e)
    rw [trim_nil, piece_data] at g2
    have lT2 : ((T.drop (21 + body.length)).take (secsN body.length * 64 - (21 + body.length))).length = padN (21 + body.length) := by rw [List.length_take, List.length_drop]; omega
    rw [lT2] at g2
    unfold sumL at g1
    rw [← p7] at g1
    have g1 := BitVec.eq_of_toNat_eq g1
    unfold crcSum at g1
    have g1 : fold 0xFFFFFFFF#32 ((ofL T).extract 4 (21 + body.length)).data.toList = fold 0xFFFFFFFF#32 ((ofL L).extract 4 (21 + body.length)).data.toList := by
      have := congrArg (fun x => ~~~x) g1
      simpa using this
    rw [piece_data, piece_data, show 21 + body.length - 4 = 17 + body.length by omega] at g1
    have split : ∀ X : List UInt8, X.length = secsN body.length * 64 → X = (X.drop 0).take 4 ++ ((X.drop 4).take (17 + body.length) ++ (X.drop (21 + body.length)).take (secsN body.length * 64 - (21 + body.length))) := by
      intro X hX
      rw [List.drop_zero]
      have e1 : X = X.take 4 ++ X.drop 4 := (List.take_append_drop 4 X).symm
      have e2 : X.drop 4 = (X.drop 4).take (17 + body.length) ++ (X.drop 4).drop (17 + body.length) := (List.take_append_drop _ _).symm
      have e3 : (X.drop 4).drop (17 + body.length) = (X.drop (21 + body.length)).take (secsN body.length * 64 - (21 + body.length)) := by
        rw [List.drop_drop, show 4 + (17 + body.length) = 21 + body.length by omega, List.take_of_length_le (by rw [List.length_drop]; omega)]
      rw [← e3, ← e2, ← e1]
    have sT := split T (by omega)
    have sL := split L (by omega)
    have hne := turned_sum L k t hk4 ht 0#32
    rw [hT] at hne
    refine hne ?_
    rw [sT, sL, fold_append, fold_append, pc 0 4 (by omega), g2, hm, fold_append, fold_append]
    congr 1
    refine fold_cancel 0xFFFFFFFF#32 _ _ ?_ g1 _
    rw [List.length_take, List.length_take, List.length_drop, List.length_drop, hTl]
  rw [getU_bad _ (by omega) (by rw [hN]; omega) (by rw [hN]; omega) hbad]

/-! The chapter's examples. -/
def abc : ByteArray := ⟨#[97, 98, 99]⟩
theorem aw1 : (putU 1 2 3 abc).2 = 0 := by decide +kernel
theorem aw2 : (putU 1 2 3 abc).1.size = 64 := by decide +kernel
theorem aw3 : (getU (putU 1 2 3 abc).1).2 = 0 := by decide +kernel
theorem aw4 : (getU (putU 1 2 3 abc).1).1.body = abc := by decide +kernel
theorem aw5 : secsN 43 = 1 := by decide +kernel
theorem aw6 : secsN 44 = 2 := by decide +kernel
section
variable {H : AH} {R : AEnd → AH → Prop}
theorem fawake_call (h : ∀ H', Fr [] H H' → R (.ret (.bool true)) H') : ACall Tryd.prog 9 [] H R := by
  apply f9_call
  unfold f9_B
  have a1 := aw1; have a2 := aw2; have a3 := aw3; have a4 := aw4
  refine wCall_of (put_call 1 2 3 abc (by omega) (by omega) (fun H2 f2 => ?_))
  generalize (putU 1 2 3 abc) = p at a1 a2 a3 a4
  obtain ⟨s, e⟩ := p
  refine opT_at rfl (opS_at (opI_at (wCall_of (get_call s (by have : s.size = 64 := a2; omega) (fun H3 f3 => ?_)))))
  have a3 : (getU s).2 = 0 := a3
  have a4 : (getU s).1.body = abc := a4
  generalize getU s = g at a3 a4
  obtain ⟨⟨g1, g2, g3, g4⟩, ge⟩ := g
  refine opT_at rfl (opA_at rfl (opI_at (opI_at (opI_at (opS_at (opI_at (wNew_at ?_)))))))
  have hb := Has.new H3 (.row zC 0)
  have f4 : Fr [] H3 (H3.push (.row zC 0)) := (Fr.refl [] H3).push _
  refine wSt_at hb (by simp) ?_
  have hb2 := hb.set (.row [.int .u32 (g1 : Int), .int .u64 (g2 : Int), .int .i64 g3, .string g4] 0)
  have f5 : Fr [] H3 ((H3.push (.row zC 0)).set H3.next (.row [.int .u32 (g1 : Int), .int .u64 (g2 : Int), .int .i64 g3, .string g4] 0)) := f4.set (.inr (Nat.le_refl _)) _
  show wCall _ _ _ ((H3.push (.row zC 0)).set H3.next (.row [.int .u32 (g1 : Int), .int .u64 (g2 : Int), .int .i64 g3, .string g4] 0)) _ _
  generalize (H3.push (.row zC 0)).set H3.next (.row [.int .u32 (g1 : Int), .int .u64 (g2 : Int), .int .i64 g3, .string g4] 0) = H5 at hb2 f5 ⊢
  refine wCall_of (sectors_call 43 (opI_at (wIf_dt (by rw [aw5]; rfl) (wCall_of (sectors_call 44 (opI_at (wIf_dt (by rw [aw6]; rfl) (wIf_dt a1 (wIf_dt ?_ (wIf_dt a3 (ldS_at hb2 rfl ?_)))))))))))
  · have : s.size = 64 := a2
    omega
  · have h4 : g4 = ⟨#[97, 98, 99]⟩ := a4
    rw [h4]
    have := h H5 ((f2.trans f3).trans f5)
    simpa using this
end
end Go.Proofs.YtnjhcnefgeodcaaDoor
