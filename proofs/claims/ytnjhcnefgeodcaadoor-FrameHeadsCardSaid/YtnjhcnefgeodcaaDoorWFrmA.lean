/- The sums of bytes: the program's and the document's. -/
import Derived.Test.YtnjhcnefgeodcaaDoorWGenF
import Derived.Test.YtnjhcnefgeodcaaDoorWAbsN
import Derived.Test.YtnjhcnefgeodcaaDoorWCrcM
namespace Go.Proofs.YtnjhcnefgeodcaaDoor
set_option linter.unusedVariables false
set_option linter.unusedSimpArgs false
open Go.RowKit

/-! Words of 32 bits. -/
theorem w32 (x : BitVec 32) : IntKind.u32.wrap ((x.toNat : Nat) : Int) = ((x.toNat : Nat) : Int) := by rw [wrap32_eq]; have := x.isLt; omega
theorem u32_xor {x y : Int} {a b : BitVec 32} (hx : x = ((a.toNat : Nat) : Int)) (hy : y = ((b.toNat : Nat) : Int)) :
    IntKind.u32.wrap ((BitVec.ofInt IntKind.u32.bits x) ^^^ (BitVec.ofInt IntKind.u32.bits y)).toNat = (((a ^^^ b).toNat : Nat) : Int) := by
  subst hx; subst hy
  show IntKind.u32.wrap ((BitVec.ofInt 32 ((a.toNat : Nat) : Int)) ^^^ (BitVec.ofInt 32 ((b.toNat : Nat) : Int))).toNat = _
  rw [show BitVec.ofInt 32 ((a.toNat : Nat) : Int) = a by simp, show BitVec.ofInt 32 ((b.toNat : Nat) : Int) = b by simp, w32]
theorem u32_and {x y : Int} {a b : BitVec 32} (hx : x = ((a.toNat : Nat) : Int)) (hy : y = ((b.toNat : Nat) : Int)) :
    IntKind.u32.wrap ((BitVec.ofInt IntKind.u32.bits x) &&& (BitVec.ofInt IntKind.u32.bits y)).toNat = (((a &&& b).toNat : Nat) : Int) := by
  subst hx; subst hy
  show IntKind.u32.wrap ((BitVec.ofInt 32 ((a.toNat : Nat) : Int)) &&& (BitVec.ofInt 32 ((b.toNat : Nat) : Int))).toNat = _
  rw [show BitVec.ofInt 32 ((a.toNat : Nat) : Int) = a by simp, show BitVec.ofInt 32 ((b.toNat : Nat) : Int) = b by simp, w32]
theorem u32_shr1 (b : BitVec 32) : Int.fdiv ((b.toNat : Nat) : Int) (2 ^ (min (Int.toNat 1) IntKind.u32.bits)) = (((b >>> 1).toNat : Nat) : Int) := by
  show Int.fdiv ((b.toNat : Nat) : Int) (2 ^ 1) = _
  rw [Int.fdiv_eq_ediv_of_nonneg _ (by omega), BitVec.toNat_ushiftRight, Nat.shiftRight_eq_div_pow]
  omega
theorem u32_neg (b : BitVec 32) : IntKind.u32.wrap (0 - ((b.toNat : Nat) : Int)) = (((-b).toNat : Nat) : Int) := by
  rw [wrap32_eq, BitVec.toNat_neg]
  have := b.isLt
  omega
theorem c1_32 : (1 : Int) = (((1#32 : BitVec 32).toNat : Nat) : Int) := by decide
theorem cp_32 : (2197175160 : Int) = ((poly.toNat : Nat) : Int) := by decide
theorem cm_32 : (if IntKind.u32.signed then -1 else IntKind.u32.max) = (((0xFFFFFFFF#32 : BitVec 32).toNat : Nat) : Int) := by decide
theorem lsb_mod (b : BitVec 32) : b.getLsbD 0 = decide (b.toNat % 2 = 1) := by
  rw [BitVec.getLsbD, Nat.testBit_zero]
theorem fold_take (r : BitVec 32) (l : List UInt8) (k : Nat) (h : k < l.length) : fold r (l.take (k + 1)) = byteStep (fold r (l.take k)) l[k] := by
  unfold fold
  rw [List.take_succ_eq_append_getElem h, List.foldl_append]
  rfl
theorem byte_32 (n : Nat) (h : n < 256) : IntKind.u32.wrap (n : Int) = (((BitVec.ofNat 32 n).toNat : Nat) : Int) := by
  rw [wrap32_eq, BitVec.toNat_ofNat]
  omega
/-- The start of the register. -/
theorem reg0 : (4294967295 : Int) = (((0xFFFFFFFF#32 : BitVec 32).toNat : Nat) : Int) := by decide
theorem byteCells_at' (s : ByteArray) (k : Nat) (h : k < s.size) : (bcells s.data.toList)[0 + ((k : Nat) : Int).toNat * 1]? = some (.int .u8 ((s.data.toList.getD k 0).toNat : Int)) := by
  have hl : k < s.data.toList.length := by rw [data_len]; exact h
  rw [Int.toNat_natCast, Nat.zero_add, Nat.mul_one]
  unfold bcells
  rw [List.getElem?_map, List.getElem?_eq_getElem hl, List.getD_eq_getElem?_getD, List.getElem?_eq_getElem hl]
  rfl

section
variable {H : AH} {R : AEnd → AH → Prop}
theorem step_call (b : BitVec 32) (h : R (.ret (.int .u32 (((crcStep b).toNat : Nat) : Int))) H) : ACall Tryd.prog 31 [.int .u32 ((b.toNat : Nat) : Int)] H R := by
  apply f31_call
  unfold f31_B
  rw [u32_shr1, u32_and rfl c1_32, u32_neg, u32_and cp_32 rfl, u32_xor rfl rfl]
  exact h
theorem move_call (b : BitVec 32) (h : R (.ret (.int .u32 (((crcStep b).toNat : Nat) : Int))) H) : ACall Tryd.prog 32 [.int .u32 ((b.toNat : Nat) : Int)] H R := by
  apply f32_call
  unfold f32_B
  have e : Int.tdiv ((b.toNat : Nat) : Int) 2 = (((b >>> 1).toNat : Nat) : Int) := by
    rw [Int.tdiv_eq_ediv_of_nonneg (by omega), BitVec.toNat_ushiftRight, Nat.shiftRight_eq_div_pow]
    omega
  rw [e, w32, u32_xor rfl cp_32]
  rw [crcStep_eq, lsb_mod] at h
  have hm : Int.tmod ((b.toNat : Nat) : Int) 2 = ((b.toNat % 2 : Nat) : Int) := rfl
  rw [hm]
  refine wIf_d (fun hb => ?_) (fun hb => ?_)
  · have : b.toNat % 2 = 1 := by omega
    simpa [this] using h
  · have : ¬ b.toNat % 2 = 1 := by omega
    simpa [this] using h
set_option maxRecDepth 20000 in
theorem sum_call (s : ByteArray) (hs : s.size ≤ 140737488355328) (h : ∀ H', Fr [] H H' → R (.ret (.int .u32 (((crcSum s).toNat : Nat) : Int))) H') : ACall Tryd.prog 22 [.string s] H R := by
  apply f22_call
  unfold f22_B
  refine wS2B_at hs ?_
  have hb := Has.new H (.row (byteCells s) 1)
  have f0 : Fr [] H (H.push (.row (byteCells s) 1)) := (Fr.refl [] H).push _
  rw [byteCells_eq] at hb f0 ⊢
  generalize H.push (.row (bcells s.data.toList) 1) = H1 at hb f0 ⊢
  generalize H.next = o at hb
  have hlen := data_len s
  refine f22_L0_rule (J := fun n x3 x9 H' => ∃ k : Nat, k ≤ s.size ∧ n = s.size - k ∧ x9 = (k : Int) ∧ x3 = (((fold 0xFFFFFFFF#32 (s.data.toList.take k)).toNat : Nat) : Int) ∧ H' = H1) s.size
    ⟨0, by omega, by omega, rfl, reg0, rfl⟩ ?_
  rintro n x3 x9 H' ⟨k, hk, rfl, rfl, rfl, rfl⟩
  intros
  unfold f22_R0
  refine wIf_d (fun hlt => ?_) (fun hlt => ?_)
  · have hlt : k < s.size := by omega
    have hx := UInt8.toNat_lt (s.data.toList.getD k 0)
    refine wIx_at (by omega) (by omega) (ldI_at hb (byteCells_at' s k hlt) ?_)
    have ex : s.data.toList.getD k 0 = s.data.toList[k]'(by omega) := by rw [List.getD_eq_getElem?_getD, List.getElem?_eq_getElem (by omega)]; rfl
    have hst : (IntKind.u32.wrap ((BitVec.ofInt IntKind.u32.bits (((fold 0xFFFFFFFF#32 (s.data.toList.take k)).toNat : Nat) : Int)) ^^^ (BitVec.ofInt IntKind.u32.bits (IntKind.u32.wrap ((s.data.toList.getD k 0).toNat : Int)))).toNat) =
        (((fold 0xFFFFFFFF#32 (s.data.toList.take k) ^^^ BitVec.ofNat 32 (s.data.toList[k]'(by omega)).toNat).toNat : Nat) : Int) := by
      rw [u32_xor rfl (byte_32 _ hx), ex]
    rw [hst]
    refine f22_L1_rule (J := fun n x3 x17 H2 => ∃ j : Nat, j ≤ 8 ∧ n = 8 - j ∧ x17 = (j : Int) ∧ x3 = (((steps j (fold 0xFFFFFFFF#32 (s.data.toList.take k) ^^^ BitVec.ofNat 32 (s.data.toList[k]'(by omega)).toNat)).toNat : Nat) : Int) ∧ H2 = H') 8
      ⟨0, by omega, by omega, rfl, rfl, rfl⟩ ?_
    rintro n x3 x17 H2 ⟨j, hj, rfl, rfl, rfl, rfl⟩
    intros
    unfold f22_R1
    refine wIf_d (fun hj8 => ?_) (fun hj8 => ?_)
    · refine wCall_of (step_call _ (opI_at ⟨8 - (j + 1), by omega, f22_I1_mk ⟨j + 1, by omega, rfl, wi1 j (by omega), by rw [steps_succ], rfl⟩⟩))
    · have : j = 8 := by omega
      subst this
      exact ⟨s.size - (k + 1), by omega, f22_I0_mk ⟨k + 1, by omega, rfl, wi1 k (by omega), by rw [fold_take _ _ _ (by omega)]; rfl, rfl⟩⟩
  · have : k = s.size := by omega
    subst this
    rw [f22_J0_eq]
    unfold f22_J0_B
    have e : s.data.toList.take s.size = s.data.toList := List.take_of_length_le (by omega)
    rw [e, u32_xor cm_32 rfl]
    have := h H' f0
    unfold crcSum at this
    rw [not_xor, BitVec.xor_comm] at this
    exact this
set_option maxRecDepth 20000 in
theorem rsum_call (s : ByteArray) (hs : s.size ≤ 140737488355328) (h : R (.ret (.int .u32 (((crcSum s).toNat : Nat) : Int))) H) : ACall Tryd.prog 25 [.string s] H R := by
  apply f25_call
  unfold f25_B
  have hlen := data_len s
  refine f25_L0_rule (J := fun n x3 x9 H' => ∃ k : Nat, k ≤ s.size ∧ n = s.size - k ∧ x9 = (k : Int) ∧ x3 = (((fold 0xFFFFFFFF#32 (s.data.toList.take k)).toNat : Nat) : Int) ∧ H' = H) s.size
    ⟨0, by omega, by omega, rfl, reg0, rfl⟩ ?_
  rintro n x3 x9 H' ⟨k, hk, rfl, rfl, rfl, rfl⟩
  intros
  unfold f25_R0
  refine wIf_d (fun hlt => ?_) (fun hlt => ?_)
  · have hlt : k < s.size := by omega
    have hx := UInt8.toNat_lt (s.data.toList.getD k 0)
    refine wIxS_at (by omega) (by omega) ?_
    rw [Int.toNat_natCast]
    have ex : s.data.toList.getD k 0 = s.data.toList[k]'(by omega) := by rw [List.getD_eq_getElem?_getD, List.getElem?_eq_getElem (by omega)]; rfl
    have hst : (IntKind.u32.wrap ((BitVec.ofInt IntKind.u32.bits (((fold 0xFFFFFFFF#32 (s.data.toList.take k)).toNat : Nat) : Int)) ^^^ (BitVec.ofInt IntKind.u32.bits (IntKind.u32.wrap ((s.data.toList.getD k 0).toNat : Int)))).toNat) =
        (((fold 0xFFFFFFFF#32 (s.data.toList.take k) ^^^ BitVec.ofNat 32 (s.data.toList[k]'(by omega)).toNat).toNat : Nat) : Int) := by
      rw [u32_xor rfl (byte_32 _ hx), ex]
    rw [hst]
    refine f25_L1_rule (J := fun n x3 x17 H2 => ∃ j : Nat, j ≤ 8 ∧ n = 8 - j ∧ x17 = (j : Int) ∧ x3 = (((steps j (fold 0xFFFFFFFF#32 (s.data.toList.take k) ^^^ BitVec.ofNat 32 (s.data.toList[k]'(by omega)).toNat)).toNat : Nat) : Int) ∧ H2 = H') 8
      ⟨0, by omega, by omega, rfl, rfl, rfl⟩ ?_
    rintro n x3 x17 H2 ⟨j, hj, rfl, rfl, rfl, rfl⟩
    intros
    unfold f25_R1
    refine wIf_d (fun hj8 => ?_) (fun hj8 => ?_)
    · refine wCall_of (move_call _ (opI_at ⟨8 - (j + 1), by omega, f25_I1_mk ⟨j + 1, by omega, rfl, wi1 j (by omega), by rw [steps_succ], rfl⟩⟩))
    · have : j = 8 := by omega
      subst this
      rw [f25_J0_eq]
      unfold f25_J0_B
      exact ⟨s.size - (k + 1), by omega, f25_I0_mk ⟨k + 1, by omega, rfl, wi1 k (by omega), by rw [fold_take _ _ _ (by omega)]; rfl, rfl⟩⟩
  · have : k = s.size := by omega
    subst this
    rw [f25_J1_eq]
    unfold f25_J1_B
    have e : s.data.toList.take s.size = s.data.toList := List.take_of_length_le (by omega)
    rw [e]
    unfold crcSum at h
    generalize fold 0xFFFFFFFF#32 s.data.toList = b at h
    have e2 : IntKind.u32.wrap (4294967295 - ((b.toNat : Nat) : Int)) = (((~~~b).toNat : Nat) : Int) := by
      rw [wrap32_eq, BitVec.toNat_not]
      have := b.isLt
      omega
    rw [e2]
    exact h
end
end Go.Proofs.YtnjhcnefgeodcaaDoor
