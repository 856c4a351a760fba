/- A unit out of bytes: plain facts. -/
import Derived.Test.YtnjhcnefgeodcaaDoorWFrmD
namespace Go.Proofs.YtnjhcnefgeodcaaDoor
set_option linter.unusedVariables false
set_option linter.unusedSimpArgs false
open Go.RowKit

structure UV where
  sr : Nat
  sq : Nat
  kd : Int
  body : ByteArray
def zeroU : UV := ⟨0, 0, 0, ⟨#[]⟩⟩
def num (s : ByteArray) (a b : Nat) : Nat := nval (s.extract a b).data.toList
def getN (s : ByteArray) : Nat := num s 17 21
def getBad (s : ByteArray) : Prop := (crcSum (s.extract 4 (21 + getN s))).toNat ≠ num s 0 4 ∨ Lib.trimB (s.extract (21 + getN s) (secsN (getN s) * 64)).data.toList 0 ≠ []
instance (s : ByteArray) : Decidable (getBad s) := inferInstanceAs (Decidable (_ ∨ _))
def getV (s : ByteArray) : UV := ⟨num s 4 8, num s 8 16, ((s.data.toList.getD 16 0).toNat : Int), s.extract 21 (21 + getN s)⟩
def getU (s : ByteArray) : UV × Int :=
  if s.size < 21 then (zeroU, 3) else if 1048576 < getN s then (zeroU, 4) else if s.size < secsN (getN s) * 64 then (zeroU, 3) else if getBad s then (zeroU, 4) else (getV s, 0)

theorem num_lt (s : ByteArray) (a b : Nat) (hb : b ≤ a + 4) : num s a b < 4294967296 := by
  unfold num
  have h1 := nval_lt (s.extract a b).data.toList
  have h2 : (s.extract a b).data.toList.length ≤ 4 := by rw [data_extract_l, List.length_take]; omega
  have h3 : 256 ^ (s.extract a b).data.toList.length ≤ 256 ^ 4 := Nat.pow_le_pow_right (by omega) h2
  omega
theorem num_lt8 (s : ByteArray) (a b : Nat) (hb : b ≤ a + 8) : num s a b < 18446744073709551616 := by
  unfold num
  have h2 : (s.extract a b).data.toList.length ≤ 8 := by rw [data_extract_l, List.length_take]; omega
  exact nval8 h2
theorem secs_nat (n : Nat) (h : n ≤ 1048576) : secsN n = (n + 84) / 64 := by unfold secsN; rw [if_neg (by omega)]; omega
theorem ext_size (s : ByteArray) (a b : Nat) (h : b ≤ s.size) : (s.extract a b).size = b - a := by rw [ByteArray.size_extract]; omega

/-! Where noughts alone are trimmed. -/
theorem dw_nil {p : UInt8 → Bool} : ∀ (l : List UInt8), l.dropWhile p = [] → ∀ x ∈ l, p x = true := by
  intro l
  induction l with
  | nil => intro _ x hx; cases hx
  | cons y l ih =>
    intro h x hx
    rw [List.dropWhile_cons] at h
    split at h
    · rename_i hy
      rcases List.mem_cons.1 hx with rfl | hx
      · exact hy
      · exact ih h x hx
    · cases h
theorem tw_all {p : UInt8 → Bool} : ∀ (l : List UInt8), ∀ x ∈ l.takeWhile p, p x = true := by
  intro l
  induction l with
  | nil => intro x hx; cases hx
  | cons y l ih =>
    intro x hx
    rw [List.takeWhile_cons] at hx
    split at hx
    · rename_i hy
      rcases List.mem_cons.1 hx with rfl | hx
      · exact hy
      · exact ih x hx
    · cases hx
theorem trim_nil (l : List UInt8) : Lib.trimB l 0 = [] ↔ l = List.replicate l.length 0 := by
  unfold Lib.trimB Lib.trimLeftB Lib.trimRightB
  constructor
  · intro h
    have h2 : ∀ x ∈ l.reverse.dropWhile (· == 0), (x == 0) = true := fun x hx => dw_nil _ h x (by simpa using hx)
    have h3 : ∀ x ∈ l, x = 0 := by
      intro x hx
      have hx : x ∈ l.reverse := by simpa using hx
      rw [← List.takeWhile_append_dropWhile (p := (· == 0)) (l := l.reverse)] at hx
      rcases List.mem_append.1 hx with hx | hx
      · have := tw_all _ x hx
        simpa using this
      · simpa using h2 x hx
    exact List.eq_replicate_iff.2 ⟨rfl, h3⟩
  · intro h
    rw [h]
    simp

/-! Pieces of a row. -/
theorem piece_mid (pre mid post : List UInt8) (a b : Nat) (h1 : pre.length = a) (h2 : mid.length = b - a) : ((pre ++ (mid ++ post)).drop a).take (b - a) = mid := by
  rw [← h1, List.drop_left, h1, ← h2, List.take_left]
theorem piece_data (l : List UInt8) (a b : Nat) : ((ofL l).extract a b).data.toList = (l.drop a).take (b - a) := data_extract_l _ _ _
/-- The bytes of a unit, and whatever stands behind them, in pieces. -/
theorem unit_pieces (c sr sq kd : Nat) (body rest : List UInt8) (hk : kd < 256) (hb : body.length < 4294967296) (hsr : sr < 4294967296) (hsq : sq < 18446744073709551616) (hc : c < 4294967296) :
    num (ofL (be 4 c ++ (unitL sr sq kd body ++ rest))) 0 4 = c ∧ num (ofL (be 4 c ++ (unitL sr sq kd body ++ rest))) 4 8 = sr ∧ num (ofL (be 4 c ++ (unitL sr sq kd body ++ rest))) 8 16 = sq ∧
    (be 4 c ++ (unitL sr sq kd body ++ rest)).getD 16 0 = UInt8.ofNat kd ∧ num (ofL (be 4 c ++ (unitL sr sq kd body ++ rest))) 17 21 = body.length ∧
    (ofL (be 4 c ++ (unitL sr sq kd body ++ rest))).extract 21 (21 + body.length) = ofL body ∧ (ofL (be 4 c ++ (unitL sr sq kd body ++ rest))).extract 4 (21 + body.length) = ofL (unitL sr sq kd body) := by
  have nb : ∀ (k v : Nat), v < 256 ^ k → nval (be k v) = v := fun k v h => by rw [nval_be, Nat.mod_eq_of_lt h]
  have eU : unitL sr sq kd body = be 4 sr ++ (be 8 sq ++ (be 1 kd ++ (be 4 body.length ++ body))) := by unfold unitL; simp only [List.append_assoc]
  have hl := unitL_length sr sq kd body
  have p0 := piece_mid [] (be 4 c) (unitL sr sq kd body ++ rest) 0 4 rfl (be_length _ _)
  have p1 := piece_mid (be 4 c) (be 4 sr) (be 8 sq ++ (be 1 kd ++ (be 4 body.length ++ (body ++ rest)))) 4 8 (be_length _ _) (be_length _ _)
  have p2 := piece_mid (be 4 c ++ be 4 sr) (be 8 sq) (be 1 kd ++ (be 4 body.length ++ (body ++ rest))) 8 16 (by simp only [List.length_append, be_length]) (be_length _ _)
  have p3 := piece_mid (be 4 c ++ be 4 sr ++ be 8 sq) (be 1 kd) (be 4 body.length ++ (body ++ rest)) 16 17 (by simp only [List.length_append, be_length]) (be_length _ _)
  have p4 := piece_mid (be 4 c ++ be 4 sr ++ be 8 sq ++ be 1 kd) (be 4 body.length) (body ++ rest) 17 21 (by simp only [List.length_append, be_length]) (be_length _ _)
  have p5 := piece_mid (be 4 c ++ be 4 sr ++ be 8 sq ++ be 1 kd ++ be 4 body.length) body rest 21 (21 + body.length) (by simp only [List.length_append, be_length]) (by omega)
  have p6 := piece_mid (be 4 c) (unitL sr sq kd body) rest 4 (21 + body.length) (be_length _ _) (by omega)
  have eW : be 4 c ++ (unitL sr sq kd body ++ rest) = be 4 c ++ (be 4 sr ++ (be 8 sq ++ (be 1 kd ++ (be 4 body.length ++ (body ++ rest))))) := by rw [eU]; simp only [List.append_assoc]
  refine ⟨?_, ?_, ?_, ?_, ?_, ?_, ?_⟩
  · unfold num; rw [piece_data]
    rw [List.nil_append] at p0
    rw [p0]; exact nb 4 c (by omega)
  · unfold num; rw [piece_data, eW, p1]; exact nb 4 sr (by omega)
  · unfold num; rw [piece_data, eW]
    simp only [List.append_assoc] at p2
    rw [p2]; exact nb 8 sq (by omega)
  · rw [eW]
    simp only [List.append_assoc] at p3
    have h16 : ((be 4 c ++ (be 4 sr ++ (be 8 sq ++ (be 1 kd ++ (be 4 body.length ++ (body ++ rest)))))).drop 16).head? = some (UInt8.ofNat kd) := by
      have hh : (((be 4 c ++ (be 4 sr ++ (be 8 sq ++ (be 1 kd ++ (be 4 body.length ++ (body ++ rest)))))).drop 16).take (17 - 16)).head? = (be 1 kd).head? := by rw [p3]
      have e1 : (be 1 kd).head? = some (UInt8.ofNat kd) := by
        rw [be_succ]; simp
      rw [e1, List.head?_take] at hh
      simpa using hh
    rw [List.head?_drop] at h16
    rw [List.getD_eq_getElem?_getD, h16]; rfl
  · unfold num; rw [piece_data, eW]
    simp only [List.append_assoc] at p4
    rw [p4]; exact nb 4 _ (by omega)
  · rw [extract_ofL]
    show ofL (List.take _ (List.drop _ (be 4 c ++ (unitL sr sq kd body ++ rest)))) = _
    rw [eW]
    simp only [List.append_assoc] at p5
    rw [p5]
  · rw [extract_ofL]
    show ofL (List.take _ (List.drop _ (be 4 c ++ (unitL sr sq kd body ++ rest)))) = _
    rw [p6]
end Go.Proofs.YtnjhcnefgeodcaaDoor
