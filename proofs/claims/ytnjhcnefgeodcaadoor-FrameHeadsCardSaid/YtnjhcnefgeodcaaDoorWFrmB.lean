/- Numbers as bytes, the highest first: plain facts. -/
import Derived.Test.YtnjhcnefgeodcaaDoorWAbsN
namespace Go.Proofs.YtnjhcnefgeodcaaDoor
set_option linter.unusedVariables false
set_option linter.unusedSimpArgs false
open Go.RowKit

def be (k n : Nat) : List UInt8 := (List.range k).map fun j => UInt8.ofNat (n / 256 ^ (k - 1 - j))
theorem be_length (k n : Nat) : (be k n).length = k := by simp [be]
theorem be_succ (k n : Nat) : be (k + 1) n = UInt8.ofNat (n / 256 ^ k) :: be k n := by
  unfold be
  rw [List.range_succ_eq_map, List.map_cons, List.map_map]
  congr 1
  refine List.map_congr_left fun j hj => ?_
  show UInt8.ofNat (n / 256 ^ (k + 1 - 1 - (j + 1))) = _
  rw [show k + 1 - 1 - (j + 1) = k - 1 - j by omega]
theorem be_at (k n i : Nat) (h : i < k) : (be k n)[k - 1 - i]? = some (UInt8.ofNat (n / 256 ^ i)) := by
  unfold be
  rw [List.getElem?_map, List.getElem?_range (by omega)]
  show some (UInt8.ofNat (n / 256 ^ (k - 1 - (k - 1 - i)))) = _
  rw [show k - 1 - (k - 1 - i) = i by omega]
def nval (l : List UInt8) : Nat := l.foldl (fun n c => n * 256 + c.toNat) 0
theorem nfold (l : List UInt8) : ∀ n, l.foldl (fun n c => n * 256 + c.toNat) n = n * 256 ^ l.length + nval l := by
  induction l with
  | nil => intro n; simp [nval]
  | cons x l ih =>
    intro n
    rw [List.foldl_cons, ih, List.length_cons]
    unfold nval
    rw [List.foldl_cons, ih (0 * 256 + x.toNat)]
    simp only [Nat.zero_mul, Nat.zero_add, Nat.add_mul, Nat.pow_succ, Nat.add_assoc, nval]
    congr 1
    rw [Nat.mul_assoc, Nat.mul_comm 256]
theorem nval_cons (x : UInt8) (l : List UInt8) : nval (x :: l) = x.toNat * 256 ^ l.length + nval l := by
  have := nfold l x.toNat
  unfold nval at this ⊢
  rw [List.foldl_cons, Nat.zero_mul, Nat.zero_add]
  exact this
theorem nval_snoc (l : List UInt8) (x : UInt8) : nval (l ++ [x]) = nval l * 256 + x.toNat := by
  unfold nval; rw [List.foldl_append]; rfl
theorem nval_lt (l : List UInt8) : nval l < 256 ^ l.length := by
  induction l with
  | nil => simp [nval]
  | cons x l ih =>
    rw [nval_cons, List.length_cons, Nat.pow_succ]
    have hx := UInt8.toNat_lt x
    have h1 : x.toNat * 256 ^ l.length ≤ 255 * 256 ^ l.length := Nat.mul_le_mul_right _ (by omega)
    omega
theorem nval_be (k n : Nat) : nval (be k n) = n % 256 ^ k := by
  induction k with
  | zero => simp [be, nval, Nat.mod_one]
  | succ k ih =>
    rw [be_succ, nval_cons, be_length, ih, UInt8.toNat_ofNat']
    have e := Nat.mod_pow_succ (x := n) (b := 256) (k := k)
    rw [e, Nat.mul_comm, Nat.add_comm]
theorem be_nval (l : List UInt8) : be l.length (nval l) = l := by
  induction l with
  | nil => rfl
  | cons x l ih =>
    rw [List.length_cons, be_succ, nval_cons]
    have hl := nval_lt l
    have hp : 0 < 256 ^ l.length := Nat.pow_pos (by omega)
    have e1 : (x.toNat * 256 ^ l.length + nval l) / 256 ^ l.length = x.toNat := by
      rw [Nat.add_comm, Nat.add_mul_div_right _ _ hp, Nat.div_eq_of_lt hl, Nat.zero_add]
    rw [e1]
    congr 1
    · simp
    · have e2 : ∀ k, k ≤ l.length → be k (x.toNat * 256 ^ l.length + nval l) = be k (nval l) := by
        intro k hk
        unfold be
        refine List.map_congr_left fun j hj => ?_
        have hj := List.mem_range.1 hj
        have hd : 256 ^ l.length = 256 ^ (k - 1 - j) * 256 * 256 ^ (l.length - 1 - (k - 1 - j)) := by
          rw [← Nat.pow_succ, ← Nat.pow_add]; congr 1; omega
        have hq : (x.toNat * 256 ^ l.length + nval l) / 256 ^ (k - 1 - j) = x.toNat * 256 ^ (l.length - 1 - (k - 1 - j)) * 256 + nval l / 256 ^ (k - 1 - j) := by
          have e3 : x.toNat * 256 ^ l.length + nval l = nval l + (x.toNat * 256 ^ (l.length - 1 - (k - 1 - j)) * 256) * 256 ^ (k - 1 - j) := by
            rw [hd]
            rw [show x.toNat * (256 ^ (k - 1 - j) * 256 * 256 ^ (l.length - 1 - (k - 1 - j))) = x.toNat * 256 ^ (l.length - 1 - (k - 1 - j)) * 256 * 256 ^ (k - 1 - j) by
              simp only [Nat.mul_assoc, Nat.mul_comm, Nat.mul_left_comm]]
            omega
          rw [e3, Nat.add_mul_div_right _ _ (Nat.pow_pos (by omega))]
          omega
        rw [hq]
        apply UInt8.toNat_inj.1
        rw [UInt8.toNat_ofNat', UInt8.toNat_ofNat']
        omega
      rw [e2 _ (Nat.le_refl _), ih]
theorem be_inj {k a b : Nat} (ha : a < 256 ^ k) (hb : b < 256 ^ k) (h : be k a = be k b) : a = b := by
  have := congrArg nval h
  rw [nval_be, nval_be, Nat.mod_eq_of_lt ha, Nat.mod_eq_of_lt hb] at this
  exact this
theorem be_eq_iff {k a : Nat} (ha : a < 256 ^ k) (l : List UInt8) (hl : l.length = k) : be k a = l ↔ a = nval l := by
  constructor
  · intro h; rw [← h, nval_be, Nat.mod_eq_of_lt ha]
  · rintro rfl; rw [← hl]; exact be_nval l

/-! Pieces of texts. -/
theorem extract_ofL (s : ByteArray) (a b : Nat) : s.extract a b = ofL ((s.data.toList.drop a).take (b - a)) := by
  apply ByteArray.ext
  apply Array.ext'
  unfold ofL
  simp only [ByteArray.data_extract, Array.toList_extract, List.extract_eq_take_drop]
theorem data_extract_l (s : ByteArray) (a b : Nat) : (s.extract a b).data.toList = (s.data.toList.drop a).take (b - a) := by rw [extract_ofL]; rfl
theorem ofL_inj {a b : List UInt8} (h : ofL a = ofL b) : a = b := congrArg (fun s : ByteArray => s.data.toList) h
theorem data_inj {a b : ByteArray} (h : a.data.toList = b.data.toList) : a = b := by rw [← ofL_data a, ← ofL_data b, h]
theorem data_append (a b : ByteArray) : (a ++ b).data.toList = a.data.toList ++ b.data.toList := by simp
end Go.Proofs.YtnjhcnefgeodcaaDoor
