/- What the bytes of counts, numbers and texts are, put against what is read: plain laws. -/
import Derived.Test.YtmidgfmopmpppaaVPackT
namespace Go.Proofs.Ytmidgfmopmpppaa
set_option linter.unusedVariables false
set_option linter.unusedSimpArgs false
open Go.RowKit

theorem ba_toList (s : ByteArray) : s = ofL s.data.toList := by
  apply ByteArray.ext; simp [ofL]
theorem extract_ofL (l : List UInt8) (i j : Nat) : (ofL l).extract i j = ofL ((l.take j).drop i) := by
  apply ByteArray.ext
  simp only [ByteArray.data_extract, ofL]
  apply Array.ext'
  rw [Array.toList_extract]
  simp [List.extract_eq_take_drop, List.drop_take]
theorem ofL_inj {a b : List UInt8} (h : a = b) : ofL a = ofL b := by rw [h]
theorem ofL_data (l : List UInt8) : (ofL l).data.toList = l := by simp [ofL]

/-- A count that is read is written as it stood. -/
theorem count_back (l : List UInt8) (n k : Nat) (h : pc l = .ok (n, k)) : ofL (vb n) = (ofL l).extract 0 k := by
  rw [extract_ofL, List.drop_zero, (pcF_ok 9 true l n k h).2.2.2.1]
  rfl
theorem vb_len (l : List UInt8) (n k : Nat) (h : pc l = .ok (n, k)) : (vb n).length = k := by
  have h1 := (pcF_ok 9 true l n k h).2.2.2.1
  have h2 := (pcF_ok 9 true l n k h).2.1
  show (vbF 9 n).length = k
  rw [← h1, List.length_take]; omega
/-- A text that is read is written as it stood. -/
theorem text_back (l : List UInt8) (n k : Nat) (h : pc l = .ok (n, k)) (hk : k + n ≤ l.length) : tb ((ofL l).extract k (k + n)) = (ofL l).extract 0 (k + n) := by
  have hsz : ((ofL l).extract k (k + n)).size = n := by rw [extract_ofL, ofL_size, List.length_drop, List.length_take]; omega
  unfold tb
  rw [hsz, extract_ofL, extract_ofL, List.drop_zero, ofL_append]
  apply ofL_inj
  have h1 : vb n = l.take k := ((pcF_ok 9 true l n k h).2.2.2.1).symm
  rw [h1]
  have h2 : (l.take (k + n)).take k ++ (l.take (k + n)).drop k = l.take (k + n) := List.take_append_drop k _
  rw [List.take_take, Nat.min_eq_left (by omega)] at h2
  exact h2
/-- A beginning of a text's bytes is too short. -/
theorem text_short (t : ByteArray) (j : Nat) (hj : j < (tb t).size) (ht : t.size < 18446744073709551616) :
    (rdT ((tb t).extract 0 j) 0 (tb t).size).2.2 = 3 ∧ (rdT ((tb t).extract 0 j) 0 (tb t).size).2.1 = ByteArray.empty := by
  have hw : tb t = ofL (vb t.size ++ t.data.toList) := by
    unfold tb
    conv => lhs; rw [ba_toList t]
    rw [ofL_append, ofL_size]
    simp
  have hsz : (tb t).size = (vb t.size).length + t.size := by rw [hw, ofL_size, List.length_append]; simp
  have e : (tb t).extract 0 j = ofL ((vb t.size ++ t.data.toList).take j) := by rw [hw, extract_ofL, List.drop_zero]
  rw [e]
  unfold rdT
  rw [if_pos rfl, ofL_data, ofL_size]
  rcases Nat.lt_or_ge j (vb t.size).length with hlt | hge
  · have hp : pc ((vb t.size ++ t.data.toList).take j) = .error 3 := by
      rw [List.take_append_of_le_length (by omega)]
      exact pcF_short 9 true t.size j ht hlt
    rw [hp]
    exact ⟨rfl, rfl⟩
  · have hp : pc ((vb t.size ++ t.data.toList).take j) = .ok (t.size, (vb t.size).length) := by
      rw [List.take_append, List.take_of_length_le hge]
      exact pcF_vbF 9 true t.size _ ht (Or.inl rfl)
    rw [hp]
    dsimp only
    rw [if_neg (by rw [hsz]; omega), if_pos (by rw [List.length_take, List.length_append]; simp; omega)]
    exact ⟨rfl, rfl⟩
end Go.Proofs.Ytmidgfmopmpppaa
