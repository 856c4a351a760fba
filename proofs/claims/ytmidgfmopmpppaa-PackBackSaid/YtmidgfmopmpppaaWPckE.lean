/- What the bytes of counts, numbers and texts are, put against what is read: plain laws. -/
import Derived.Test.YtmidgfmopmpppaaWPckD
namespace Go.Proofs.Ytmidgfmopmpppaa
set_option linter.unusedVariables false
set_option linter.unusedSimpArgs false
open Go.RowKit

theorem ba_toList (s : ByteArray) : s = ofL s.data.toList := by
  apply ByteArray.ext; simp [ofL]
theorem extract_ofL (l : List UInt8) (i j : Nat) : (ofL l).extract i j = ofL ((l.take j).drop i) := by
  apply ByteArray.ext
  simp only [ByteArray.data_extract, ofL]
  apply Array.ext'
  rw [Array.toList_extract]
  simp [List.extract_eq_take_drop, List.drop_take]
theorem ofL_inj {a b : List UInt8} (h : a = b) : ofL a = ofL b := by rw [h]

/-- A count that is read is written as it stood. -/
theorem count_back (l : List UInt8) (n k : Nat) (h : pc l = .ok (n, k)) : ofL (vb n) = (ofL l).extract 0 k := by
  rw [extract_ofL, List.drop_zero, (pcF_ok 9 true l n k h).2.2.2.1]
  rfl
theorem vb_len (l : List UInt8) (n k : Nat) (h : pc l = .ok (n, k)) : (vb n).length = k := by
  have h1 := (pcF_ok 9 true l n k h).2.2.2.1
  have h2 := (pcF_ok 9 true l n k h).2.1
  show (vbF 9 n).length = k
  rw [← h1, List.length_take]; omega
/-- A text that is read is written as it stood. -/
theorem text_back (l : List UInt8) (n k : Nat) (h : pc l = .ok (n, k)) (hk : k + n ≤ l.length) : tb ((ofL l).extract k (k + n)) = (ofL l).extract 0 (k + n) := by
  have hsz : ((ofL l).extract k (k + n)).size = n := by rw [extract_ofL, ofL_size, List.length_drop, List.length_take]; omega
  unfold tb
  rw [hsz, extract_ofL, extract_ofL, List.drop_zero, ofL_append]
  apply ofL_inj
  have h1 : vb n = l.take k := ((pcF_ok 9 true l n k h).2.2.2.1).symm
  rw [h1]
  have h2 : (l.take (k + n)).take k ++ (l.take (k + n)).drop k = l.take (k + n) := List.take_append_drop k _
  rw [List.take_take, Nat.min_eq_left (by omega)] at h2
  exact h2
/-- A beginning of a text's bytes is too short. -/
theorem text_short (t : ByteArray) (j : Nat) (hj : j < (tb t).size) (ht : t.size < 18446744073709551616) :
    (rdT ((tb t).extract 0 j) 0 (tb t).size).2.2 = 3 ∧ (rdT ((tb t).extract 0 j) 0 (tb t).size).2.1 = ByteArray.empty := by
  have hw : tb t = ofL (vb t.size ++ t.data.toList) := by
    unfold tb
    conv => lhs; rw [ba_toList t]
    rw [ofL_append, ofL_size]
    simp
  have hsz : (tb t).size = (vb t.size).length + t.size := by rw [hw, ofL_size, List.length_append]; simp
  have e : (tb t).extract 0 j = ofL ((vb t.size ++ t.data.toList).take j) := by rw [hw, extract_ofL, List.drop_zero]
  rw [e]
  unfold rdT
  rw [if_pos rfl, data_ofL, ofL_size]
  rcases Nat.lt_or_ge j (vb t.size).length with hlt | hge
  · have hp : pc ((vb t.size ++ t.data.toList).take j) = .error 3 := by
      rw [List.take_append_of_le_length (by omega)]
      exact pcF_short 9 true t.size j ht hlt
    rw [hp]
    exact ⟨rfl, rfl⟩
  · have hp : pc ((vb t.size ++ t.data.toList).take j) = .ok (t.size, (vb t.size).length) := by
      rw [List.take_append, List.take_of_length_le hge]
      exact pcF_vbF 9 true t.size _ ht (Or.inl rfl)
    rw [hp]
    dsimp only
    rw [if_neg (by rw [hsz]; omega), if_pos (by rw [List.length_take, List.length_append]; simp; omega)]
    exact ⟨rfl, rfl⟩
theorem rdC_fact (s : ByteArray) (h : (rdC s 0).2.2 = 0) : ofL (vb (rdC s 0).1) = s.extract 0 (s.size - (rdC s 0).2.1.size) ∧ (rdC s 0).2.1.size ≤ s.size := by
  unfold rdC at h ⊢
  rw [if_pos rfl] at h ⊢
  cases hp : pc s.data.toList with
  | error e =>
    rw [hp] at h
    have := pc_err hp
    dsimp only at h
    omega
  | ok p =>
    obtain ⟨n, k⟩ := p
    have hk := pc_le hp
    rw [data_len] at hk
    dsimp only
    have hsz : (s.extract k s.size).size = s.size - k := by simp
    rw [hsz]
    have h1 := count_back _ n k hp
    rw [← ba_toList] at h1
    have h2 : s.size - (s.size - k) = k := by omega
    rw [h2]
    exact ⟨h1, by omega⟩
theorem rdT_fact (s : ByteArray) (m : Int) (h : (rdT s 0 m).2.2 = 0) : tb (rdT s 0 m).1 = s.extract 0 (s.size - (rdT s 0 m).2.1.size) ∧ (rdT s 0 m).2.1.size ≤ s.size := by
  unfold rdT at h ⊢
  rw [if_pos rfl] at h ⊢
  cases hp : pc s.data.toList with
  | error e =>
    rw [hp] at h
    have := pc_err hp
    dsimp only at h
    omega
  | ok p =>
    obtain ⟨n, k⟩ := p
    rw [hp] at h
    dsimp only at h ⊢
    by_cases h1 : m < n
    · rw [if_pos h1] at h; simp at h
    · rw [if_neg h1] at h ⊢
      by_cases h2 : s.size < k + n
      · rw [if_pos h2] at h; simp at h
      · rw [if_neg h2] at h ⊢
        dsimp only
        have hsz : (s.extract (k + n) s.size).size = s.size - (k + n) := by simp
        rw [hsz]
        have h3 := text_back _ n k hp (by rw [data_len]; omega)
        rw [← ba_toList] at h3
        have h4 : s.size - (s.size - (k + n)) = k + n := by omega
        rw [h4]
        exact ⟨h3, by omega⟩
theorem rdT_size (s : ByteArray) (m : Int) : (rdT s 0 m).1.size ≤ s.size := by
  unfold rdT
  rw [if_pos rfl]
  cases hp : pc s.data.toList with
  | error e => exact Nat.zero_le _
  | ok p =>
    obtain ⟨n, k⟩ := p
    dsimp only
    split
    · exact Nat.zero_le _
    · split
      · exact Nat.zero_le _
      · simp; omega

theorem sub_left {a b : Nat} (h : b ≤ a) (ha : a ≤ 20000) : IntKind.i64.wrap ((a : Int) - (b : Int)) = ((a - b : Nat) : Int) := by rw [wi _ (by omega) (by omega)]; omega
end Go.Proofs.Ytmidgfmopmpppaa
