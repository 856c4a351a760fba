/- What is written is read back, with anything behind it: plain laws. -/
import Derived.Test.YtmidgfmopmpppaaWPckH
namespace Go.Proofs.Ytmidgfmopmpppaa
set_option linter.unusedVariables false
set_option linter.unusedSimpArgs false
open Go.RowKit

theorem app_toList (a b : ByteArray) : (a ++ b).data.toList = a.data.toList ++ b.data.toList := by simp
theorem extract_app (a b : ByteArray) : (a ++ b).extract a.size (a ++ b).size = b := by
  apply ByteArray.ext
  simp only [ByteArray.data_extract, ByteArray.data_append]
  apply Array.ext'
  rw [Array.toList_extract]
  simp [List.extract_eq_take_drop]
  exact List.take_of_length_le (by rw [data_len]; exact Nat.le_refl _)
theorem extract_app0 (a b : ByteArray) : (a ++ b).extract 0 a.size = a := by
  apply ByteArray.ext
  simp only [ByteArray.data_extract, ByteArray.data_append]
  apply Array.ext'
  rw [Array.toList_extract]
  simp [List.extract_eq_take_drop]
theorem pc_app (n : Nat) (hn : n < 18446744073709551616) (r : List UInt8) : pc (vb n ++ r) = .ok (n, (vb n).length) := pcF_vbF 9 true n r (by simpa using hn) (.inl rfl)
theorem rdC_app (n : Nat) (hn : n < 18446744073709551616) (r : ByteArray) : rdC (ofL (vb n) ++ r) 0 = (n, r, 0) := by
  unfold rdC
  rw [if_pos rfl, app_toList, data_ofL, pc_app n hn]
  dsimp only
  have e : (vb n).length = (ofL (vb n)).size := (ofL_size _).symm
  rw [e, extract_app]
theorem rdT_app (t : ByteArray) (most : Int) (ht : (t.size : Int) ≤ most) (h64 : t.size < 18446744073709551616) (r : ByteArray) : rdT (tb t ++ r) 0 most = (t, r, 0) := by
  have hl : (tb t ++ r).data.toList = vb t.size ++ (t ++ r).data.toList := by
    unfold tb; simp [ofL]
  have hsz : (tb t ++ r).size = (vb t.size).length + t.size + r.size := by
    unfold tb; rw [ByteArray.size_append, ByteArray.size_append, ofL_size]
  unfold rdT
  rw [if_pos rfl, hl, pc_app _ h64]
  dsimp only
  rw [if_neg (by omega), if_neg (by omega)]
  have h1 : (tb t ++ r).extract ((vb t.size).length + t.size) (tb t ++ r).size = r := by
    have e : (vb t.size).length + t.size = (tb t).size := by unfold tb; rw [ByteArray.size_append, ofL_size]
    rw [e, extract_app]
  have h2 : (tb t ++ r).extract (vb t.size).length ((vb t.size).length + t.size) = t := by
    apply ByteArray.ext
    apply Array.ext'
    simp only [ByteArray.data_extract]
    rw [Array.toList_extract, hl, List.extract_eq_take_drop]
    simp
  rw [h1, h2]
theorem rdH_app (b : Bool) (r : ByteArray) : rdH (ofL [if b then 1 else 0] ++ r) 0 = (b, r, 0) := by
  have hsz : (ofL [if b then (1 : UInt8) else 0] ++ r).size = 1 + r.size := by rw [ByteArray.size_append, ofL_size]; rfl
  have hf : fst8 (ofL [if b then (1 : UInt8) else 0] ++ r) = if b then 1 else 0 := by
    unfold fst8
    rw [app_toList, data_ofL]
    cases b <;> rfl
  have he : (ofL [if b then (1 : UInt8) else 0] ++ r).extract 1 (ofL [if b then (1 : UInt8) else 0] ++ r).size = r := by
    have := extract_app (ofL [if b then (1 : UInt8) else 0]) r
    rwa [ofL_size] at this
  unfold rdH
  rw [if_neg (by rw [hf]; rintro ⟨_, _, h⟩; cases b <;> simp at h)]
  unfold rdB
  rw [if_pos rfl, if_neg (by omega), he, hf]
  cases b <;> rfl
end Go.Proofs.Ytmidgfmopmpppaa
