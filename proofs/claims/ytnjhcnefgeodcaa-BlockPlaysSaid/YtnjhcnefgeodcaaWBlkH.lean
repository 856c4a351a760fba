/- All sectors in a row; what was flushed stays: the plain law. -/
import Derived.Test.YtnjhcnefgeodcaaWBlkG
namespace Go.Proofs.Ytnjhcnefgeodcaa
set_option linter.unusedVariables false
set_option linter.unusedSimpArgs false
open Go.RowKit

def catL (l : List ByteArray) : ByteArray := ofL (l.map (·.data.toList)).flatten
theorem flat64 : ∀ (L : List (List UInt8)) (h : ∀ x ∈ L, x.length = 64) (i : Nat) (hi : i < L.length), (L.flatten.drop (i * 64)).take 64 = L[i] := by
  intro L
  induction L with
  | nil => intro h i hi; simp at hi
  | cons x L ih =>
    intro h i hi
    have hx := h x (by simp)
    rw [List.flatten_cons]
    cases i with
    | zero => rw [Nat.zero_mul, List.drop_zero, List.take_append_of_le_length (by omega), List.take_of_length_le (by omega)]; rfl
    | succ i =>
      have e : (x ++ L.flatten).drop 64 = L.flatten := by rw [← hx]; exact List.drop_left
      rw [Nat.add_mul, Nat.add_comm, Nat.one_mul, ← List.drop_drop, e]
      exact ih (fun y hy => h y (by simp [hy])) i (by simpa using hi)
theorem flat64_length : ∀ (L : List (List UInt8)) (h : ∀ x ∈ L, x.length = 64), L.flatten.length = L.length * 64 := by
  intro L
  induction L with
  | nil => intro h; rfl
  | cons x L ih =>
    intro h
    rw [List.flatten_cons, List.length_append, h x (by simp), ih (fun y hy => h y (by simp [hy])), List.length_cons]
    omega
theorem catL_size (l : List ByteArray) (h : ∀ s ∈ l, s.size = 64) : (catL l).size = l.length * 64 := by
  unfold catL
  rw [ofL_size, flat64_length _ (by
    intro x hx
    obtain ⟨s, hs, rfl⟩ := List.mem_map.1 hx
    rw [data_len]; exact h s hs), List.length_map]
theorem catL_at (l : List ByteArray) (h : ∀ s ∈ l, s.size = 64) (i : Nat) (hi : i < l.length) : (catL l).extract (i * 64) ((i + 1) * 64) = l.getD i ByteArray.empty := by
  have h1 := flat64 (l.map (·.data.toList)) (by
    intro x hx
    obtain ⟨s, hs, rfl⟩ := List.mem_map.1 hx
    rw [data_len]; exact h s hs) i (by simpa using hi)
  apply ByteArray.ext
  apply Array.ext'
  have e : (l.getD i ByteArray.empty) = l[i] := by rw [List.getD_eq_getElem?_getD, List.getElem?_eq_getElem hi]; rfl
  rw [e]
  unfold catL ofL
  simp only [ByteArray.data_extract, List.extract_toArray, List.extract_eq_take_drop]
  rw [show (i + 1) * 64 - i * 64 = 64 by omega, h1]
  simp

/-- The writes to the first sectors, one each. -/
def Ws (f : Nat → ByteArray) (k : Nat) : List (Nat × ByteArray) := (List.range k).map fun i => (i, f i)
theorem Ws_succ (f : Nat → ByteArray) (k : Nat) : Ws f (k + 1) = Ws f k ++ [(k, f k)] := by simp [Ws, List.range_succ]
theorem Ws_length (f : Nat → ByteArray) (k : Nat) : (Ws f k).length = k := by simp [Ws]
theorem Ws_getD (f : Nat → ByteArray) (m k : Nat) (h : k < m) : (Ws f m).getD k (0, ByteArray.empty) = (k, f k) := by simp [Ws, h]
theorem lose_ws (c : Cr) (f : Nat → ByteArray) (m : Nat) (L : List ByteArray) (hm : m ≤ L.length) : ∀ k, k ≤ m → (loseN c (Ws f m) k L).length = L.length ∧
    ∀ i, (loseN c (Ws f m) k L).getD i ByteArray.empty = L.getD i ByteArray.empty ∨ (i < k ∧ ((loseN c (Ws f m) k L).getD i ByteArray.empty = f i ∨ (i : Int) = c.torn)) := by
  intro k
  induction k with
  | zero => intro _; exact ⟨rfl, fun i => .inl rfl⟩
  | succ k ih =>
    intro hk
    obtain ⟨hl, ih⟩ := ih (by omega)
    rw [loseN, Ws_getD f m k (by omega)]
    unfold loseStep
    split
    · rename_i ht
      refine ⟨by rw [List.length_set]; exact hl, fun i => ?_⟩
      by_cases e : k = i
      · subst e; exact .inr ⟨by omega, .inr ht⟩
      · rw [List.getD_eq_getElem?_getD, List.getElem?_set_ne e, ← List.getD_eq_getElem?_getD]
        rcases ih i with h | ⟨h1, h2⟩
        · exact .inl h
        · exact .inr ⟨by omega, h2⟩
    · split
      · refine ⟨by rw [List.length_set]; exact hl, fun i => ?_⟩
        by_cases e : k = i
        · subst e
          refine .inr ⟨by omega, .inl ?_⟩
          rw [List.getD_eq_getElem?_getD, List.getElem?_set_self (by omega)]; rfl
        · rw [List.getD_eq_getElem?_getD, List.getElem?_set_ne e, ← List.getD_eq_getElem?_getD]
          rcases ih i with h | ⟨h1, h2⟩
          · exact .inl h
          · exact .inr ⟨by omega, h2⟩
      · refine ⟨hl, fun i => ?_⟩
        rcases ih i with h | ⟨h1, h2⟩
        · exact .inl h
        · exact .inr ⟨by omega, h2⟩
/-- A device on which so many writes wait. -/
theorem write_ws (d : Dev) (f : Nat → ByteArray) (k : Nat) (ho : d.off = false) (hl : d.left = 0) (hk : k < d.lasts.length) (hw : d.waits = Ws f k) (hs : (f k).size = 64) :
    d.write k (f k) = (0, { d with waits := Ws f (k + 1) }) := by
  rw [write_zero ho (by unfold BadW; omega) hl]
  unfold Dev.more
  rw [hw, Ws_succ, Int.toNat_natCast]
end Go.Proofs.Ytnjhcnefgeodcaa
