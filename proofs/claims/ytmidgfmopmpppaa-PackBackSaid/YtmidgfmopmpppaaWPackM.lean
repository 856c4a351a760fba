/- The bytes of counts and numbers, in plain Lean. -/
import Derived.Test.YtmidgfmopmpppaaWAbsN
namespace Go.Proofs.Ytmidgfmopmpppaa
set_option linter.unusedVariables false
set_option linter.unusedSimpArgs false

/-- A count's bytes, of at most f + 1. -/
def vbF : Nat → Nat → List UInt8
  | 0, n => [UInt8.ofNat n]
  | f + 1, n => if n < 128 then [UInt8.ofNat n] else UInt8.ofNat (n % 128 + 128) :: vbF f (n / 128)
def vb (n : Nat) : List UInt8 := vbF 9 n

theorem vbF_small (f n : Nat) (h : n < 128) : vbF f n = [UInt8.ofNat n] := by
  cases f with
  | zero => rfl
  | succ f => simp [vbF, h]
theorem vbF_length (f n : Nat) : (vbF f n).length ≤ f + 1 ∧ 1 ≤ (vbF f n).length := by
  induction f generalizing n with
  | zero => simp [vbF]
  | succ f ih =>
    simp only [vbF]
    split
    · simp
    · have := ih (n / 128); simp only [List.length_cons]; omega
theorem vbF_mono (f m n : Nat) (h : m ≤ n) : (vbF f m).length ≤ (vbF f n).length := by
  induction f generalizing m n with
  | zero => simp [vbF]
  | succ f ih =>
    simp only [vbF]
    split
    · split
      · simp
      · have := vbF_length f (n / 128); simp
    · rw [if_neg (by omega)]
      simp only [List.length_cons]
      have := ih (m / 128) (n / 128) (Nat.div_le_div_right h)
      omega
/-- The number of groups of seven bits. -/
def groups : Nat → Nat → Nat
  | 0, _ => 1
  | f + 1, n => if n < 128 then 1 else groups f (n / 128) + 1
theorem vbF_groups (f n : Nat) : (vbF f n).length = groups f n := by
  induction f generalizing n with
  | zero => rfl
  | succ f ih =>
    simp only [vbF, groups]
    split
    · rfl
    · simp [ih]

/-- A number's count. -/
def zz (n : Int) : Nat := if 0 ≤ n then (2 * n).toNat else (-2 * n - 1).toNat
theorem zz_lt (n : Int) (h : -9223372036854775808 ≤ n) (h' : n ≤ 9223372036854775807) : zz n < 18446744073709551616 := by unfold zz; split <;> omega
theorem groups_pair (f k : Nat) (h : k < 2 ^ (7 * f + 6)) : groups f (2 * k) = groups f (2 * k + 1) := by
  induction f generalizing k with
  | zero => rfl
  | succ f ih =>
    simp only [groups]
    by_cases hk : 2 * k < 128
    · rw [if_pos hk, if_pos (by omega)]
    · rw [if_neg hk, if_neg (by omega)]
      have h1 : 2 * k / 128 = (2 * k + 1) / 128 := by omega
      rw [h1]

/-- What is told of the bytes at the front: a count and how many bytes it has, or the error. -/
def pcF : Nat → Bool → List UInt8 → Except Nat (Nat × Nat)
  | _, _, [] => .error 3
  | 0, first, c :: _ => if 1 < c.toNat then .error 4 else if c.toNat = 0 ∧ first = false then .error 4 else .ok (c.toNat, 1)
  | f + 1, first, c :: l =>
    if c.toNat < 128 then (if c.toNat = 0 ∧ first = false then .error 4 else .ok (c.toNat, 1))
    else match pcF f false l with
      | .error e => .error e
      | .ok (n, k) => .ok (c.toNat - 128 + 128 * n, k + 1)
def pc (l : List UInt8) : Except Nat (Nat × Nat) := pcF 9 true l

theorem u8_of (n : Nat) (h : n < 256) : (UInt8.ofNat n).toNat = n := by rw [UInt8.toNat_ofNat']; omega

/-- What is read is what it is written in. -/
theorem pcF_ok (f : Nat) (first : Bool) (l : List UInt8) (n k : Nat) (h : pcF f first l = .ok (n, k)) :
    n < 2 ^ (7 * f + 1) ∧ k ≤ l.length ∧ 1 ≤ k ∧ l.take k = vbF f n ∧ (first = false → n ≠ 0) := by
  induction f generalizing first l n k with
  | zero =>
    cases l with
    | nil => simp [pcF] at h
    | cons c l =>
      simp only [pcF] at h
      split at h
      · simp at h
      · split at h
        · simp at h
        · simp only [Except.ok.injEq, Prod.mk.injEq] at h
          obtain ⟨rfl, rfl⟩ := h
          refine ⟨by omega, by simp, Nat.le_refl _, ?_, ?_⟩
          · simp [vbF]
          · intro hf h0; simp_all
  | succ f ih =>
    cases l with
    | nil => simp [pcF] at h
    | cons c l =>
      simp only [pcF] at h
      split at h
      · rename_i hc
        split at h
        · simp at h
        · simp only [Except.ok.injEq, Prod.mk.injEq] at h
          obtain ⟨rfl, rfl⟩ := h
          refine ⟨?_, by simp, Nat.le_refl _, ?_, ?_⟩
          · have : 2 ^ 7 ≤ 2 ^ (7 * (f + 1) + 1) := Nat.pow_le_pow_right (by omega) (by omega)
            omega
          · rw [vbF_small _ _ hc]; simp
          · intro hf h0; simp_all
      · rename_i hc
        split at h
        · simp at h
        · rename_i n' k' hp
          simp only [Except.ok.injEq, Prod.mk.injEq] at h
          obtain ⟨rfl, rfl⟩ := h
          obtain ⟨h1, h2, h3, h4, h5⟩ := ih _ _ _ _ hp
          have hn := h5 rfl
          have hlt := UInt8.toNat_lt c
          refine ⟨?_, by simp; omega, by omega, ?_, by omega⟩
          · have : 2 ^ (7 * (f + 1) + 1) = 128 * 2 ^ (7 * f + 1) := by rw [show 7 * (f + 1) + 1 = (7 * f + 1) + 7 from by omega, Nat.pow_add]; omega
            omega
          · rw [List.take_succ_cons, h4, vbF, if_neg (by omega)]
            have e1 : (c.toNat - 128 + 128 * n') % 128 + 128 = c.toNat := by omega
            have e2 : (c.toNat - 128 + 128 * n') / 128 = n' := by omega
            rw [e1, e2]
            simp

/-- What is written is read, with anything behind it. -/
theorem pcF_vbF (f : Nat) (first : Bool) (n : Nat) (r : List UInt8) (h : n < 2 ^ (7 * f + 1)) (h0 : first = true ∨ n ≠ 0) : pcF f first (vbF f n ++ r) = .ok (n, (vbF f n).length) := by
  induction f generalizing first n r with
  | zero =>
    have hn : n < 2 := by simpa using h
    simp only [vbF, List.cons_append, List.nil_append, pcF, u8_of n (by omega)]
    rw [if_neg (by omega), if_neg (by rintro ⟨a, b⟩; rcases h0 with h0 | h0 <;> simp_all)]
    rfl
  | succ f ih =>
    by_cases hn : n < 128
    · rw [vbF_small _ _ hn]
      simp only [List.cons_append, List.nil_append, pcF, u8_of n (by omega), if_pos hn]
      rw [if_neg (by rintro ⟨a, b⟩; rcases h0 with h0 | h0 <;> simp_all)]
      rfl
    · have h2 : n / 128 < 2 ^ (7 * f + 1) := by
        have : 2 ^ (7 * (f + 1) + 1) = 128 * 2 ^ (7 * f + 1) := by rw [show 7 * (f + 1) + 1 = (7 * f + 1) + 7 from by omega, Nat.pow_add]; omega
        omega
      have e := ih false (n / 128) r h2 (Or.inr (by omega))
      simp only [vbF, if_neg hn, List.cons_append, pcF, u8_of (n % 128 + 128) (by omega)]
      rw [if_neg (by omega), e]
      simp only [List.length_cons, Except.ok.injEq, Prod.mk.injEq, and_true]
      omega

/-- A beginning of what is written is too short. -/
theorem pcF_short (f : Nat) (first : Bool) (n : Nat) (k : Nat) (h : n < 2 ^ (7 * f + 1)) (hk : k < (vbF f n).length) : pcF f first ((vbF f n).take k) = .error 3 := by
  induction f generalizing first n k with
  | zero =>
    have : k = 0 := by simp [vbF] at hk; omega
    subst this
    simp [pcF]
  | succ f ih =>
    by_cases hn : n < 128
    · rw [vbF_small _ _ hn] at hk ⊢
      have : k = 0 := by simp at hk; omega
      subst this
      simp [pcF]
    · cases k with
      | zero => simp [pcF]
      | succ k =>
        have h2 : n / 128 < 2 ^ (7 * f + 1) := by
          have : 2 ^ (7 * (f + 1) + 1) = 128 * 2 ^ (7 * f + 1) := by rw [show 7 * (f + 1) + 1 = (7 * f + 1) + 7 from by omega, Nat.pow_add]; omega
          omega
        simp only [vbF, if_neg hn, List.length_cons] at hk
        simp only [vbF, if_neg hn, List.take_succ_cons, pcF, u8_of (n % 128 + 128) (by omega)]
        rw [if_neg (by omega), ih false (n / 128) k h2 (by omega)]

theorem pcF_errs (f : Nat) (first : Bool) (l : List UInt8) (e : Nat) (h : pcF f first l = .error e) : e = 3 ∨ e = 4 := by
  induction f generalizing first l with
  | zero =>
    cases l with
    | nil => simp [pcF] at h; omega
    | cons c l =>
      simp only [pcF] at h
      split at h
      · simp at h; omega
      · split at h <;> simp at h; omega
  | succ f ih =>
    cases l with
    | nil => simp [pcF] at h; omega
    | cons c l =>
      simp only [pcF] at h
      split at h
      · split at h <;> simp at h; omega
      · split at h
        · rename_i e' hp
          simp at h; subst h
          exact ih _ _ hp
        · simp at h

theorem of_mod (n : Nat) : UInt8.ofNat (128 + n % 128) = UInt8.ofNat (n % 128 + 128) := by rw [Nat.add_comm]
end Go.Proofs.Ytmidgfmopmpppaa
