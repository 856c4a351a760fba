/- The bytes of counts and numbers, in plain Lean. The packing functions, each by what it computes: the writers; the reader's small calls. -/
import Derived.Test.YtfghglacfjncmaaWAbsN
import Derived.Test.YtfghglacfjncmaaWGenA
/-! The bytes of counts and numbers, in plain Lean. -/
namespace Go.Proofs.Ytfghglacfjncmaa
set_option linter.unusedVariables false
set_option linter.unusedSimpArgs false

/-- A count's bytes, of at most f + 1. -/
def vbF : Nat → Nat → List UInt8
  | 0, n => [UInt8.ofNat n]
  | f + 1, n => if n < 128 then [UInt8.ofNat n] else UInt8.ofNat (n % 128 + 128) :: vbF f (n / 128)
def vb (n : Nat) : List UInt8 := vbF 9 n

theorem vbF_small (f n : Nat) (h : n < 128) : vbF f n = [UInt8.ofNat n] := by
  cases f with
  | zero => rfl
  | succ f => simp [vbF, h]
theorem vbF_length (f n : Nat) : (vbF f n).length ≤ f + 1 ∧ 1 ≤ (vbF f n).length := by
  induction f generalizing n with
  | zero => simp [vbF]
  | succ f ih =>
    simp only [vbF]
    split
    · simp
    · have := ih (n / 128); simp only [List.length_cons]; omega
/-- A number's count. -/
def zz (n : Int) : Nat := if 0 ≤ n then (2 * n).toNat else (-2 * n - 1).toNat
theorem zz_lt (n : Int) (h : -9223372036854775808 ≤ n) (h' : n ≤ 9223372036854775807) : zz n < 18446744073709551616 := by unfold zz; split <;> omega
/-- What is told of the bytes at the front: a count and how many bytes it has, or the error. -/
def pcF : Nat → Bool → List UInt8 → Except Nat (Nat × Nat)
  | _, _, [] => .error 3
  | 0, first, c :: _ => if 1 < c.toNat then .error 4 else if c.toNat = 0 ∧ first = false then .error 4 else .ok (c.toNat, 1)
  | f + 1, first, c :: l =>
    if c.toNat < 128 then (if c.toNat = 0 ∧ first = false then .error 4 else .ok (c.toNat, 1))
    else match pcF f false l with
      | .error e => .error e
      | .ok (n, k) => .ok (c.toNat - 128 + 128 * n, k + 1)
def pc (l : List UInt8) : Except Nat (Nat × Nat) := pcF 9 true l

theorem u8_of (n : Nat) (h : n < 256) : (UInt8.ofNat n).toNat = n := by rw [UInt8.toNat_ofNat']; omega

/-- What is read is what it is written in. -/
theorem pcF_ok (f : Nat) (first : Bool) (l : List UInt8) (n k : Nat) (h : pcF f first l = .ok (n, k)) :
    n < 2 ^ (7 * f + 1) ∧ k ≤ l.length ∧ 1 ≤ k ∧ l.take k = vbF f n ∧ (first = false → n ≠ 0) := by
  induction f generalizing first l n k with
  | zero =>
    cases l with
    | nil => simp [pcF] at h
    | cons c l =>
      simp only [pcF] at h
      split at h
      · simp at h
      · split at h
        · simp at h
        · simp only [Except.ok.injEq, Prod.mk.injEq] at h
          obtain ⟨rfl, rfl⟩ := h
          refine ⟨by omega, by simp, Nat.le_refl _, ?_, ?_⟩
          · simp [vbF]
          · intro hf h0; simp_all
  | succ f ih =>
    cases l with
    | nil => simp [pcF] at h
    | cons c l =>
      simp only [pcF] at h
      split at h
      · rename_i hc
        split at h
        · simp at h
        · simp only [Except.ok.injEq, Prod.mk.injEq] at h
          obtain ⟨rfl, rfl⟩ := h
          refine ⟨?_, by simp, Nat.le_refl _, ?_, ?_⟩
          · have : 2 ^ 7 ≤ 2 ^ (7 * (f + 1) + 1) := Nat.pow_le_pow_right (by omega) (by omega)
            omega
          · rw [vbF_small _ _ hc]; simp
          · intro hf h0; simp_all
      · rename_i hc
        split at h
        · simp at h
        · rename_i n' k' hp
          simp only [Except.ok.injEq, Prod.mk.injEq] at h
          obtain ⟨rfl, rfl⟩ := h
          obtain ⟨h1, h2, h3, h4, h5⟩ := ih _ _ _ _ hp
          have hn := h5 rfl
          have hlt := UInt8.toNat_lt c
          refine ⟨?_, by simp; omega, by omega, ?_, by omega⟩
          · have : 2 ^ (7 * (f + 1) + 1) = 128 * 2 ^ (7 * f + 1) := by rw [show 7 * (f + 1) + 1 = (7 * f + 1) + 7 from by omega, Nat.pow_add]; omega
            omega
          · rw [List.take_succ_cons, h4, vbF, if_neg (by omega)]
            have e1 : (c.toNat - 128 + 128 * n') % 128 + 128 = c.toNat := by omega
            have e2 : (c.toNat - 128 + 128 * n') / 128 = n' := by omega
            rw [e1, e2]
            simp

/-- What is written is read, with anything behind it. -/
theorem pcF_vbF (f : Nat) (first : Bool) (n : Nat) (r : List UInt8) (h : n < 2 ^ (7 * f + 1)) (h0 : first = true ∨ n ≠ 0) : pcF f first (vbF f n ++ r) = .ok (n, (vbF f n).length) := by
  induction f generalizing first n r with
  | zero =>
    have hn : n < 2 := by simpa using h
    simp only [vbF, List.cons_append, List.nil_append, pcF, u8_of n (by omega)]
    rw [if_neg (by omega), if_neg (by rintro ⟨a, b⟩; rcases h0 with h0 | h0 <;> simp_all)]
    rfl
  | succ f ih =>
    by_cases hn : n < 128
    · rw [vbF_small _ _ hn]
      simp only [List.cons_append, List.nil_append, pcF, u8_of n (by omega), if_pos hn]
      rw [if_neg (by rintro ⟨a, b⟩; rcases h0 with h0 | h0 <;> simp_all)]
      rfl
    · have h2 : n / 128 < 2 ^ (7 * f + 1) := by
        have : 2 ^ (7 * (f + 1) + 1) = 128 * 2 ^ (7 * f + 1) := by rw [show 7 * (f + 1) + 1 = (7 * f + 1) + 7 from by omega, Nat.pow_add]; omega
        omega
      have e := ih false (n / 128) r h2 (Or.inr (by omega))
      simp only [vbF, if_neg hn, List.cons_append, pcF, u8_of (n % 128 + 128) (by omega)]
      rw [if_neg (by omega), e]
      simp only [List.length_cons, Except.ok.injEq, Prod.mk.injEq, and_true]
      omega

theorem pcF_errs (f : Nat) (first : Bool) (l : List UInt8) (e : Nat) (h : pcF f first l = .error e) : e = 3 ∨ e = 4 := by
  induction f generalizing first l with
  | zero =>
    cases l with
    | nil => simp [pcF] at h; omega
    | cons c l =>
      simp only [pcF] at h
      split at h
      · simp at h; omega
      · split at h <;> simp at h; omega
  | succ f ih =>
    cases l with
    | nil => simp [pcF] at h; omega
    | cons c l =>
      simp only [pcF] at h
      split at h
      · split at h <;> simp at h; omega
      · split at h
        · rename_i e' hp
          simp at h; subst h
          exact ih _ _ hp
        · simp at h

end Go.Proofs.Ytfghglacfjncmaa

/-! The packing functions, each by what it computes: the writers; the reader's small calls. -/
namespace Go.Proofs.Ytfghglacfjncmaa
set_option linter.unusedVariables false
set_option linter.unusedSimpArgs false
open Go.RowKit

theorem shr7 (n : Nat) : Int.fdiv (n : Int) (2 ^ (min (Int.toNat 7) IntKind.u64.bits)) = ((n / 128 : Nat) : Int) := shr_nat n 7 64 (by omega)
section
variable {H : AH} {R : AEnd → AH → Prop}
set_option maxRecDepth 10000 in
theorem count_call (n : Nat) (hn : n < 18446744073709551616) (h : ∀ H', Fr [] H H' → R (.ret (.string (ofL (vb n)))) H') : ACall Try.prog 131 [.int .u64 n] H R := by
  apply f131_call
  unfold f131_B
  refine f131_L0_rule (J := fun m x0 b l c H' => ∃ (f n' : Nat) (bs : List UInt8), m = f ∧ f ≤ 9 ∧ x0 = (n' : Int) ∧ n' < 2 ^ (7 * f + 1) ∧ bs.length = 9 - f ∧ OwnC H.next H' 1 b l c (bcells bs) ∧ Fr [] H H' ∧ bs ++ vbF f n' = vb n) 9
    ⟨9, n, [], rfl, Nat.le_refl _, rfl, hn, rfl, OwnC.nil _ _ _, Fr.refl _ _, rfl⟩ ?_
  rintro m x0 b l c H' ⟨f, n', bs, rfl, hf, rfl, hn', hl, ho, hfr, he⟩
  intros
  unfold f131_R0
  refine wIf_d (fun hge => ?_) (fun hlt => ?_)
  · cases m with
    | zero => exact absurd hn' (by omega)
    | succ f =>
      rw [wb n', show (128 : Int) = (((128 : UInt8).toNat : Nat) : Int) from rfl, u8_or, or_128, shr7]
      refine app_byte ho hfr rfl (by omega) (fun o H2 ho2 hf2 => ?_)
      refine ⟨f, by omega, f131_I0_mk ⟨f, n' / 128, bs ++ [UInt8.ofNat (n' % 128 + 128)], rfl, by omega, rfl, ?_, by simp; omega, ho2, hf2, ?_⟩⟩
      · have : 2 ^ (7 * (f + 1) + 1) = 128 * 2 ^ (7 * f + 1) := by rw [show 7 * (f + 1) + 1 = (7 * f + 1) + 7 from by omega, Nat.pow_add]; omega
        omega
      · rw [← he, vbF, if_neg (by omega), List.append_assoc]
        rfl
  · rw [f131_J0_eq]
    unfold f131_J0_B
    rw [wb n']
    refine app_byte ho hfr rfl (by omega) (fun o H2 ho2 hf2 => own_text ho2 ?_)
    rw [vbF_small _ _ (by omega)] at he
    rw [he]
    exact h _ hf2

theorem number_call (n : Int) (h1 : -9223372036854775808 ≤ n) (h2 : n ≤ 9223372036854775807) (h : ∀ H', Fr [] H H' → R (.ret (.string (ofL (vb (zz n))))) H') : ACall Try.prog 130 [.int .i64 n] H R := by
  apply f130_call
  unfold f130_B
  have e1 : IntKind.u64.wrap n = (((if 0 ≤ n then n else n + 18446744073709551616).toNat : Nat) : Int) := by rw [wrapu64_eq]; split <;> omega
  have e2 : Int.fdiv n (2 ^ (min (Int.toNat 63) IntKind.i64.bits)) = if 0 ≤ n then 0 else -1 := by
    show n.fdiv 9223372036854775808 = _
    rw [Int.fdiv_eq_ediv_of_nonneg _ (by omega)]
    split <;> omega
  have e3 : (2 : Int) ^ (min (Int.toNat 1) IntKind.u64.bits) = 2 := rfl
  rw [e1, e2, e3]
  have key : ∀ x : Int, x = ((zz n : Nat) : Int) → wCall Try.prog 131 [.int .u64 x] H (fun r1 H2 => opS r1 fun t5 => R (.ret (.string t5)) H2) (fun v4 H3 => R (.panic v4) H3) := by
    rintro x rfl
    exact wCall_of (count_call _ (zz_lt n h1 h2) (fun H' hf => opS_at (h H' hf)))
  refine key _ ?_
  by_cases hs : 0 ≤ n
  · rw [if_pos hs, if_pos hs]
    have e4 : IntKind.u64.wrap (((n.toNat : Nat) : Int) * 2) = ((2 * n.toNat % 18446744073709551616 : Nat) : Int) := by rw [wrapu64_eq]; omega
    have e5 : IntKind.u64.wrap 0 = ((0 : Nat) : Int) := rfl
    rw [e4, e5, u64_xor _ _ (by omega) (by omega), Nat.xor_zero]
    unfold zz; rw [if_pos hs]; omega
  · rw [if_neg hs, if_neg hs]
    have e4 : IntKind.u64.wrap ((((n + 18446744073709551616).toNat : Nat) : Int) * 2) = ((2 * (n + 18446744073709551616).toNat % 18446744073709551616 : Nat) : Int) := by rw [wrapu64_eq]; omega
    have e5 : IntKind.u64.wrap (-1) = ((18446744073709551615 : Nat) : Int) := rfl
    have hx : ∀ a : Nat, a < 18446744073709551616 → a ^^^ 18446744073709551615 = 18446744073709551615 - a := by
      intro a ha
      have e : (BitVec.ofNat 64 a ^^^ BitVec.allOnes 64).toNat = (~~~ BitVec.ofNat 64 a).toNat := by rw [BitVec.xor_allOnes]
      rw [BitVec.toNat_xor, BitVec.toNat_not, BitVec.toNat_ofNat, Nat.mod_eq_of_lt ha] at e
      simpa using e
    rw [e4, e5, u64_xor _ _ (by omega) (by omega), hx _ (by omega)]
    unfold zz; rw [if_neg hs]; omega

/-- A text's bytes. -/
def tb (s : ByteArray) : ByteArray := ofL (vb s.size) ++ s
theorem vb_length (n : Nat) : (vb n).length ≤ 10 := (vbF_length 9 n).1
theorem text_call (s : ByteArray) (hs : s.size ≤ 4611686018427387904) (h : ∀ H', Fr [] H H' → R (.ret (.string (tb s))) H') : ACall Try.prog 98 [.string s] H R := by
  apply f98_call
  unfold f98_B
  rw [wu _ (by omega)]
  have := vb_length s.size
  exact wCall_of (count_call _ (by omega) (fun H' hf => opS_at (wCat_at (by rw [ofL_size]; omega) (h H' hf))))
theorem truth_call (b : Bool) (h : R (.ret (.string (ofL [if b then 1 else 0]))) H) : ACall Try.prog 97 [.bool b] H R := by
  apply f97_call
  unfold f97_B
  cases b
  · exact wIf_f rfl h
  · exact wIf_t rfl h

/-- A reader: what is left, the first error. -/
def rdr (s : ByteArray) (e : Int) : AObj := .row [.string s, .int .i64 e] 0
