/- The packing functions, each by what it computes: the writers; the reader's small calls. -/
import Derived.Test.YtmidgfmopmpppaaWPackM
import Derived.Test.YtmidgfmopmpppaaWGenP
namespace Go.Proofs.Ytmidgfmopmpppaa
set_option linter.unusedVariables false
set_option linter.unusedSimpArgs false
open Go.RowKit

theorem shr7 (n : Nat) : Int.fdiv (n : Int) (2 ^ (min (Int.toNat 7) IntKind.u64.bits)) = ((n / 128 : Nat) : Int) := shr_nat n 7 64 (by omega)
section
variable {H : AH} {R : AEnd → AH → Prop}
set_option maxRecDepth 10000 in
theorem count_call (n : Nat) (hn : n < 18446744073709551616) (h : ∀ H', Fr [] H H' → R (.ret (.string (ofL (vb n)))) H') : ACall Try.prog 20 [.int .u64 n] H R := by
  apply f20_call
  unfold f20_B
  refine f20_L0_rule (J := fun m x0 b l c H' => ∃ (f n' : Nat) (bs : List UInt8), m = f ∧ f ≤ 9 ∧ x0 = (n' : Int) ∧ n' < 2 ^ (7 * f + 1) ∧ bs.length = 9 - f ∧ OwnC H.next H' 1 b l c (bcells bs) ∧ Fr [] H H' ∧ bs ++ vbF f n' = vb n) 9
    ⟨9, n, [], rfl, Nat.le_refl _, rfl, hn, rfl, OwnC.nil _ _ _, Fr.refl _ _, rfl⟩ ?_
  rintro m x0 b l c H' ⟨f, n', bs, rfl, hf, rfl, hn', hl, ho, hfr, he⟩
  intros
  unfold f20_R0
  refine wIf_d (fun hge => ?_) (fun hlt => ?_)
  · cases m with
    | zero => exact absurd hn' (by omega)
    | succ f =>
      rw [wb n', show (128 : Int) = (((128 : UInt8).toNat : Nat) : Int) from rfl, u8_or, or_128, shr7]
      refine app_byte ho hfr rfl (by omega) (fun o H2 ho2 hf2 => ?_)
      refine ⟨f, by omega, f20_I0_mk ⟨f, n' / 128, bs ++ [UInt8.ofNat (n' % 128 + 128)], rfl, by omega, rfl, ?_, by simp; omega, ho2, hf2, ?_⟩⟩
      · have : 2 ^ (7 * (f + 1) + 1) = 128 * 2 ^ (7 * f + 1) := by rw [show 7 * (f + 1) + 1 = (7 * f + 1) + 7 from by omega, Nat.pow_add]; omega
        omega
      · rw [← he, vbF, if_neg (by omega), List.append_assoc]
        rfl
  · rw [f20_J0_eq]
    unfold f20_J0_B
    rw [wb n']
    refine app_byte ho hfr rfl (by omega) (fun o H2 ho2 hf2 => own_text ho2 ?_)
    rw [vbF_small _ _ (by omega)] at he
    rw [he]
    exact h _ hf2

theorem number_call (n : Int) (h1 : -9223372036854775808 ≤ n) (h2 : n ≤ 9223372036854775807) (h : ∀ H', Fr [] H H' → R (.ret (.string (ofL (vb (zz n))))) H') : ACall Try.prog 21 [.int .i64 n] H R := by
  apply f21_call
  unfold f21_B
  have e1 : IntKind.u64.wrap n = (((if 0 ≤ n then n else n + 18446744073709551616).toNat : Nat) : Int) := by rw [wrapu64_eq]; split <;> omega
  have e2 : Int.fdiv n (2 ^ (min (Int.toNat 63) IntKind.i64.bits)) = if 0 ≤ n then 0 else -1 := by
    show n.fdiv 9223372036854775808 = _
    rw [Int.fdiv_eq_ediv_of_nonneg _ (by omega)]
    split <;> omega
  have e3 : (2 : Int) ^ (min (Int.toNat 1) IntKind.u64.bits) = 2 := rfl
  rw [e1, e2, e3]
  have key : ∀ x : Int, x = ((zz n : Nat) : Int) → wCall Try.prog 20 [.int .u64 x] H (fun r1 H2 => opS r1 fun t5 => R (.ret (.string t5)) H2) (fun v4 H3 => R (.panic v4) H3) := by
    rintro x rfl
    exact wCall_of (count_call _ (zz_lt n h1 h2) (fun H' hf => opS_at (h H' hf)))
  refine key _ ?_
  by_cases hs : 0 ≤ n
  · rw [if_pos hs, if_pos hs]
    have e4 : IntKind.u64.wrap (((n.toNat : Nat) : Int) * 2) = ((2 * n.toNat % 18446744073709551616 : Nat) : Int) := by rw [wrapu64_eq]; omega
    have e5 : IntKind.u64.wrap 0 = ((0 : Nat) : Int) := rfl
    rw [e4, e5, u64_xor _ _ (by omega) (by omega), Nat.xor_zero]
    unfold zz; rw [if_pos hs]; omega
  · rw [if_neg hs, if_neg hs]
    have e4 : IntKind.u64.wrap ((((n + 18446744073709551616).toNat : Nat) : Int) * 2) = ((2 * (n + 18446744073709551616).toNat % 18446744073709551616 : Nat) : Int) := by rw [wrapu64_eq]; omega
    have e5 : IntKind.u64.wrap (-1) = ((18446744073709551615 : Nat) : Int) := rfl
    have hx : ∀ a : Nat, a < 18446744073709551616 → a ^^^ 18446744073709551615 = 18446744073709551615 - a := by
      intro a ha
      have e : (BitVec.ofNat 64 a ^^^ BitVec.allOnes 64).toNat = (~~~ BitVec.ofNat 64 a).toNat := by rw [BitVec.xor_allOnes]
      rw [BitVec.toNat_xor, BitVec.toNat_not, BitVec.toNat_ofNat, Nat.mod_eq_of_lt ha] at e
      simpa using e
    rw [e4, e5, u64_xor _ _ (by omega) (by omega), hx _ (by omega)]
    unfold zz; rw [if_neg hs]; omega

/-- A text's bytes. -/
def tb (s : ByteArray) : ByteArray := ofL (vb s.size) ++ s
theorem vb_length (n : Nat) : (vb n).length ≤ 10 := (vbF_length 9 n).1
theorem text_call (s : ByteArray) (hs : s.size ≤ 4611686018427387904) (h : ∀ H', Fr [] H H' → R (.ret (.string (tb s))) H') : ACall Try.prog 24 [.string s] H R := by
  apply f24_call
  unfold f24_B
  rw [wu _ (by omega)]
  have := vb_length s.size
  exact wCall_of (count_call _ (by omega) (fun H' hf => opS_at (wCat_at (by rw [ofL_size]; omega) (h H' hf))))
theorem truth_call (b : Bool) (h : R (.ret (.string (ofL [if b then 1 else 0]))) H) : ACall Try.prog 26 [.bool b] H R := by
  apply f26_call
  unfold f26_B
  cases b
  · exact wIf_f rfl h
  · exact wIf_t rfl h

/-- A reader: what is left, the first error. -/
def rdr (s : ByteArray) (e : Int) : AObj := .row [.string s, .int .i64 e] 0
theorem rnew_call (s : ByteArray) (h : R (.ret (.pointer (some ⟨H.next, 0, none⟩))) (H.push (rdr s 0))) : ACall Try.prog 27 [.string s] H R := by
  apply f27_call
  unfold f27_B
  exact wNew_at h
variable {i : Nat} {s : ByteArray} {e : Int}
theorem off_call (hd : Has H i (rdr s e)) (h : R (.ret (.bool (!decide (e = 0)))) H) : ACall Try.prog 41 [.pointer (some ⟨i, 0, none⟩)] H R := by
  apply f41_call
  unfold f41_B
  exact wIf_f rfl (wPt_at (ldI_at hd rfl h))
theorem off_nil (h : R (.ret (.bool true)) H) : ACall Try.prog 41 [.pointer none] H R := by
  apply f41_call
  unfold f41_B
  exact wIf_t rfl h
theorem bad_call (hd : Has H i (rdr s e)) (h : R (.ret (.int .i64 e)) H) : ACall Try.prog 31 [.pointer (some ⟨i, 0, none⟩)] H R := by
  apply f31_call
  unfold f31_B
  exact wIf_f rfl (wPt_at (ldI_at hd rfl h))
theorem bad_nil (h : R (.ret (.int .i64 1)) H) : ACall Try.prog 31 [.pointer none] H R := by
  apply f31_call
  unfold f31_B
  exact wIf_t rfl h
theorem left_call (hd : Has H i (rdr s e)) (h : R (.ret (.int .i64 s.size)) H) : ACall Try.prog 32 [.pointer (some ⟨i, 0, none⟩)] H R := by
  apply f32_call
  unfold f32_B
  exact wIf_f rfl (wPt_at (ldS_at hd rfl h))
theorem left_nil (h : R (.ret (.int .i64 0)) H) : ACall Try.prog 32 [.pointer none] H R := by
  apply f32_call
  unfold f32_B
  exact wIf_t rfl h
theorem fail_call (hd : Has H i (rdr s e)) (e' : Int) (h : ∀ H', Has H' i (rdr ByteArray.empty e') → Fr [i] H H' → R (.ret (.tuple #[])) H') : ACall Try.prog 43 [.pointer (some ⟨i, 0, none⟩), .int .i64 e'] H R := by
  apply f43_call
  unfold f43_B
  refine wPt_at (wSt_at hd (by simp) (wPt_at (wSt_at (hd.set _) (by simp [setCells]) ?_)))
  exact h _ ((hd.set _).set _) (((Fr.refl [i] H).set (.inl (by simp)) _).set (.inl (by simp)) _)
end
end Go.Proofs.Ytmidgfmopmpppaa
