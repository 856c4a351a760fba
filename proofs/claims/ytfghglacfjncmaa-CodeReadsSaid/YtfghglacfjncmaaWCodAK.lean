/- The reference's reader: each by what it computes. The reference's reader: counts, numbers, bytes, truths, texts, the end. -/
import Derived.Test.YtfghglacfjncmaaWCdQ
import Derived.Test.YtfghglacfjncmaaWCodAG
import Derived.Test.YtfghglacfjncmaaWGenN
/-! The reference's reader: each by what it computes. -/
namespace Go.Proofs.Ytfghglacfjncmaa
set_option linter.unusedVariables false
set_option linter.unusedSimpArgs false
open Go.RowKit

theorem ext_eq {a b : ByteArray} (h : a.data.toList = b.data.toList) : a = b := by rw [← ofL_data a, h, ofL_data]
theorem ext_take (S : ByteArray) (a k : Nat) : S.extract a (a + k) = ofL ((S.data.toList.drop a).take k) := by
  apply ext_eq
  rw [data_mid, data_ofL, List.drop_take]
  congr 1; omega
theorem ext_ext (S : ByteArray) (a k : Nat) : (S.extract a S.size).extract k (S.extract a S.size).size = S.extract (a + k) S.size := by
  apply ext_eq
  rw [data_drop, data_drop, data_drop, List.drop_drop]
theorem ext_mid (S : ByteArray) (a k n : Nat) : (S.extract a S.size).extract k (k + n) = S.extract (a + k) (a + k + n) := by
  apply ext_eq
  rw [data_mid, data_drop, data_mid, List.drop_take, List.drop_drop, List.drop_take]
  congr 1; omega
theorem ext_size (S : ByteArray) (a : Nat) : (S.extract a S.size).size = S.size - a := by
  rw [← data_len, data_drop, List.length_drop, data_len]
abbrev rrd (S : ByteArray) (a : Nat) (e : Int) : AObj := .row [.string S, .int .i64 (a : Int), .int .i64 e] 0
/-- The reference's reader: its rest, and its error. -/
structure RR (H : AH) (i : Nat) (S s : ByteArray) (e : Int) : Prop where
  ex : ∃ a : Nat, Has H i (rrd S a e) ∧ a ≤ S.size ∧ (e = 0 → s = S.extract a S.size)
  size : S.size ≤ 1000000
theorem RR.fr {H H' : AH} {i : Nat} {S s : ByteArray} {e : Int} {X : List Nat} (h : RR H i S s e) (x : Fr X H H') (hi : i ∉ X) : RR H' i S s e := ⟨let ⟨a, h1, h2, h3⟩ := h.ex; ⟨a, h1.fr x hi, h2, h3⟩, h.size⟩
def rcres (a : Nat) : Except Nat (Nat × Nat) → Value
  | .error e => .tuple #[.int .u64 0, .int .i64 0, .int .i64 e]
  | .ok (n, k) => .tuple #[.int .u64 n, .int .i64 ((a + k : Nat) : Int), .int .i64 0]
theorem accR (acc idx : Nat) (c : UInt8) (h : acc < 2 ^ (7 * idx)) (hb : idx ≤ 8 ∨ (idx = 9 ∧ c.toNat ≤ 1)) :
    IntKind.u64.wrap ((acc : Int) + (IntKind.u64.wrap ((Int.tmod (c.toNat : Int) 128) * (2 ^ (min (Int.toNat (IntKind.u64.wrap (IntKind.i64.wrap (7 * (idx : Int))))) IntKind.u64.bits))))) = ((acc + 2 ^ (7 * idx) * (c.toNat % 128) : Nat) : Int) ∧ acc + 2 ^ (7 * idx) * (c.toNat % 128) < 18446744073709551616 := by
  have hlt := UInt8.toNat_lt c
  have hp : 2 ^ (7 * idx) ≤ 9223372036854775808 := by
    have h1 : 2 ^ (7 * idx) ≤ 2 ^ 63 := Nat.pow_le_pow_right (by omega) (by omega)
    have h2 : (2 : Nat) ^ 63 = 9223372036854775808 := by decide
    omega
  have hm : 2 ^ (7 * idx) * (c.toNat % 128) + 2 ^ (7 * idx) ≤ 18446744073709551616 := by
    rcases hb with hb | ⟨hb, hc⟩
    · have h127 : c.toNat % 128 + 1 ≤ 128 := by omega
      have h1 := Nat.mul_le_mul (pow56 idx hb) h127
      rw [Nat.mul_add, Nat.mul_one] at h1
      omega
    · have h1 : c.toNat % 128 + 1 ≤ 2 := by omega
      have h2 := Nat.mul_le_mul hp h1
      rw [Nat.mul_add, Nat.mul_one] at h2
      omega
  have e7 : IntKind.u64.wrap (IntKind.i64.wrap (7 * (idx : Int))) = ((7 * idx : Nat) : Int) := by
    rw [wi _ (by omega) (by omega), show (7 * (idx : Int)) = ((7 * idx : Nat) : Int) by omega, wu _ (by omega)]
  have ep : (2 : Int) ^ (min (Int.toNat ((7 * idx : Nat) : Int)) IntKind.u64.bits) = ((2 ^ (7 * idx) : Nat) : Int) := by
    have : min (7 * idx) IntKind.u64.bits = 7 * idx := Nat.min_eq_left (show 7 * idx ≤ 64 by omega)
    rw [Int.toNat_natCast, this]; simp
  have et : Int.tmod (c.toNat : Int) 128 = ((c.toNat % 128 : Nat) : Int) := by rw [Int.tmod_eq_emod_of_nonneg (by omega)]; omega
  have hx : c.toNat % 128 * 2 ^ (7 * idx) = 2 ^ (7 * idx) * (c.toNat % 128) := Nat.mul_comm _ _
  refine ⟨?_, by omega⟩
  rw [e7, ep, et, ← Int.natCast_mul, hx, wu _ (by omega), ← Int.natCast_add, wu _ (by omega)]
section
variable {H : AH} {R : AEnd → AH → Prop} {i : Nat} {S s : ByteArray} {e : Int}
set_option maxRecDepth 20000 in
set_option maxHeartbeats 2000000 in
theorem rcnt_call {a : Nat} (hd : Has H i (rrd S a e)) (ha : a ≤ S.size) (hS : S.size ≤ 1000000) (h : ∀ H', Fr [] H H' → R (.ret (rcres a (pc (S.extract a S.size).data.toList))) H') : ACall Try.prog 125 [.pointer (some ⟨i, 0, none⟩)] H R := by
  apply f125_call
  unfold f125_B
  rw [data_drop] at h
  generalize hL : S.data.toList.drop a = L at h
  have hlen : L.length = S.size - a := by rw [← hL, List.length_drop, data_len]
  refine f125_L0_rule (J := fun m x5 x8 H' => ∃ idx acc : Nat, m = 9 - idx ∧ idx ≤ 9 ∧ x5 = (acc : Int) ∧ x8 = (idx : Int) ∧ H' = H ∧ acc < 2 ^ (7 * idx) ∧
      pc L = addTo acc idx (pcF (9 - idx) (decide (idx = 0)) (L.drop idx))) 9
    ⟨0, 0, rfl, by omega, rfl, rfl, rfl, by decide, by
      show pc _ = _
      unfold pc
      rw [List.drop_zero]
      show pcF 9 true _ = addTo 0 0 (pcF 9 true _)
      generalize pcF 9 true L = x
      cases x with
      | error e => rfl
      | ok p => obtain ⟨n, k⟩ := p; simp [addTo]⟩ ?_
  rintro m x5 x8 H' ⟨idx, acc, rfl, hidx, rfl, rfl, rfl, hacc, hpc⟩
  intros
  unfold f125_R0
  refine wIf_dt (by omega) (wPt_at (wPt_at (ldI_at hd rfl (ldS_at hd rfl ?_))))
  rw [f125_J0_eq]; unfold f125_J0_B
  have ea : IntKind.i64.wrap ((a : Int) + (idx : Int)) = ((a + idx : Nat) : Int) := by rw [wi _ (by omega) (by omega)]; omega
  rw [ea]
  refine wIf_d (fun hend => ?_) (fun hend => ?_)
  · rw [List.drop_eq_nil_of_le (by omega)] at hpc
    have : pc L = .error 3 := by rw [hpc]; unfold pcF; rfl
    rw [this] at h
    exact h _ (Fr.refl _ _)
  · obtain ⟨c, l, hdr⟩ : ∃ c l, L.drop idx = c :: l := by
      cases hx : L.drop idx with
      | nil => have := congrArg List.length hx; rw [List.length_drop] at this; simp at this; omega
      | cons c l => exact ⟨c, l, rfl⟩
    have hd1 : L.drop (idx + 1) = l := by rw [← List.drop_drop, hdr]; rfl
    have hget : S.data.toList.getD (Int.toNat ((a + idx : Nat) : Int)) 0 = c := by
      rw [Int.toNat_natCast, List.getD_eq_getElem?_getD]
      have := congrArg (fun l => l[0]?) hdr
      rw [← hL] at this
      simp only [List.getElem?_drop, Nat.add_zero, List.getElem?_cons_zero] at this
      rw [this]; rfl
    rw [hdr] at hpc
    have hclt := UInt8.toNat_lt c
    rw [f125_J1_eq]; unfold f125_J1_B
    refine wPt_at (wPt_at (ldS_at hd rfl (ldI_at hd rfl ?_)))
    rw [ea]
    refine wIxS_at (by omega) (by omega) ?_
    rw [hget, wu c.toNat (by omega), f125_J2_eq]; unfold f125_J2_B
    -- the byte that ends a count
    have last : (idx ≤ 8 ∨ (idx = 9 ∧ c.toNat ≤ 1)) → c.toNat < 128 → pc L = addTo acc idx (if c.toNat = 0 ∧ idx ≠ 0 then .error 4 else .ok (c.toNat, 1)) →
        ∀ (s1 : Value), ∀ K0 : List Value → AH → Prop, ∀ n' : Nat, n' = acc + 2 ^ (7 * idx) * (c.toNat % 128) → n' < 18446744073709551616 →
        wPt (some ⟨i, 0, none⟩) (fun i4 k5 => wPt (some ⟨i, 0, none⟩) fun i6 k7 => wPt (some ⟨i, 0, none⟩) fun i8 k9 => ldS i4 k5 H' fun t10 => ldI .i64 i6 (k7 + 1) H' fun n11 => ldI .i64 i8 (k9 + 1) H' fun n12 =>
          wSlS t10 n11 (IntKind.i64.wrap ((IntKind.i64.wrap (n12 + (idx : Int))) + 1)) fun t13 => wCall Try.prog 70 [(.int .u64 (n' : Int))] H' (fun r14 H15 => opS r14 fun t18 =>
            wPin i8 (k9 + 1) [(.int .i64 n12)] H15 <| wPin i6 (k7 + 1) [(.int .i64 n11)] H15 <| wPin i4 k5 [(.string t10)] H15 <|
            wIf (!decide (t18 = t13)) (R (.ret (.tuple #[(.int .u64 0), (.int .i64 0), (.int .i64 4)])) H15) (wPt (some ⟨i, 0, none⟩) fun i1 k2 => ldI .i64 i1 (k2 + 1) H15 fun n3 => R (.ret (.tuple #[(.int .u64 (n' : Int)), (.int .i64 (IntKind.i64.wrap ((IntKind.i64.wrap (n3 + (idx : Int))) + 1))), (.int .i64 0)])) H15)) (fun v17 H16 => R (.panic v17) H16)) := by
      intro hb hc hp _ _ n' hn' hn
      have ea1 : IntKind.i64.wrap (((a + idx : Nat) : Int) + 1) = ((a + (idx + 1) : Nat) : Int) := by rw [wi _ (by omega) (by omega)]; omega
      refine wPt_at (wPt_at (wPt_at (ldS_at hd rfl (ldI_at hd rfl (ldI_at hd rfl ?_)))))
      rw [ea, ea1]
      refine wSlS_at (by omega) (by omega) (by omega) ?_
      rw [Int.toNat_natCast, Int.toNat_natCast, ext_take, hL]
      refine wCall_of (refcount_call n' hn (fun H2 f2 => opS_at ⟨PinOK_has (hd.fr f2 (by simp)) (by simp) rfl, PinOK_has (hd.fr f2 (by simp)) (by simp) rfl, PinOK_has (hd.fr f2 (by simp)) (by simp) rfl, ?_⟩))
      have hcm : c.toNat % 128 = c.toNat := by omega
      rw [hcm] at hn'
      by_cases hz : c.toNat = 0 ∧ idx ≠ 0
      · rw [if_pos hz] at hp
        replace hp : pc L = .error 4 := hp
        rw [hp] at h
        refine wIf_nt (fun y => ?_) (h _ f2)
        have y := congrArg (fun b => b.data.toList) y
        replace y : vb n' = L.take (idx + 1) := y
        have := pc_vb n' hn (L.drop (idx + 1))
        rw [y, List.take_append_drop, hp] at this
        cases this
      · rw [if_neg hz] at hp
        replace hp : pc L = .ok (acc + 2 ^ (7 * idx) * c.toNat, idx + 1) := hp
        rw [← hn'] at hp
        rw [hp] at h
        have ht : L.take (idx + 1) = vb n' := (pcF_ok 9 true L n' (idx + 1) hp).2.2.2.1
        rw [ht]
        refine wIf_nf rfl (wPt_at (ldI_at (hd.fr f2 (by simp)) rfl ?_))
        rw [ea, ea1]
        exact h _ f2
    have h7n : ∀ P : Prop, P → wNn (IntKind.u64.wrap (IntKind.i64.wrap (7 * (idx : Int)))) P := fun P hP => wNn_at (by rw [wi _ (by omega) (by omega), show (7 * (idx : Int)) = ((7 * idx : Nat) : Int) by omega, wu _ (by omega)]; omega) hP
    by_cases h9 : idx = 9
    · subst h9
      have hpc' : pc L = addTo acc 9 (pcF 0 false (c :: l)) := hpc
      simp only [pcF] at hpc'
      refine wIf_dt rfl ?_
      rw [f125_J3_eq]; unfold f125_J3_B
      refine wIf_d (fun hc1 => ?_) (fun hc1 => ?_)
      · rw [if_pos (by omega)] at hpc'
        rw [hpc'] at h
        exact h _ (Fr.refl _ _)
      · rw [if_neg (by omega)] at hpc'
        obtain ⟨hE, hE2⟩ := accR acc 9 c hacc (.inr ⟨rfl, by omega⟩)
        rw [f125_J4_eq]; unfold f125_J4_B
        refine h7n _ (wIf_dt (by omega) ?_)
        rw [hE]
        simp only [f125_J5_eq, f125_J5_B, f125_J6_eq, f125_J6_B]
        refine last (.inr ⟨rfl, by omega⟩) (by omega) ?_ undef (fun _ _ => True) _ rfl hE2
        rw [hpc']
        simp
    · obtain ⟨f, hf⟩ : ∃ f, 9 - idx = f + 1 := ⟨8 - idx, by omega⟩
      rw [hf] at hpc
      simp only [pcF] at hpc
      refine wIf_df (by omega) ?_
      rw [f125_J3_eq]; unfold f125_J3_B
      refine wIf_f rfl ?_
      obtain ⟨hE, hE2⟩ := accR acc idx c hacc (.inl (by omega))
      rw [f125_J4_eq]; unfold f125_J4_B
      refine h7n _ (wIf_d (fun hc128 => ?_) (fun hc128 => ?_))
      · rw [hE]
        rw [if_pos (by omega)] at hpc
        simp only [f125_J5_eq, f125_J5_B, f125_J6_eq, f125_J6_B]
        refine last (.inl (by omega)) (by omega) ?_ undef (fun _ _ => True) _ rfl hE2
        rw [hpc]
        simp
      · rw [if_neg (by omega)] at hpc
        rw [hE, f125_J7_eq]; unfold f125_J7_B
        have hcm : c.toNat % 128 = c.toNat - 128 := by omega
        rw [hcm]
        refine ⟨9 - (idx + 1), by omega, f125_I0_mk ⟨idx + 1, _, rfl, by omega, rfl, wi1 idx (by omega), rfl, ?_, ?_⟩⟩
        · have : 2 ^ (7 * (idx + 1)) = 128 * 2 ^ (7 * idx) := by rw [show 7 * (idx + 1) = 7 * idx + 7 from by omega, Nat.pow_add]; omega
          have h3 : 2 ^ (7 * idx) * (c.toNat - 128) ≤ 2 ^ (7 * idx) * 127 := Nat.mul_le_mul_left _ (by omega)
          omega
        · rw [hpc, hd1, show 9 - (idx + 1) = f from by omega]
          have hb : decide (idx + 1 = 0) = false := by simp
          rw [hb]
          cases pcF f false l with
          | error e => rfl
          | ok p =>
            obtain ⟨n, k⟩ := p
            have : 2 ^ (7 * (idx + 1)) = 2 ^ (7 * idx) * 128 := by rw [show 7 * (idx + 1) = 7 * idx + 7 from by omega, Nat.pow_add]
            show Except.ok (acc + 2 ^ (7 * idx) * (c.toNat - 128 + 128 * n), idx + (k + 1)) = Except.ok (acc + 2 ^ (7 * idx) * (c.toNat - 128) + 2 ^ (7 * (idx + 1)) * n, idx + 1 + k)
            rw [this, Nat.mul_add, Nat.mul_assoc, Nat.add_assoc, Nat.add_assoc idx 1 k, Nat.add_comm 1 k]
end
end Go.Proofs.Ytfghglacfjncmaa

/-! The reference's reader: counts, numbers, bytes, truths, texts, the end. -/
namespace Go.Proofs.Ytfghglacfjncmaa
set_option linter.unusedVariables false
set_option linter.unusedSimpArgs false
open Go.RowKit
set_option maxRecDepth 20000

section
variable {H : AH} {R : AEnd → AH → Prop} {i : Nat} {S s : ByteArray} {e : Int}
theorem RR.mk_bad {H : AH} {a : Nat} (h : Has H i (rrd S a e)) (ha : a ≤ S.size) (hS : S.size ≤ 1000000) (he : e ≠ 0) : RR H i S s e := ⟨⟨a, h, ha, fun y => absurd y he⟩, hS⟩
theorem RR.bad {s' : ByteArray} (h : RR H i S s e) (he : e ≠ 0) : RR H i S s' e := ⟨let ⟨a, h1, h2, _⟩ := h.ex; ⟨a, h1, h2, fun y => absurd y he⟩, h.size⟩
theorem refCount_call (hd : RR H i S s e) (h : ∀ H', RR H' i S (rdC s e).2.1 (rdC s e).2.2 → Fr [i] H H' → R (.ret (.int .u64 (rdC s e).1)) H') : ACall Try.prog 124 [.pointer (some ⟨i, 0, none⟩)] H R := by
  apply f124_call
  unfold f124_B
  obtain ⟨a, h1, h2, h3⟩ := hd.ex
  refine wPt_at (ldI_at h1 rfl (wIf_n (fun he => ?_) (fun he => ?_)))
  · unfold rdC at h
    rw [if_neg he] at h
    exact h H hd (Fr.refl _ _)
  · subst he
    obtain rfl := h3 rfl
    refine wCall_of (rcnt_call h1 h2 hd.size (fun H1 f1 => ?_))
    have g1 := h1.fr f1 (by simp)
    unfold rdC at h
    rw [if_pos rfl] at h
    have f1' := Fr.mono f1 (T := [i]) (by simp)
    cases hp : pc (S.extract a S.size).data.toList with
    | error e' =>
      rw [hp] at h
      have hne := pc_err hp
      refine opT_at rfl (opI_at (opI_at (opI_at (wIf_nt (by omega) (wPt_at (wSt_at g1 (Nat.le_of_ble_eq_true rfl) ?_))))))
      exact h _ (RR.mk_bad (a := a) (g1.set _) h2 hd.size (by show (e' : Int) ≠ 0; omega)) (f1'.set (.inl (by simp)) _)
    | ok p =>
      obtain ⟨n, k⟩ := p
      rw [hp] at h
      have hk := pc_le hp
      rw [data_len, ext_size] at hk
      refine opT_at rfl (opI_at (opI_at (opI_at (wIf_nf rfl (wPt_at (wSt_at g1 (Nat.le_of_ble_eq_true rfl) ?_))))))
      exact h _ ⟨⟨a + k, g1.set _, by omega, fun _ => ext_ext S a k⟩, hd.size⟩ (f1'.set (.inl (by simp)) _)
theorem refNumber_call (hd : RR H i S s e) (h : ∀ H', RR H' i S (rdC s e).2.1 (rdC s e).2.2 → Fr [i] H H' → R (.ret (.int .i64 (uz (rdC s e).1))) H') : ACall Try.prog 82 [.pointer (some ⟨i, 0, none⟩)] H R := by
  apply f82_call
  unfold f82_B
  refine wCall_of (refCount_call hd (fun H1 d1 f1 => opI_at ?_))
  have hx := h H1 d1 f1
  have hn := rdC_lt s e
  generalize (rdC s e).1 = n at hx hn ⊢
  have e1 : Int.tmod (n : Int) 2 = ((n % 2 : Nat) : Int) := by rw [Int.tmod_eq_emod_of_nonneg (by omega)]; omega
  have e2 : Int.tdiv (n : Int) 2 = ((n / 2 : Nat) : Int) := by rw [Int.tdiv_eq_ediv_of_nonneg (by omega)]; omega
  have e3 : IntKind.i64.wrap (IntKind.u64.wrap (((n / 2 : Nat)) : Int)) = ((n / 2 : Nat) : Int) := by rw [wu _ (by omega), wi _ (by omega) (by omega)]
  rw [e1, e2, e3]
  unfold uz at hx
  refine wIf_d (fun y => ?_) (fun y => ?_)
  · rw [if_neg (by omega)] at hx
    have e4 : IntKind.i64.wrap (0 - ((n / 2 : Nat) : Int)) = -((n / 2 : Nat) : Int) := by rw [wi _ (by omega) (by omega)]; omega
    rw [e4, wi _ (by omega) (by omega)]
    exact hx
  · rw [if_pos (by omega)] at hx
    exact hx
theorem refSmall_call {m : Int} (hm : 0 ≤ m) (hm2 : m ≤ 9223372036854775807) (hd : RR H i S s e) (h : ∀ H', RR H' i S (rdM s e m).2.1 (rdM s e m).2.2 → Fr [i] H H' → R (.ret (.int .i64 (rdM s e m).1)) H') : ACall Try.prog 83 [.pointer (some ⟨i, 0, none⟩), .int .i64 m] H R := by
  apply f83_call
  unfold f83_B
  obtain ⟨a, h1, h2, h3⟩ := hd.ex
  refine wPt_at (ldI_at h1 rfl (wIf_n (fun he => ?_) (fun he => ?_)))
  · unfold rdM at h
    rw [if_neg he] at h
    exact h H hd (Fr.refl _ _)
  · subst he
    obtain rfl := h3 rfl
    refine wCall_of (rcnt_call h1 h2 hd.size (fun H1 f1 => ?_))
    have g1 := h1.fr f1 (by simp)
    unfold rdM at h
    rw [if_pos rfl] at h
    have f1' := Fr.mono f1 (T := [i]) (by simp)
    have hw : IntKind.u64.wrap m = m := by rw [wrapu64_eq]; omega
    have bad : ∀ e' : Int, e' ≠ 0 → (∀ H', RR H' i S ByteArray.empty e' → Fr [i] H H' → R (.ret (.int .i64 0)) H') → ∀ (s5 s6 : Int), wIf (!decide (e' = 0)) (wPt (some ⟨i, 0, none⟩) fun i1 k2 => wSt i1 (k2 + 2) [(.int .i64 e')] H1 fun H3 => R (.ret (.int .i64 0)) H3)
        (wPt (some ⟨i, 0, none⟩) fun i4 k5 => wSt i4 (k5 + 1) [(.int .i64 s6)] H1 fun H6 => R (.ret (.int .i64 (IntKind.i64.wrap s5))) H6) := by
      intro e' he' hh s5 s6
      refine wIf_nt he' (wPt_at (wSt_at g1 (Nat.le_of_ble_eq_true rfl) ?_))
      exact hh _ (RR.mk_bad (a := a) (g1.set _) h2 hd.size he') (f1'.set (.inl (by simp)) _)
    cases hp : pc (S.extract a S.size).data.toList with
    | error e' =>
      rw [hp] at h
      have hne := pc_err hp
      refine opT_at rfl (opI_at (opI_at (opI_at (wIf_df (by omega) ?_))))
      rw [f83_J0_eq]; unfold f83_J0_B
      refine wIf_f rfl ?_
      rw [f83_J1_eq]; unfold f83_J1_B
      exact bad e' (by omega) h _ _
    | ok p =>
      obtain ⟨n, k⟩ := p
      rw [hp] at h
      have hk := pc_le hp
      rw [data_len, ext_size] at hk
      refine opT_at rfl (opI_at (opI_at (opI_at (wIf_dt rfl (wIf_df (by omega) ?_)))))
      rw [f83_J0_eq]; unfold f83_J0_B
      rw [hw]
      refine wIf_d (fun y => ?_) (fun y => ?_)
      · dsimp only at h
        rw [if_pos (by omega)] at h
        rw [f83_J1_eq]; unfold f83_J1_B
        exact bad 5 (by omega) h _ _
      · dsimp only at h
        rw [if_neg (by omega)] at h
        rw [f83_J1_eq]; unfold f83_J1_B
        refine wIf_nf rfl (wPt_at (wSt_at g1 (Nat.le_of_ble_eq_true rfl) ?_))
        rw [wi _ (by omega) (by omega)]
        exact h _ ⟨⟨a + k, g1.set _, by omega, fun _ => ext_ext S a k⟩, hd.size⟩ (f1'.set (.inl (by simp)) _)
theorem refText_call {m : Int} (hm : 0 ≤ m) (hm2 : m ≤ 9223372036854775807) (hd : RR H i S s e) (h : ∀ H', RR H' i S (rdT s e m).2.1 (rdT s e m).2.2 → Fr [i] H H' → R (.ret (.string (rdT s e m).1)) H') : ACall Try.prog 86 [.pointer (some ⟨i, 0, none⟩), .int .i64 m] H R := by
  apply f86_call
  unfold f86_B
  obtain ⟨a, h1, h2, h3⟩ := hd.ex
  refine wPt_at (ldI_at h1 rfl (wIf_n (fun he => ?_) (fun he => ?_)))
  · unfold rdT at h
    rw [if_neg he] at h
    exact h H hd (Fr.refl _ _)
  · subst he
    obtain rfl := h3 rfl
    refine wCall_of (rcnt_call h1 h2 hd.size (fun H1 f1 => ?_))
    have g1 := h1.fr f1 (by simp)
    have hSz := hd.size
    unfold rdT at h
    rw [if_pos rfl] at h
    have f1' := Fr.mono f1 (T := [i]) (by simp)
    have hw : IntKind.u64.wrap m = m := by rw [wrapu64_eq]; omega
    have bad : ∀ e' : Int, e' ≠ 0 → (∀ H', RR H' i S ByteArray.empty e' → Fr [i] H H' → R (.ret (.string ByteArray.empty)) H') → ∀ (s5 s6 : Int), wIf (!decide (e' = 0)) (wPt (some ⟨i, 0, none⟩) fun i1 k2 => wSt i1 (k2 + 2) [(.int .i64 e')] H1 fun H3 => R (.ret (.string ({ data := #[] }))) H3)
        (wPt (some ⟨i, 0, none⟩) fun i4 k5 => wSt i4 (k5 + 1) [(.int .i64 (IntKind.i64.wrap (s6 + (IntKind.i64.wrap s5))))] H1 fun H6 => wPt (some ⟨i, 0, none⟩) fun i7 k8 => wPt (some ⟨i, 0, none⟩) fun i9 k10 => ldS i7 k8 H6 fun t11 => ldI .i64 i9 (k10 + 1) H6 fun n12 => wSlS t11 s6 n12 fun t13 => R (.ret (.string t13)) H6) := by
      intro e' he' hh s5 s6
      refine wIf_nt he' (wPt_at (wSt_at g1 (Nat.le_of_ble_eq_true rfl) ?_))
      exact hh _ (RR.mk_bad (a := a) (g1.set _) h2 hd.size he') (f1'.set (.inl (by simp)) _)
    cases hp : pc (S.extract a S.size).data.toList with
    | error e' =>
      rw [hp] at h
      have hne := pc_err hp
      refine opT_at rfl (opI_at (opI_at (opI_at (wIf_df (by omega) ?_))))
      rw [f86_J0_eq]; unfold f86_J0_B
      refine wIf_f rfl ?_
      rw [f86_J1_eq]; unfold f86_J1_B
      refine wIf_df (by omega) ?_
      rw [f86_J2_eq]; unfold f86_J2_B
      refine wIf_f rfl ?_
      rw [f86_J3_eq]; unfold f86_J3_B
      exact bad e' (by omega) h _ _
    | ok p =>
      obtain ⟨n, k⟩ := p
      rw [hp] at h
      have hk := pc_le hp
      have hn := pc_lt hp
      rw [data_len, ext_size] at hk
      refine opT_at rfl (opI_at (opI_at (opI_at (wIf_dt rfl (wIf_df (by omega) ?_)))))
      rw [f86_J0_eq]; unfold f86_J0_B
      rw [hw]
      dsimp only at h
      refine wIf_d (fun y => ?_) (fun y => ?_)
      · rw [if_pos (by omega)] at h
        rw [f86_J1_eq]; unfold f86_J1_B
        refine wIf_df (by omega) ?_
        rw [f86_J2_eq]; unfold f86_J2_B
        refine wIf_f rfl ?_
        rw [f86_J3_eq]; unfold f86_J3_B
        exact bad 5 (by omega) h _ _
      · rw [if_neg (by omega)] at h
        rw [f86_J1_eq]; unfold f86_J1_B
        refine wIf_dt rfl (wPt_at (ldS_at g1 rfl ?_))
        have e1 : IntKind.u64.wrap (IntKind.i64.wrap ((S.size : Int) - ((a + k : Nat) : Int))) = ((S.size - (a + k) : Nat) : Int) := by
          rw [wi _ (by omega) (by omega), show ((S.size : Int) - ((a + k : Nat) : Int)) = ((S.size - (a + k) : Nat) : Int) by omega, wu _ (by omega)]
        rw [e1, f86_J2_eq]; unfold f86_J2_B
        refine wIf_d (fun z => ?_) (fun z => ?_)
        · rw [if_pos (by rw [ext_size]; omega)] at h
          rw [f86_J3_eq]; unfold f86_J3_B
          exact bad 3 (by omega) h _ _
        · rw [if_neg (by rw [ext_size]; omega)] at h
          rw [f86_J3_eq]; unfold f86_J3_B
          have e2 : IntKind.i64.wrap (((a + k : Nat) : Int) + IntKind.i64.wrap (n : Int)) = ((a + k + n : Nat) : Int) := by
            rw [wi (n : Int) (by omega) (by omega), wi _ (by omega) (by omega)]; omega
          rw [e2]
          refine wIf_nf rfl (wPt_at (wSt_at g1 (Nat.le_of_ble_eq_true rfl) ?_))
          have g2 := g1.set (.row (setCells [.string S, .int .i64 (a : Int), .int .i64 0] (0 + 1) [.int .i64 ((a + k + n : Nat) : Int)]) 0)
          refine wPt_at (wPt_at (ldS_at g2 rfl (ldI_at g2 rfl (wSlS_at (by omega) (by omega) (by omega) ?_))))
          have hx := h _ ⟨⟨a + k + n, g2, by omega, fun _ => by
            show (S.extract a S.size).extract (k + n) _ = _
            rw [ext_ext, Nat.add_assoc]⟩, hd.size⟩ (f1'.set (.inl (by simp)) _)
          rw [Int.toNat_natCast, Int.toNat_natCast]
          dsimp only at hx
          rw [ext_mid] at hx
          exact hx
theorem refByte_call (hd : RR H i S s e) (h : ∀ H', RR H' i S (rdB s e).2.1 (rdB s e).2.2 → Fr [i] H H' → R (.ret (.int .i64 (rdB s e).1)) H') : ACall Try.prog 112 [.pointer (some ⟨i, 0, none⟩)] H R := by
  apply f112_call
  unfold f112_B
  obtain ⟨a, h1, h2, h3⟩ := hd.ex
  have hSz := hd.size
  refine wPt_at (ldI_at h1 rfl (wIf_d (fun he => ?_) (fun he => ?_)))
  · subst he
    obtain rfl := h3 rfl
    refine wPt_at (wPt_at ⟨ldI_at h1 rfl (ldS_at h1 rfl ?_), ldS_at h1 rfl (ldI_at h1 rfl ?_)⟩)
    all_goals
      rw [f112_J0_eq]; unfold f112_J0_B
      unfold rdB at h
      rw [if_pos rfl, ext_size] at h
      refine wIf_d (fun y => ?_) (fun y => ?_)
      · rw [if_pos (by omega)] at h
        refine wPt_at (wSt_at h1 (Nat.le_of_ble_eq_true rfl) ?_)
        have g := h1.set (.row (setCells [.string S, .int .i64 (a : Int), .int .i64 0] (0 + 2) [.int .i64 3]) 0)
        rw [f112_J1_eq]; unfold f112_J1_B
        refine wPt_at (ldI_at g rfl (wIf_nt (by decide) ?_))
        exact h _ (RR.mk_bad (a := a) g h2 hd.size (by decide)) ((Fr.refl _ _).set (.inl (by simp)) _)
      · rw [if_neg (by omega)] at h
        rw [f112_J1_eq]; unfold f112_J1_B
        refine wPt_at (ldI_at h1 rfl (wIf_nf rfl (wPt_at (ldI_at h1 rfl (wPt_at (wSt_at h1 (Nat.le_of_ble_eq_true rfl) ?_))))))
        rw [wi1 a (by omega)]
        have g := h1.set (.row (setCells [.string S, .int .i64 (a : Int), .int .i64 0] (0 + 1) [.int .i64 ((a + 1 : Nat) : Int)]) 0)
        refine wPt_at (wPt_at (ldS_at g rfl (ldI_at g rfl ?_)))
        have e1 : IntKind.i64.wrap (((a + 1 : Nat) : Int) - 1) = (a : Int) := by rw [wi _ (by omega) (by omega)]; omega
        rw [e1]
        refine wIxS_at (by omega) (by omega) ?_
        have e2 : S.data.toList.getD (Int.toNat (a : Int)) 0 = (S.extract a S.size).data.toList.getD 0 0 := by
          rw [data_drop, Int.toNat_natCast, List.getD_eq_getElem?_getD, List.getD_eq_getElem?_getD, List.getElem?_drop, Nat.add_zero]
        have hlt := fst8_lt (S.extract a S.size)
        have e3 : (((S.data.toList.getD (Int.toNat (a : Int)) 0).toNat : Nat) : Int) = (fst8 (S.extract a S.size) : Int) := by rw [e2]; rfl
        rw [e3, wi _ (by omega) (by omega)]
        exact h _ ⟨⟨a + 1, g, by omega, fun _ => by
          have := ext_ext S a 1
          rw [ext_size] at this
          exact this⟩, hd.size⟩ ((Fr.refl _ _).set (.inl (by simp)) _)
  · refine ⟨?_, ?_⟩
    all_goals
      rw [f112_J0_eq]; unfold f112_J0_B
      refine wIf_f rfl ?_
      rw [f112_J1_eq]; unfold f112_J1_B
      unfold rdB at h
      rw [if_neg he] at h
      exact wPt_at (ldI_at h1 rfl (wIf_nt he (h _ hd (Fr.refl _ _))))
theorem refTruth_call (hd : RR H i S s e) (h : ∀ H', RR H' i S (rdH s e).2.1 (rdH s e).2.2 → Fr [i] H H' → R (.ret (.bool (rdH s e).1)) H') : ACall Try.prog 113 [.pointer (some ⟨i, 0, none⟩)] H R := by
  apply f113_call
  unfold f113_B
  have hSz := hd.size
  have plain : ¬ (e = 0 ∧ s.size ≠ 0 ∧ 1 < fst8 s) → wCall Try.prog 112 [.pointer (some ⟨i, 0, none⟩)] H (fun r1 H2 => opI .i64 r1 fun n5 => R (.ret (.bool (decide (n5 = 1)))) H2) (fun v4 H3 => R (.panic v4) H3) := by
    intro hn
    refine wCall_of (refByte_call hd (fun H1 d1 f1 => opI_at ?_))
    unfold rdH at h
    rw [if_neg hn] at h
    have := h H1 d1 f1
    dsimp only at this
    have e1 : decide ((((rdB s e).1 : Nat) : Int) = 1) = decide ((rdB s e).1 = 1) := by rw [decide_eq_decide]; omega
    rw [e1]
    exact this
  obtain ⟨a, h1, h2, h3⟩ := hd.ex
  refine wPt_at (ldI_at h1 rfl (wIf_d (fun he => ?_) (fun he => ?_)))
  · subst he
    obtain rfl := h3 rfl
    have key : ∀ (H' : AH), True := fun _ => trivial
    have e2 : S.data.toList.getD (Int.toNat (a : Int)) 0 = (S.extract a S.size).data.toList.getD 0 0 := by
      rw [data_drop, Int.toNat_natCast, List.getD_eq_getElem?_getD, List.getD_eq_getElem?_getD, List.getElem?_drop, Nat.add_zero]
    have e3 : (((S.data.toList.getD (Int.toNat (a : Int)) 0).toNat : Nat) : Int) = (fst8 (S.extract a S.size) : Int) := by rw [e2]; rfl
    have hz := ext_size S a
    refine wPt_at (wPt_at ⟨ldI_at h1 rfl (ldS_at h1 rfl (wIf_d (fun y => wPt_at (wPt_at ⟨ldS_at h1 rfl (ldI_at h1 rfl (wIxS_at (by omega) (by omega) ?_)), ldI_at h1 rfl (ldS_at h1 rfl (wIxS_at (by omega) (by omega) ?_))⟩)) (fun y => ⟨?_, ?_⟩))), ldS_at h1 rfl (ldI_at h1 rfl (wIf_d (fun y => wPt_at (wPt_at ⟨ldS_at h1 rfl (ldI_at h1 rfl (wIxS_at (by omega) (by omega) ?_)), ldI_at h1 rfl (ldS_at h1 rfl (wIxS_at (by omega) (by omega) ?_))⟩)) (fun y => ⟨?_, ?_⟩)))⟩)
    all_goals
      rw [f113_J0_eq]; unfold f113_J0_B
      first
        | (refine wIf_f rfl ?_
           rw [f113_J1_eq]; unfold f113_J1_B
           exact plain (by omega))
        | (rw [e3]
           refine wIf_d (fun z => ?_) (fun z => ?_)
           · refine wPt_at (wSt_at h1 (Nat.le_of_ble_eq_true rfl) ?_)
             have g := h1.set (.row (setCells [.string S, .int .i64 (a : Int), .int .i64 0] (0 + 2) [.int .i64 4]) 0)
             rw [f113_J1_eq]; unfold f113_J1_B
             refine wCall_of (refByte_call (s := ByteArray.empty) (e := 4) (RR.mk_bad (a := a) g h2 hd.size (by decide)) (fun H1 d1 f1 => opI_at ?_))
             have hx : (0 : Int) = 0 ∧ (S.extract a S.size).size ≠ 0 ∧ 1 < fst8 (S.extract a S.size) := by omega
             unfold rdH at h
             rw [if_pos hx] at h
             exact h H1 d1 (((Fr.refl _ _).set (.inl (by simp)) _).trans f1)
           · rw [f113_J1_eq]; unfold f113_J1_B
             exact plain (by omega))
  · refine ⟨⟨?_, ?_⟩, ?_, ?_⟩
    all_goals
      rw [f113_J0_eq]; unfold f113_J0_B
      refine wIf_f rfl ?_
      rw [f113_J1_eq]; unfold f113_J1_B
      exact plain (fun y => he y.1)
theorem refEnd_call (hd : RR H i S s e) (h : R (.ret (.int .i64 (rdE s e))) H) : ACall Try.prog 57 [.pointer (some ⟨i, 0, none⟩)] H R := by
  apply f57_call
  unfold f57_B
  obtain ⟨a, h1, h2, h3⟩ := hd.ex
  unfold rdE at h
  refine wPt_at (ldI_at h1 rfl (wIf_d (fun he => ?_) (fun he => ?_)))
  · subst he
    obtain rfl := h3 rfl
    rw [if_pos rfl, ext_size] at h
    refine wPt_at (wPt_at ⟨ldI_at h1 rfl (ldS_at h1 rfl ?_), ldS_at h1 rfl (ldI_at h1 rfl ?_)⟩)
    all_goals
      rw [f57_J0_eq]; unfold f57_J0_B
      refine wIf_d (fun y => ?_) (fun y => ?_)
      · rw [if_neg (by omega)] at h
        exact h
      · rw [if_pos (by omega)] at h
        rw [f57_J1_eq]; unfold f57_J1_B
        exact wPt_at (ldI_at h1 rfl h)
  · rw [if_neg he] at h
    refine ⟨?_, ?_⟩
    all_goals
      rw [f57_J0_eq]; unfold f57_J0_B
      refine wIf_f rfl ?_
      rw [f57_J1_eq]; unfold f57_J1_B
      exact wPt_at (ldI_at h1 rfl h)
theorem refForm_call (hd : RR H i S s e) (h : ∀ H', RR H' i S s (if e = 0 then 4 else e) → Fr [i] H H' → R (.ret (.tuple #[])) H') : ACall Try.prog 114 [.pointer (some ⟨i, 0, none⟩)] H R := by
  apply f114_call
  unfold f114_B
  obtain ⟨a, h1, h2, h3⟩ := hd.ex
  refine wPt_at (ldI_at h1 rfl (wIf_d (fun he => ?_) (fun he => ?_)))
  · rw [if_pos he] at h
    refine wPt_at (wSt_at h1 (Nat.le_of_ble_eq_true rfl) ?_)
    exact h _ (RR.mk_bad (a := a) (h1.set _) h2 hd.size (by decide)) ((Fr.refl _ _).set (.inl (by simp)) _)
  · rw [if_neg he] at h
    exact h _ hd (Fr.refl _ _)
end
end Go.Proofs.Ytfghglacfjncmaa
