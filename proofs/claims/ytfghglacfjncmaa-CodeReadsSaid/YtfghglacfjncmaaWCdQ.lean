/- The reference: counts, names, values that may be. -/
import Derived.Test.YtfghglacfjncmaaWCdK
import Derived.Test.YtfghglacfjncmaaWGenQ
namespace Go.Proofs.Ytfghglacfjncmaa
set_option linter.unusedVariables false
set_option linter.unusedSimpArgs false
open Go.RowKit

theorem vb_step {n : Nat} (bs : List UInt8) (f : Nat) (h : ¬ n < 128) : bs ++ vbF (f + 1) n = (bs ++ [UInt8.ofNat (n % 128 + 128)]) ++ vbF f (n / 128) := by
  rw [vbF, if_neg h, List.append_assoc]
  rfl
section
variable {H : AH} {R : AEnd → AH → Prop}
set_option maxRecDepth 10000 in
theorem refcount_call (n : Nat) (hn : n < 18446744073709551616) (h : ∀ H', Fr [] H H' → R (.ret (.string (ofL (vb n)))) H') : ACall Try.prog 70 [.int .u64 n] H R := by
  apply f70_call
  unfold f70_B
  refine f70_L0_rule (J := fun m x0 b l c H' => ∃ (f n' : Nat) (bs : List UInt8), m = f ∧ f ≤ 9 ∧ x0 = (n' : Int) ∧ n' < 2 ^ (7 * f + 1) ∧ bs.length = 9 - f ∧ OwnC H.next H' 1 b l c (bcells bs) ∧ Fr [] H H' ∧ bs ++ vbF f n' = vb n) 9
    ⟨9, n, [], rfl, Nat.le_refl _, rfl, hn, rfl, OwnC.nil _ _ _, Fr.refl _ _, rfl⟩ ?_
  rintro m x0 b l c H' ⟨f, n', bs, rfl, hf, rfl, hn', hl, ho, hfr, he⟩
  intros
  unfold f70_R0
  refine wIf_d (fun hge => ?_) (fun hlt => ?_)
  · cases m with
    | zero => exact absurd hn' (by omega)
    | succ f =>
      have h64 : n' < 18446744073709551616 := Nat.lt_of_lt_of_le hn' (Nat.pow_le_pow_right (by omega) (by omega) : 2 ^ (7 * (f + 1) + 1) ≤ 2 ^ 64)
      have e1 : IntKind.u8.wrap (IntKind.u64.wrap (128 + Int.tmod (n' : Int) 128)) = ((UInt8.ofNat (n' % 128 + 128)).toNat : Int) := by
        rw [← wb]
        congr 1
        rw [Int.tmod_eq_emod_of_nonneg (by omega), wrapu64_eq]
        omega
      have e2 : IntKind.u64.wrap (Int.tdiv (n' : Int) 128) = ((n' / 128 : Nat) : Int) := by
        rw [Int.tdiv_eq_ediv_of_nonneg (by omega), wrapu64_eq]
        omega
      rw [e1, e2]
      refine app_byte ho hfr rfl (by omega) (fun o H2 ho2 hf2 => ?_)
      refine ⟨f, by omega, f70_I0_mk ⟨f, n' / 128, bs ++ [UInt8.ofNat (n' % 128 + 128)], rfl, by omega, rfl, ?_, by simp; omega, ho2, hf2, ?_⟩⟩
      · have : 2 ^ (7 * (f + 1) + 1) = 128 * 2 ^ (7 * f + 1) := by rw [show 7 * (f + 1) + 1 = (7 * f + 1) + 7 from by omega, Nat.pow_add]; omega
        omega
      · rw [← he, vb_step bs f (by omega)]
  · rw [f70_J0_eq]
    unfold f70_J0_B
    rw [wb n']
    refine app_byte ho hfr rfl (by omega) (fun o H2 ho2 hf2 => own_text ho2 ?_)
    rw [vbF_small _ _ (by omega)] at he
    rw [he]
    exact h _ hf2
/-- Is a byte among a text's? -/
def inB (c : Nat) (s : ByteArray) : Bool := s.data.toList.any fun x => x.toNat == c
theorem in_call (c : Nat) (s : ByteArray) (hs : s.size ≤ 1000000) (h : R (.ret (.bool (inB c s))) H) : ACall Try.prog 119 [.int .u8 c, .string s] H R := by
  apply f119_call
  unfold f119_B
  have hl := data_len s
  refine f119_L0_rule (J := fun m x H' => ∃ k : Nat, k ≤ s.size ∧ x = (k : Int) ∧ m = s.size - k ∧ H' = H ∧ ∀ j, j < k → byteAt s j ≠ c) s.size ⟨0, Nat.zero_le _, rfl, rfl, rfl, fun j hj => by omega⟩ ?_
  rintro m x H1 ⟨k, hk, rfl, rfl, rfl, hall⟩
  intros
  unfold f119_R0
  refine wIf_d (fun e => ?_) (fun e => ?_)
  · refine wIxS_at (by omega) e ?_
    rw [Int.toNat_natCast]
    refine wIf_d (fun e2 => ?_) (fun e2 => ?_)
    · have : inB c s = true := by
        unfold inB
        rw [List.any_eq_true]
        refine ⟨s.data.toList.getD k 0, ?_, by simpa using (by omega : (s.data.toList.getD k 0).toNat = c)⟩
        rw [List.getD_eq_getElem?_getD, List.getElem?_eq_getElem (by omega)]
        exact List.getElem_mem _
      rwa [this] at h
    · refine ⟨s.size - (k + 1), by omega, f119_I0_mk ⟨k + 1, by omega, wi1 k (by omega), rfl, rfl, fun j hj => ?_⟩⟩
      by_cases e3 : j = k
      · rw [e3]; unfold byteAt; omega
      · exact hall j (by omega)
  · have : inB c s = false := by
      unfold inB
      rw [List.any_eq_false]
      intro x hx
      obtain ⟨j, hj, rfl⟩ := List.getElem_of_mem hx
      have := hall j (by omega)
      unfold byteAt at this
      rw [List.getD_eq_getElem?_getD, List.getElem?_eq_getElem hj] at this
      simpa using this
    rwa [this] at h
theorem letters_in : ∀ c : Fin 256, inB c ⟨#[97, 98, 99, 100, 101, 102, 103, 104, 105, 106, 107, 108, 109, 110, 111, 112, 113, 114, 115, 116, 117, 118, 119, 120, 121, 122, 65, 66, 67, 68, 69, 70, 71, 72, 73, 74, 75, 76, 77, 78, 79, 80, 81, 82, 83, 84, 85, 86, 87, 88, 89, 90]⟩ = decide (97 ≤ c.val ∧ c.val ≤ 122 ∨ 65 ≤ c.val ∧ c.val ≤ 90) := by decide +kernel
theorem digits_in : ∀ c : Fin 256, inB c ⟨#[48, 49, 50, 51, 52, 53, 54, 55, 56, 57, 95]⟩ = decide (c.val = 95 ∨ 48 ≤ c.val ∧ c.val ≤ 57) := by decide +kernel
set_option maxRecDepth 20000 in
theorem letters_of (c : Nat) (h : c < 256) : inB c ⟨#[97, 98, 99, 100, 101, 102, 103, 104, 105, 106, 107, 108, 109, 110, 111, 112, 113, 114, 115, 116, 117, 118, 119, 120, 121, 122, 65, 66, 67, 68, 69, 70, 71, 72, 73, 74, 75, 76, 77, 78, 79, 80, 81, 82, 83, 84, 85, 86, 87, 88, 89, 90]⟩ = decide (97 ≤ c ∧ c ≤ 122 ∨ 65 ≤ c ∧ c ≤ 90) := letters_in ⟨c, h⟩
theorem digits_of (c : Nat) (h : c < 256) : inB c ⟨#[48, 49, 50, 51, 52, 53, 54, 55, 56, 57, 95]⟩ = decide (c = 95 ∨ 48 ≤ c ∧ c ≤ 57) := digits_in ⟨c, h⟩
set_option maxRecDepth 20000 in
theorem refname_call (s : ByteArray) (h : R (.ret (.bool (decide (isName s)))) H) : ACall Try.prog 71 [.string s] H R := by
  apply f71_call
  unfold f71_B
  refine wIf_d (fun e0 => ?_) (fun e0 => ?_)
  all_goals
    rw [f71_J0_eq]
    unfold f71_J0_B
    refine f71_L0_rule (J := fun m x0 x1 H' => ∃ k : Nat, k ≤ s.size ∧ x1 = (k : Int) ∧ m = s.size - k ∧ H' = H ∧ (x0 = true ↔ (s.size ≠ 0 ∧ s.size ≤ 24) ∧ ∀ j, j < k → okC j (byteAt s j))) s.size ⟨0, Nat.zero_le _, rfl, rfl, rfl, by first | exact ⟨fun e => ⟨⟨by omega, by have := of_decide_eq_true e; omega⟩, fun j hj => by omega⟩, fun e => decide_eq_true (by have := e.1.2; omega)⟩ | exact ⟨fun e => (by cases e), fun e => absurd e.1.1 (by omega)⟩⟩ ?_
    rintro m ok x H1 ⟨k, hk, rfl, rfl, rfl, hok⟩
    intros
    unfold f71_R0
    have hend : (ok = false ∨ k = s.size) → R (.ret (.bool ok)) H1 := fun e => by
      have : decide (isName s) = ok := by
        rcases e with e | e
        · rw [e]
          refine decide_eq_false (fun y => ?_)
          have := hok.2 ⟨⟨y.1, y.2.1⟩, fun j hj => y.2.2 j (by omega)⟩
          rw [e] at this; cases this
        · subst e
          cases ok with
          | false =>
            refine decide_eq_false (fun y => ?_)
            have := hok.2 ⟨⟨y.1, y.2.1⟩, y.2.2⟩
            cases this
          | true =>
            have := hok.1 rfl
            exact decide_eq_true ⟨this.1.1, this.1.2, this.2⟩
      rwa [this] at h
    refine wIf_d (fun e => ?_) (fun e => ?_)
    · rw [f71_J1_eq]
      unfold f71_J1_B
      refine wIf_b (fun e2 => ?_) (fun e2 => hend (.inl e2))
      subst e2
      obtain ⟨⟨z0, z1⟩, hall⟩ := hok.1 rfl
      have hlt := byteAt_lt s k
      rw [f71_J2_eq]
      unfold f71_J2_B
      have hstep : ∀ b : Bool, (b = true ↔ okC k (byteAt s k)) → ((b = true) ↔ (s.size ≠ 0 ∧ s.size ≤ 24) ∧ ∀ j, j < k + 1 → okC j (byteAt s j)) := fun b hb => by
        rw [hb]
        refine ⟨fun y => ⟨⟨z0, z1⟩, fun j hj => ?_⟩, fun y => y.2 k (by omega)⟩
        by_cases e3 : j = k
        · rw [e3]; exact y
        · exact hall j (by omega)
      refine wIxS_at (by omega) e ?_
      rw [Int.toNat_natCast]
      refine wCall_of (in_call (byteAt s k) _ (by decide) (opB_at ?_))
      rw [letters_of _ hlt]
      refine wIf_d (fun e2 => ?_) (fun e2 => ?_)
      · rw [f71_J3_eq]
        unfold f71_J3_B
        exact ⟨s.size - (k + 1), by omega, f71_I0_mk ⟨k + 1, by omega, wi1 k (by omega), rfl, rfl, hstep true ⟨fun _ => by unfold okC; omega, fun _ => rfl⟩⟩⟩
      · refine wIf_d (fun e3 => ?_) (fun e3 => ?_)
        · refine wIxS_at (by omega) e ?_
          rw [Int.toNat_natCast]
          refine wCall_of (in_call (byteAt s k) _ (by decide) (opB_at ?_))
          rw [digits_of _ hlt]
          rw [f71_J3_eq]
          unfold f71_J3_B
          exact ⟨s.size - (k + 1), by omega, f71_I0_mk ⟨k + 1, by omega, wi1 k (by omega), rfl, rfl, hstep _ (by rw [decide_eq_true_eq]; unfold okC; omega)⟩⟩
        · rw [f71_J3_eq]
          unfold f71_J3_B
          exact ⟨s.size - (k + 1), by omega, f71_I0_mk ⟨k + 1, by omega, wi1 k (by omega), rfl, rfl, hstep false ⟨fun y => (by cases y), fun y => by unfold okC at y; omega⟩⟩⟩
    · rw [f71_J1_eq]
      unfold f71_J1_B
      exact wIf_f rfl (hend (.inr (by omega)))
set_option maxRecDepth 20000 in
set_option maxHeartbeats 1000000 in
theorem rright_call (v : Val) (b : Option Addr) (c : Nat) (h : ∀ H', Fr [] H H' → R (.ret (.bool (rightV v))) H') :
    ACall Try.prog 27 [.agg #[.int .i64 v.kind, .int .i64 v.num, .string v.text, .slice b v.list.length c]] H R := by
  apply f27_call
  unfold f27_B
  have hx := rightV_iff v
  have h' : ∀ b : Bool, (b = true ↔ rightV v = true) → ∀ H', Fr [] H H' → R (.ret (.bool b)) H' := fun b e H' f => by
    rw [show b = rightV v by cases b <;> cases hr : rightV v <;> simp_all]
    exact h H' f
  clear h
  rw [hx] at h'
  have hfr : ∀ o, Fr [] H (H.push o) := fun o => (Fr.refl [] H).push _
  refine wNew_at ?_
  have hq := Has.new H (.row [.int .i64 v.kind, .int .i64 v.num, .string v.text, .slice b v.list.length c] 0)
  have hf : Fr [] H (H.push (.row [.int .i64 v.kind, .int .i64 v.num, .string v.text, .slice b v.list.length c] 0)) := (Fr.refl [] H).push _
  generalize H.push (.row [.int .i64 v.kind, .int .i64 v.num, .string v.text, .slice b v.list.length c] 0) = H1 at hq hf ⊢
  generalize H.next = q at hq ⊢
  have hnm : isName v.text ↔ (if isName v.text then (1 : Int) else 0) = 1 := by
    by_cases e : isName v.text <;> simp [e]
  have h1 := h' true
  have h0 := h' false
  generalize (if isName v.text then (1 : Int) else 0) = nm at h' hnm h1 h0
  have hT : rightQ v.kind v.num v.text.size v.list.length nm → R (.ret (.bool true)) H1 := fun y => h1 ⟨fun _ => y, fun _ => rfl⟩ _ hf
  have hF : ¬ rightQ v.kind v.num v.text.size v.list.length nm → R (.ret (.bool false)) H1 := fun y => h0 ⟨fun z => (by cases z), fun z => absurd z y⟩ _ hf
  have hD : (rightQ v.kind v.num v.text.size v.list.length nm ↔ (v.list.length : Int) ≤ 16) → R (.ret (.bool (decide ((v.list.length : Int) ≤ 16)))) H1 := fun y => h' _ (by rw [decide_eq_true_eq]; exact y.symm) _ hf
  clear h' h1 h0 hx
  unfold rightQ at hT hF hD
  repeat' (first
    | exact hT (by omega)
    | exact hF (by omega)
    | exact hD (by omega)
    | exact hT (by have := hnm.1 ‹_›; omega)
    | exact hD (by have := hnm.1 ‹_›; omega)
    | exact hF (by have : ¬ nm = 1 := fun e => absurd (hnm.2 e) ‹_›; omega)
    | (exfalso; omega)
    | (with_reducible refine ldI_at hq rfl ?_)
    | (with_reducible refine ldS_at hq rfl ?_)
    | (with_reducible refine ldL_at hq rfl ?_)
    | (with_reducible refine wPt_at ?_)
    | (rw [f27_J0_eq]; unfold f27_J0_B)
    | (rw [f27_J1_eq]; unfold f27_J1_B)
    | (rw [f27_J2_eq]; unfold f27_J2_B)
    | (rw [f27_J3_eq]; unfold f27_J3_B)
    | (rw [f27_J4_eq]; unfold f27_J4_B)
    | (rw [f27_J5_eq]; unfold f27_J5_B)
    | (with_reducible refine wIf_d (fun _ => ?_) (fun _ => ?_))
    | (with_reducible refine wIf_n (fun _ => ?_) (fun _ => ?_))
    | (with_reducible refine wIf_t (b := true) rfl ?_)
    | (with_reducible refine wIf_f (b := false) rfl ?_)
    | (refine wCall_of (refname_call v.text (opB_at ?_))))
end
end Go.Proofs.Ytfghglacfjncmaa
