/- The reference: counts, numbers, texts, names, values that may be. The reference: a value's bytes, a row's; a row that may be. The reference: messages, dead letters, events, subscriptions: their bytes; may they be kept? The reference: artifacts. The reference: may an artifact be kept? -/
import Derived.Test.YtfghglacfjncmaaWCdC
import Derived.Test.YtfghglacfjncmaaWGenR
import Derived.Test.YtfghglacfjncmaaWCdD
/-! The reference: counts, numbers, texts, names, values that may be. -/
namespace Go.Proofs.Ytfghglacfjncmaa
set_option linter.unusedVariables false
set_option linter.unusedSimpArgs false
open Go.RowKit

theorem vb_step {n : Nat} (bs : List UInt8) (f : Nat) (h : ¬ n < 128) : bs ++ vbF (f + 1) n = (bs ++ [UInt8.ofNat (n % 128 + 128)]) ++ vbF f (n / 128) := by
  rw [vbF, if_neg h, List.append_assoc]
  rfl
section
variable {H : AH} {R : AEnd → AH → Prop}
set_option maxRecDepth 10000 in
theorem refcount_call (n : Nat) (hn : n < 18446744073709551616) (h : ∀ H', Fr [] H H' → R (.ret (.string (ofL (vb n)))) H') : ACall Try.prog 70 [.int .u64 n] H R := by
  apply f70_call
  unfold f70_B
  refine f70_L0_rule (J := fun m x0 b l c H' => ∃ (f n' : Nat) (bs : List UInt8), m = f ∧ f ≤ 9 ∧ x0 = (n' : Int) ∧ n' < 2 ^ (7 * f + 1) ∧ bs.length = 9 - f ∧ OwnC H.next H' 1 b l c (bcells bs) ∧ Fr [] H H' ∧ bs ++ vbF f n' = vb n) 9
    ⟨9, n, [], rfl, Nat.le_refl _, rfl, hn, rfl, OwnC.nil _ _ _, Fr.refl _ _, rfl⟩ ?_
  rintro m x0 b l c H' ⟨f, n', bs, rfl, hf, rfl, hn', hl, ho, hfr, he⟩
  intros
  unfold f70_R0
  refine wIf_d (fun hge => ?_) (fun hlt => ?_)
  · cases m with
    | zero => exact absurd hn' (by omega)
    | succ f =>
      have h64 : n' < 18446744073709551616 := Nat.lt_of_lt_of_le hn' (Nat.pow_le_pow_right (by omega) (by omega) : 2 ^ (7 * (f + 1) + 1) ≤ 2 ^ 64)
      have e1 : IntKind.u8.wrap (IntKind.u64.wrap (128 + Int.tmod (n' : Int) 128)) = ((UInt8.ofNat (n' % 128 + 128)).toNat : Int) := by
        rw [← wb]
        congr 1
        rw [Int.tmod_eq_emod_of_nonneg (by omega), wrapu64_eq]
        omega
      have e2 : IntKind.u64.wrap (Int.tdiv (n' : Int) 128) = ((n' / 128 : Nat) : Int) := by
        rw [Int.tdiv_eq_ediv_of_nonneg (by omega), wrapu64_eq]
        omega
      rw [e1, e2]
      refine app_byte ho hfr rfl (by omega) (fun o H2 ho2 hf2 => ?_)
      refine ⟨f, by omega, f70_I0_mk ⟨f, n' / 128, bs ++ [UInt8.ofNat (n' % 128 + 128)], rfl, by omega, rfl, ?_, by simp; omega, ho2, hf2, ?_⟩⟩
      · have : 2 ^ (7 * (f + 1) + 1) = 128 * 2 ^ (7 * f + 1) := by rw [show 7 * (f + 1) + 1 = (7 * f + 1) + 7 from by omega, Nat.pow_add]; omega
        omega
      · rw [← he, vb_step bs f (by omega)]
  · rw [f70_J0_eq]
    unfold f70_J0_B
    rw [wb n']
    refine app_byte ho hfr rfl (by omega) (fun o H2 ho2 hf2 => own_text ho2 ?_)
    rw [vbF_small _ _ (by omega)] at he
    rw [he]
    exact h _ hf2
theorem refnumber_call (n : Int) (hn : i64ok n) (h : ∀ H', Fr [] H H' → R (.ret (.string (ofL (vb (zz n))))) H') : ACall Try.prog 68 [.int .i64 n] H R := by
  obtain ⟨h1, h2⟩ := hn
  apply f68_call
  unfold f68_B
  have key : ∀ x : Int, x = ((zz n : Nat) : Int) → wCall Try.prog 70 [.int .u64 x] H (fun r1 H2 => opS r1 fun t5 => R (.ret (.string t5)) H2) (fun v4 H3 => R (.panic v4) H3) := by
    rintro x rfl
    exact wCall_of (refcount_call _ (zz_lt n h1 h2) (fun H' hf => opS_at (h H' hf)))
  refine wIf_d (fun e => key _ ?_) (fun e => key _ ?_)
  · have e1 : IntKind.i64.wrap (n + 1) = n + 1 := wi _ (by omega) (by omega)
    have e2 : IntKind.i64.wrap (0 - (n + 1)) = 0 - (n + 1) := wi _ (by omega) (by omega)
    have e3 : IntKind.u64.wrap (0 - (n + 1)) = 0 - (n + 1) := by rw [wrapu64_eq]; omega
    have e4 : IntKind.u64.wrap (2 * (0 - (n + 1))) = 2 * (0 - (n + 1)) := by rw [wrapu64_eq]; omega
    have e5 : IntKind.u64.wrap (2 * (0 - (n + 1)) + 1) = 2 * (0 - (n + 1)) + 1 := by rw [wrapu64_eq]; omega
    rw [e1, e2, e3, e4, e5]
    unfold zz; rw [if_neg (by omega)]; omega
  · have e3 : IntKind.u64.wrap n = n := by rw [wrapu64_eq]; omega
    have e4 : IntKind.u64.wrap (2 * n) = 2 * n := by rw [wrapu64_eq]; omega
    rw [e3, e4]
    unfold zz; rw [if_pos (by omega)]; omega
theorem tb_ofL (s : ByteArray) : tb s = ofL (tbl s) := by
  rw [← ofL_data (tb s), tb_data]
theorem reftext_call (s : ByteArray) (hs : s.size ≤ 4611686018427387904) (h : ∀ H', Fr [] H H' → R (.ret (.string (ofL (tbl s)))) H') : ACall Try.prog 69 [.string s] H R := by
  apply f69_call
  unfold f69_B
  rw [wu _ (by omega)]
  have := vb_length s.size
  refine wCall_of (refcount_call _ (by omega) (fun H' hf => opS_at (wCat_at (by rw [ofL_size]; omega) ?_)))
  have := h H' hf
  rwa [← tb_ofL] at this
/-- Is a byte among a text's? -/
def inB (c : Nat) (s : ByteArray) : Bool := s.data.toList.any fun x => x.toNat == c
theorem in_call (c : Nat) (s : ByteArray) (hs : s.size ≤ 1000000) (h : R (.ret (.bool (inB c s))) H) : ACall Try.prog 119 [.int .u8 c, .string s] H R := by
  apply f119_call
  unfold f119_B
  have hl := data_len s
  refine f119_L0_rule (J := fun m x H' => ∃ k : Nat, k ≤ s.size ∧ x = (k : Int) ∧ m = s.size - k ∧ H' = H ∧ ∀ j, j < k → byteAt s j ≠ c) s.size ⟨0, Nat.zero_le _, rfl, rfl, rfl, fun j hj => by omega⟩ ?_
  rintro m x H1 ⟨k, hk, rfl, rfl, rfl, hall⟩
  intros
  unfold f119_R0
  refine wIf_d (fun e => ?_) (fun e => ?_)
  · refine wIxS_at (by omega) e ?_
    rw [Int.toNat_natCast]
    refine wIf_d (fun e2 => ?_) (fun e2 => ?_)
    · have : inB c s = true := by
        unfold inB
        rw [List.any_eq_true]
        refine ⟨s.data.toList.getD k 0, ?_, by simpa using (by omega : (s.data.toList.getD k 0).toNat = c)⟩
        rw [List.getD_eq_getElem?_getD, List.getElem?_eq_getElem (by omega)]
        exact List.getElem_mem _
      rwa [this] at h
    · refine ⟨s.size - (k + 1), by omega, f119_I0_mk ⟨k + 1, by omega, wi1 k (by omega), rfl, rfl, fun j hj => ?_⟩⟩
      by_cases e3 : j = k
      · rw [e3]; unfold byteAt; omega
      · exact hall j (by omega)
  · have : inB c s = false := by
      unfold inB
      rw [List.any_eq_false]
      intro x hx
      obtain ⟨j, hj, rfl⟩ := List.getElem_of_mem hx
      have := hall j (by omega)
      unfold byteAt at this
      rw [List.getD_eq_getElem?_getD, List.getElem?_eq_getElem hj] at this
      simpa using this
    rwa [this] at h
theorem letters_in : ∀ c : Fin 256, inB c ⟨#[97, 98, 99, 100, 101, 102, 103, 104, 105, 106, 107, 108, 109, 110, 111, 112, 113, 114, 115, 116, 117, 118, 119, 120, 121, 122, 65, 66, 67, 68, 69, 70, 71, 72, 73, 74, 75, 76, 77, 78, 79, 80, 81, 82, 83, 84, 85, 86, 87, 88, 89, 90]⟩ = decide (97 ≤ c.val ∧ c.val ≤ 122 ∨ 65 ≤ c.val ∧ c.val ≤ 90) := by decide +kernel
theorem digits_in : ∀ c : Fin 256, inB c ⟨#[48, 49, 50, 51, 52, 53, 54, 55, 56, 57, 95]⟩ = decide (c.val = 95 ∨ 48 ≤ c.val ∧ c.val ≤ 57) := by decide +kernel
set_option maxRecDepth 20000 in
theorem letters_of (c : Nat) (h : c < 256) : inB c ⟨#[97, 98, 99, 100, 101, 102, 103, 104, 105, 106, 107, 108, 109, 110, 111, 112, 113, 114, 115, 116, 117, 118, 119, 120, 121, 122, 65, 66, 67, 68, 69, 70, 71, 72, 73, 74, 75, 76, 77, 78, 79, 80, 81, 82, 83, 84, 85, 86, 87, 88, 89, 90]⟩ = decide (97 ≤ c ∧ c ≤ 122 ∨ 65 ≤ c ∧ c ≤ 90) := letters_in ⟨c, h⟩
theorem digits_of (c : Nat) (h : c < 256) : inB c ⟨#[48, 49, 50, 51, 52, 53, 54, 55, 56, 57, 95]⟩ = decide (c = 95 ∨ 48 ≤ c ∧ c ≤ 57) := digits_in ⟨c, h⟩
set_option maxRecDepth 20000 in
theorem refname_call (s : ByteArray) (h : R (.ret (.bool (decide (isName s)))) H) : ACall Try.prog 71 [.string s] H R := by
  apply f71_call
  unfold f71_B
  refine wIf_d (fun e0 => ?_) (fun e0 => ?_)
  all_goals
    rw [f71_J0_eq]
    unfold f71_J0_B
    refine f71_L0_rule (J := fun m x0 x1 H' => ∃ k : Nat, k ≤ s.size ∧ x1 = (k : Int) ∧ m = s.size - k ∧ H' = H ∧ (x0 = true ↔ (s.size ≠ 0 ∧ s.size ≤ 24) ∧ ∀ j, j < k → okC j (byteAt s j))) s.size ⟨0, Nat.zero_le _, rfl, rfl, rfl, by first | exact ⟨fun e => ⟨⟨by omega, by have := of_decide_eq_true e; omega⟩, fun j hj => by omega⟩, fun e => decide_eq_true (by have := e.1.2; omega)⟩ | exact ⟨fun e => (by cases e), fun e => absurd e.1.1 (by omega)⟩⟩ ?_
    rintro m ok x H1 ⟨k, hk, rfl, rfl, rfl, hok⟩
    intros
    unfold f71_R0
    have hend : (ok = false ∨ k = s.size) → R (.ret (.bool ok)) H1 := fun e => by
      have : decide (isName s) = ok := by
        rcases e with e | e
        · rw [e]
          refine decide_eq_false (fun y => ?_)
          have := hok.2 ⟨⟨y.1, y.2.1⟩, fun j hj => y.2.2 j (by omega)⟩
          rw [e] at this; cases this
        · subst e
          cases ok with
          | false =>
            refine decide_eq_false (fun y => ?_)
            have := hok.2 ⟨⟨y.1, y.2.1⟩, y.2.2⟩
            cases this
          | true =>
            have := hok.1 rfl
            exact decide_eq_true ⟨this.1.1, this.1.2, this.2⟩
      rwa [this] at h
    refine wIf_d (fun e => ?_) (fun e => ?_)
    · rw [f71_J1_eq]
      unfold f71_J1_B
      refine wIf_b (fun e2 => ?_) (fun e2 => hend (.inl e2))
      subst e2
      obtain ⟨⟨z0, z1⟩, hall⟩ := hok.1 rfl
      have hlt := byteAt_lt s k
      rw [f71_J2_eq]
      unfold f71_J2_B
      have hstep : ∀ b : Bool, (b = true ↔ okC k (byteAt s k)) → ((b = true) ↔ (s.size ≠ 0 ∧ s.size ≤ 24) ∧ ∀ j, j < k + 1 → okC j (byteAt s j)) := fun b hb => by
        rw [hb]
        refine ⟨fun y => ⟨⟨z0, z1⟩, fun j hj => ?_⟩, fun y => y.2 k (by omega)⟩
        by_cases e3 : j = k
        · rw [e3]; exact y
        · exact hall j (by omega)
      refine wIxS_at (by omega) e ?_
      rw [Int.toNat_natCast]
      refine wCall_of (in_call (byteAt s k) _ (by decide) (opB_at ?_))
      rw [letters_of _ hlt]
      refine wIf_d (fun e2 => ?_) (fun e2 => ?_)
      · rw [f71_J3_eq]
        unfold f71_J3_B
        exact ⟨s.size - (k + 1), by omega, f71_I0_mk ⟨k + 1, by omega, wi1 k (by omega), rfl, rfl, hstep true ⟨fun _ => by unfold okC; omega, fun _ => rfl⟩⟩⟩
      · refine wIf_d (fun e3 => ?_) (fun e3 => ?_)
        · refine wIxS_at (by omega) e ?_
          rw [Int.toNat_natCast]
          refine wCall_of (in_call (byteAt s k) _ (by decide) (opB_at ?_))
          rw [digits_of _ hlt]
          rw [f71_J3_eq]
          unfold f71_J3_B
          exact ⟨s.size - (k + 1), by omega, f71_I0_mk ⟨k + 1, by omega, wi1 k (by omega), rfl, rfl, hstep _ (by rw [decide_eq_true_eq]; unfold okC; omega)⟩⟩
        · rw [f71_J3_eq]
          unfold f71_J3_B
          exact ⟨s.size - (k + 1), by omega, f71_I0_mk ⟨k + 1, by omega, wi1 k (by omega), rfl, rfl, hstep false ⟨fun y => (by cases y), fun y => by unfold okC at y; omega⟩⟩⟩
    · rw [f71_J1_eq]
      unfold f71_J1_B
      exact wIf_f rfl (hend (.inr (by omega)))
def rightQ (k n s l nm : Int) : Prop := 0 ≤ k ∧ k ≤ 5 ∧ (k = 1 ∨ k = 2 ∨ n = 0) ∧ (k ≠ 2 ∨ n = 0 ∨ n = 1) ∧ (k = 3 ∨ k = 4 ∨ s = 0) ∧ (k ≠ 3 ∨ s ≤ 64) ∧ (k ≠ 4 ∨ nm = 1) ∧ (k = 5 ∨ l = 0) ∧ (k ≠ 5 ∨ l ≤ 16)
theorem empty_iff (s : ByteArray) : s = ⟨#[]⟩ ↔ (s.size : Int) = 0 := by
  refine ⟨fun e => by rw [e]; rfl, fun e => ?_⟩
  apply ByteArray.ext
  exact Array.eq_empty_of_size_eq_zero (by have : s.size = 0 := by omega
                                           exact this)
theorem rightV_iff (v : Val) : rightV v = true ↔ rightQ v.kind v.num v.text.size v.list.length (if isName v.text then 1 else 0) := by
  unfold rightV
  simp only [empty_iff]
  unfold rightQ
  repeat' split
  all_goals (try simp only [decide_eq_true_eq, Bool.false_eq_true, false_iff, or_true, true_and])
  all_goals omega
set_option maxRecDepth 20000 in
set_option maxHeartbeats 1000000 in
theorem rright_call (v : Val) (b : Option Addr) (c : Nat) (h : ∀ H', Fr [] H H' → R (.ret (.bool (rightV v))) H') :
    ACall Try.prog 27 [.agg #[.int .i64 v.kind, .int .i64 v.num, .string v.text, .slice b v.list.length c]] H R := by
  apply f27_call
  unfold f27_B
  have hx := rightV_iff v
  have h' : ∀ b : Bool, (b = true ↔ rightV v = true) → ∀ H', Fr [] H H' → R (.ret (.bool b)) H' := fun b e H' f => by
    rw [show b = rightV v by cases b <;> cases hr : rightV v <;> simp_all]
    exact h H' f
  clear h
  rw [hx] at h'
  have hfr : ∀ o, Fr [] H (H.push o) := fun o => (Fr.refl [] H).push _
  refine wNew_at ?_
  have hq := Has.new H (.row [.int .i64 v.kind, .int .i64 v.num, .string v.text, .slice b v.list.length c] 0)
  have hf : Fr [] H (H.push (.row [.int .i64 v.kind, .int .i64 v.num, .string v.text, .slice b v.list.length c] 0)) := (Fr.refl [] H).push _
  generalize H.push (.row [.int .i64 v.kind, .int .i64 v.num, .string v.text, .slice b v.list.length c] 0) = H1 at hq hf ⊢
  generalize H.next = q at hq ⊢
  have hnm : isName v.text ↔ (if isName v.text then (1 : Int) else 0) = 1 := by
    by_cases e : isName v.text <;> simp [e]
  have h1 := h' true
  have h0 := h' false
  generalize (if isName v.text then (1 : Int) else 0) = nm at h' hnm h1 h0
  have hT : rightQ v.kind v.num v.text.size v.list.length nm → R (.ret (.bool true)) H1 := fun y => h1 ⟨fun _ => y, fun _ => rfl⟩ _ hf
  have hF : ¬ rightQ v.kind v.num v.text.size v.list.length nm → R (.ret (.bool false)) H1 := fun y => h0 ⟨fun z => (by cases z), fun z => absurd z y⟩ _ hf
  have hD : (rightQ v.kind v.num v.text.size v.list.length nm ↔ (v.list.length : Int) ≤ 16) → R (.ret (.bool (decide ((v.list.length : Int) ≤ 16)))) H1 := fun y => h' _ (by rw [decide_eq_true_eq]; exact y.symm) _ hf
  clear h' h1 h0 hx
  unfold rightQ at hT hF hD
  repeat' (first
    | exact hT (by omega)
    | exact hF (by omega)
    | exact hD (by omega)
    | exact hT (by have := hnm.1 ‹_›; omega)
    | exact hD (by have := hnm.1 ‹_›; omega)
    | exact hF (by have : ¬ nm = 1 := fun e => absurd (hnm.2 e) ‹_›; omega)
    | (exfalso; omega)
    | (with_reducible refine ldI_at hq rfl ?_)
    | (with_reducible refine ldS_at hq rfl ?_)
    | (with_reducible refine ldL_at hq rfl ?_)
    | (with_reducible refine wPt_at ?_)
    | (rw [f27_J0_eq]; unfold f27_J0_B)
    | (rw [f27_J1_eq]; unfold f27_J1_B)
    | (rw [f27_J2_eq]; unfold f27_J2_B)
    | (rw [f27_J3_eq]; unfold f27_J3_B)
    | (rw [f27_J4_eq]; unfold f27_J4_B)
    | (rw [f27_J5_eq]; unfold f27_J5_B)
    | (with_reducible refine wIf_d (fun _ => ?_) (fun _ => ?_))
    | (with_reducible refine wIf_n (fun _ => ?_) (fun _ => ?_))
    | (with_reducible refine wIf_t (b := true) rfl ?_)
    | (with_reducible refine wIf_f (b := false) rfl ?_)
    | (refine wCall_of (refname_call v.text (opB_at ?_))))
end
end Go.Proofs.Ytfghglacfjncmaa

/-! The reference: a value's bytes, a row's; a row that may be. -/
namespace Go.Proofs.Ytfghglacfjncmaa
set_option linter.unusedVariables false
set_option linter.unusedSimpArgs false
open Go.RowKit

def u8i (n : Int) : UInt8 := UInt8.ofNat (n % 256).toNat
theorem wbI (n : Int) : IntKind.u8.wrap n = ((u8i n).toNat : Int) := by
  rw [wrapu8_eq]; unfold u8i; rw [UInt8.toNat_ofNat']; omega
def refBody (v : Val) : List UInt8 :=
  if v.kind = 1 then vb (zz v.num) else if v.kind = 2 then [u8i v.num] else if v.kind = 3 ∨ v.kind = 4 then tbl v.text else if v.kind = 5 then vb v.list.length ++ numsB v.list else []
def refV (v : Val) : List UInt8 := u8i v.kind :: refBody v
/-- A value that memory holds. -/
structure VLs (v : Val) : Prop where
  text : v.text.size ≤ 140737488351232
  list : v.list.length * 8 ≤ 140737488351232
theorem refV_length {v : Val} (h : VLs v) : (refV v).length ≤ 176000000000000 := by
  have a := vb_length (zz v.num)
  have b := vb_length v.list.length
  have c := numsB_length v.list
  have d := tbl_length v.text
  have e := h.text
  have f := h.list
  unfold refV refBody
  rw [List.length_cons]
  split
  · omega
  · split
    · simp
    · split
      · omega
      · split
        · rw [List.length_append]; omega
        · simp
theorem refV_right {v : Val} (h : rightV v = true) : refV v = valB v := by
  have hx := (rightV_iff v).1 h
  unfold rightQ at hx
  unfold refV valB refBody valBody
  have e1 : u8i v.kind = UInt8.ofNat v.kind.toNat := by unfold u8i; congr 2; omega
  rw [e1]
  congr 1
  split
  · rfl
  · split
    · have : v.num = 0 ∨ v.num = 1 := by omega
      rcases this with e | e <;> rw [e] <;> rfl
    · rfl
theorem valP_ref (v : Val) : valP v = if rightV v = true then some (refV v) else none := by
  unfold valP
  split
  · rename_i h; rw [refV_right h]
  · rfl
section
variable {H : AH} {R : AEnd → AH → Prop}
theorem wCatL {a b : List UInt8} {K : ByteArray → Prop} (h : a.length + b.length ≤ 9223372036854775807) (hk : K (ofL (a ++ b))) : wCat (ofL a) (ofL b) K :=
  wCat_at (by rw [ofL_size, ofL_size]; exact h) (by rw [ofL_append]; exact hk)
theorem rcount_at {x : Int} (n : Nat) (hx : x = (n : Int)) (hn : n < 18446744073709551616) (h : ∀ H', Fr [] H H' → R (.ret (.string (ofL (vb n)))) H') : ACall Try.prog 70 [.int .u64 x] H R := by
  subst hx
  exact refcount_call n hn h
set_option maxRecDepth 20000 in
theorem refvalue_call (v : Val) {b : Option Addr} {c : Nat} (hv : VIs H v b) (hs : VLs v) (h : ∀ H', Fr [] H H' → R (.ret (.string (ofL (refV v)))) H') :
    ACall Try.prog 26 [.agg #[.int .i64 v.kind, .int .i64 v.num, .string v.text, .slice b v.list.length c]] H R := by
  apply f26_call
  unfold f26_B
  refine wNew_at ?_
  have hq := Has.new H (.row [.int .i64 v.kind, .int .i64 v.num, .string v.text, .slice b v.list.length c] 0)
  have hf : Fr [] H (H.push (.row [.int .i64 v.kind, .int .i64 v.num, .string v.text, .slice b v.list.length c] 0)) := (Fr.refl [] H).push _
  generalize H.push (.row [.int .i64 v.kind, .int .i64 v.num, .string v.text, .slice b v.list.length c] 0) = H1 at hq hf ⊢
  generalize H.next = q at hq ⊢
  refine ldI_at hq rfl (wBs_at ?_)
  rw [wbI]
  have hb := Has.new H1 (.row [.int .u8 ((u8i v.kind).toNat : Int)] 1)
  have hf2 : Fr [] H1 (H1.push (.row [.int .u8 ((u8i v.kind).toNat : Int)] 1)) := (Fr.refl [] H1).push _
  have hq2 := hq.fr hf2 (by simp)
  have f2 := hf.trans hf2
  generalize H1.push (.row [.int .u8 ((u8i v.kind).toNat : Int)] 1) = H2 at hb hf2 hq2 f2 ⊢
  refine wB2S_at (l := [u8i v.kind]) hb rfl (ldI_at hq2 rfl ?_)
  have a1 := vb_length (zz v.num)
  have a2 := vb_length v.list.length
  have a3 := numsB_length v.list
  have a4 := tbl_length v.text
  have a5 := hs.text
  have a6 := hs.list
  unfold refV refBody at h
  clear hq hf hf2 hb
  refine wIf_d (fun e => ?_) (fun e => ?_)
  · rw [if_pos e] at h
    refine ldI_at hq2 rfl (wCall_of (refnumber_call _ hv.num (fun H3 f3 => opS_at (wCatL (by simp only [List.length_singleton]; omega) (h H3 (f2.trans f3))))))
  · rw [if_neg e] at h
    refine wIf_d (fun e2 => ?_) (fun e2 => ?_)
    · rw [if_pos e2] at h
      refine ldI_at hq2 rfl (wBs_at ?_)
      rw [wbI]
      exact wB2S_at (l := [u8i v.num]) (Has.new _ _) rfl (wCatL (by simp) (h _ (f2.push _)))
    · rw [if_neg e2] at h
      have htext : v.kind = 3 ∨ v.kind = 4 → wPt (some ⟨q, 0, none⟩) fun i1 k2 => ldS i1 (k2 + 2) H2 fun t3 => wCall Try.prog 69 [.string t3] H2 (fun r4 H5 => opS r4 fun t8 => wCat (ofL [u8i v.kind]) t8 fun t9 => R (.ret (.string t9)) H5) (fun v7 H6 => R (.panic v7) H6) := fun e3 => by
        rw [if_pos e3] at h
        exact wPt_at (ldS_at hq2 rfl (wCall_of (reftext_call _ (by omega) (fun H3 f3 => opS_at (wCatL (by simp only [List.length_singleton]; omega) (h H3 (f2.trans f3)))))))
      refine wIf_d (fun e3 => ?_) (fun e3 => ?_)
      · rw [f26_J0_eq]
        unfold f26_J0_B
        exact wIf_t rfl (htext (.inl e3))
      · rw [f26_J0_eq]
        unfold f26_J0_B
        refine wIf_d (fun e4 => htext (.inr e4)) (fun e4 => ?_)
        rw [if_neg (by omega)] at h
        refine wIf_d (fun e5 => ?_) (fun e5 => ?_)
        · rw [if_pos e5] at h
          refine wPt_at (ldL_at hq2 rfl ?_)
          refine wCall_of (rcount_at v.list.length (wu _ (by omega)) (by omega) (fun H3 f3 => opS_at (wCatL (by simp only [List.length_singleton]; omega) (wPt_at (ldL_at (hq2.fr f3 (by simp)) rfl ?_)))))
          obtain ⟨j, hvw⟩ := hv.view
          refine f26_L0_rule (J := fun m s r H' => ∃ k, k ≤ v.list.length ∧ r = (k : Int) ∧ m = v.list.length - k ∧ s = ofL ([u8i v.kind] ++ vb v.list.length ++ numsB (v.list.take k)) ∧ Fr [] H H') v.list.length
            ⟨0, Nat.zero_le _, rfl, rfl, by simp [numsB], f2.trans f3⟩ ?_
          rintro m s r H5 ⟨k, hk, rfl, rfl, rfl, f5⟩
          intros
          unfold f26_R0
          refine wIf_d (fun hlt => ?_) (fun hge => ?_)
          · have hlt : k < v.list.length := by omega
            have hw5 := hvw.fr f5
            have hcell : (v.list.map fun n => Value.int .i64 n)[k * 1]? = some (.int .i64 v.list[k]) := by
              rw [Nat.mul_one, List.getElem?_map, List.getElem?_eq_getElem hlt]; rfl
            have hnb := numsB_length (v.list.take k)
            have hnl := vb_length (zz v.list[k])
            have hlt2 := List.length_take (i := k) (l := v.list)
            refine hw5.ix rfl hlt (hw5.ldI (by omega) hcell (wCall_of (refnumber_call _ (hv.nums _ (List.getElem_mem hlt)) (fun H6 f6 => opS_at (wCatL (by simp only [List.length_append, List.length_singleton]; omega) ⟨v.list.length - (k + 1), by omega, f26_I0_mk ⟨k + 1, hlt, wi1 k (by omega), rfl, ?_, f5.trans f6⟩⟩)))))
            have e6 : v.list.take (k + 1) = v.list.take k ++ [v.list[k]] := by rw [List.take_add_one, List.getElem?_eq_getElem hlt]; rfl
            rw [e6, numsB_snoc, List.append_assoc]
          · have hkl : k = v.list.length := by omega
            subst hkl
            rw [List.take_length]
            have := h H5 f5
            simpa using this
        · rw [if_neg e5] at h
          exact h H2 f2
def refsB (vs : List Val) : List UInt8 := (vs.map refV).flatten
theorem refsB_snoc (l : List Val) (v : Val) : refsB (l ++ [v]) = refsB l ++ refV v := by simp [refsB]
theorem refsB_length (l : List Val) (h : ∀ v ∈ l, VLs v) : (refsB l).length ≤ 176000000000000 * l.length := by
  unfold refsB
  induction l with
  | nil => simp
  | cons v l ih =>
    have := refV_length (h v (by simp))
    have := ih (fun x hx => h x (by simp [hx]))
    simp only [List.map_cons, List.flatten_cons, List.length_append, List.length_cons]; omega
def refRow (vs : List Val) : List UInt8 := vb vs.length ++ refsB vs
theorem refRow_length {vs : List Val} (h : ∀ v ∈ vs, VLs v) : (refRow vs).length ≤ 10 + 176000000000000 * vs.length := by
  have a := vb_length vs.length
  have b := refsB_length vs h
  unfold refRow
  rw [List.length_append]; omega
theorem refRow_right {vs : List Val} (h : rowOK vs) : refRow vs = rowB vs := by
  unfold refRow rowB refsB valsB
  congr 2
  exact List.map_congr_left (fun v hv => refV_right (h.2 v hv))
theorem rowP_ref (vs : List Val) : rowP vs = if rowOK vs then some (refRow vs) else none := by
  unfold rowP
  split
  · rename_i h; rw [refRow_right h]
  · rfl
/-- The k-th value of a slice, copied out. -/
theorem refrow_call (vs : List Val) {b : Option Addr} {c : Nat} (hv : RIs H b vs) (hn : vs.length ≤ 40) (hs : ∀ v ∈ vs, VLs v) (h : ∀ H', Fr [] H H' → R (.ret (.string (ofL (refRow vs)))) H') : ACall Try.prog 72 [.slice b vs.length c] H R := by
  apply f72_call
  unfold f72_B
  obtain ⟨j, cs, hw, hcs⟩ := hv.ex
  have hvb := vb_length vs.length
  refine wCall_of (rcount_at vs.length (wu _ (by omega)) (by omega) (fun H1 f1 => opS_at ?_))
  refine f72_L0_rule (J := fun m s r H' => ∃ k, k ≤ vs.length ∧ r = (k : Int) ∧ m = vs.length - k ∧ s = ofL (vb vs.length ++ refsB (vs.take k)) ∧ Fr [] H H') vs.length
    ⟨0, Nat.zero_le _, rfl, rfl, by simp [refsB], f1⟩ ?_
  rintro m s r H5 ⟨k, hk, rfl, rfl, rfl, f5⟩
  intros
  unfold f72_R0
  refine wIf_d (fun hlt => ?_) (fun hge => ?_)
  · have hlt : k < vs.length := by omega
    have hn0 : vs.length ≠ 0 := by omega
    obtain ⟨b', c', g1, g2, g3, g4, g5⟩ := hcs k hlt
    have hw5 := hw.fr f5
    refine hw5.ix rfl hlt (hw5.ldI hn0 g1 (hw5.ldI hn0 g2 (hw5.ldS hn0 g3 (hw5.ldL hn0 g4 (wNew_at (wSt_at (Has.new _ _) (by simp) ?_))))))
    have e6 : vs.take (k + 1) = vs.take k ++ [vs[k]] := by rw [List.take_add_one, List.getElem?_eq_getElem hlt]; rfl
    have hvl := refsB_length (vs.take k) (fun v hv => hs v (List.mem_of_mem_take hv))
    have hlt2 := List.length_take (i := k) (l := vs)
    have hvs := hs _ (List.getElem_mem hlt)
    generalize hve : vs[k] = v at g1 g2 g3 g4 g5 e6 hvs
    have hvl2 := refV_length hvs
    have hx : Fr [] H5 ((H5.push (.row [.int .i64 0, .int .i64 0, .string ⟨#[]⟩, .slice none 0 0] 0)).set H5.next (.row (setCells [.int .i64 0, .int .i64 0, .string ⟨#[]⟩, .slice none 0 0] 0 [.int .i64 v.kind, .int .i64 v.num, .string v.text, .slice b' v.list.length c']) 0)) := ((Fr.refl [] H5).push _).set (.inr (Nat.le_refl _)) _
    have hb : Has ((H5.push (.row [.int .i64 0, .int .i64 0, .string ⟨#[]⟩, .slice none 0 0] 0)).set H5.next (.row (setCells [.int .i64 0, .int .i64 0, .string ⟨#[]⟩, .slice none 0 0] 0 [.int .i64 v.kind, .int .i64 v.num, .string v.text, .slice b' v.list.length c']) 0)) H5.next (.row [.int .i64 v.kind, .int .i64 v.num, .string v.text, .slice b' v.list.length c'] 0) := (Has.new _ _).set _
    generalize (H5.push (.row [.int .i64 0, .int .i64 0, .string ⟨#[]⟩, .slice none 0 0] 0)).set H5.next (.row (setCells [.int .i64 0, .int .i64 0, .string ⟨#[]⟩, .slice none 0 0] 0 [.int .i64 v.kind, .int .i64 v.num, .string v.text, .slice b' v.list.length c']) 0) = H6 at hx hb ⊢
    refine ldI_at hb rfl (ldI_at hb rfl (ldS_at hb rfl (ldL_at hb rfl (wCall_of (refvalue_call v ((g5.fr f5).fr hx) hvs (fun H7 f7 => opS_at (wCatL (by simp only [List.length_append]; omega) ⟨vs.length - (k + 1), by omega, f72_I0_mk ⟨k + 1, hlt, wi1 k (by omega), rfl, ?_, (f5.trans hx).trans f7⟩⟩)))))))
    rw [e6, refsB_snoc, List.append_assoc]
  · have hkl : k = vs.length := by omega
    subst hkl
    rw [List.take_length]
    exact h H5 f5
theorem rowOK_all (vs : List Val) : rowOK vs ↔ (vs.length : Int) ≤ 16 ∧ ∀ v ∈ vs, rightV v = true := by unfold rowOK; constructor <;> intro x <;> exact ⟨by have := x.1; omega, x.2⟩
theorem rightrow_call (vs : List Val) {b : Option Addr} {c : Nat} (hv : RIs H b vs) (h : ∀ H', Fr [] H H' → R (.ret (.bool (decide (rowOK vs)))) H') : ACall Try.prog 73 [.slice b vs.length c] H R := by
  apply f73_call
  unfold f73_B
  refine wIf_d (fun e => ?_) (fun e => ?_)
  · have := h H (Fr.refl _ _)
    rwa [decide_eq_false (fun x => by have := x.1; omega)] at this
  obtain ⟨j, cs, hw, hcs⟩ := hv.ex
  refine f73_L0_rule (J := fun m r H' => ∃ k, k ≤ vs.length ∧ r = (k : Int) ∧ m = vs.length - k ∧ Fr [] H H' ∧ ∀ v ∈ vs.take k, rightV v = true) vs.length
    ⟨0, Nat.zero_le _, rfl, rfl, Fr.refl _ _, fun v hv => by simp at hv⟩ ?_
  rintro m r H5 ⟨k, hk, rfl, rfl, f5, hall⟩
  intros
  unfold f73_R0
  refine wIf_d (fun hlt => ?_) (fun hge => ?_)
  · have hlt : k < vs.length := by omega
    have hn0 : vs.length ≠ 0 := by omega
    obtain ⟨b', c', g1, g2, g3, g4, g5⟩ := hcs k hlt
    have hw5 := hw.fr f5
    refine hw5.ix rfl hlt (hw5.ldI hn0 g1 (hw5.ldI hn0 g2 (hw5.ldS hn0 g3 (hw5.ldL hn0 g4 (wNew_at (wSt_at (Has.new _ _) (by simp) ?_))))))
    have e6 : vs.take (k + 1) = vs.take k ++ [vs[k]] := by rw [List.take_add_one, List.getElem?_eq_getElem hlt]; rfl
    have hmem := List.getElem_mem hlt
    generalize hve : vs[k] = v at g1 g2 g3 g4 g5 e6 hmem
    have hx : Fr [] H5 ((H5.push (.row [.int .i64 0, .int .i64 0, .string ⟨#[]⟩, .slice none 0 0] 0)).set H5.next (.row (setCells [.int .i64 0, .int .i64 0, .string ⟨#[]⟩, .slice none 0 0] 0 [.int .i64 v.kind, .int .i64 v.num, .string v.text, .slice b' v.list.length c']) 0)) := ((Fr.refl [] H5).push _).set (.inr (Nat.le_refl _)) _
    have hb : Has ((H5.push (.row [.int .i64 0, .int .i64 0, .string ⟨#[]⟩, .slice none 0 0] 0)).set H5.next (.row (setCells [.int .i64 0, .int .i64 0, .string ⟨#[]⟩, .slice none 0 0] 0 [.int .i64 v.kind, .int .i64 v.num, .string v.text, .slice b' v.list.length c']) 0)) H5.next (.row [.int .i64 v.kind, .int .i64 v.num, .string v.text, .slice b' v.list.length c'] 0) := (Has.new _ _).set _
    generalize (H5.push (.row [.int .i64 0, .int .i64 0, .string ⟨#[]⟩, .slice none 0 0] 0)).set H5.next (.row (setCells [.int .i64 0, .int .i64 0, .string ⟨#[]⟩, .slice none 0 0] 0 [.int .i64 v.kind, .int .i64 v.num, .string v.text, .slice b' v.list.length c']) 0) = H6 at hx hb ⊢
    refine ldI_at hb rfl (ldI_at hb rfl (ldS_at hb rfl (ldL_at hb rfl (wCall_of (rright_call v b' c' (fun H7 f7 => opB_at ?_))))))
    cases hr : rightV v with
    | false =>
      refine wIf_t rfl ?_
      have := h H7 ((f5.trans hx).trans f7)
      rwa [decide_eq_false (fun x => by have := x.2 v hmem; rw [hr] at this; cases this)] at this
    | true =>
      refine wIf_f rfl ⟨vs.length - (k + 1), by omega, f73_I0_mk ⟨k + 1, hlt, wi1 k (by omega), rfl, (f5.trans hx).trans f7, fun w hw => ?_⟩⟩
      rw [e6] at hw
      rcases List.mem_append.1 hw with hw | hw
      · exact hall w hw
      · rw [List.mem_singleton.1 hw]; exact hr
  · have hkl : k = vs.length := by omega
    subst hkl
    rw [List.take_length] at hall
    have := h H5 f5
    rwa [decide_eq_true (show rowOK vs from ⟨by omega, hall⟩)] at this
end
end Go.Proofs.Ytfghglacfjncmaa

/-! The reference: messages, dead letters, events, subscriptions: their bytes; may they be kept? -/
namespace Go.Proofs.Ytfghglacfjncmaa
set_option linter.unusedVariables false
set_option linter.unusedSimpArgs false
open Go.RowKit

/-- A box of the function's own, over memory that stays. -/
structure St (H0 H : AH) (q : Nat) (cs : List Value) : Prop where
  hq : Has H q (.row cs 0)
  fr : Fr [] H0 H
theorem St.new (H : AH) (cs : List Value) : St H (H.push (.row cs 0)) H.next cs := ⟨Has.new _ _, (Fr.refl [] H).push _⟩
theorem St.fr1 {H0 H H' : AH} {q : Nat} {cs : List Value} (s : St H0 H q cs) (f : Fr [] H H') : St H0 H' q cs := ⟨s.hq.fr f (by simp), s.fr.trans f⟩
def u64n (n : Int) : Nat := (n % 18446744073709551616).toNat
theorem wrapN (n : Int) : IntKind.u64.wrap n = ((u64n n : Nat) : Int) := by rw [wrapu64_eq]; unfold u64n; omega
theorem u64n_lt (n : Int) : u64n n < 18446744073709551616 := by unfold u64n; omega
theorem u64n_nat (n : Nat) (h : n < 18446744073709551616) : u64n (n : Int) = n := by unfold u64n; omega
/-- A message that memory holds; a few values alone. -/
structure MLs (m : Mai) : Prop where
  chan : m.chan.size ≤ 140737488351232
  key : m.key.length ≤ 40
  fields : m.fields.length ≤ 40
  keys : ∀ v ∈ m.key, VLs v
  fieldss : ∀ v ∈ m.fields, VLs v
def refMail (m : Mai) : List UInt8 := vb (zz m.id) ++ tbl m.chan ++ refRow m.key ++ refRow m.fields
theorem refMail_length {m : Mai} (h : MLs m) : (refMail m).length ≤ 15000000000000000 := by
  have a := vb_length (zz m.id)
  have b := tbl_length m.chan
  have c := refRow_length h.keys
  have d := refRow_length h.fieldss
  have e := h.chan
  have f := h.key
  have g := h.fields
  unfold refMail
  simp only [List.length_append]; omega
theorem refMail_right {m : Mai} (h : mailOK m) : refMail m = mailB m := by
  unfold refMail mailB
  rw [refRow_right h.2.1, refRow_right h.2.2]
  simp only [List.append_assoc]
def refDead (x : Dea) : List UInt8 := vb (zz x.n) ++ refMail x.mail ++ vb (u64n x.reason)
def refEvent (x : Evt) : List UInt8 := vb (zz x.n) ++ vb (zz x.tick) ++ vb (zz x.item) ++ tbl x.name ++ tbl x.typ ++ tbl x.state ++ refRow x.attrs
def refSub (x : Sbs) : List UInt8 := vb (zz x.id) ++ vb (zz x.past) ++ tbl x.role
section
variable {H0 H : AH} {q : Nat} {cs : List Value} {R : AEnd → AH → Prop} {K : ByteArray → AH → Prop} {P : Value → AH → Prop}
theorem St.num (s : St H0 H q cs) {n : Int} (hn : i64ok n) (h : ∀ H', St H0 H' q cs → K (ofL (vb (zz n))) H') : wCall Try.prog 68 [.int .i64 n] H (fun r H' => opS r fun t => K t H') P :=
  wCall_of (refnumber_call n hn (fun H' f => opS_at (h H' (s.fr1 f))))
theorem St.txt (s : St H0 H q cs) {t : ByteArray} (hn : t.size ≤ 140737488351232) (h : ∀ H', St H0 H' q cs → K (ofL (tbl t)) H') : wCall Try.prog 69 [.string t] H (fun r H' => opS r fun t => K t H') P :=
  wCall_of (reftext_call t (by omega) (fun H' f => opS_at (h H' (s.fr1 f))))
theorem St.row (s : St H0 H q cs) {vs : List Val} {b : Option Addr} {c : Nat} (hv : RIs H0 b vs) (hn : vs.length ≤ 40) (hs : ∀ v ∈ vs, VLs v) (h : ∀ H', St H0 H' q cs → K (ofL (refRow vs)) H') : wCall Try.prog 72 [.slice b vs.length c] H (fun r H' => opS r fun t => K t H') P :=
  wCall_of (refrow_call vs (hv.fr s.fr) hn hs (fun H' f => opS_at (h H' (s.fr1 f))))
theorem St.cnt (s : St H0 H q cs) {x : Int} (h : ∀ H', St H0 H' q cs → K (ofL (vb (u64n x))) H') : wCall Try.prog 70 [.int .u64 (IntKind.u64.wrap x)] H (fun r H' => opS r fun t => K t H') P :=
  wCall_of (rcount_at (u64n x) (wrapN x) (u64n_lt x) (fun H' f => opS_at (h H' (s.fr1 f))))
set_option maxRecDepth 20000 in
theorem refmail_call (m : Mai) {kb fb : Option Addr} {kc fc : Nat} (hm : MIs H m kb fb) (hs : MLs m) (h : ∀ H', Fr [] H H' → R (.ret (.string (ofL (refMail m)))) H') : ACall Try.prog 28 [.agg #[.int .i64 m.id, .string m.chan, .slice kb m.key.length kc, .slice fb m.fields.length fc]] H R := by
  apply f28_call
  unfold f28_B
  refine wNew_at ?_
  have st := St.new H [.int .i64 m.id, .string m.chan, .slice kb m.key.length kc, .slice fb m.fields.length fc]
  generalize H.push (.row [.int .i64 m.id, .string m.chan, .slice kb m.key.length kc, .slice fb m.fields.length fc] 0) = H1 at st ⊢
  generalize H.next = q at st ⊢
  have l1 := vb_length (zz m.id)
  have l2 := tbl_length m.chan
  have l3 := refRow_length hs.keys
  have l4 := refRow_length hs.fieldss
  have l5 := hs.chan
  have l6 := hs.key
  have l7 := hs.fields
  unfold refMail at h
  repeat' (first
    | exact h _ st.fr
    | (with_reducible refine And.intro ?_ ?_)
    | (with_reducible refine ldI_at st.hq rfl ?_)
    | (with_reducible refine ldS_at st.hq rfl ?_)
    | (with_reducible refine ldL_at st.hq rfl ?_)
    | (refine ⟨PinOK_has st.hq (by simp) rfl, ?_⟩)
    | (with_reducible refine St.num st hm.id (fun Hx st => ?_))
    | (with_reducible refine St.txt st hs.chan (fun Hx st => ?_))
    | (with_reducible refine St.row st hm.key hs.key hs.keys (fun Hx st => ?_))
    | (with_reducible refine St.row st hm.fields hs.fields hs.fieldss (fun Hx st => ?_))
    | (with_reducible refine wCatL (by (try simp only [List.length_append]); omega) ?_))
/-- A test that holds, and then another one. -/
theorem rightmail_call (m : Mai) {kb fb : Option Addr} {kc fc : Nat} (hm : MIs H m kb fb) (h : ∀ H', Fr [] H H' → R (.ret (.bool (decide (mailOK m)))) H') : ACall Try.prog 29 [.agg #[.int .i64 m.id, .string m.chan, .slice kb m.key.length kc, .slice fb m.fields.length fc]] H R := by
  apply f29_call
  unfold f29_B
  refine wNew_at ?_
  have st := St.new H [.int .i64 m.id, .string m.chan, .slice kb m.key.length kc, .slice fb m.fields.length fc]
  generalize H.push (.row [.int .i64 m.id, .string m.chan, .slice kb m.key.length kc, .slice fb m.fields.length fc] 0) = H1 at st ⊢
  generalize H.next = q at st ⊢
  have hF : ¬ mailOK m → ∀ H', Fr [] H H' → R (.ret (.bool false)) H' := fun e H' s => by
    have := h H' s
    rwa [decide_eq_false e] at this
  refine ldS_at st.hq rfl (wIf_d (fun e => ?_) (fun e => hF (fun y => by have := y.1; omega) _ st.fr))
  refine ldL_at st.hq rfl (wCall_of (rightrow_call m.key (hm.key.fr st.fr) (fun H2 f2 => opB_at ?_)))
  replace st := st.fr1 f2
  refine wIf_d (fun e2 => ?_) (fun e2 => hF (fun y => e2 y.2.1) _ st.fr)
  refine ldL_at st.hq rfl (wCall_of (rightrow_call m.fields (hm.fields.fr st.fr) (fun H3 f3 => opB_at ?_)))
  replace st := st.fr1 f3
  by_cases e3 : rowOK m.fields
  · have := h H3 st.fr
    rw [decide_eq_true (show mailOK m from ⟨by omega, e2, e3⟩)] at this
    rwa [decide_eq_true e3]
  · rw [decide_eq_false e3]
    exact hF (fun y => e3 y.2.2) _ st.fr
theorem St.mail (s : St H0 H q cs) {m : Mai} {kb fb : Option Addr} {kc fc : Nat} (hm : MIs H0 m kb fb) (hs : MLs m) (h : ∀ H', St H0 H' q cs → K (ofL (refMail m)) H') : wCall Try.prog 28 [.agg #[.int .i64 m.id, .string m.chan, .slice kb m.key.length kc, .slice fb m.fields.length fc]] H (fun r H' => opS r fun t => K t H') P :=
  wCall_of (refmail_call m (hm.fr s.fr) hs (fun H' f => opS_at (h H' (s.fr1 f))))
set_option maxRecDepth 20000 in
theorem refdead_call (x : Dea) {kb fb : Option Addr} {kc fc : Nat} (h1 : i64ok x.n) (hm : MIs H x.mail kb fb) (hs : MLs x.mail) (h : ∀ H', Fr [] H H' → R (.ret (.string (ofL (refDead x)))) H') : ACall Try.prog 35 [.agg #[.int .i64 x.n, .int .i64 x.mail.id, .string x.mail.chan, .slice kb x.mail.key.length kc, .slice fb x.mail.fields.length fc, .int .i64 x.reason]] H R := by
  apply f35_call
  unfold f35_B
  refine wNew_at ?_
  have st := St.new H [.int .i64 x.n, .int .i64 x.mail.id, .string x.mail.chan, .slice kb x.mail.key.length kc, .slice fb x.mail.fields.length fc, .int .i64 x.reason]
  generalize H.push (.row [.int .i64 x.n, .int .i64 x.mail.id, .string x.mail.chan, .slice kb x.mail.key.length kc, .slice fb x.mail.fields.length fc, .int .i64 x.reason] 0) = H1 at st ⊢
  generalize H.next = q at st ⊢
  have l1 := vb_length (zz x.n)
  have l2 := refMail_length hs
  have l3 := vb_length (u64n x.reason)
  unfold refDead at h
  repeat' (first
    | exact h _ st.fr
    | (with_reducible refine And.intro ?_ ?_)
    | (with_reducible refine ldI_at st.hq rfl ?_)
    | (with_reducible refine ldS_at st.hq rfl ?_)
    | (with_reducible refine ldL_at st.hq rfl ?_)
    | (refine ⟨PinOK_has st.hq (by simp) rfl, ?_⟩)
    | (with_reducible refine St.num st h1 (fun Hx st => ?_))
    | (with_reducible refine St.cnt st (fun Hx st => ?_))
    | (with_reducible refine St.mail st hm hs (fun Hx st => ?_))
    | (with_reducible refine wCatL (by (try simp only [List.length_append]); omega) ?_))
theorem rightdead_call (x : Dea) {kb fb : Option Addr} {kc fc : Nat} (hm : MIs H x.mail kb fb) (h : ∀ H', Fr [] H H' → R (.ret (.bool (decide (mailOK x.mail ∧ 0 ≤ x.reason ∧ x.reason ≤ 5)))) H') : ACall Try.prog 36 [.agg #[.int .i64 x.n, .int .i64 x.mail.id, .string x.mail.chan, .slice kb x.mail.key.length kc, .slice fb x.mail.fields.length fc, .int .i64 x.reason]] H R := by
  apply f36_call
  unfold f36_B
  refine wNew_at ?_
  have st := St.new H [.int .i64 x.n, .int .i64 x.mail.id, .string x.mail.chan, .slice kb x.mail.key.length kc, .slice fb x.mail.fields.length fc, .int .i64 x.reason]
  generalize H.push (.row [.int .i64 x.n, .int .i64 x.mail.id, .string x.mail.chan, .slice kb x.mail.key.length kc, .slice fb x.mail.fields.length fc, .int .i64 x.reason] 0) = H1 at st ⊢
  generalize H.next = q at st ⊢
  have hF : ¬ (mailOK x.mail ∧ 0 ≤ x.reason ∧ x.reason ≤ 5) → ∀ H', Fr [] H H' → R (.ret (.bool false)) H' := fun e H' s => by
    have := h H' s
    rwa [decide_eq_false e] at this
  refine ldI_at st.hq rfl (ldS_at st.hq rfl (ldL_at st.hq rfl (ldL_at st.hq rfl (wCall_of (rightmail_call x.mail (hm.fr st.fr) (fun H2 f2 => opB_at ?_))))))
  replace st := st.fr1 f2
  refine wIf_d (fun e => ?_) (fun e => hF (fun y => e y.1) _ st.fr)
  refine ldI_at st.hq rfl (wIf_d (fun e2 => ldI_at st.hq rfl ?_) (fun e2 => hF (fun y => by have := y.2; omega) _ st.fr))
  by_cases e3 : x.reason ≤ 5
  · have := h H2 st.fr
    rw [decide_eq_true ⟨e, e2, e3⟩] at this
    rwa [decide_eq_true e3]
  · rw [decide_eq_false e3]
    exact hF (fun y => e3 y.2.2) _ st.fr
structure ELs (x : Evt) : Prop where
  name : x.name.size ≤ 140737488351232
  typ : x.typ.size ≤ 140737488351232
  state : x.state.size ≤ 140737488351232
  attrs : x.attrs.length ≤ 40
  vals : ∀ v ∈ x.attrs, VLs v
set_option maxRecDepth 20000 in
set_option maxHeartbeats 4000000 in
theorem refevent_call (x : Evt) {ab : Option Addr} {ac : Nat} (h1 : i64ok x.n) (h2 : i64ok x.tick) (h3 : i64ok x.item) (ha : RIs H ab x.attrs) (hs : ELs x) (h : ∀ H', Fr [] H H' → R (.ret (.string (ofL (refEvent x)))) H') : ACall Try.prog 37 [.agg #[.int .i64 x.n, .int .i64 x.tick, .string x.name, .int .i64 x.item, .string x.typ, .string x.state, .slice ab x.attrs.length ac]] H R := by
  apply f37_call
  unfold f37_B
  refine wNew_at ?_
  have st := St.new H [.int .i64 x.n, .int .i64 x.tick, .string x.name, .int .i64 x.item, .string x.typ, .string x.state, .slice ab x.attrs.length ac]
  generalize H.push (.row [.int .i64 x.n, .int .i64 x.tick, .string x.name, .int .i64 x.item, .string x.typ, .string x.state, .slice ab x.attrs.length ac] 0) = H1 at st ⊢
  generalize H.next = q at st ⊢
  have l1 := vb_length (zz x.n)
  have l2 := vb_length (zz x.tick)
  have l3 := vb_length (zz x.item)
  have l4 := tbl_length x.name
  have l5 := tbl_length x.typ
  have l6 := tbl_length x.state
  have l7 := refRow_length hs.vals
  have k1 := hs.name
  have k2 := hs.typ
  have k3 := hs.state
  have k4 := hs.attrs
  unfold refEvent at h
  repeat' (first
    | exact h _ st.fr
    | (with_reducible refine And.intro ?_ ?_)
    | (with_reducible refine ldI_at st.hq rfl ?_)
    | (with_reducible refine ldS_at st.hq rfl ?_)
    | (with_reducible refine ldL_at st.hq rfl ?_)
    | (refine ⟨PinOK_has st.hq (by simp) rfl, ?_⟩)
    | (with_reducible refine St.num st h1 (fun Hx st => ?_))
    | (with_reducible refine St.num st h2 (fun Hx st => ?_))
    | (with_reducible refine St.num st h3 (fun Hx st => ?_))
    | (with_reducible refine St.txt st hs.name (fun Hx st => ?_))
    | (with_reducible refine St.txt st hs.typ (fun Hx st => ?_))
    | (with_reducible refine St.txt st hs.state (fun Hx st => ?_))
    | (with_reducible refine St.row st ha hs.attrs hs.vals (fun Hx st => ?_))
    | (with_reducible refine wCatL (by (try simp only [List.length_append]); omega) ?_))
def eventOK (x : Evt) : Prop := x.name.size ≤ 24 ∧ x.typ.size ≤ 24 ∧ x.state.size ≤ 24 ∧ rowOK x.attrs
instance (x : Evt) : Decidable (eventOK x) := by unfold eventOK; infer_instance
theorem rightevent_call (x : Evt) {ab : Option Addr} {ac : Nat} (ha : RIs H ab x.attrs) (h : ∀ H', Fr [] H H' → R (.ret (.bool (decide (eventOK x)))) H') : ACall Try.prog 38 [.agg #[.int .i64 x.n, .int .i64 x.tick, .string x.name, .int .i64 x.item, .string x.typ, .string x.state, .slice ab x.attrs.length ac]] H R := by
  apply f38_call
  unfold f38_B
  refine wNew_at ?_
  have st := St.new H [.int .i64 x.n, .int .i64 x.tick, .string x.name, .int .i64 x.item, .string x.typ, .string x.state, .slice ab x.attrs.length ac]
  generalize H.push (.row [.int .i64 x.n, .int .i64 x.tick, .string x.name, .int .i64 x.item, .string x.typ, .string x.state, .slice ab x.attrs.length ac] 0) = H1 at st ⊢
  generalize H.next = q at st ⊢
  have hF : ¬ eventOK x → ∀ H', Fr [] H H' → R (.ret (.bool false)) H' := fun e H' s => by
    have := h H' s
    rwa [decide_eq_false e] at this
  refine ldS_at st.hq rfl (wIf_d (fun e => ?_) (fun e => hF (fun y => by have := y.1; omega) _ st.fr))
  refine ldS_at st.hq rfl (wIf_d (fun e2 => ?_) (fun e2 => hF (fun y => by have := y.2.1; omega) _ st.fr))
  refine ldS_at st.hq rfl (wIf_d (fun e3 => ?_) (fun e3 => hF (fun y => by have := y.2.2.1; omega) _ st.fr))
  refine ldL_at st.hq rfl (wCall_of (rightrow_call x.attrs (ha.fr st.fr) (fun H2 f2 => opB_at ?_)))
  replace st := st.fr1 f2
  by_cases e4 : rowOK x.attrs
  · have := h H2 st.fr
    rw [decide_eq_true (show eventOK x from ⟨by omega, by omega, by omega, e4⟩)] at this
    rwa [decide_eq_true e4]
  · rw [decide_eq_false e4]
    exact hF (fun y => e4 y.2.2.2) _ st.fr
set_option maxRecDepth 20000 in
theorem refsub_call (x : Sbs) (h1 : i64ok x.id) (h2 : i64ok x.past) (hs : x.role.size ≤ 140737488351232) (h : ∀ H', Fr [] H H' → R (.ret (.string (ofL (refSub x)))) H') : ACall Try.prog 39 [.agg #[.int .i64 x.id, .string x.role, .int .i64 x.past]] H R := by
  apply f39_call
  unfold f39_B
  refine wNew_at ?_
  have st := St.new H [.int .i64 x.id, .string x.role, .int .i64 x.past]
  generalize H.push (.row [.int .i64 x.id, .string x.role, .int .i64 x.past] 0) = H1 at st ⊢
  generalize H.next = q at st ⊢
  have l1 := vb_length (zz x.id)
  have l2 := vb_length (zz x.past)
  have l3 := tbl_length x.role
  unfold refSub at h
  repeat' (first
    | exact h _ st.fr
    | (with_reducible refine And.intro ?_ ?_)
    | (with_reducible refine ldI_at st.hq rfl ?_)
    | (with_reducible refine ldS_at st.hq rfl ?_)
    | (with_reducible refine ldL_at st.hq rfl ?_)
    | (refine ⟨PinOK_has st.hq (by simp) rfl, ?_⟩)
    | (with_reducible refine St.num st h1 (fun Hx st => ?_))
    | (with_reducible refine St.num st h2 (fun Hx st => ?_))
    | (with_reducible refine St.txt st hs (fun Hx st => ?_))
    | (with_reducible refine wCatL (by (try simp only [List.length_append]); omega) ?_))
theorem rightsub_call (x : Sbs) (h : ∀ H', Fr [] H H' → R (.ret (.bool (decide ((x.role.size : Int) ≤ 24)))) H') : ACall Try.prog 40 [.agg #[.int .i64 x.id, .string x.role, .int .i64 x.past]] H R := by
  apply f40_call
  unfold f40_B
  refine wNew_at ?_
  have st := St.new H [.int .i64 x.id, .string x.role, .int .i64 x.past]
  generalize H.push (.row [.int .i64 x.id, .string x.role, .int .i64 x.past] 0) = H1 at st ⊢
  generalize H.next = q at st ⊢
  exact ldS_at st.hq rfl (h _ st.fr)
end
theorem deadP_ref (x : Dea) : deadP x = if mailOK x.mail ∧ 0 ≤ x.reason ∧ x.reason ≤ 5 then some (refDead x) else none := by
  unfold deadP cntP refDead
  rw [mailP_eq]
  by_cases h1 : mailOK x.mail
  · rw [if_pos h1, refMail_right h1]
    by_cases h2 : 0 ≤ x.reason ∧ x.reason ≤ 5
    · rw [if_pos h2, if_pos ⟨h1, h2⟩, show u64n x.reason = x.reason.toNat by unfold u64n; omega]
      simp [cat]
    · rw [if_neg h2, if_neg (fun y => h2 y.2)]
      simp [cat]
  · have h3 : ¬ (mailOK x.mail ∧ 0 ≤ x.reason ∧ x.reason ≤ 5) := fun y => h1 y.1
    rw [if_neg h1, if_neg h3]
    rfl
theorem eventP_ref (x : Evt) : eventP x = if eventOK x then some (refEvent x) else none := by
  unfold eventP nameP eventOK refEvent
  rw [rowP_ref]
  by_cases h1 : x.name.size ≤ 24 <;> by_cases h2 : x.typ.size ≤ 24 <;> by_cases h3 : x.state.size ≤ 24 <;> by_cases h4 : rowOK x.attrs <;> simp [h1, h2, h3, h4, cat]
theorem subP_ref (x : Sbs) : subP x = if (x.role.size : Int) ≤ 24 then some (refSub x) else none := by
  unfold subP nameP refSub
  by_cases h1 : x.role.size ≤ 24
  · rw [if_pos h1, if_pos (by omega)]; simp [cat]
  · rw [if_neg h1, if_neg (by omega)]; simp [cat]
theorem mailP_ref (m : Mai) : mailP m = if mailOK m then some (refMail m) else none := by
  rw [mailP_eq]
  split
  · rename_i h; rw [refMail_right h]
  · rfl
end Go.Proofs.Ytfghglacfjncmaa

/-! The reference: artifacts. -/
namespace Go.Proofs.Ytfghglacfjncmaa
set_option linter.unusedVariables false
set_option linter.unusedSimpArgs false
open Go.RowKit

theorem lenA (a b : List UInt8) : (a ++ b).length = a.length + b.length := List.length_append
structure ILs (x : Ite) : Prop where
  typ : x.typ.size ≤ 140737488351232
  state : x.state.size ≤ 140737488351232
  attrs : x.attrs.length ≤ 40
  vals : ∀ v ∈ x.attrs, VLs v
  counts : x.counts.length ≤ 40
  box : x.box.length ≤ 200
  mails : ∀ m ∈ x.box, MLs m
def cntsR (l : List Int) : List UInt8 := (l.map fun n => vb (u64n n)).flatten
def boxR (l : List Mai) : List UInt8 := (l.map refMail).flatten
theorem cntsR_snoc (l : List Int) (n : Int) : cntsR (l ++ [n]) = cntsR l ++ vb (u64n n) := by simp [cntsR]
theorem boxR_snoc (l : List Mai) (m : Mai) : boxR (l ++ [m]) = boxR l ++ refMail m := by simp [boxR]
theorem cntsR_length (l : List Int) : (cntsR l).length ≤ 10 * l.length := by
  unfold cntsR
  induction l with
  | nil => simp
  | cons n l ih =>
    have := vb_length (u64n n)
    simp only [List.map_cons, List.flatten_cons, List.length_append, List.length_cons]; omega
theorem boxR_length (l : List Mai) (h : ∀ m ∈ l, MLs m) : (boxR l).length ≤ 15000000000000000 * l.length := by
  unfold boxR
  induction l with
  | nil => simp
  | cons m l ih =>
    have h1 := refMail_length (h m (by simp))
    have := ih (fun x hx => h x (by simp [hx]))
    simp only [List.map_cons, List.flatten_cons, List.length_append, List.length_cons]; omega
def refItem (x : Ite) : List UInt8 := vb (zz x.id) ++ vb (zz x.since) ++ tbl x.typ ++ tbl x.state ++ refRow x.attrs ++ vb x.counts.length ++ cntsR x.counts ++ vb x.box.length ++ boxR x.box
def itemOK (x : Ite) : Prop := x.typ.size ≤ 24 ∧ x.state.size ≤ 24 ∧ rowOK x.attrs ∧ x.counts.length ≤ 16 ∧ x.box.length ≤ 4096 ∧ cntsOK x.counts ∧ boxOK x.box
instance (x : Ite) : Decidable (itemOK x) := by unfold itemOK; infer_instance
theorem cntsR_right {l : List Int} (h : cntsOK l) : cntsR l = cntsB l := by
  unfold cntsR cntsB
  congr 1
  exact List.map_congr_left (fun n hn => by have := h n hn; rw [show u64n n = n.toNat by unfold u64n; omega])
theorem boxR_right {l : List Mai} (h : boxOK l) : boxR l = boxB l := by
  unfold boxR boxB
  congr 1
  exact List.map_congr_left (fun m hm => refMail_right (h m hm))
theorem itemP_ref (x : Ite) : itemP x = if itemOK x then some (refItem x) else none := by
  unfold itemP nameP cntP cntsP boxP
  rw [rowP_ref]
  by_cases h1 : x.typ.size ≤ 24
  case neg => rw [if_neg (show ¬ itemOK x from fun y => h1 y.1), if_neg h1]; rfl
  by_cases h2 : x.state.size ≤ 24
  case neg => rw [if_neg (show ¬ itemOK x from fun y => h2 y.2.1), if_neg h2, if_pos h1]; rfl
  rw [if_pos h1, if_pos h2]
  by_cases h3 : rowOK x.attrs
  case neg => rw [if_neg (show ¬ itemOK x from fun y => h3 y.2.2.1), if_neg h3]; rfl
  rw [if_pos h3]
  by_cases h4 : x.counts.length ≤ 16
  case neg => rw [if_neg (show ¬ itemOK x from fun y => h4 y.2.2.2.1), if_neg (show ¬ ((0 : Int) ≤ x.counts.length ∧ (x.counts.length : Int) ≤ 16) by omega)]; rfl
  rw [if_pos (show ((0 : Int) ≤ x.counts.length ∧ (x.counts.length : Int) ≤ 16) by omega)]
  by_cases h6 : cntsOK x.counts
  case neg => rw [if_neg (show ¬ itemOK x from fun y => h6 y.2.2.2.2.2.1), if_neg h6]; rfl
  rw [if_pos h6]
  by_cases h5 : x.box.length ≤ 4096
  case neg => rw [if_neg (show ¬ itemOK x from fun y => h5 y.2.2.2.2.1), if_neg (show ¬ ((0 : Int) ≤ x.box.length ∧ (x.box.length : Int) ≤ 4096) by omega)]; rfl
  rw [if_pos (show ((0 : Int) ≤ x.box.length ∧ (x.box.length : Int) ≤ 4096) by omega)]
  by_cases h7 : boxOK x.box
  case neg => rw [if_neg (show ¬ itemOK x from fun y => h7 y.2.2.2.2.2.2), if_neg h7]; rfl
  rw [if_pos (show itemOK x from ⟨h1, h2, h3, h4, h5, h6, h7⟩), if_pos h7]
  unfold refItem
  rw [cntsR_right h6, boxR_right h7]
  simp only [cat, Option.bind_some, Option.map_some, Int.toNat_natCast, List.append_assoc]
section
variable {H0 H : AH} {q : Nat} {cs : List Value} {R : AEnd → AH → Prop} {K : ByteArray → AH → Prop} {P : Value → AH → Prop}
theorem St.cnt' (s : St H0 H q cs) {n : Nat} (hn : n < 18446744073709551616) (h : ∀ H', St H0 H' q cs → K (ofL (vb n)) H') : wCall Try.prog 70 [.int .u64 (IntKind.u64.wrap (n : Int))] H (fun r H' => opS r fun t => K t H') P :=
  wCall_of (rcount_at n (wu n hn) hn (fun H' f => opS_at (h H' (s.fr1 f))))
set_option maxRecDepth 20000 in
set_option maxHeartbeats 8000000 in
theorem refitem_call (x : Ite) {ab cb bb : Option Addr} {ac cc bc : Nat} (hx : IIs H x ab cb bb) (hs : ILs x) (h : ∀ H', Fr [] H H' → R (.ret (.string (ofL (refItem x)))) H') :
    ACall Try.prog 30 [.agg #[.int .i64 x.id, .string x.typ, .string x.state, .int .i64 x.since, .slice ab x.attrs.length ac, .slice cb x.counts.length cc, .slice bb x.box.length bc]] H R := by
  apply f30_call
  unfold f30_B
  refine wNew_at ?_
  have st := St.new H [.int .i64 x.id, .string x.typ, .string x.state, .int .i64 x.since, .slice ab x.attrs.length ac, .slice cb x.counts.length cc, .slice bb x.box.length bc]
  generalize H.push (.row [.int .i64 x.id, .string x.typ, .string x.state, .int .i64 x.since, .slice ab x.attrs.length ac, .slice cb x.counts.length cc, .slice bb x.box.length bc] 0) = H1 at st ⊢
  generalize H.next = q at st ⊢
  have l1 := vb_length (zz x.id)
  have l2 := vb_length (zz x.since)
  have l3 := tbl_length x.typ
  have l4 := tbl_length x.state
  have l5 := refRow_length hs.vals
  have l6 := vb_length x.counts.length
  have l7 := cntsR_length x.counts
  have l8 := vb_length x.box.length
  have l9 := boxR_length x.box hs.mails
  have k1 := hs.typ
  have k2 := hs.state
  have k3 := hs.attrs
  have k4 := hs.counts
  have k5 := hs.box
  unfold refItem at h
  repeat' (first
    | (with_reducible refine And.intro ?_ ?_)
    | (with_reducible refine ldI_at st.hq rfl ?_)
    | (with_reducible refine ldS_at st.hq rfl ?_)
    | (with_reducible refine ldL_at st.hq rfl ?_)
    | (refine ⟨PinOK_has st.hq (by simp) rfl, ?_⟩)
    | (with_reducible refine St.num st hx.id (fun Hx st => ?_))
    | (with_reducible refine St.num st hx.since (fun Hx st => ?_))
    | (with_reducible refine St.txt st hs.typ (fun Hx st => ?_))
    | (with_reducible refine St.txt st hs.state (fun Hx st => ?_))
    | (with_reducible refine St.row st hx.attrs hs.attrs hs.vals (fun Hx st => ?_))
    | (with_reducible refine St.cnt' st (by omega) (fun Hx st => ?_))
    | (with_reducible refine wCatL (by (try simp only [List.length_append]); omega) ?_))
  all_goals
    rw [f30_J0_eq]
    unfold f30_J0_B
    refine wPt_at (ldL_at st.hq rfl ?_)
    obtain ⟨j, hvw⟩ := hx.counts.view
    have hn1 := lenA (vb (zz x.id)) (vb (zz x.since))
    have hn2 := lenA (vb (zz x.id) ++ vb (zz x.since)) (tbl x.typ)
    have hn3 := lenA (vb (zz x.id) ++ vb (zz x.since) ++ tbl x.typ) (tbl x.state)
    have hn4 := lenA (vb (zz x.id) ++ vb (zz x.since) ++ tbl x.typ ++ tbl x.state) (refRow x.attrs)
    have hn5 := lenA (vb (zz x.id) ++ vb (zz x.since) ++ tbl x.typ ++ tbl x.state ++ refRow x.attrs) (vb x.counts.length)
    generalize vb (zz x.id) ++ vb (zz x.since) ++ tbl x.typ ++ tbl x.state ++ refRow x.attrs ++ vb x.counts.length = A at h hn5 ⊢
    refine f30_L0_rule (J := fun m s r H' => ∃ k, k ≤ x.counts.length ∧ r = (k : Int) ∧ m = x.counts.length - k ∧ s = ofL (A ++ cntsR (x.counts.take k)) ∧ St H H' q [.int .i64 x.id, .string x.typ, .string x.state, .int .i64 x.since, .slice ab x.attrs.length ac, .slice cb x.counts.length cc, .slice bb x.box.length bc]) x.counts.length
      ⟨0, Nat.zero_le _, rfl, rfl, by simp [cntsR], st⟩ ?_
    rintro m s r H5 ⟨k, hk, rfl, rfl, rfl, st⟩
    intros
    unfold f30_R0
    refine wIf_d (fun hlt => ?_) (fun hge => ?_)
    · have hlt : k < x.counts.length := by omega
      have hw5 := hvw.fr st.fr
      have hcell : (x.counts.map fun n => Value.int .i64 n)[k * 1]? = some (.int .i64 x.counts[k]) := by
        rw [Nat.mul_one, List.getElem?_map, List.getElem?_eq_getElem hlt]; rfl
      have hnb := cntsR_length (x.counts.take k)
      have hnl := vb_length (u64n x.counts[k])
      have hlt2 := List.length_take (i := k) (l := x.counts)
      refine hw5.ix rfl hlt (hw5.ldI (by omega) hcell (St.cnt st (fun H6 st => wCatL (by simp only [List.length_append]; omega) ⟨x.counts.length - (k + 1), by omega, f30_I0_mk ⟨k + 1, hlt, wi1 k (by omega), rfl, ?_, st⟩⟩)))
      have e6 : x.counts.take (k + 1) = x.counts.take k ++ [x.counts[k]] := by rw [List.take_add_one, List.getElem?_eq_getElem hlt]; rfl
      rw [e6, cntsR_snoc, List.append_assoc]
    · have hkl : k = x.counts.length := by omega
      subst hkl
      rw [List.take_length]
      rw [f30_J1_eq]
      unfold f30_J1_B
      have hn6 := lenA (A) (cntsR x.counts)
      refine wPt_at (ldL_at st.hq rfl (St.cnt' st (by omega) (fun H6 st => wCatL (by omega) (wPt_at (ldL_at st.hq rfl ?_)))))
      have hn7 := lenA (A ++ cntsR x.counts) (vb x.box.length)
      generalize A ++ cntsR x.counts ++ vb x.box.length = A2 at h hn7 ⊢
      obtain ⟨j2, cs2, hw2, hcs⟩ := hx.box.ex
      refine f30_L1_rule (J := fun m s r H' => ∃ k, k ≤ x.box.length ∧ r = (k : Int) ∧ m = x.box.length - k ∧ s = ofL (A2 ++ boxR (x.box.take k)) ∧ Fr [] H H') x.box.length
        ⟨0, Nat.zero_le _, rfl, rfl, by simp [boxR], st.fr⟩ ?_
      rintro m s r H5 ⟨k, hk, rfl, rfl, rfl, f5⟩
      intros
      unfold f30_R1
      refine wIf_d (fun hlt => ?_) (fun hge => ?_)
      · have hlt : k < x.box.length := by omega
        have hn0 : x.box.length ≠ 0 := by omega
        obtain ⟨kb, kc, fb, fc, g1, g2, g3, g4, g5⟩ := hcs k hlt
        have hw5 := hw2.fr f5
        refine hw5.ix rfl hlt (hw5.ldI hn0 g1 (hw5.ldS hn0 g2 (hw5.ldL hn0 g3 (hw5.ldL hn0 g4 (wNew_at (wSt_at (Has.new _ _) (by simp) ?_))))))
        have e6 : x.box.take (k + 1) = x.box.take k ++ [x.box[k]] := by rw [List.take_add_one, List.getElem?_eq_getElem hlt]; rfl
        have hvl := boxR_length (x.box.take k) (fun v hv => hs.mails v (List.mem_of_mem_take hv))
        have hlt2 := List.length_take (i := k) (l := x.box)
        have hvs := hs.mails _ (List.getElem_mem hlt)
        generalize hve : x.box[k] = m at g1 g2 g3 g4 g5 e6 hvs
        have hvl2 := refMail_length hvs
        have hx5 : Fr [] H5 ((H5.push (.row [.int .i64 0, .string ⟨#[]⟩, .slice none 0 0, .slice none 0 0] 0)).set H5.next (.row (setCells [.int .i64 0, .string ⟨#[]⟩, .slice none 0 0, .slice none 0 0] 0 [.int .i64 m.id, .string m.chan, .slice kb m.key.length kc, .slice fb m.fields.length fc]) 0)) := ((Fr.refl [] H5).push _).set (.inr (Nat.le_refl _)) _
        have hb : Has ((H5.push (.row [.int .i64 0, .string ⟨#[]⟩, .slice none 0 0, .slice none 0 0] 0)).set H5.next (.row (setCells [.int .i64 0, .string ⟨#[]⟩, .slice none 0 0, .slice none 0 0] 0 [.int .i64 m.id, .string m.chan, .slice kb m.key.length kc, .slice fb m.fields.length fc]) 0)) H5.next (.row [.int .i64 m.id, .string m.chan, .slice kb m.key.length kc, .slice fb m.fields.length fc] 0) := (Has.new _ _).set _
        generalize (H5.push (.row [.int .i64 0, .string ⟨#[]⟩, .slice none 0 0, .slice none 0 0] 0)).set H5.next (.row (setCells [.int .i64 0, .string ⟨#[]⟩, .slice none 0 0, .slice none 0 0] 0 [.int .i64 m.id, .string m.chan, .slice kb m.key.length kc, .slice fb m.fields.length fc]) 0) = H6 at hx5 hb ⊢
        refine ldI_at hb rfl (ldS_at hb rfl (ldL_at hb rfl (ldL_at hb rfl (wCall_of (refmail_call m ((g5.fr f5).fr hx5) hvs (fun H7 f7 => opS_at (wCatL (by simp only [List.length_append]; omega) ⟨x.box.length - (k + 1), by omega, f30_I1_mk ⟨k + 1, hlt, wi1 k (by omega), rfl, ?_, (f5.trans hx5).trans f7⟩⟩)))))))
        rw [e6, boxR_snoc, List.append_assoc]
      · have hkl : k = x.box.length := by omega
        subst hkl
        rw [List.take_length]
        exact h H5 f5
end
end Go.Proofs.Ytfghglacfjncmaa

/-! The reference: may an artifact be kept? -/
namespace Go.Proofs.Ytfghglacfjncmaa
set_option linter.unusedVariables false
set_option linter.unusedSimpArgs false
open Go.RowKit
section
variable {H0 H : AH} {q : Nat} {cs : List Value} {R : AEnd → AH → Prop}
set_option maxRecDepth 20000 in
set_option maxHeartbeats 4000000 in
theorem rightitem_call (x : Ite) {ab cb bb : Option Addr} {ac cc bc : Nat} (hx : IIs H x ab cb bb) (h : ∀ H', Fr [] H H' → R (.ret (.bool (decide (itemOK x)))) H') :
    ACall Try.prog 31 [.agg #[.int .i64 x.id, .string x.typ, .string x.state, .int .i64 x.since, .slice ab x.attrs.length ac, .slice cb x.counts.length cc, .slice bb x.box.length bc]] H R := by
  apply f31_call
  unfold f31_B
  refine wNew_at ?_
  have st := St.new H [.int .i64 x.id, .string x.typ, .string x.state, .int .i64 x.since, .slice ab x.attrs.length ac, .slice cb x.counts.length cc, .slice bb x.box.length bc]
  generalize H.push (.row [.int .i64 x.id, .string x.typ, .string x.state, .int .i64 x.since, .slice ab x.attrs.length ac, .slice cb x.counts.length cc, .slice bb x.box.length bc] 0) = H1 at st ⊢
  generalize H.next = q at st ⊢
  have hF : ¬ itemOK x → ∀ H', Fr [] H H' → R (.ret (.bool false)) H' := fun e H' s => by
    have := h H' s
    rwa [decide_eq_false e] at this
  refine ldS_at st.hq rfl (wIf_d (fun e => ?_) (fun e1 => ?_))
  · rw [f31_J0_eq]; unfold f31_J0_B
    exact wIf_t rfl (hF (fun y => by have := y.1; omega) _ st.fr)
  refine ldS_at st.hq rfl (wIf_d (fun e => ?_) (fun e2 => ?_))
  · rw [f31_J0_eq]; unfold f31_J0_B
    exact wIf_t rfl (hF (fun y => by have := y.2.1; omega) _ st.fr)
  refine ldL_at st.hq rfl (wCall_of (rightrow_call x.attrs (hx.attrs.fr st.fr) (fun H2 f2 => opB_at ?_)))
  replace st := st.fr1 f2
  clear f2
  refine wIf_n (fun e => ?_) (fun e => ?_)
  · rw [f31_J0_eq]; unfold f31_J0_B
    exact wIf_t rfl (hF (fun y => e y.2.2.1) _ st.fr)
  refine ldL_at st.hq rfl (wIf_d (fun e4 => ?_) (fun e4 => ?_))
  · rw [f31_J0_eq]; unfold f31_J0_B
    exact wIf_t rfl (hF (fun y => by have := y.2.2.2.1; omega) _ st.fr)
  refine ldL_at st.hq rfl ?_
  rw [f31_J0_eq]; unfold f31_J0_B
  refine wIf_d (fun e5 => hF (fun y => by have := y.2.2.2.2.1; omega) _ st.fr) (fun e5 => ?_)
  rw [f31_J1_eq]; unfold f31_J1_B
  refine wPt_at (ldL_at st.hq rfl ?_)
  obtain ⟨j, hvw⟩ := hx.counts.view
  refine f31_L0_rule (J := fun m r H' => ∃ k, k ≤ x.counts.length ∧ r = (k : Int) ∧ m = x.counts.length - k ∧ H' = H2 ∧ cntsOK (x.counts.take k)) x.counts.length
    ⟨0, Nat.zero_le _, rfl, rfl, rfl, fun n hn => by simp at hn⟩ ?_
  rintro m r H5 ⟨k, hk, rfl, rfl, rfl, hall⟩
  intros
  unfold f31_R0
  refine wIf_d (fun hlt => ?_) (fun hge => ?_)
  · have hlt : k < x.counts.length := by omega
    have hw5 := hvw.fr st.fr
    have hcell : (x.counts.map fun n => Value.int .i64 n)[k * 1]? = some (.int .i64 x.counts[k]) := by
      rw [Nat.mul_one, List.getElem?_map, List.getElem?_eq_getElem hlt]; rfl
    have e6 : x.counts.take (k + 1) = x.counts.take k ++ [x.counts[k]] := by rw [List.take_add_one, List.getElem?_eq_getElem hlt]; rfl
    have hmem := List.getElem_mem hlt
    refine hw5.ix rfl hlt (hw5.ldI (by omega) hcell (wIf_d (fun e7 => ?_) (fun e7 => ?_)))
    · rw [f31_J2_eq]; unfold f31_J2_B
      exact wIf_t rfl (hF (fun y => by have := y.2.2.2.2.2.1 _ hmem; omega) _ st.fr)
    · rw [f31_J2_eq]; unfold f31_J2_B
      refine wIf_d (fun e8 => hF (fun y => by have := y.2.2.2.2.2.1 _ hmem; omega) _ st.fr) (fun e8 => ?_)
      refine ⟨x.counts.length - (k + 1), by omega, f31_I0_mk ⟨k + 1, hlt, wi1 k (by omega), rfl, rfl, fun n hn => ?_⟩⟩
      rw [e6] at hn
      rcases List.mem_append.1 hn with hn | hn
      · exact hall n hn
      · rw [List.mem_singleton.1 hn]; omega
  · have hkl : k = x.counts.length := by omega
    subst hkl
    rw [List.take_length] at hall
    rw [f31_J3_eq]; unfold f31_J3_B
    refine wPt_at (ldL_at st.hq rfl ?_)
    obtain ⟨j2, cs2, hw2, hcs⟩ := hx.box.ex
    refine f31_L1_rule (J := fun m r H' => ∃ k, k ≤ x.box.length ∧ r = (k : Int) ∧ m = x.box.length - k ∧ Fr [] H H' ∧ boxOK (x.box.take k)) x.box.length
      ⟨0, Nat.zero_le _, rfl, rfl, st.fr, fun n hn => by simp at hn⟩ ?_
    rintro m r H5 ⟨k, hk, rfl, rfl, f5, hall2⟩
    intros
    unfold f31_R1
    refine wIf_d (fun hlt => ?_) (fun hge => ?_)
    · have hlt : k < x.box.length := by omega
      have hn0 : x.box.length ≠ 0 := by omega
      obtain ⟨kb, kc, fb, fc, g1, g2, g3, g4, g5⟩ := hcs k hlt
      have hw5 := hw2.fr f5
      refine hw5.ix rfl hlt (hw5.ldI hn0 g1 (hw5.ldS hn0 g2 (hw5.ldL hn0 g3 (hw5.ldL hn0 g4 (wNew_at (wSt_at (Has.new _ _) (by simp) ?_))))))
      have e6 : x.box.take (k + 1) = x.box.take k ++ [x.box[k]] := by rw [List.take_add_one, List.getElem?_eq_getElem hlt]; rfl
      have hmem := List.getElem_mem hlt
      generalize hve : x.box[k] = m at g1 g2 g3 g4 g5 e6 hmem
      have hx5 : Fr [] H5 ((H5.push (.row [.int .i64 0, .string ⟨#[]⟩, .slice none 0 0, .slice none 0 0] 0)).set H5.next (.row (setCells [.int .i64 0, .string ⟨#[]⟩, .slice none 0 0, .slice none 0 0] 0 [.int .i64 m.id, .string m.chan, .slice kb m.key.length kc, .slice fb m.fields.length fc]) 0)) := ((Fr.refl [] H5).push _).set (.inr (Nat.le_refl _)) _
      have hb : Has ((H5.push (.row [.int .i64 0, .string ⟨#[]⟩, .slice none 0 0, .slice none 0 0] 0)).set H5.next (.row (setCells [.int .i64 0, .string ⟨#[]⟩, .slice none 0 0, .slice none 0 0] 0 [.int .i64 m.id, .string m.chan, .slice kb m.key.length kc, .slice fb m.fields.length fc]) 0)) H5.next (.row [.int .i64 m.id, .string m.chan, .slice kb m.key.length kc, .slice fb m.fields.length fc] 0) := (Has.new _ _).set _
      generalize (H5.push (.row [.int .i64 0, .string ⟨#[]⟩, .slice none 0 0, .slice none 0 0] 0)).set H5.next (.row (setCells [.int .i64 0, .string ⟨#[]⟩, .slice none 0 0, .slice none 0 0] 0 [.int .i64 m.id, .string m.chan, .slice kb m.key.length kc, .slice fb m.fields.length fc]) 0) = H6 at hx5 hb ⊢
      refine ldI_at hb rfl (ldS_at hb rfl (ldL_at hb rfl (ldL_at hb rfl (wCall_of (rightmail_call m ((g5.fr f5).fr hx5) (fun H7 f7 => opB_at ?_))))))
      refine wIf_n (fun e9 => hF (fun y => e9 (y.2.2.2.2.2.2 _ hmem)) _ ((f5.trans hx5).trans f7)) (fun e9 => ?_)
      refine ⟨x.box.length - (k + 1), by omega, f31_I1_mk ⟨k + 1, hlt, wi1 k (by omega), rfl, (f5.trans hx5).trans f7, fun w hw => ?_⟩⟩
      rw [e6] at hw
      rcases List.mem_append.1 hw with hw | hw
      · exact hall2 w hw
      · rw [List.mem_singleton.1 hw]; exact e9
    · have hkl : k = x.box.length := by omega
      subst hkl
      rw [List.take_length] at hall2
      have := h H5 f5
      rwa [decide_eq_true (show itemOK x from ⟨by omega, by omega, e, by omega, by omega, hall, hall2⟩)] at this
end
end Go.Proofs.Ytfghglacfjncmaa
