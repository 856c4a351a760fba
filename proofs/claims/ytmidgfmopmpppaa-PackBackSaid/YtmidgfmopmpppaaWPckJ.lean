/- The statement: any things, one behind the other, are read as they were written. -/
import Derived.Test.YtmidgfmopmpppaaWPckI
import Derived.Test.YtmidgfmopmpppaaWGenQ
import Derived.Test.YtmidgfmopmpppaaWAbsO
namespace Go.Proofs.Ytmidgfmopmpppaa
set_option linter.unusedVariables false
set_option linter.unusedSimpArgs false
open Go.RowKit

theorem PinOK_at {H : AH} {o k : Nat} {cells cs : List Value} {e : Nat} (h : Has H o (.row cs e)) (hl : k + cells.length ≤ cs.length) (hc : (cs.drop k).take cells.length = cells) : PinOK o k cells H :=
  ⟨cs, by simp only [AH.cells, h.get], hl, hc⟩
/-- The things that came in. -/
structure Things where
  w : Nat → Int
  n : Nat → Nat
  s : Nat → ByteArray
def Things.by (T : Things) (k : Nat) : ByteArray := tby (T.w k) (T.n k) (T.s k)
def Things.cat (T : Things) : Nat → ByteArray
  | 0 => ⟨#[]⟩
  | k + 1 => T.cat k ++ T.by k
def Things.rest (T : Things) : Nat → Nat → ByteArray
  | k, 0 => ⟨#[]⟩
  | k, m + 1 => T.by k ++ T.rest (k + 1) m
theorem Things.cat_rest (T : Things) (m : Nat) : ∀ k, T.cat k ++ T.rest k m = T.cat (k + m) := by
  induction m with
  | zero => intro k; show T.cat k ++ ByteArray.empty = T.cat k; simp
  | succ m ih =>
    intro k
    show T.cat k ++ (T.by k ++ T.rest (k + 1) m) = T.cat (k + (m + 1))
    rw [← ByteArray.append_assoc]
    have := ih (k + 1)
    rw [show k + (m + 1) = k + 1 + m from by omega, ← this]
    rfl
theorem Things.rest_all (T : Things) (m : Nat) : T.rest 0 m = T.cat m := by
  have := T.cat_rest m 0
  rw [Nat.zero_add] at this
  rw [← this]
  show _ = (⟨#[]⟩ : ByteArray) ++ _
  have e : (⟨#[]⟩ : ByteArray) = ByteArray.empty := rfl
  rw [e]; simp
theorem tby_size (w : Int) (n : Nat) (s : ByteArray) : (tby w n s).size ≤ 10 + s.size := by
  unfold tby
  split
  · rw [ofL_size]; have := vb_length (zz (IntKind.i64.wrap n)); omega
  · rw [ofL_size]; simp; omega
  · unfold tb; rw [ByteArray.size_append, ofL_size]; have := vb_length s.size; omega
  · rw [ofL_size]; have := vb_length n; omega

theorem tmod2 (n : Nat) : Int.tmod (n : Int) 2 = ((n % 2 : Nat) : Int) := rfl
theorem rdT2 (n : Nat) (r : ByteArray) : rdH (ofL [if n % 2 = 1 then 1 else 0] ++ r) 0 = (decide (n % 2 = 1), r, 0) := by
  have := rdH_app (decide (n % 2 = 1)) r
  simpa using this

section
variable {H : AH}
set_option maxRecDepth 20000 in
set_option maxHeartbeats 2000000 in
theorem packBack_law (T : Things) (b : Option Addr) (len cap : Nat) (hb : 0 < len → b = some ⟨0, 0, none⟩) (cs : List Value) (hlen : len ≤ 9223372036854775807) (hn : ∀ i, i < len → T.n i < 18446744073709551616) (hs : ∀ i, i < len → (T.s i).size ≤ 9223372036854775807)
    (hc : ∀ i, i < len → cs[i * 3]? = some (.int .i64 (T.w i)) ∧ cs[i * 3 + 1]? = some (.int .u64 (T.n i)) ∧ cs[i * 3 + 2]? = some (.string (T.s i)))
    (hro : 0 < len → Has H 0 (.ro cs 3)) : ACall Try.prog 12 [.slice b len cap] H AllTrue := by
  apply f12_call
  unfold f12_B
  refine wCall_of (pawake_call (fun H1 f1 => opB_at (wIf_f rfl ?_)))
  refine f12_L0_rule (J := fun m s3 s14 _ _ _ _ H' => ∃ k, m = len - k ∧ k ≤ len ∧ s14 = (k : Int) ∧ s3 = T.cat k ∧ Fr [] H H' ∧ (T.cat k).size ≤ k * 1010 ∧ (0 < k → len ≤ 100) ∧ ∀ i, i < k → (T.s i).size ≤ 1000) len
    ⟨0, rfl, Nat.zero_le _, rfl, rfl, f1, Nat.le_refl _, fun h => absurd h (Nat.lt_irrefl _), fun i hi => absurd hi (Nat.not_lt_zero _)⟩ ?_
  rintro m s3 s14 _ _ _ _ H2 ⟨k, rfl, hk, rfl, rfl, f2, hsz, h100, h1000⟩
  intros
  unfold f12_R0
  refine wIf_d (fun hlt => ?_) (fun hlt => ?_)
  · have hkl : k < len := by omega
    obtain ⟨c0, c1, c2⟩ := hc k hkl
    have hb' := hb (by omega)
    subst hb'
    have hd2 := (hro (by omega)).fr f2 (by simp)
    refine wIx_at (by omega) (by omega) ?_
    rw [Int.toNat_natCast, Nat.zero_add]
    refine ldI_ro hd2 c0 (ldI_ro hd2 c1 (ldS_ro hd2 c2 (wNew_at ?_)))
    have hn2 := Has.new H2 (.row [.int .i64 0, .int .u64 0, .string ⟨#[]⟩] 0)
    refine wSt_at hn2 (by simp) ?_
    have hn3 := hn2.set (.row (setCells [.int .i64 0, .int .u64 0, .string ⟨#[]⟩] 0 [.int .i64 (T.w k), .int .u64 (T.n k), .string (T.s k)]) 0)
    have f3 : Fr [] H ((H2.push (.row [.int .i64 0, .int .u64 0, .string ⟨#[]⟩] 0)).set H2.next (.row (setCells [.int .i64 0, .int .u64 0, .string ⟨#[]⟩] 0 [.int .i64 (T.w k), .int .u64 (T.n k), .string (T.s k)]) 0)) :=
      (f2.push _).set (.inr f2.next) _
    generalize (H2.push (.row [.int .i64 0, .int .u64 0, .string ⟨#[]⟩] 0)).set H2.next (.row (setCells [.int .i64 0, .int .u64 0, .string ⟨#[]⟩] 0 [.int .i64 (T.w k), .int .u64 (T.n k), .string (T.s k)]) 0) = H3 at hn3 f3 ⊢
    refine wIf_d (fun hgt => ?_) (fun hgt => ?_)
    · rw [f12_J0_eq]
      unfold f12_J0_B
      exact wIf_t rfl (wCall_of (pawake_call (fun H4 _ => opB_at rfl)))
    · refine ldS_at hn3 rfl ?_
      rw [f12_J0_eq]
      unfold f12_J0_B
      refine wIf_d (fun hbig => ?_) (fun hbig => ?_)
      · exact wCall_of (pawake_call (fun H4 _ => opB_at rfl))
      · rw [f12_J1_eq]
        unfold f12_J1_B
        have htb := tby_size (T.w k) (T.n k) (T.s k)
        refine wPt_at (ldI_at hn3 rfl (ldI_at hn3 rfl (ldS_at hn3 rfl (wCall_of (bytes_call _ _ (hn k hkl) (by omega) (fun H4 f4 => opS_at (wCat_at (by omega) ?_)))))))
        refine ⟨len - (k + 1), by omega, f12_I0_mk ⟨k + 1, rfl, by omega, wi1 k (by omega), rfl, f3.trans f4, ?_, fun _ => by omega, fun i hi => ?_⟩⟩
        · show (T.cat k ++ T.by k).size ≤ _
          rw [ByteArray.size_append]
          have : (T.by k).size = (tby (T.w k) (T.n k) (T.s k)).size := rfl
          omega
        · rcases Nat.lt_or_ge i k with h | h
          · exact h1000 i h
          · have : i = k := by omega
            subst this; omega
  · have hkl : k = len := by omega
    subst hkl
    rw [f12_J2_eq]
    unfold f12_J2_B
    refine wCall_of (rnew_call _ (opP_at ?_))
    have hr := Has.new H2 (rdr (T.cat k) 0)
    have fr : Fr [] H (H2.push (rdr (T.cat k) 0)) := f2.push _
    have hge : H.next ≤ H2.next := f2.next
    generalize H2.push (rdr (T.cat k) 0) = H3 at hr fr ⊢
    generalize H2.next = r at hr hge ⊢
    refine f12_L1_rule (J := fun m s37 H' => ∃ j, m = k - j ∧ j ≤ k ∧ s37 = (j : Int) ∧ Has H' r (rdr (T.rest j (k - j)) 0) ∧ Fr [] H H') k
      ⟨0, rfl, Nat.zero_le _, rfl, by rw [Nat.sub_zero, T.rest_all]; exact hr, fr⟩ ?_
    rintro m s37 H4 ⟨j, rfl, hj, rfl, hr4, f4⟩
    intros
    unfold f12_R1
    refine wIf_d (fun hlt => ?_) (fun hlt => ?_)
    · have hjl : j < k := by omega
      obtain ⟨c0, c1, c2⟩ := hc j hjl
      have hb' := hb (by omega)
      subst hb'
      have hd4 := (hro (by omega)).fr f4 (by simp)
      have hnj := hn j hjl
      have hsj := h1000 j hjl
      have hdr : T.rest j (k - j) = tby (T.w j) (T.n j) (T.s j) ++ T.rest (j + 1) (k - (j + 1)) := by
        rw [show k - j = (k - (j + 1)) + 1 from by omega]; rfl
      rw [hdr] at hr4
      have hrs : (T.rest (j + 1) (k - (j + 1))).size ≤ 101000 := by
        have h1 := congrArg ByteArray.size (T.cat_rest (k - (j + 1)) (j + 1))
        rw [ByteArray.size_append, show j + 1 + (k - (j + 1)) = k from by omega] at h1
        have := h100 (by omega)
        omega
      generalize hrest : T.rest (j + 1) (k - (j + 1)) = rest at hr4 hrs
      refine wIx_at (by omega) (by omega) ?_
      rw [Int.toNat_natCast, Nat.zero_add]
      refine ldI_ro hd4 c0 (ldI_ro hd4 c1 (ldS_ro hd4 c2 (wNew_at ?_)))
      have hn2 := Has.new H4 (.row [.int .i64 0, .int .u64 0, .string ⟨#[]⟩] 0)
      refine wSt_at hn2 (by simp) ?_
      have hn3 := hn2.set (.row (setCells [.int .i64 0, .int .u64 0, .string ⟨#[]⟩] 0 [.int .i64 (T.w j), .int .u64 (T.n j), .string (T.s j)]) 0)
      have hr5 := (hr4.push (.row [.int .i64 0, .int .u64 0, .string ⟨#[]⟩] 0)).setne hr4.ne (.row (setCells [.int .i64 0, .int .u64 0, .string ⟨#[]⟩] 0 [.int .i64 (T.w j), .int .u64 (T.n j), .string (T.s j)]) 0)
      have hne : H4.next ≠ r := hr4.ne'
      have f5 : Fr [] H ((H4.push (.row [.int .i64 0, .int .u64 0, .string ⟨#[]⟩] 0)).set H4.next (.row (setCells [.int .i64 0, .int .u64 0, .string ⟨#[]⟩] 0 [.int .i64 (T.w j), .int .u64 (T.n j), .string (T.s j)]) 0)) :=
        (f4.push _).set (.inr f4.next) _
      generalize (H4.push (.row [.int .i64 0, .int .u64 0, .string ⟨#[]⟩] 0)).set H4.next (.row (setCells [.int .i64 0, .int .u64 0, .string ⟨#[]⟩] 0 [.int .i64 (T.w j), .int .u64 (T.n j), .string (T.s j)]) 0) = H5 at hn3 hr5 f5 ⊢
      generalize H4.next = o at hn3 hne ⊢
      refine ldI_at hn3 rfl ?_
      have hwr : -9223372036854775808 ≤ IntKind.i64.wrap (T.n j : Int) ∧ IntKind.i64.wrap (T.n j : Int) ≤ 9223372036854775807 := by rw [wrapi64_eq]; split <;> omega
      have htz := tby_size (T.w j) (T.n j) (T.s j)
      unfold tby tkind at hr5
      generalize (T.w j).tmod 4 = q at hr5 ⊢
      refine wIf_d (fun a1 => ?_) (fun a1 => ?_)
      · rw [if_pos (.inl a1)] at hr5
        rw [f12_J3_eq]
        unfold f12_J3_B
        refine wIf_t rfl ?_
        replace hr5 : Has H5 r (rdr (ofL (vb (zz (IntKind.i64.wrap (T.n j)))) ++ rest) 0) := hr5
        refine wPt_at (ldI_at hn3 rfl (wCall_of (rnumber_call hr5 (fun H6 d6 f6 => opI_at ⟨PinOK_at (hn3.fr f6 (by simp; exact hne)) (by simp [setCells]) rfl, ?_⟩))))
        have hx := rdC_app (zz (IntKind.i64.wrap (T.n j))) (zz_lt _ hwr.1 hwr.2) rest
        rw [hx] at d6
        rw [hx]
        rw [f12_J6_eq]
        unfold f12_J6_B
        exact wIf_nf (uz_zz _) ⟨k - (j + 1), by omega, f12_I1_mk ⟨j + 1, rfl, by omega, wi1 j (by omega), by rw [hrest]; exact d6, f5.trans' f6 (fun i hi => .inr (by simp at hi; omega))⟩⟩
      · rw [f12_J3_eq]
        unfold f12_J3_B
        refine wIf_d (fun b1 => ?_) (fun b1 => ?_)
        · rw [if_pos (.inr b1)] at hr5
          replace hr5 : Has H5 r (rdr (ofL (vb (zz (IntKind.i64.wrap (T.n j)))) ++ rest) 0) := hr5
          refine wPt_at (ldI_at hn3 rfl (wCall_of (rnumber_call hr5 (fun H6 d6 f6 => opI_at ⟨PinOK_at (hn3.fr f6 (by simp; exact hne)) (by simp [setCells]) rfl, ?_⟩))))
          have hx := rdC_app (zz (IntKind.i64.wrap (T.n j))) (zz_lt _ hwr.1 hwr.2) rest
          rw [hx] at d6
          rw [hx]
          rw [f12_J6_eq]
          unfold f12_J6_B
          exact wIf_nf (uz_zz _) ⟨k - (j + 1), by omega, f12_I1_mk ⟨j + 1, rfl, by omega, wi1 j (by omega), by rw [hrest]; exact d6, f5.trans' f6 (fun i hi => .inr (by simp at hi; omega))⟩⟩
        · rw [if_neg (by omega)] at hr5
          refine wIf_d (fun a2 => ?_) (fun a2 => ?_)
          · rw [if_pos (.inl a2)] at hr5
            rw [f12_J4_eq]
            unfold f12_J4_B
            refine wIf_t rfl ?_
            replace hr5 : Has H5 r (rdr (ofL [if T.n j % 2 = 1 then 1 else 0] ++ rest) 0) := hr5
            refine wPt_at (ldI_at hn3 rfl (wCall_of (rtruth_call hr5 (fun H6 d6 f6 => opB_at ⟨PinOK_at (hn3.fr f6 (by simp; exact hne)) (by simp [setCells]) rfl, ?_⟩))))
            have hx := rdT2 (T.n j) rest
            rw [hx] at d6
            rw [hx]
            rw [f12_J6_eq]
            unfold f12_J6_B
            exact wIf_f (by simp [tmod2]; omega) ⟨k - (j + 1), by omega, f12_I1_mk ⟨j + 1, rfl, by omega, wi1 j (by omega), by rw [hrest]; exact d6, f5.trans' f6 (fun i hi => .inr (by simp at hi; omega))⟩⟩
          · rw [f12_J4_eq]
            unfold f12_J4_B
            refine wIf_d (fun b2 => ?_) (fun b2 => ?_)
            · rw [if_pos (.inr b2)] at hr5
              replace hr5 : Has H5 r (rdr (ofL [if T.n j % 2 = 1 then 1 else 0] ++ rest) 0) := hr5
              refine wPt_at (ldI_at hn3 rfl (wCall_of (rtruth_call hr5 (fun H6 d6 f6 => opB_at ⟨PinOK_at (hn3.fr f6 (by simp; exact hne)) (by simp [setCells]) rfl, ?_⟩))))
              have hx := rdT2 (T.n j) rest
              rw [hx] at d6
              rw [hx]
              rw [f12_J6_eq]
              unfold f12_J6_B
              exact wIf_f (by simp [tmod2]; omega) ⟨k - (j + 1), by omega, f12_I1_mk ⟨j + 1, rfl, by omega, wi1 j (by omega), by rw [hrest]; exact d6, f5.trans' f6 (fun i hi => .inr (by simp at hi; omega))⟩⟩
            · rw [if_neg (by omega)] at hr5
              refine wIf_d (fun a3 => ?_) (fun a3 => ?_)
              · rw [if_pos (.inl a3)] at hr5
                rw [f12_J5_eq]
                unfold f12_J5_B
                refine wIf_t rfl ?_
                replace hr5 : Has H5 r (rdr (tb (T.s j) ++ rest) 0) := hr5
                refine wPt_at (ldS_at hn3 rfl (wCall_of (rtext_call 1000 (by rw [ByteArray.size_append]; unfold tb; rw [ByteArray.size_append, ofL_size]; have := vb_length (T.s j).size; omega) (by omega) (by omega) hr5 (fun H6 d6 f6 => opS_at ⟨PinOK_at (hn3.fr f6 (by simp; exact hne)) (by simp [setCells]) rfl, ?_⟩))))
                have hx := rdT_app (T.s j) 1000 (by omega) (by omega) rest
                rw [hx] at d6
                rw [hx]
                rw [f12_J6_eq]
                unfold f12_J6_B
                exact wIf_nf rfl ⟨k - (j + 1), by omega, f12_I1_mk ⟨j + 1, rfl, by omega, wi1 j (by omega), by rw [hrest]; exact d6, f5.trans' f6 (fun i hi => .inr (by simp at hi; omega))⟩⟩
              · rw [f12_J5_eq]
                unfold f12_J5_B
                refine wIf_d (fun b3 => ?_) (fun b3 => ?_)
                · rw [if_pos (.inr b3)] at hr5
                  replace hr5 : Has H5 r (rdr (tb (T.s j) ++ rest) 0) := hr5
                  refine wPt_at (ldS_at hn3 rfl (wCall_of (rtext_call 1000 (by rw [ByteArray.size_append]; unfold tb; rw [ByteArray.size_append, ofL_size]; have := vb_length (T.s j).size; omega) (by omega) (by omega) hr5 (fun H6 d6 f6 => opS_at ⟨PinOK_at (hn3.fr f6 (by simp; exact hne)) (by simp [setCells]) rfl, ?_⟩))))
                  have hx := rdT_app (T.s j) 1000 (by omega) (by omega) rest
                  rw [hx] at d6
                  rw [hx]
                  rw [f12_J6_eq]
                  unfold f12_J6_B
                  exact wIf_nf rfl ⟨k - (j + 1), by omega, f12_I1_mk ⟨j + 1, rfl, by omega, wi1 j (by omega), by rw [hrest]; exact d6, f5.trans' f6 (fun i hi => .inr (by simp at hi; omega))⟩⟩
                · rw [if_neg (by omega)] at hr5
                  replace hr5 : Has H5 r (rdr (ofL (vb (T.n j)) ++ rest) 0) := hr5
                  refine wPt_at (ldI_at hn3 rfl (wCall_of (rcount_call hr5 (fun H6 d6 f6 => opI_at ⟨PinOK_at (hn3.fr f6 (by simp; exact hne)) (by simp [setCells]) rfl, ?_⟩))))
                  have hx := rdC_app (T.n j) hnj rest
                  rw [hx] at d6
                  rw [hx]
                  rw [f12_J6_eq]
                  unfold f12_J6_B
                  exact wIf_nf rfl ⟨k - (j + 1), by omega, f12_I1_mk ⟨j + 1, rfl, by omega, wi1 j (by omega), by rw [hrest]; exact d6, f5.trans' f6 (fun i hi => .inr (by simp at hi; omega))⟩⟩
    · have hjl : j = k := by omega
      subst hjl
      rw [f12_J7_eq]
      unfold f12_J7_B
      rw [Nat.sub_self] at hr4
      refine wCall_of (pawake_call (fun H5 f5 => opB_at (wIf_t rfl ?_)))
      have hr5 := hr4.fr f5 (by simp)
      refine wCall_of (end_call hr5 (opI_at (wIf_dt rfl ?_)))
      exact wCall_of (left_call hr5 (opI_at rfl))
end
end Go.Proofs.Ytmidgfmopmpppaa
