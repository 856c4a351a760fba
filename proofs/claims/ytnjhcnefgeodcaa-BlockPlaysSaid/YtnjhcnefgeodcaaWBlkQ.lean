/- The statement: behind any calls, the device is what the document says: the walk. -/
import Derived.Test.YtnjhcnefgeodcaaWBlkP
import Derived.Test.YtnjhcnefgeodcaaWBlkJ
namespace Go.Proofs.Ytnjhcnefgeodcaa
set_option linter.unusedVariables false
set_option linter.unusedSimpArgs false
open Go.RowKit
theorem same_cat (l : List ByteArray) : (!decide (catL l = ofL (l.map (·.data.toList)).flatten)) = false := by rw [decide_eq_true (show catL l = ofL (l.map (·.data.toList)).flatten from rfl)]; rfl
theorem RefAt.own' {H : AH} {i jl jw jt n : Nat} {d : Dev} (h : RefAt H i jl jw jt n d) : ∃ al aw, Has H i (.row [.slice al d.lasts.length 0, .slice aw d.waits.length 0, .bool d.off, .int .i64 d.left, .int .u64 d.crash.keep, .int .i64 d.crash.torn, .int .i64 d.crash.at_, slV jt n] 0) := by
  obtain ⟨al, hal, _⟩ := slV_eq jl d.lasts.length
  obtain ⟨aw, haw, _⟩ := slV_eq jw d.waits.length
  have := h.own
  rw [refRow_eq hal haw rfl] at this
  exact ⟨al, aw, this⟩
theorem Leaf.succ {H0 H : AH} {i jl p pl k : Nat} {d : Dev} (h : Leaf H0 H i jl p pl k d) : Leaf H0 H i jl p pl (k + 1) d := by
  obtain ⟨⟨jw, pw, pt, n, h1, h2, h3⟩, h4, h5, h6, h7⟩ := h
  exact ⟨⟨jw, pw, pt, n, h1, h2, by omega⟩, h4, h5, by omega, h7⟩
theorem range_u64 {n : Int} (h : (Lit.int .u64 n).wf = true) : 0 ≤ n ∧ n < 18446744073709551616 := by
  have h' : 0 ≤ n ∧ n ≤ 18446744073709551615 := by simpa [Lit.wf, IntKind.min, IntKind.max, IntKind.signed, IntKind.bits] using h
  omega
theorem range_i64 {n : Int} (h : (Lit.int .i64 n).wf = true) : -9223372036854775808 ≤ n ∧ n ≤ 9223372036854775807 := by
  simpa [Lit.wf, IntKind.min, IntKind.max, IntKind.signed, IntKind.bits] using h
theorem newDev_cr (m : Nat) : (newDev m).crash.ok := ⟨by show (0 : Int) ≤ 0; omega, by show (0 : Int) < _; omega⟩
theorem fill_cr (d : Dev) (s : ByteArray) (h : d.crash.ok) : (d.fill s).crash.ok := h
theorem fill_wt (d : Dev) (s : ByteArray) : (d.fill s).waits.length ≤ 0 := Nat.le_refl _
theorem newDev_wt (m : Nat) : (newDev m).waits.length ≤ 0 := Nat.le_refl _
attribute [local irreducible] Dev.read Dev.write Dev.flush Dev.kill Dev.fill Dev.lost Dev.blow sectorOf catL newDev
set_option maxRecDepth 20000 in
set_option maxHeartbeats 40000000 in
theorem blockPlays_law (H : AH) (a0 : Int) (w0 : (Lit.int .i64 a0).wf = true) (v1 : Value) (d1 : CD) (l1 : Lie H d1 v1) (k1 : Kd (.sl 7 actK) d1) : ACall Try.prog 6 [.int .i64 a0, v1] H AllTrue := by
  obtain ⟨b, len, cap, i0, vs, rfl, S⟩ := sl_of l1 k1 rfl
  clear l1 k1
  apply f6_call
  unfold f6_B
  generalize (if 30 < a0 then 30 else a0) = a1
  refine wCall_of (awake_call (fun H1 f1 => opB_at (wIf_f rfl (wCall_of (new_call _ (fun H2 i jl hda f2 hi hjl => opP_at (wCall_of (rnew_call _ (fun H3 p pl hrb f3 hp hpl hplt => opP_at (wCall_of (awake_call (fun H4 f4 => opB_at (wIf_f rfl ?_)))))))))))))
  rw [f6_J0_eq]
  unfold f6_J0_B
  refine wIf_d (fun h60 => wCall_of (awake_call (fun H5 f5 => opB_at rfl))) (fun h60 => ?_)
  rw [f6_J1_eq]
  unfold f6_J1_B
  have hmle := sectorsOf_le a1
  generalize sectorsOf a1 = mm at hmle hda hrb
  have g1 := f1.next
  have g2 := f2.next
  have g3 := f3.next
  have g4 := f4.next
  have x1 := hda.own.lt
  have x2 := hda.lasts.lt
  have x3 := hrb.own.lt
  have hl60 : len ≤ 60 := by omega
  have lf0 : Leaf H H4 i jl p pl 0 (newDev mm) :=
    ⟨⟨i, p, p, 0, ⟨hda.fr (f3.trans f4) (by simp), hrb.fr0 f4, ⟨by omega, by omega, by omega⟩, by omega⟩, by omega, by omega⟩, newDev_ok mm hmle, newDev_cr mm, newDev_wt mm, ((f1.trans f2).trans f3).trans f4⟩
  refine f6_L0_rule (J := fun m r H' => ∃ (k : Nat) (d : Dev), k ≤ len ∧ r = (k : Int) ∧ m = len - k ∧ Leaf H H' i jl p pl k d) len ⟨0, _, by omega, rfl, by omega, lf0⟩ ?_
  rintro m r H5 ⟨k, d, hk, rfl, rfl, lf5⟩
  intros
  unfold f6_R0
  refine wIf_d (fun hlt => ?_) (fun hge => rfl)
  have hkl : k < len := by omega
  have S5 := S.fr lf5.fr
  obtain ⟨v0, e0, _⟩ := S.int hkl 0 rfl
  obtain ⟨v1, e1, _⟩ := S.int hkl 1 rfl
  obtain ⟨v2, e2, w2⟩ := S.int hkl 2 rfl
  obtain ⟨v3, e3, hv3⟩ := S.str hkl 3 rfl
  obtain ⟨c4, e4, w4⟩ := S.int hkl 4 rfl
  obtain ⟨c5, e5, _⟩ := S.int hkl 5 rfl
  obtain ⟨c6, e6, _⟩ := S.int hkl 6 rfl
  have hv3 : v3.size ≤ 9223372036854775807 := hv3
  have hv2 : v2 ≤ 9223372036854775807 := (range_i64 w2).2
  have hcr : (⟨c4, c5, c6⟩ : Cr).ok := range_u64 w4
  clear w2 w4
  have R5 := S5.has (by omega)
  refine wIx_sl S5 rfl hkl (ldI_ro R5 e0 (ldI_ro R5 e1 (ldI_ro R5 e2 (ldS_ro R5 e3 (ldI_ro R5 e4 (ldI_ro R5 e5 (ldI_ro R5 e6 (wNew_at (wSt_at (Has.new _ _) (by simp) ?_)))))))))
  have hx : Fr [] H5 ((H5.push (.row [.int .i64 0, .int .i64 0, .int .i64 0, .string ⟨#[]⟩, .int .u64 0, .int .i64 0, .int .i64 0] 0)).set H5.next (.row (setCells [.int .i64 0, .int .i64 0, .int .i64 0, .string ⟨#[]⟩, .int .u64 0, .int .i64 0, .int .i64 0] 0 [.int .i64 v0, .int .i64 v1, .int .i64 v2, .string v3, .int .u64 c4, .int .i64 c5, .int .i64 c6]) 0)) := ((Fr.refl [] H5).push _).set (.inr (Nat.le_refl _)) _
  have hb : Has ((H5.push (.row [.int .i64 0, .int .i64 0, .int .i64 0, .string ⟨#[]⟩, .int .u64 0, .int .i64 0, .int .i64 0] 0)).set H5.next (.row (setCells [.int .i64 0, .int .i64 0, .int .i64 0, .string ⟨#[]⟩, .int .u64 0, .int .i64 0, .int .i64 0] 0 [.int .i64 v0, .int .i64 v1, .int .i64 v2, .string v3, .int .u64 c4, .int .i64 c5, .int .i64 c6]) 0)) H5.next
      (.row [.int .i64 v0, .int .i64 v1, .int .i64 v2, .string v3, .int .u64 c4, .int .i64 c5, .int .i64 c6] 0) := (Has.new _ _).set _
  generalize (H5.push (.row [.int .i64 0, .int .i64 0, .int .i64 0, .string ⟨#[]⟩, .int .u64 0, .int .i64 0, .int .i64 0] 0)).set H5.next (.row (setCells [.int .i64 0, .int .i64 0, .int .i64 0, .string ⟨#[]⟩, .int .u64 0, .int .i64 0, .int .i64 0] 0 [.int .i64 v0, .int .i64 v1, .int .i64 v2, .string v3, .int .u64 c4, .int .i64 c5, .int .i64 c6]) 0) = H6 at hx hb ⊢
  have lf6 := lf5.frame hx
  obtain ⟨⟨jw, pw, pt, n, pr5, hg, hn⟩, ok, cr, wt, fr5⟩ := lf5
  have pr := pr5.frame hx
  have y1 := pr5.a.own.lt
  have y2 := pr5.a.lasts.lt
  have y3 := pr5.a.jlt
  have hnn : n + d.waits.length ≤ 1099511627776 := by omega
  generalize H5.next = q at hb y1 y2 y3 ⊢
  have q1 : q ∉ [i] := by simp; omega
  have q2 : q ∉ [i, jl] := by simp; omega
  have q3 : q ∉ [i, jl, jw] := by simp; omega
  clear e0 e1 e2 e3 e4 e5 e6 R5 S5 S fr5 hx pr5 lf0 hda hrb x1 x2 x3 g1 g2 g3 g4 f1 f2 f3 f4
  refine ldI_at hb rfl ?_
  generalize Int.tmod v0 9 = z
  refine wIf_d (fun _ => ?_) (fun _ => ?_)
  · rw [f6_J2_eq]
    unfold f6_J2_B
    refine wIf_t rfl ?_
    refine wPt_at (ldI_at hb rfl (wCall_of (read_call pr.a ok v1 (opT_at rfl (opS_at (opI_at (wPt_at (ldI_at hb rfl (wCall_of (rread_call pr.b ok v1 (fun H8 f8 => opT_at rfl (opS_at (opI_at (wIf_dt rfl (wf (lf6.succ.frame f8) fun lf9 => ?_)))))))))))))))
    show f6_J8 _ _ _ _
    rw [f6_J8_eq]
    unfold f6_J8_B
    have lfk := lf9
    obtain ⟨⟨jw9, pw9, pt9, n9, pr9, hg9, hn9⟩, ok9, cr9, wt9, fr9⟩ := lf9
    obtain ⟨al9, aw9, own9⟩ := pr9.b.own'
    refine wIf_f (by simp) (wPt_at ⟨wCall_of (off_call pr9.a (opB_at (ldB_at own9 rfl (wIf_f (by simp) (wPt_at ⟨wCall_of (waits_call pr9.a (opI_at (ldL_at own9 rfl (wIf_f (by simp) (wCall_of (lasting_call pr9.a ok9 (opS_at (wCall_of (rlasting_call pr9.b ok9 (fun HA fA => opS_at ?_)))))))))), ldL_at own9 rfl (wCall_of (waits_call pr9.a (opI_at (wIf_f (by simp) (wCall_of (lasting_call pr9.a ok9 (opS_at (wCall_of (rlasting_call pr9.b ok9 (fun HA fA => opS_at ?_))))))))))⟩))))),
      ldB_at own9 rfl (wCall_of (off_call pr9.a (opB_at (wIf_f (by simp) (wPt_at ⟨wCall_of (waits_call pr9.a (opI_at (ldL_at own9 rfl (wIf_f (by simp) (wCall_of (lasting_call pr9.a ok9 (opS_at (wCall_of (rlasting_call pr9.b ok9 (fun HA fA => opS_at ?_)))))))))), ldL_at own9 rfl (wCall_of (waits_call pr9.a (opI_at (wIf_f (by simp) (wCall_of (lasting_call pr9.a ok9 (opS_at (wCall_of (rlasting_call pr9.b ok9 (fun HA fA => opS_at ?_))))))))))⟩)))))⟩)
    all_goals
      rw [f6_J9_eq]
      unfold f6_J9_B
      exact wIf_f (same_cat _) ⟨len - (k + 1), by omega, f6_I0_mk ⟨k + 1, _, hkl, wi1 k (by omega), rfl, lfk.frame fA⟩⟩
  · rw [f6_J2_eq]
    unfold f6_J2_B
    refine wIf_d (fun _ => ?_) (fun _ => ?_)
    ·  skip
       refine wPt_at (ldI_at hb rfl (wCall_of (read_call pr.a ok v1 (opT_at rfl (opS_at (opI_at (wPt_at (ldI_at hb rfl (wCall_of (rread_call pr.b ok v1 (fun H8 f8 => opT_at rfl (opS_at (opI_at (wIf_dt rfl (wf (lf6.succ.frame f8) fun lf9 => ?_)))))))))))))))
       show f6_J8 _ _ _ _
       rw [f6_J8_eq]
       unfold f6_J8_B
       have lfk := lf9
       obtain ⟨⟨jw9, pw9, pt9, n9, pr9, hg9, hn9⟩, ok9, cr9, wt9, fr9⟩ := lf9
       obtain ⟨al9, aw9, own9⟩ := pr9.b.own'
       refine wIf_f (by simp) (wPt_at ⟨wCall_of (off_call pr9.a (opB_at (ldB_at own9 rfl (wIf_f (by simp) (wPt_at ⟨wCall_of (waits_call pr9.a (opI_at (ldL_at own9 rfl (wIf_f (by simp) (wCall_of (lasting_call pr9.a ok9 (opS_at (wCall_of (rlasting_call pr9.b ok9 (fun HA fA => opS_at ?_)))))))))), ldL_at own9 rfl (wCall_of (waits_call pr9.a (opI_at (wIf_f (by simp) (wCall_of (lasting_call pr9.a ok9 (opS_at (wCall_of (rlasting_call pr9.b ok9 (fun HA fA => opS_at ?_))))))))))⟩))))),
         ldB_at own9 rfl (wCall_of (off_call pr9.a (opB_at (wIf_f (by simp) (wPt_at ⟨wCall_of (waits_call pr9.a (opI_at (ldL_at own9 rfl (wIf_f (by simp) (wCall_of (lasting_call pr9.a ok9 (opS_at (wCall_of (rlasting_call pr9.b ok9 (fun HA fA => opS_at ?_)))))))))), ldL_at own9 rfl (wCall_of (waits_call pr9.a (opI_at (wIf_f (by simp) (wCall_of (lasting_call pr9.a ok9 (opS_at (wCall_of (rlasting_call pr9.b ok9 (fun HA fA => opS_at ?_))))))))))⟩)))))⟩)
       all_goals
         rw [f6_J9_eq]
         unfold f6_J9_B
         exact wIf_f (same_cat _) ⟨len - (k + 1), by omega, f6_I0_mk ⟨k + 1, _, hkl, wi1 k (by omega), rfl, lfk.frame fA⟩⟩
    ·  skip
       refine wIf_d (fun _ => ?_) (fun _ => wIf_d (fun _ => ?_) (fun _ => wIf_d (fun _ => ?_) (fun _ => ?_)))
       · rw [f6_J3_eq]
         unfold f6_J3_B
         refine wIf_t rfl ?_
         refine wCall_of (flush_call pr.a ok (fun H7 j7 hd7 f7 hj7 => opI_at (wCall_of (rflush_call (pr.stepA hd7 (f7.mono (by simp)) (by rcases hj7 with e | e; exact .inl e; exact .inr (.inl e))).b ok hnn cr (fun H8 pt8 n8 hd8 f8 ho8 hn8 hj8 => opI_at (wf (Leaf.of (k := k) lf6.fr pr hg hd7 (f7.mono (by simp)) (by rcases hj7 with e | e; exact .inl e; exact .inr (.inl e)) hd8 (f8.mono (by simp)) (.inl rfl) (.inr rfl) ho8 hj8 (by omega) ok.flush (by rw [flush_crash]; exact cr) (Nat.le_trans (flush_waits _) (by omega))) fun lf9 => ?_))))))
         show f6_J8 _ _ _ _
         rw [f6_J8_eq]
         unfold f6_J8_B
         have lfk := lf9
         obtain ⟨⟨jw9, pw9, pt9, n9, pr9, hg9, hn9⟩, ok9, cr9, wt9, fr9⟩ := lf9
         obtain ⟨al9, aw9, own9⟩ := pr9.b.own'
         refine wIf_f (by simp) (wPt_at ⟨wCall_of (off_call pr9.a (opB_at (ldB_at own9 rfl (wIf_f (by simp) (wPt_at ⟨wCall_of (waits_call pr9.a (opI_at (ldL_at own9 rfl (wIf_f (by simp) (wCall_of (lasting_call pr9.a ok9 (opS_at (wCall_of (rlasting_call pr9.b ok9 (fun HA fA => opS_at ?_)))))))))), ldL_at own9 rfl (wCall_of (waits_call pr9.a (opI_at (wIf_f (by simp) (wCall_of (lasting_call pr9.a ok9 (opS_at (wCall_of (rlasting_call pr9.b ok9 (fun HA fA => opS_at ?_))))))))))⟩))))),
           ldB_at own9 rfl (wCall_of (off_call pr9.a (opB_at (wIf_f (by simp) (wPt_at ⟨wCall_of (waits_call pr9.a (opI_at (ldL_at own9 rfl (wIf_f (by simp) (wCall_of (lasting_call pr9.a ok9 (opS_at (wCall_of (rlasting_call pr9.b ok9 (fun HA fA => opS_at ?_)))))))))), ldL_at own9 rfl (wCall_of (waits_call pr9.a (opI_at (wIf_f (by simp) (wCall_of (lasting_call pr9.a ok9 (opS_at (wCall_of (rlasting_call pr9.b ok9 (fun HA fA => opS_at ?_))))))))))⟩)))))⟩)
         all_goals
           rw [f6_J9_eq]
           unfold f6_J9_B
           exact wIf_f (same_cat _) ⟨len - (k + 1), by omega, f6_I0_mk ⟨k + 1, _, hkl, wi1 k (by omega), rfl, lfk.frame fA⟩⟩
       · rw [f6_J3_eq]
         unfold f6_J3_B
         refine wIf_t rfl ?_
         refine wCall_of (flush_call pr.a ok (fun H7 j7 hd7 f7 hj7 => opI_at (wCall_of (rflush_call (pr.stepA hd7 (f7.mono (by simp)) (by rcases hj7 with e | e; exact .inl e; exact .inr (.inl e))).b ok hnn cr (fun H8 pt8 n8 hd8 f8 ho8 hn8 hj8 => opI_at (wf (Leaf.of (k := k) lf6.fr pr hg hd7 (f7.mono (by simp)) (by rcases hj7 with e | e; exact .inl e; exact .inr (.inl e)) hd8 (f8.mono (by simp)) (.inl rfl) (.inr rfl) ho8 hj8 (by omega) ok.flush (by rw [flush_crash]; exact cr) (Nat.le_trans (flush_waits _) (by omega))) fun lf9 => ?_))))))
         show f6_J8 _ _ _ _
         rw [f6_J8_eq]
         unfold f6_J8_B
         have lfk := lf9
         obtain ⟨⟨jw9, pw9, pt9, n9, pr9, hg9, hn9⟩, ok9, cr9, wt9, fr9⟩ := lf9
         obtain ⟨al9, aw9, own9⟩ := pr9.b.own'
         refine wIf_f (by simp) (wPt_at ⟨wCall_of (off_call pr9.a (opB_at (ldB_at own9 rfl (wIf_f (by simp) (wPt_at ⟨wCall_of (waits_call pr9.a (opI_at (ldL_at own9 rfl (wIf_f (by simp) (wCall_of (lasting_call pr9.a ok9 (opS_at (wCall_of (rlasting_call pr9.b ok9 (fun HA fA => opS_at ?_)))))))))), ldL_at own9 rfl (wCall_of (waits_call pr9.a (opI_at (wIf_f (by simp) (wCall_of (lasting_call pr9.a ok9 (opS_at (wCall_of (rlasting_call pr9.b ok9 (fun HA fA => opS_at ?_))))))))))⟩))))),
           ldB_at own9 rfl (wCall_of (off_call pr9.a (opB_at (wIf_f (by simp) (wPt_at ⟨wCall_of (waits_call pr9.a (opI_at (ldL_at own9 rfl (wIf_f (by simp) (wCall_of (lasting_call pr9.a ok9 (opS_at (wCall_of (rlasting_call pr9.b ok9 (fun HA fA => opS_at ?_)))))))))), ldL_at own9 rfl (wCall_of (waits_call pr9.a (opI_at (wIf_f (by simp) (wCall_of (lasting_call pr9.a ok9 (opS_at (wCall_of (rlasting_call pr9.b ok9 (fun HA fA => opS_at ?_))))))))))⟩)))))⟩)
         all_goals
           rw [f6_J9_eq]
           unfold f6_J9_B
           exact wIf_f (same_cat _) ⟨len - (k + 1), by omega, f6_I0_mk ⟨k + 1, _, hkl, wi1 k (by omega), rfl, lfk.frame fA⟩⟩
       · rw [f6_J3_eq]
         unfold f6_J3_B
         refine wIf_t rfl ?_
         refine wCall_of (flush_call pr.a ok (fun H7 j7 hd7 f7 hj7 => opI_at (wCall_of (rflush_call (pr.stepA hd7 (f7.mono (by simp)) (by rcases hj7 with e | e; exact .inl e; exact .inr (.inl e))).b ok hnn cr (fun H8 pt8 n8 hd8 f8 ho8 hn8 hj8 => opI_at (wf (Leaf.of (k := k) lf6.fr pr hg hd7 (f7.mono (by simp)) (by rcases hj7 with e | e; exact .inl e; exact .inr (.inl e)) hd8 (f8.mono (by simp)) (.inl rfl) (.inr rfl) ho8 hj8 (by omega) ok.flush (by rw [flush_crash]; exact cr) (Nat.le_trans (flush_waits _) (by omega))) fun lf9 => ?_))))))
         show f6_J8 _ _ _ _
         rw [f6_J8_eq]
         unfold f6_J8_B
         have lfk := lf9
         obtain ⟨⟨jw9, pw9, pt9, n9, pr9, hg9, hn9⟩, ok9, cr9, wt9, fr9⟩ := lf9
         obtain ⟨al9, aw9, own9⟩ := pr9.b.own'
         refine wIf_f (by simp) (wPt_at ⟨wCall_of (off_call pr9.a (opB_at (ldB_at own9 rfl (wIf_f (by simp) (wPt_at ⟨wCall_of (waits_call pr9.a (opI_at (ldL_at own9 rfl (wIf_f (by simp) (wCall_of (lasting_call pr9.a ok9 (opS_at (wCall_of (rlasting_call pr9.b ok9 (fun HA fA => opS_at ?_)))))))))), ldL_at own9 rfl (wCall_of (waits_call pr9.a (opI_at (wIf_f (by simp) (wCall_of (lasting_call pr9.a ok9 (opS_at (wCall_of (rlasting_call pr9.b ok9 (fun HA fA => opS_at ?_))))))))))⟩))))),
           ldB_at own9 rfl (wCall_of (off_call pr9.a (opB_at (wIf_f (by simp) (wPt_at ⟨wCall_of (waits_call pr9.a (opI_at (ldL_at own9 rfl (wIf_f (by simp) (wCall_of (lasting_call pr9.a ok9 (opS_at (wCall_of (rlasting_call pr9.b ok9 (fun HA fA => opS_at ?_)))))))))), ldL_at own9 rfl (wCall_of (waits_call pr9.a (opI_at (wIf_f (by simp) (wCall_of (lasting_call pr9.a ok9 (opS_at (wCall_of (rlasting_call pr9.b ok9 (fun HA fA => opS_at ?_))))))))))⟩)))))⟩)
         all_goals
           rw [f6_J9_eq]
           unfold f6_J9_B
           exact wIf_f (same_cat _) ⟨len - (k + 1), by omega, f6_I0_mk ⟨k + 1, _, hkl, wi1 k (by omega), rfl, lfk.frame fA⟩⟩
       · rw [f6_J3_eq]
         unfold f6_J3_B
         refine wIf_d (fun _ => ?_) (fun _ => ?_)
         ·  skip
            refine wCall_of (flush_call pr.a ok (fun H7 j7 hd7 f7 hj7 => opI_at (wCall_of (rflush_call (pr.stepA hd7 (f7.mono (by simp)) (by rcases hj7 with e | e; exact .inl e; exact .inr (.inl e))).b ok hnn cr (fun H8 pt8 n8 hd8 f8 ho8 hn8 hj8 => opI_at (wf (Leaf.of (k := k) lf6.fr pr hg hd7 (f7.mono (by simp)) (by rcases hj7 with e | e; exact .inl e; exact .inr (.inl e)) hd8 (f8.mono (by simp)) (.inl rfl) (.inr rfl) ho8 hj8 (by omega) ok.flush (by rw [flush_crash]; exact cr) (Nat.le_trans (flush_waits _) (by omega))) fun lf9 => ?_))))))
            show f6_J8 _ _ _ _
            rw [f6_J8_eq]
            unfold f6_J8_B
            have lfk := lf9
            obtain ⟨⟨jw9, pw9, pt9, n9, pr9, hg9, hn9⟩, ok9, cr9, wt9, fr9⟩ := lf9
            obtain ⟨al9, aw9, own9⟩ := pr9.b.own'
            refine wIf_f (by simp) (wPt_at ⟨wCall_of (off_call pr9.a (opB_at (ldB_at own9 rfl (wIf_f (by simp) (wPt_at ⟨wCall_of (waits_call pr9.a (opI_at (ldL_at own9 rfl (wIf_f (by simp) (wCall_of (lasting_call pr9.a ok9 (opS_at (wCall_of (rlasting_call pr9.b ok9 (fun HA fA => opS_at ?_)))))))))), ldL_at own9 rfl (wCall_of (waits_call pr9.a (opI_at (wIf_f (by simp) (wCall_of (lasting_call pr9.a ok9 (opS_at (wCall_of (rlasting_call pr9.b ok9 (fun HA fA => opS_at ?_))))))))))⟩))))),
              ldB_at own9 rfl (wCall_of (off_call pr9.a (opB_at (wIf_f (by simp) (wPt_at ⟨wCall_of (waits_call pr9.a (opI_at (ldL_at own9 rfl (wIf_f (by simp) (wCall_of (lasting_call pr9.a ok9 (opS_at (wCall_of (rlasting_call pr9.b ok9 (fun HA fA => opS_at ?_)))))))))), ldL_at own9 rfl (wCall_of (waits_call pr9.a (opI_at (wIf_f (by simp) (wCall_of (lasting_call pr9.a ok9 (opS_at (wCall_of (rlasting_call pr9.b ok9 (fun HA fA => opS_at ?_))))))))))⟩)))))⟩)
            all_goals
              rw [f6_J9_eq]
              unfold f6_J9_B
              exact wIf_f (same_cat _) ⟨len - (k + 1), by omega, f6_I0_mk ⟨k + 1, _, hkl, wi1 k (by omega), rfl, lfk.frame fA⟩⟩
         ·  skip
            refine wIf_d (fun _ => ?_) (fun _ => ?_)
            · rw [f6_J4_eq]
              unfold f6_J4_B
              refine wIf_t rfl ?_
              refine wPt_at (ldI_at hb rfl (ldI_at hb rfl (ldI_at hb rfl (wCall_of (kill_call pr.a ok ⟨c4, c5, c6⟩ (fun H7 j7 hd7 f7 hj7 => wPt_at (ldI_at (hb.fr f7 q2) rfl (ldI_at (hb.fr f7 q2) rfl (ldI_at (hb.fr f7 q2) rfl (wCall_of (rkill_call (pr.stepA hd7 (f7.mono (by simp)) (by rcases hj7 with e | e; exact .inl e; exact .inr (.inl e))).b ok hnn ⟨c4, c5, c6⟩ hcr (fun H8 pt8 n8 hd8 f8 ho8 hn8 hj8 => wf (Leaf.of (k := k) lf6.fr pr hg hd7 (f7.mono (by simp)) (by rcases hj7 with e | e; exact .inl e; exact .inr (.inl e)) hd8 (f8.mono (by simp)) (.inl rfl) (.inr rfl) ho8 hj8 (by omega) (ok.kill _) (by rw [kill_crash]; exact cr) (Nat.le_trans (kill_waits _ _) (by omega))) fun lf9 => ?_))))))))))))
              show f6_J8 _ _ _ _
              rw [f6_J8_eq]
              unfold f6_J8_B
              have lfk := lf9
              obtain ⟨⟨jw9, pw9, pt9, n9, pr9, hg9, hn9⟩, ok9, cr9, wt9, fr9⟩ := lf9
              obtain ⟨al9, aw9, own9⟩ := pr9.b.own'
              refine wIf_f (by simp) (wPt_at ⟨wCall_of (off_call pr9.a (opB_at (ldB_at own9 rfl (wIf_f (by simp) (wPt_at ⟨wCall_of (waits_call pr9.a (opI_at (ldL_at own9 rfl (wIf_f (by simp) (wCall_of (lasting_call pr9.a ok9 (opS_at (wCall_of (rlasting_call pr9.b ok9 (fun HA fA => opS_at ?_)))))))))), ldL_at own9 rfl (wCall_of (waits_call pr9.a (opI_at (wIf_f (by simp) (wCall_of (lasting_call pr9.a ok9 (opS_at (wCall_of (rlasting_call pr9.b ok9 (fun HA fA => opS_at ?_))))))))))⟩))))),
                ldB_at own9 rfl (wCall_of (off_call pr9.a (opB_at (wIf_f (by simp) (wPt_at ⟨wCall_of (waits_call pr9.a (opI_at (ldL_at own9 rfl (wIf_f (by simp) (wCall_of (lasting_call pr9.a ok9 (opS_at (wCall_of (rlasting_call pr9.b ok9 (fun HA fA => opS_at ?_)))))))))), ldL_at own9 rfl (wCall_of (waits_call pr9.a (opI_at (wIf_f (by simp) (wCall_of (lasting_call pr9.a ok9 (opS_at (wCall_of (rlasting_call pr9.b ok9 (fun HA fA => opS_at ?_))))))))))⟩)))))⟩)
              all_goals
                rw [f6_J9_eq]
                unfold f6_J9_B
                exact wIf_f (same_cat _) ⟨len - (k + 1), by omega, f6_I0_mk ⟨k + 1, _, hkl, wi1 k (by omega), rfl, lfk.frame fA⟩⟩
            · rw [f6_J4_eq]
              unfold f6_J4_B
              refine wIf_d (fun _ => ?_) (fun _ => ?_)
              ·  skip
                 refine wPt_at (ldI_at hb rfl (ldI_at hb rfl (ldI_at hb rfl (wCall_of (kill_call pr.a ok ⟨c4, c5, c6⟩ (fun H7 j7 hd7 f7 hj7 => wPt_at (ldI_at (hb.fr f7 q2) rfl (ldI_at (hb.fr f7 q2) rfl (ldI_at (hb.fr f7 q2) rfl (wCall_of (rkill_call (pr.stepA hd7 (f7.mono (by simp)) (by rcases hj7 with e | e; exact .inl e; exact .inr (.inl e))).b ok hnn ⟨c4, c5, c6⟩ hcr (fun H8 pt8 n8 hd8 f8 ho8 hn8 hj8 => wf (Leaf.of (k := k) lf6.fr pr hg hd7 (f7.mono (by simp)) (by rcases hj7 with e | e; exact .inl e; exact .inr (.inl e)) hd8 (f8.mono (by simp)) (.inl rfl) (.inr rfl) ho8 hj8 (by omega) (ok.kill _) (by rw [kill_crash]; exact cr) (Nat.le_trans (kill_waits _ _) (by omega))) fun lf9 => ?_))))))))))))
                 show f6_J8 _ _ _ _
                 rw [f6_J8_eq]
                 unfold f6_J8_B
                 have lfk := lf9
                 obtain ⟨⟨jw9, pw9, pt9, n9, pr9, hg9, hn9⟩, ok9, cr9, wt9, fr9⟩ := lf9
                 obtain ⟨al9, aw9, own9⟩ := pr9.b.own'
                 refine wIf_f (by simp) (wPt_at ⟨wCall_of (off_call pr9.a (opB_at (ldB_at own9 rfl (wIf_f (by simp) (wPt_at ⟨wCall_of (waits_call pr9.a (opI_at (ldL_at own9 rfl (wIf_f (by simp) (wCall_of (lasting_call pr9.a ok9 (opS_at (wCall_of (rlasting_call pr9.b ok9 (fun HA fA => opS_at ?_)))))))))), ldL_at own9 rfl (wCall_of (waits_call pr9.a (opI_at (wIf_f (by simp) (wCall_of (lasting_call pr9.a ok9 (opS_at (wCall_of (rlasting_call pr9.b ok9 (fun HA fA => opS_at ?_))))))))))⟩))))),
                   ldB_at own9 rfl (wCall_of (off_call pr9.a (opB_at (wIf_f (by simp) (wPt_at ⟨wCall_of (waits_call pr9.a (opI_at (ldL_at own9 rfl (wIf_f (by simp) (wCall_of (lasting_call pr9.a ok9 (opS_at (wCall_of (rlasting_call pr9.b ok9 (fun HA fA => opS_at ?_)))))))))), ldL_at own9 rfl (wCall_of (waits_call pr9.a (opI_at (wIf_f (by simp) (wCall_of (lasting_call pr9.a ok9 (opS_at (wCall_of (rlasting_call pr9.b ok9 (fun HA fA => opS_at ?_))))))))))⟩)))))⟩)
                 all_goals
                   rw [f6_J9_eq]
                   unfold f6_J9_B
                   exact wIf_f (same_cat _) ⟨len - (k + 1), by omega, f6_I0_mk ⟨k + 1, _, hkl, wi1 k (by omega), rfl, lfk.frame fA⟩⟩
              ·  skip
                 refine wIf_d (fun _ => ?_) (fun _ => ?_)
                 · rw [f6_J5_eq]
                   unfold f6_J5_B
                   refine wIf_t rfl ?_
                   refine wPt_at (ldI_at hb rfl (wPt_at (ldI_at hb rfl (ldI_at hb rfl (ldI_at hb rfl (wCall_of (fuse_call pr.a v2 ⟨c4, c5, c6⟩ (fun H7 hd7 f7 => wPt_at (ldI_at (hb.fr f7 q1) rfl (wPt_at (ldI_at (hb.fr f7 q1) rfl (ldI_at (hb.fr f7 q1) rfl (ldI_at (hb.fr f7 q1) rfl (wCall_of (rfuse_call (pr.stepA hd7 (f7.mono (by simp)) (.inr (.inl rfl))).b v2 ⟨c4, c5, c6⟩ (fun H8 hd8 f8 => wf (Leaf.of (k := k) lf6.fr pr hg hd7 (f7.mono (by simp)) (.inr (.inl rfl)) hd8 (f8.mono (by simp)) (.inl rfl) (.inr rfl) (.inl rfl) (.inr rfl) (by omega) (ok.fuse v2 hv2 _) hcr (by show d.waits.length ≤ _; omega)) fun lf9 => ?_))))))))))))))))
                   show f6_J8 _ _ _ _
                   rw [f6_J8_eq]
                   unfold f6_J8_B
                   have lfk := lf9
                   obtain ⟨⟨jw9, pw9, pt9, n9, pr9, hg9, hn9⟩, ok9, cr9, wt9, fr9⟩ := lf9
                   obtain ⟨al9, aw9, own9⟩ := pr9.b.own'
                   refine wIf_f (by simp) (wPt_at ⟨wCall_of (off_call pr9.a (opB_at (ldB_at own9 rfl (wIf_f (by simp) (wPt_at ⟨wCall_of (waits_call pr9.a (opI_at (ldL_at own9 rfl (wIf_f (by simp) (wCall_of (lasting_call pr9.a ok9 (opS_at (wCall_of (rlasting_call pr9.b ok9 (fun HA fA => opS_at ?_)))))))))), ldL_at own9 rfl (wCall_of (waits_call pr9.a (opI_at (wIf_f (by simp) (wCall_of (lasting_call pr9.a ok9 (opS_at (wCall_of (rlasting_call pr9.b ok9 (fun HA fA => opS_at ?_))))))))))⟩))))),
                     ldB_at own9 rfl (wCall_of (off_call pr9.a (opB_at (wIf_f (by simp) (wPt_at ⟨wCall_of (waits_call pr9.a (opI_at (ldL_at own9 rfl (wIf_f (by simp) (wCall_of (lasting_call pr9.a ok9 (opS_at (wCall_of (rlasting_call pr9.b ok9 (fun HA fA => opS_at ?_)))))))))), ldL_at own9 rfl (wCall_of (waits_call pr9.a (opI_at (wIf_f (by simp) (wCall_of (lasting_call pr9.a ok9 (opS_at (wCall_of (rlasting_call pr9.b ok9 (fun HA fA => opS_at ?_))))))))))⟩)))))⟩)
                   all_goals
                     rw [f6_J9_eq]
                     unfold f6_J9_B
                     exact wIf_f (same_cat _) ⟨len - (k + 1), by omega, f6_I0_mk ⟨k + 1, _, hkl, wi1 k (by omega), rfl, lfk.frame fA⟩⟩
                 · rw [f6_J5_eq]
                   unfold f6_J5_B
                   refine wIf_d (fun _ => ?_) (fun _ => ?_)
                   ·  skip
                      refine wPt_at (ldI_at hb rfl (wPt_at (ldI_at hb rfl (ldI_at hb rfl (ldI_at hb rfl (wCall_of (fuse_call pr.a v2 ⟨c4, c5, c6⟩ (fun H7 hd7 f7 => wPt_at (ldI_at (hb.fr f7 q1) rfl (wPt_at (ldI_at (hb.fr f7 q1) rfl (ldI_at (hb.fr f7 q1) rfl (ldI_at (hb.fr f7 q1) rfl (wCall_of (rfuse_call (pr.stepA hd7 (f7.mono (by simp)) (.inr (.inl rfl))).b v2 ⟨c4, c5, c6⟩ (fun H8 hd8 f8 => wf (Leaf.of (k := k) lf6.fr pr hg hd7 (f7.mono (by simp)) (.inr (.inl rfl)) hd8 (f8.mono (by simp)) (.inl rfl) (.inr rfl) (.inl rfl) (.inr rfl) (by omega) (ok.fuse v2 hv2 _) hcr (by show d.waits.length ≤ _; omega)) fun lf9 => ?_))))))))))))))))
                      show f6_J8 _ _ _ _
                      rw [f6_J8_eq]
                      unfold f6_J8_B
                      have lfk := lf9
                      obtain ⟨⟨jw9, pw9, pt9, n9, pr9, hg9, hn9⟩, ok9, cr9, wt9, fr9⟩ := lf9
                      obtain ⟨al9, aw9, own9⟩ := pr9.b.own'
                      refine wIf_f (by simp) (wPt_at ⟨wCall_of (off_call pr9.a (opB_at (ldB_at own9 rfl (wIf_f (by simp) (wPt_at ⟨wCall_of (waits_call pr9.a (opI_at (ldL_at own9 rfl (wIf_f (by simp) (wCall_of (lasting_call pr9.a ok9 (opS_at (wCall_of (rlasting_call pr9.b ok9 (fun HA fA => opS_at ?_)))))))))), ldL_at own9 rfl (wCall_of (waits_call pr9.a (opI_at (wIf_f (by simp) (wCall_of (lasting_call pr9.a ok9 (opS_at (wCall_of (rlasting_call pr9.b ok9 (fun HA fA => opS_at ?_))))))))))⟩))))),
                        ldB_at own9 rfl (wCall_of (off_call pr9.a (opB_at (wIf_f (by simp) (wPt_at ⟨wCall_of (waits_call pr9.a (opI_at (ldL_at own9 rfl (wIf_f (by simp) (wCall_of (lasting_call pr9.a ok9 (opS_at (wCall_of (rlasting_call pr9.b ok9 (fun HA fA => opS_at ?_)))))))))), ldL_at own9 rfl (wCall_of (waits_call pr9.a (opI_at (wIf_f (by simp) (wCall_of (lasting_call pr9.a ok9 (opS_at (wCall_of (rlasting_call pr9.b ok9 (fun HA fA => opS_at ?_))))))))))⟩)))))⟩)
                      all_goals
                        rw [f6_J9_eq]
                        unfold f6_J9_B
                        exact wIf_f (same_cat _) ⟨len - (k + 1), by omega, f6_I0_mk ⟨k + 1, _, hkl, wi1 k (by omega), rfl, lfk.frame fA⟩⟩
                   ·  skip
                      refine wIf_d (fun _ => ?_) (fun _ => ?_)
                      · rw [f6_J6_eq]
                        unfold f6_J6_B
                        refine wIf_t rfl ?_
                        refine wCall_of (up_call pr.a (fun H7 hd7 f7 => wCall_of (rup_call (pr.stepA hd7 (f7.mono (by simp)) (.inr (.inl rfl))).b (fun H8 hd8 f8 => wf (Leaf.of (k := k) lf6.fr pr hg hd7 (f7.mono (by simp)) (.inr (.inl rfl)) hd8 (f8.mono (by simp)) (.inl rfl) (.inr rfl) (.inl rfl) (.inr rfl) (by omega) ok.up cr (by show d.waits.length ≤ _; omega)) fun lf9 => ?_))))
                        show f6_J8 _ _ _ _
                        rw [f6_J8_eq]
                        unfold f6_J8_B
                        have lfk := lf9
                        obtain ⟨⟨jw9, pw9, pt9, n9, pr9, hg9, hn9⟩, ok9, cr9, wt9, fr9⟩ := lf9
                        obtain ⟨al9, aw9, own9⟩ := pr9.b.own'
                        refine wIf_f (by simp) (wPt_at ⟨wCall_of (off_call pr9.a (opB_at (ldB_at own9 rfl (wIf_f (by simp) (wPt_at ⟨wCall_of (waits_call pr9.a (opI_at (ldL_at own9 rfl (wIf_f (by simp) (wCall_of (lasting_call pr9.a ok9 (opS_at (wCall_of (rlasting_call pr9.b ok9 (fun HA fA => opS_at ?_)))))))))), ldL_at own9 rfl (wCall_of (waits_call pr9.a (opI_at (wIf_f (by simp) (wCall_of (lasting_call pr9.a ok9 (opS_at (wCall_of (rlasting_call pr9.b ok9 (fun HA fA => opS_at ?_))))))))))⟩))))),
                          ldB_at own9 rfl (wCall_of (off_call pr9.a (opB_at (wIf_f (by simp) (wPt_at ⟨wCall_of (waits_call pr9.a (opI_at (ldL_at own9 rfl (wIf_f (by simp) (wCall_of (lasting_call pr9.a ok9 (opS_at (wCall_of (rlasting_call pr9.b ok9 (fun HA fA => opS_at ?_)))))))))), ldL_at own9 rfl (wCall_of (waits_call pr9.a (opI_at (wIf_f (by simp) (wCall_of (lasting_call pr9.a ok9 (opS_at (wCall_of (rlasting_call pr9.b ok9 (fun HA fA => opS_at ?_))))))))))⟩)))))⟩)
                        all_goals
                          rw [f6_J9_eq]
                          unfold f6_J9_B
                          exact wIf_f (same_cat _) ⟨len - (k + 1), by omega, f6_I0_mk ⟨k + 1, _, hkl, wi1 k (by omega), rfl, lfk.frame fA⟩⟩
                      · rw [f6_J6_eq]
                        unfold f6_J6_B
                        refine wIf_d (fun _ => ?_) (fun _ => ?_)
                        ·  skip
                           refine wCall_of (up_call pr.a (fun H7 hd7 f7 => wCall_of (rup_call (pr.stepA hd7 (f7.mono (by simp)) (.inr (.inl rfl))).b (fun H8 hd8 f8 => wf (Leaf.of (k := k) lf6.fr pr hg hd7 (f7.mono (by simp)) (.inr (.inl rfl)) hd8 (f8.mono (by simp)) (.inl rfl) (.inr rfl) (.inl rfl) (.inr rfl) (by omega) ok.up cr (by show d.waits.length ≤ _; omega)) fun lf9 => ?_))))
                           show f6_J8 _ _ _ _
                           rw [f6_J8_eq]
                           unfold f6_J8_B
                           have lfk := lf9
                           obtain ⟨⟨jw9, pw9, pt9, n9, pr9, hg9, hn9⟩, ok9, cr9, wt9, fr9⟩ := lf9
                           obtain ⟨al9, aw9, own9⟩ := pr9.b.own'
                           refine wIf_f (by simp) (wPt_at ⟨wCall_of (off_call pr9.a (opB_at (ldB_at own9 rfl (wIf_f (by simp) (wPt_at ⟨wCall_of (waits_call pr9.a (opI_at (ldL_at own9 rfl (wIf_f (by simp) (wCall_of (lasting_call pr9.a ok9 (opS_at (wCall_of (rlasting_call pr9.b ok9 (fun HA fA => opS_at ?_)))))))))), ldL_at own9 rfl (wCall_of (waits_call pr9.a (opI_at (wIf_f (by simp) (wCall_of (lasting_call pr9.a ok9 (opS_at (wCall_of (rlasting_call pr9.b ok9 (fun HA fA => opS_at ?_))))))))))⟩))))),
                             ldB_at own9 rfl (wCall_of (off_call pr9.a (opB_at (wIf_f (by simp) (wPt_at ⟨wCall_of (waits_call pr9.a (opI_at (ldL_at own9 rfl (wIf_f (by simp) (wCall_of (lasting_call pr9.a ok9 (opS_at (wCall_of (rlasting_call pr9.b ok9 (fun HA fA => opS_at ?_)))))))))), ldL_at own9 rfl (wCall_of (waits_call pr9.a (opI_at (wIf_f (by simp) (wCall_of (lasting_call pr9.a ok9 (opS_at (wCall_of (rlasting_call pr9.b ok9 (fun HA fA => opS_at ?_))))))))))⟩)))))⟩)
                           all_goals
                             rw [f6_J9_eq]
                             unfold f6_J9_B
                             exact wIf_f (same_cat _) ⟨len - (k + 1), by omega, f6_I0_mk ⟨k + 1, _, hkl, wi1 k (by omega), rfl, lfk.frame fA⟩⟩
                        ·  skip
                           refine wIf_d (fun _ => ?_) (fun _ => ?_)
                           · rw [f6_J7_eq]
                             unfold f6_J7_B
                             refine wIf_t rfl ?_
                             refine wPt_at (ldS_at hb rfl (wPt_at (ldS_at hb rfl (wSlS_at (by omega) (by split <;> omega) (by split <;> omega) (wCall_of (fill_call pr.a ok.few _ (fun H7 hd7 f7 => wCall_of (rfill_call (pr.stepA hd7 (f7.mono (by simp)) (.inl rfl)).b ok _ (by rw [ByteArray.size_extract]; omega) (fun H8 hd8 f8 => wf (Leaf.of (k := k) lf6.fr pr hg hd7 (f7.mono (by simp)) (.inl rfl) hd8 (f8.mono (by simp)) (.inl rfl) (.inr rfl) (.inl rfl) (.inr rfl) (by omega) (ok.fill _) (fill_cr _ _ cr) (Nat.le_trans (fill_wt _ _) (Nat.zero_le _))) fun lf9 => ?_)))))))))
                             show f6_J8 _ _ _ _
                             rw [f6_J8_eq]
                             unfold f6_J8_B
                             have lfk := lf9
                             obtain ⟨⟨jw9, pw9, pt9, n9, pr9, hg9, hn9⟩, ok9, cr9, wt9, fr9⟩ := lf9
                             obtain ⟨al9, aw9, own9⟩ := pr9.b.own'
                             refine wIf_f (by simp) (wPt_at ⟨wCall_of (off_call pr9.a (opB_at (ldB_at own9 rfl (wIf_f (by simp) (wPt_at ⟨wCall_of (waits_call pr9.a (opI_at (ldL_at own9 rfl (wIf_f (by simp) (wCall_of (lasting_call pr9.a ok9 (opS_at (wCall_of (rlasting_call pr9.b ok9 (fun HA fA => opS_at ?_)))))))))), ldL_at own9 rfl (wCall_of (waits_call pr9.a (opI_at (wIf_f (by simp) (wCall_of (lasting_call pr9.a ok9 (opS_at (wCall_of (rlasting_call pr9.b ok9 (fun HA fA => opS_at ?_))))))))))⟩))))),
                               ldB_at own9 rfl (wCall_of (off_call pr9.a (opB_at (wIf_f (by simp) (wPt_at ⟨wCall_of (waits_call pr9.a (opI_at (ldL_at own9 rfl (wIf_f (by simp) (wCall_of (lasting_call pr9.a ok9 (opS_at (wCall_of (rlasting_call pr9.b ok9 (fun HA fA => opS_at ?_)))))))))), ldL_at own9 rfl (wCall_of (waits_call pr9.a (opI_at (wIf_f (by simp) (wCall_of (lasting_call pr9.a ok9 (opS_at (wCall_of (rlasting_call pr9.b ok9 (fun HA fA => opS_at ?_))))))))))⟩)))))⟩)
                             all_goals
                               rw [f6_J9_eq]
                               unfold f6_J9_B
                               exact wIf_f (same_cat _) ⟨len - (k + 1), by omega, f6_I0_mk ⟨k + 1, _, hkl, wi1 k (by omega), rfl, lfk.frame fA⟩⟩
                           · rw [f6_J7_eq]
                             unfold f6_J7_B
                             refine wIf_d (fun _ => ?_) (fun _ => ?_)
                             ·  skip
                                refine wPt_at (ldS_at hb rfl (wPt_at (ldS_at hb rfl (wSlS_at (by omega) (by split <;> omega) (by split <;> omega) (wCall_of (fill_call pr.a ok.few _ (fun H7 hd7 f7 => wCall_of (rfill_call (pr.stepA hd7 (f7.mono (by simp)) (.inl rfl)).b ok _ (by rw [ByteArray.size_extract]; omega) (fun H8 hd8 f8 => wf (Leaf.of (k := k) lf6.fr pr hg hd7 (f7.mono (by simp)) (.inl rfl) hd8 (f8.mono (by simp)) (.inl rfl) (.inr rfl) (.inl rfl) (.inr rfl) (by omega) (ok.fill _) (fill_cr _ _ cr) (Nat.le_trans (fill_wt _ _) (Nat.zero_le _))) fun lf9 => ?_)))))))))
                                show f6_J8 _ _ _ _
                                rw [f6_J8_eq]
                                unfold f6_J8_B
                                have lfk := lf9
                                obtain ⟨⟨jw9, pw9, pt9, n9, pr9, hg9, hn9⟩, ok9, cr9, wt9, fr9⟩ := lf9
                                obtain ⟨al9, aw9, own9⟩ := pr9.b.own'
                                refine wIf_f (by simp) (wPt_at ⟨wCall_of (off_call pr9.a (opB_at (ldB_at own9 rfl (wIf_f (by simp) (wPt_at ⟨wCall_of (waits_call pr9.a (opI_at (ldL_at own9 rfl (wIf_f (by simp) (wCall_of (lasting_call pr9.a ok9 (opS_at (wCall_of (rlasting_call pr9.b ok9 (fun HA fA => opS_at ?_)))))))))), ldL_at own9 rfl (wCall_of (waits_call pr9.a (opI_at (wIf_f (by simp) (wCall_of (lasting_call pr9.a ok9 (opS_at (wCall_of (rlasting_call pr9.b ok9 (fun HA fA => opS_at ?_))))))))))⟩))))),
                                  ldB_at own9 rfl (wCall_of (off_call pr9.a (opB_at (wIf_f (by simp) (wPt_at ⟨wCall_of (waits_call pr9.a (opI_at (ldL_at own9 rfl (wIf_f (by simp) (wCall_of (lasting_call pr9.a ok9 (opS_at (wCall_of (rlasting_call pr9.b ok9 (fun HA fA => opS_at ?_)))))))))), ldL_at own9 rfl (wCall_of (waits_call pr9.a (opI_at (wIf_f (by simp) (wCall_of (lasting_call pr9.a ok9 (opS_at (wCall_of (rlasting_call pr9.b ok9 (fun HA fA => opS_at ?_))))))))))⟩)))))⟩)
                                all_goals
                                  rw [f6_J9_eq]
                                  unfold f6_J9_B
                                  exact wIf_f (same_cat _) ⟨len - (k + 1), by omega, f6_I0_mk ⟨k + 1, _, hkl, wi1 k (by omega), rfl, lfk.frame fA⟩⟩
                             ·  skip
                                refine wPt_at (wPt_at (wPt_at (wPt_at (ldI_at hb rfl (ldS_at hb rfl (ldI_at hb rfl (ldS_at hb rfl (wCall_of (sector_call v3 hv3 (fun H7 f7 => opS_at ⟨PinOK_has (hb.fr f7 (by simp)) (by simp) rfl, PinOK_has (hb.fr f7 (by simp)) (by simp) rfl, PinOK_has (hb.fr f7 (by simp)) (by simp) rfl,
                                  wCall_of (write_call (pr.frame f7).a ok (by omega) v1 (sectorOf v3) (fun H8 j8 hd8 f8 hj8 => opI_at ⟨PinOK_has ((hb.fr f7 (by simp)).fr f8 q3) (by simp) rfl, PinOK_has ((hb.fr f7 (by simp)).fr f8 q3) (by simp) rfl,
                                  wCall_of (sector_call v3 hv3 (fun H9 f9 => opS_at ⟨PinOK_has (((hb.fr f7 (by simp)).fr f8 q3).fr f9 (by simp)) (by simp) rfl, wCall_of (rwrite_call ((pr.frame f7).stepA (hd8.fr f9 (by simp)) (f8.trans (f9.mono (by simp))) hj8).b ok (by omega) cr v1 (sectorOf v3) (fun HA jwA ptA nA hdA fA hoA hnA hjA hwA hwA2 => opI_at (wf (Leaf.of (k := k) (lf6.fr.trans f7) (pr.frame f7) hg (hd8.fr f9 (by simp)) (f8.trans (f9.mono (by simp))) hj8 hdA (fA.mono (by simp)) hwA hwA2 hoA hjA (by omega) (ok.write (by omega) _ _) (by rw [write_crash]; exact cr) (Nat.le_trans (write_waits _ _ _) (by omega))) fun lf9 => ?_)))⟩))⟩))⟩))))))))))
                                show f6_J8 _ _ _ _
                                rw [f6_J8_eq]
                                unfold f6_J8_B
                                have lfk := lf9
                                obtain ⟨⟨jw9, pw9, pt9, n9, pr9, hg9, hn9⟩, ok9, cr9, wt9, fr9⟩ := lf9
                                obtain ⟨al9, aw9, own9⟩ := pr9.b.own'
                                refine wIf_f (by simp) (wPt_at ⟨wCall_of (off_call pr9.a (opB_at (ldB_at own9 rfl (wIf_f (by simp) (wPt_at ⟨wCall_of (waits_call pr9.a (opI_at (ldL_at own9 rfl (wIf_f (by simp) (wCall_of (lasting_call pr9.a ok9 (opS_at (wCall_of (rlasting_call pr9.b ok9 (fun HA fA => opS_at ?_)))))))))), ldL_at own9 rfl (wCall_of (waits_call pr9.a (opI_at (wIf_f (by simp) (wCall_of (lasting_call pr9.a ok9 (opS_at (wCall_of (rlasting_call pr9.b ok9 (fun HA fA => opS_at ?_))))))))))⟩))))),
                                  ldB_at own9 rfl (wCall_of (off_call pr9.a (opB_at (wIf_f (by simp) (wPt_at ⟨wCall_of (waits_call pr9.a (opI_at (ldL_at own9 rfl (wIf_f (by simp) (wCall_of (lasting_call pr9.a ok9 (opS_at (wCall_of (rlasting_call pr9.b ok9 (fun HA fA => opS_at ?_)))))))))), ldL_at own9 rfl (wCall_of (waits_call pr9.a (opI_at (wIf_f (by simp) (wCall_of (lasting_call pr9.a ok9 (opS_at (wCall_of (rlasting_call pr9.b ok9 (fun HA fA => opS_at ?_))))))))))⟩)))))⟩)
                                all_goals
                                  rw [f6_J9_eq]
                                  unfold f6_J9_B
                                  exact wIf_f (same_cat _) ⟨len - (k + 1), by omega, f6_I0_mk ⟨k + 1, _, hkl, wi1 k (by omega), rfl, lfk.frame fA⟩⟩
end Go.Proofs.Ytnjhcnefgeodcaa
