/- The statement: a device with a fuse beside one without. -/
import Derived.Test.YtnjhcnefgeodcaaWBlkG
import Derived.Test.YtnjhcnefgeodcaaWBlkF
import Derived.Test.YtnjhcnefgeodcaaWGenC
import Derived.Test.YtnjhcnefgeodcaaWAbsQ
namespace Go.Proofs.Ytnjhcnefgeodcaa
set_option linter.unusedVariables false
set_option linter.unusedSimpArgs false
open Go.RowKit

theorem three {l : List Value} {a b c : Value} (h : l.length = 3) (h0 : l[0]? = some a) (h1 : l[1]? = some b) (h2 : l[2]? = some c) : l = [a, b, c] := by
  match l, h with
  | [x, y, z], _ => simp at h0 h1 h2; rw [h0, h1, h2]
abbrev actK : List SK := [.int .i64, .int .i64, .int .i64, .str, .int .u64, .int .i64, .int .i64]
abbrev crashK : List SK := [.int .u64, .int .i64, .int .i64]
def crashRow (c : Cr) : AObj := .row [.int .u64 c.keep, .int .i64 c.torn, .int .i64 c.at_] 0
theorem fuse40 (n : Int) : ∃ k : Nat, IntKind.i64.wrap (1 + (IntKind.i64.wrap (Int.tmod (IntKind.u64.wrap n) 40))) = (k : Int) ∧ 1 ≤ k ∧ k ≤ 40 := by
  have h : 0 ≤ IntKind.u64.wrap n := by rw [wrapu64_eq]; omega
  generalize IntKind.u64.wrap n = m at h
  rw [Int.tmod_eq_emod_of_nonneg h]
  refine ⟨1 + (m % 40).toNat, ?_, by omega, by omega⟩
  rw [wi (m % 40) (by omega) (by omega), wi _ (by omega) (by omega)]
  omega

section
variable {H : AH} {R : AEnd → AH → Prop}
set_option maxRecDepth 20000 in
set_option maxHeartbeats 4000000 in
theorem blockFuses_law (H : AH) (v0 : Value) (d0 : CD) (l0 : Lie H d0 v0) (k0 : Kd (.sl 7 actK) d0) (a1 : Int) (w1 : (Lit.int .i64 a1).wf = true) (v2 : List Value) (d2 : List CD) (l2 : Lies H d2 v2) (k2 : Kds crashK d2) :
    ACall Try.prog 3 [v0, .int .i64 a1, .agg v2.toArray] H AllTrue := by
  obtain ⟨b, len, cap, i0, vs, rfl, S⟩ := sl_of l0 k0 rfl
  obtain ⟨c0, e0, _⟩ := l2.int k2 0 rfl
  obtain ⟨c1, e1, _⟩ := l2.int k2 1 rfl
  obtain ⟨c2, e2, _⟩ := l2.int k2 2 rfl
  obtain rfl := three (l2.len.symm.trans k2.len) e0 e1 e2
  clear e0 e1 e2 l2 k2 l0 k0
  have hlen : len ≤ 9223372036854775807 := S.max
  apply f3_call
  unfold f3_B
  obtain ⟨n, hn, hn1, hn40⟩ := fuse40 a1
  rw [hn]
  refine wNew_at (wCall_of (awake_call (fun H1 f1 => opB_at (wIf_f rfl ?_))))
  have hc := (Has.new H (crashRow ⟨c0, c1, c2⟩)).fr f1 (by simp)
  have f01 : Fr [] H H1 := ((Fr.refl [] H).push _).trans f1
  refine wCall_of (new_call 4 (fun H2 ia la hda hf2 hi2 hl2 => opP_at (wCall_of (new_call 4 (fun H3 ib lb hdb hf3 hi3 hl3 => opP_at ?_)))))
  have sec4 : sectorsOf 4 = 4 := by decide
  rw [sec4] at hda hdb
  have hia := hda.own.lt
  have hla := hda.lasts.lt
  have hc3 := hc.fr (hf2.trans hf3) (by simp)
  have n0 : H.next < H1.next := hc.lt
  have n1 := hf2.next
  have n2 := hf3.next
  refine ldI_at hc3 rfl (ldI_at hc3 rfl (ldI_at hc3 rfl (wCall_of (fuse_call hdb n ⟨c0, c1, c2⟩ (fun H4 hd4 hf4 => ?_)))))
  have f04 : Fr [] H H4 := (((f01.trans hf2).trans hf3)).trans' hf4 (fun x hx => .inr (by simp at hx; omega))
  have dL : (newDev 4).lasts.length = 4 := fillL_length _ _
  have hT4 : Two H4 ia la ia ib lb ib (newDev 4) { newDev 4 with left := if 0 < (n : Int) then (n : Int) else 0, crash := ⟨c0, c1, c2⟩ } :=
    ⟨hda.fr (hf3.trans' hf4 (S := []) (fun x hx => .inr (by simp at hx; omega))) (by simp), hd4, by have := hd4.own.lt; have := hd4.lasts.lt; omega⟩
  have hF : Fused n 0 (newDev 4) { newDev 4 with left := if 0 < (n : Int) then (n : Int) else 0, crash := ⟨c0, c1, c2⟩ } := by
    have ok := newDev_ok 4 (by omega)
    refine ⟨rfl, rfl, ok, ⟨ok.lasts, ok.waits, ok.few, ok.many, ?_⟩, dL, dL, fun _ => ⟨rfl, rfl, rfl, ?_⟩, fun h => by omega⟩
    · show 0 ≤ (if 0 < (n : Int) then (n : Int) else 0) ∧ (if 0 < (n : Int) then (n : Int) else 0) ≤ (9223372036854775807 : Int)
      rw [if_pos (by omega)]; omega
    · show (if 0 < (n : Int) then (n : Int) else 0) = _
      rw [if_pos (by omega)]; omega
  generalize hff : ({ newDev 4 with left := if 0 < (n : Int) then (n : Int) else 0, crash := ⟨c0, c1, c2⟩ } : Dev) = fd at hT4 hF
  have hw0 : fd.waits.length = 0 := by rw [← hff]; rfl
  refine f3_L0_rule (J := fun m s9 s31 H' => ∃ (k done ja jb : Nat) (d f : Dev), k ≤ len ∧ k ≤ 60 ∧ s31 = (k : Int) ∧ m = len - k ∧ s9 = (done : Int) ∧ done ≤ k ∧ Two H' ia la ja ib lb jb d f ∧ Fused n done d f ∧
      d.waits.length ≤ k ∧ f.waits.length ≤ k ∧ (H.next ≤ ja ∧ H.next ≤ jb) ∧ Fr [] H H') len
    ⟨0, 0, ia, ib, newDev 4, fd, by omega, by omega, rfl, by omega, rfl, by omega, hT4, hF, by show 0 ≤ 0; omega, by omega, by omega, f04⟩ ?_
  rintro m s9 s31 H5 ⟨k, done, ja, jb, d, f, hk, hk60, rfl, rfl, rfl, hdk, hT, hFu, hwd, hwf, hj, f5⟩
  intros
  -- the end
  have hend : f3_J3_B (some ⟨ib, 0, none⟩) H5 AllTrue := by
    unfold f3_J3_B
    refine wCall_of (up_call hT.b (fun H6 hd6 hf6 => ?_))
    have ok6 : ({ f with off := false, left := 0 } : Dev).OK := ⟨hFu.fok.lasts, hFu.fok.waits, hFu.fok.few, hFu.fok.many, by show (0 : Int) ≤ 0 ∧ (0 : Int) ≤ 9223372036854775807; omega⟩
    refine wCall_of (read_call hd6 ok6 0 (opT_at rfl (opS_at (opI_at (wCall_of (awake_call (fun H7 f7 => opB_at (wIf_t rfl (wIf_dt ?_ ?_)))))))))
    · unfold Dev.read
      rw [if_neg (by simp), if_neg (by show ¬ ((0 : Int) < 0 ∨ (f.lasts.length : Int) ≤ 0); rw [hFu.fl]; omega)]
    · exact wCall_of (off_call (hd6.fr f7 (by simp)) (opB_at rfl))
  unfold f3_R0
  refine wIf_d (fun hlt => ?_) (fun hge => ?_)
  · have hkl : k < len := by omega
    have S5 := S.fr f5
    obtain ⟨x0, q0, _⟩ := S5.int hkl 0 rfl
    obtain ⟨x1, q1, _⟩ := S5.int hkl 1 rfl
    obtain ⟨x2, q2, _⟩ := S5.int hkl 2 rfl
    obtain ⟨x3, q3, y3⟩ := S5.str hkl 3 rfl
    obtain ⟨x4, q4, _⟩ := S5.int hkl 4 rfl
    obtain ⟨x5, q5, _⟩ := S5.int hkl 5 rfl
    obtain ⟨x6, q6, _⟩ := S5.int hkl 6 rfl
    have ho := S5.has (by omega)
    refine wIx_sl S5 rfl hkl (ldI_ro ho q0 (ldI_ro ho q1 (ldI_ro ho q2 (ldS_ro ho q3 (ldI_ro ho q4 (ldI_ro ho q5 (ldI_ro ho q6 (wNew_at ?_))))))))
    have hb := Has.new H5 (.row [.int .i64 0, .int .i64 0, .int .i64 0, .string ⟨#[]⟩, .int .u64 0, .int .i64 0, .int .i64 0] 0)
    refine wSt_at hb (by simp) ?_
    have hb6 := hb.set (.row [.int .i64 x0, .int .i64 x1, .int .i64 x2, .string x3, .int .u64 x4, .int .i64 x5, .int .i64 x6] 0)
    have f6 : Fr [] H5 ((H5.push (.row [.int .i64 0, .int .i64 0, .int .i64 0, .string ⟨#[]⟩, .int .u64 0, .int .i64 0, .int .i64 0] 0)).set H5.next (.row [.int .i64 x0, .int .i64 x1, .int .i64 x2, .string x3, .int .u64 x4, .int .i64 x5, .int .i64 x6] 0)) :=
      ((Fr.refl [] H5).push _).set (.inr (Nat.le_refl _)) _
    have e6 : (setCells [.int .i64 0, .int .i64 0, .int .i64 0, .string ⟨#[]⟩, .int .u64 0, .int .i64 0, .int .i64 0] 0 [.int .i64 x0, .int .i64 x1, .int .i64 x2, .string x3, .int .u64 x4, .int .i64 x5, .int .i64 x6] : List Value) = [.int .i64 x0, .int .i64 x1, .int .i64 x2, .string x3, .int .u64 x4, .int .i64 x5, .int .i64 x6] := rfl
    rw [e6]
    have hbn : H5.next ≠ ia ∧ H5.next ≠ la ∧ H5.next ≠ ja ∧ H5.next ≠ ib ∧ H5.next ≠ lb ∧ H5.next ≠ jb := by
      have := hT.a.own.lt; have := hT.a.lasts.lt; have := hT.a.jlt; have := hT.b.own.lt; have := hT.b.lasts.lt; have := hT.b.jlt
      omega
    have n5 := f5.next
    generalize (H5.push (.row [.int .i64 0, .int .i64 0, .int .i64 0, .string ⟨#[]⟩, .int .u64 0, .int .i64 0, .int .i64 0] 0)).set H5.next (.row [.int .i64 x0, .int .i64 x1, .int .i64 x2, .string x3, .int .u64 x4, .int .i64 x5, .int .i64 x6] 0) = H6 at hb6 f6 ⊢
    have hT6 := hT.frame f6
    have f06 := f5.trans f6
    generalize H5.next = bx at hb6 hbn
    refine wIf_d (fun h60 => ?_) (fun h60 => ?_)
    · rw [f3_J3_eq]
      unfold f3_J3_B
      refine wCall_of (up_call hT6.b (fun H7 hd7 hf7 => ?_))
      have ok6 : ({ f with off := false, left := 0 } : Dev).OK := ⟨hFu.fok.lasts, hFu.fok.waits, hFu.fok.few, hFu.fok.many, by show (0 : Int) ≤ 0 ∧ (0 : Int) ≤ 9223372036854775807; omega⟩
      refine wCall_of (read_call hd7 ok6 0 (opT_at rfl (opS_at (opI_at (wCall_of (awake_call (fun H8 f8 => opB_at (wIf_t rfl (wIf_dt ?_ ?_)))))))))
      · unfold Dev.read
        rw [if_neg (by simp), if_neg (by show ¬ ((0 : Int) < 0 ∨ (f.lasts.length : Int) ≤ 0); rw [hFu.fl]; omega)]
      · exact wCall_of (off_call (hd7.fr f8 (by simp)) (opB_at rfl))
    · refine ldI_at hb6 rfl (wIf_d (fun hfl => ?_) (fun hfl => ?_))
      · refine wCall_of (flush_call hT6.a hFu.dok (fun H7 j7 hd7 hf7 hj7 => opI_at ?_))
        have hT7 := hT6.stepA hd7 (hf7.mono (by simp)) (by omega)
        have f07 : Fr [] H H7 := f06.trans' hf7 (fun x hx => .inr (by simp at hx; omega))
        have m6 := f06.next
        have m7 := f07.next
        refine wCall_of (flush_call hT7.b hFu.fok (fun H9 j9 hd9 hf9 hj9' => opI_at ?_))
        have hT9 := hT7.stepB hd9 (hf9.mono (by simp)) (by omega)
        have f9 : Fr [] H H9 := f07.trans' hf9 (fun x hx => .inr (by simp at hx; omega))
        obtain ⟨hz, hS⟩ := hFu.flush (by omega)
        have hS : FStep n (if d.flush.1 = 0 then done + 1 else done) d.flush.1 f.flush.1 d.flush.2 f.flush.2 := by rw [if_pos hz]; exact hS
        have hw9 : d.flush.2.waits.length ≤ k + 1 := by have := d.flush_waits; omega
        have hv9 : f.flush.2.waits.length ≤ k + 1 := by have := f.flush_waits; omega
        have hj9 : H.next ≤ j7 ∧ H.next ≤ j9 := by omega
        rw [f3_J0_eq]
        unfold f3_J0_B
        refine wIf_d (fun hx => ?_) (fun hx => ?_)
        · rw [if_pos hx] at hS
          rw [wi1 done (by omega)]
          rw [f3_J1_eq]
          unfold f3_J1_B
          have ho := hS.inv.offs
          have eo : decide (((done + 1 : Nat) : Int) ≥ (n : Int)) = decide (n ≤ done + 1) := decide_eq_decide.2 (by omega)
          refine wIf_d (fun c => ?_) (fun c => ?_)
          · obtain ⟨s1, s2⟩ := hS.same (by omega)
            refine wIf_nf s1 (wCall_of (waits_call hT9.a (opI_at (wCall_of (waits_call hT9.b (opI_at (wIf_nf (by omega) (wIf_df (by omega) (wCall_of (off_call hT9.b (opB_at ?_)))))))))))
            rw [f3_J2_eq]
            unfold f3_J2_B
            exact wIf_f (by rw [ho, eo]; simp) ⟨len - (k + 1), by omega, f3_I0_mk ⟨k + 1, done + 1, _, _, _, _, by omega, by omega, wi1 k (by omega), rfl, rfl, by omega, hT9, hS.inv, hw9, hv9, hj9, f9⟩⟩
          · have g := hS.gone (by omega)
            refine wIf_dt (by omega) (wIf_nf g (wCall_of (off_call hT9.b (opB_at ?_))))
            rw [f3_J2_eq]
            unfold f3_J2_B
            exact wIf_f (by rw [ho, eo]; simp) ⟨len - (k + 1), by omega, f3_I0_mk ⟨k + 1, done + 1, _, _, _, _, by omega, by omega, wi1 k (by omega), rfl, rfl, by omega, hT9, hS.inv, hw9, hv9, hj9, f9⟩⟩
        · rw [if_neg hx] at hS
          rw [f3_J1_eq]
          unfold f3_J1_B
          have ho := hS.inv.offs
          have eo : decide (((done : Nat) : Int) ≥ (n : Int)) = decide (n ≤ done) := decide_eq_decide.2 (by omega)
          refine wIf_d (fun c => ?_) (fun c => ?_)
          · obtain ⟨s1, s2⟩ := hS.same (by omega)
            refine wIf_nf s1 (wCall_of (waits_call hT9.a (opI_at (wCall_of (waits_call hT9.b (opI_at (wIf_nf (by omega) (wIf_df (by omega) (wCall_of (off_call hT9.b (opB_at ?_)))))))))))
            rw [f3_J2_eq]
            unfold f3_J2_B
            exact wIf_f (by rw [ho, eo]; simp) ⟨len - (k + 1), by omega, f3_I0_mk ⟨k + 1, done, _, _, _, _, by omega, by omega, wi1 k (by omega), rfl, rfl, by omega, hT9, hS.inv, hw9, hv9, hj9, f9⟩⟩
          · have g := hS.gone (by omega)
            refine wIf_dt (by omega) (wIf_nf g (wCall_of (off_call hT9.b (opB_at ?_))))
            rw [f3_J2_eq]
            unfold f3_J2_B
            exact wIf_f (by rw [ho, eo]; simp) ⟨len - (k + 1), by omega, f3_I0_mk ⟨k + 1, done, _, _, _, _, by omega, by omega, wi1 k (by omega), rfl, rfl, by omega, hT9, hS.inv, hw9, hv9, hj9, f9⟩⟩
      · refine ldI_at hb6 rfl (ldS_at hb6 rfl (ldI_at hb6 rfl (ldS_at hb6 rfl ?_)))
        refine wCall_of (sector_call x3 y3 (fun H7 f7 => opS_at ⟨PinOK_has (hb6.fr f7 (by simp)) (by simp) rfl, PinOK_has (hb6.fr f7 (by simp)) (by simp) rfl, PinOK_has (hb6.fr f7 (by simp)) (by simp) rfl, ?_⟩))
        have hb7 := hb6.fr f7 (by simp)
        have hT7 := hT6.frame f7
        have f07 := f06.trans f7
        refine wCall_of (write_call hT7.a hFu.dok (by omega) x1 (sectorOf x3) (fun H8 j8 hd8 hf8 hj8 => opI_at ?_))
        have hT8 := hT7.stepA hd8 hf8 hj8
        have f08 : Fr [] H H8 := f07.trans' hf8 (fun x hx => .inr (by simp at hx; omega))
        have hb8 := hb7.fr hf8 (by simp; omega)
        have m7 := f07.next
        have m8 := f08.next
        have m78 := hf8.next
        refine ⟨PinOK_has hb8 (by simp) rfl, PinOK_has hb8 (by simp) rfl, wCall_of (sector_call x3 y3 (fun H10 f10 => opS_at ⟨PinOK_has (hb8.fr f10 (by simp)) (by simp) rfl, ?_⟩))⟩
        have hT10 := hT8.frame f10
        have f010 := f08.trans f10
        have m10 := f10.next
        refine wCall_of (write_call hT10.b hFu.fok (by omega) x1 (sectorOf x3) (fun H9 j9 hd9 hf9 hj9' => opI_at ?_))
        have hT9 := hT10.stepB hd9 hf9 hj9'
        have f9 : Fr [] H H9 := f010.trans' hf9 (fun x hx => .inr (by simp at hx; omega))
        have hS := hFu.write (by omega) (by omega) (by omega) x1 (sectorOf x3)
        have hw9 : (d.write x1 (sectorOf x3)).2.waits.length ≤ k + 1 := by have := d.write_waits x1 (sectorOf x3); omega
        have hv9 : (f.write x1 (sectorOf x3)).2.waits.length ≤ k + 1 := by have := f.write_waits x1 (sectorOf x3); omega
        have hj9 : H.next ≤ j8 ∧ H.next ≤ j9 := by omega
        rw [f3_J0_eq]
        unfold f3_J0_B
        refine wIf_d (fun hx => ?_) (fun hx => ?_)
        · rw [if_pos hx] at hS
          rw [wi1 done (by omega)]
          rw [f3_J1_eq]
          unfold f3_J1_B
          have ho := hS.inv.offs
          have eo : decide (((done + 1 : Nat) : Int) ≥ (n : Int)) = decide (n ≤ done + 1) := decide_eq_decide.2 (by omega)
          refine wIf_d (fun c => ?_) (fun c => ?_)
          · obtain ⟨s1, s2⟩ := hS.same (by omega)
            refine wIf_nf s1 (wCall_of (waits_call hT9.a (opI_at (wCall_of (waits_call hT9.b (opI_at (wIf_nf (by omega) (wIf_df (by omega) (wCall_of (off_call hT9.b (opB_at ?_)))))))))))
            rw [f3_J2_eq]
            unfold f3_J2_B
            exact wIf_f (by rw [ho, eo]; simp) ⟨len - (k + 1), by omega, f3_I0_mk ⟨k + 1, done + 1, _, _, _, _, by omega, by omega, wi1 k (by omega), rfl, rfl, by omega, hT9, hS.inv, hw9, hv9, hj9, f9⟩⟩
          · have g := hS.gone (by omega)
            refine wIf_dt (by omega) (wIf_nf g (wCall_of (off_call hT9.b (opB_at ?_))))
            rw [f3_J2_eq]
            unfold f3_J2_B
            exact wIf_f (by rw [ho, eo]; simp) ⟨len - (k + 1), by omega, f3_I0_mk ⟨k + 1, done + 1, _, _, _, _, by omega, by omega, wi1 k (by omega), rfl, rfl, by omega, hT9, hS.inv, hw9, hv9, hj9, f9⟩⟩
        · rw [if_neg hx] at hS
          rw [f3_J1_eq]
          unfold f3_J1_B
          have ho := hS.inv.offs
          have eo : decide (((done : Nat) : Int) ≥ (n : Int)) = decide (n ≤ done) := decide_eq_decide.2 (by omega)
          refine wIf_d (fun c => ?_) (fun c => ?_)
          · obtain ⟨s1, s2⟩ := hS.same (by omega)
            refine wIf_nf s1 (wCall_of (waits_call hT9.a (opI_at (wCall_of (waits_call hT9.b (opI_at (wIf_nf (by omega) (wIf_df (by omega) (wCall_of (off_call hT9.b (opB_at ?_)))))))))))
            rw [f3_J2_eq]
            unfold f3_J2_B
            exact wIf_f (by rw [ho, eo]; simp) ⟨len - (k + 1), by omega, f3_I0_mk ⟨k + 1, done, _, _, _, _, by omega, by omega, wi1 k (by omega), rfl, rfl, by omega, hT9, hS.inv, hw9, hv9, hj9, f9⟩⟩
          · have g := hS.gone (by omega)
            refine wIf_dt (by omega) (wIf_nf g (wCall_of (off_call hT9.b (opB_at ?_))))
            rw [f3_J2_eq]
            unfold f3_J2_B
            exact wIf_f (by rw [ho, eo]; simp) ⟨len - (k + 1), by omega, f3_I0_mk ⟨k + 1, done, _, _, _, _, by omega, by omega, wi1 k (by omega), rfl, rfl, by omega, hT9, hS.inv, hw9, hv9, hj9, f9⟩⟩
  · rw [f3_J3_eq]
    exact hend
end
end Go.Proofs.Ytnjhcnefgeodcaa
