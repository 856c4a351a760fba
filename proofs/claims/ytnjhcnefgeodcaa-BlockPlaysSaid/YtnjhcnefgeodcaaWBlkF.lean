/- The chapter's examples, and a device that is none. -/
import Derived.Test.YtnjhcnefgeodcaaWBlkE
import Derived.Test.YtnjhcnefgeodcaaWGenB
import Derived.Test.YtnjhcnefgeodcaaWAbsR
namespace Go.Proofs.Ytnjhcnefgeodcaa
set_option linter.unusedVariables false
set_option linter.unusedSimpArgs false
open Go.RowKit

def xs : ByteArray := sectorOf ⟨#[120, 120, 120, 120, 120]⟩
def ys : ByteArray := sectorOf ⟨#[121, 121, 121, 121, 121]⟩
def devN : Dev := newDev 2
def devX : Dev := (devN.write 0 xs).2
def devW : Dev := (devX.write 0 ys).2
theorem ex1 : (devN.write 0 xs).1 = 0 := by decide +kernel
theorem ex2 : (devX.write 0 ys).1 = 0 := by decide +kernel
theorem ex3 : ((devW.kill ⟨1, -1, 0⟩).read 0).1 = xs := by decide +kernel
theorem ex4 : ((devW.kill ⟨0, 1, 3⟩).read 0).1 = sectorOf ⟨#[121, 121, 121]⟩ := by decide +kernel
theorem ex5 : (devW.kill ⟨1, -1, 0⟩).lasts.length = 2 := by decide +kernel
theorem devN_ok : devN.OK := newDev_ok 2 (by omega)
theorem devX_ok : devX.OK := devN_ok.write (by show 0 < _; omega) _ _
theorem devX_few : devX.waits.length < 1099511627775 := by decide +kernel
theorem devW_ok : devW.OK := devX_ok.write devX_few _ _
theorem sec2 : sectorsOf 2 = 2 := by decide
/-- Two devices, apart. -/
structure Two (H : AH) (ia la ja ib lb jb : Nat) (da db : Dev) : Prop where
  a : DevAt H ia la ja da
  b : DevAt H ib lb jb db
  ap : (ia ≠ ib ∧ ia ≠ lb ∧ ia ≠ jb) ∧ (la ≠ ib ∧ la ≠ lb ∧ la ≠ jb) ∧ (ja ≠ ib ∧ ja ≠ lb ∧ ja ≠ jb)
theorem DevAt.jlt {H : AH} {i jl jw : Nat} {d : Dev} (h : DevAt H i jl jw d) : jw < H.next := by
  by_cases e : d.waits = []
  · rw [h.emp e]; exact h.own.lt
  · exact (h.waits e).lt
theorem Two.stepA {H H' : AH} {ia la ja ib lb jb j' : Nat} {da db da' : Dev} (h : Two H ia la ja ib lb jb da db) (hd : DevAt H' ia la j' da') (hf : Fr [ia, la, ja] H H') (hj : j' = ia ∨ j' = ja ∨ H.next ≤ j') : Two H' ia la j' ib lb jb da' db := by
  obtain ⟨h1, h2, h3⟩ := h.ap
  refine ⟨hd, h.b.fr hf ?_, h1, h2, ?_⟩
  · simp; omega
  · have a1 := h.b.own.lt; have a2 := h.b.lasts.lt; have a3 := h.b.jlt
    rcases hj with rfl | rfl | hj
    · exact h1
    · exact h3
    · omega
theorem Two.stepB {H H' : AH} {ia la ja ib lb jb j' : Nat} {da db db' : Dev} (h : Two H ia la ja ib lb jb da db) (hd : DevAt H' ib lb j' db') (hf : Fr [ib, lb, jb] H H') (hj : j' = ib ∨ j' = jb ∨ H.next ≤ j') : Two H' ia la ja ib lb j' da db' := by
  obtain ⟨h1, h2, h3⟩ := h.ap
  refine ⟨h.a.fr hf ?_, hd, ?_⟩
  · simp; omega
  · have a1 := h.a.own.lt; have a2 := h.a.lasts.lt; have a3 := h.a.jlt
    rcases hj with rfl | rfl | hj <;> omega
theorem Two.frame {H H' : AH} {ia la ja ib lb jb : Nat} {da db : Dev} (h : Two H ia la ja ib lb jb da db) (hf : Fr [] H H') : Two H' ia la ja ib lb jb da db := ⟨h.a.fr hf (by simp), h.b.fr hf (by simp), h.ap⟩

section
variable {H : AH} {R : AEnd → AH → Prop}
def stA (k : Nat) : Dev := if 1 ≤ k then devW else devN
def stB (k : Nat) : Dev := if 2 ≤ k then devW else devN
set_option maxHeartbeats 1000000 in
set_option maxRecDepth 20000 in
theorem awake_call (h : ∀ H', Fr [] H H' → R (.ret (.bool true)) H') : ACall Try.prog 8 [] H R := by
  apply f8_call
  unfold f8_B
  refine wCall_of (new_call 2 (fun H1 ia la hda hf1 hi1 hl1 => opP_at (wCall_of (new_call 2 (fun H2 ib lb hdb hf2 hi2 hl2 => opP_at (wBs_at ?_))))))
  rw [sec2] at hda hdb
  have hq := Has.new H2 (.row [.pointer (some ⟨ia, 0, none⟩), .pointer (some ⟨ib, 0, none⟩)] 1)
  have hia := hda.own.lt
  have hla := hda.lasts.lt
  have hib := hdb.own.lt
  have hlb := hdb.lasts.lt
  have hTwo : Two H2 ia la ia ib lb ib devN devN := ⟨hda.fr hf2 (by simp), hdb, by omega⟩
  have hT3 := hTwo.frame ((Fr.refl [] H2).push (.row [.pointer (some ⟨ia, 0, none⟩), .pointer (some ⟨ib, 0, none⟩)] 1))
  have hf3 : Fr [] H (H2.push (.row [.pointer (some ⟨ia, 0, none⟩), .pointer (some ⟨ib, 0, none⟩)] 1)) := (hf1.trans hf2).push _
  have hn1 := hf1.next
  have hn2 := hf2.next
  refine f8_L0_rule (J := fun m r H' => ∃ (k ja jb : Nat), k ≤ 2 ∧ r = (k : Int) ∧ m = 2 - k ∧ Two H' ia la ja ib lb jb (stA k) (stB k) ∧ Has H' H2.next (.row [.pointer (some ⟨ia, 0, none⟩), .pointer (some ⟨ib, 0, none⟩)] 1) ∧
      (ja ≠ H2.next ∧ jb ≠ H2.next ∧ H.next ≤ ja ∧ H.next ≤ jb) ∧ Fr [] H H') 2 ⟨0, ia, ib, by omega, rfl, rfl, hT3, hq, by omega, hf3⟩ ?_
  rintro m r H3 ⟨k, ja, jb, hk, rfl, rfl, hT, hq3, hj, hf⟩
  intros
  unfold f8_R0
  refine wIf_d (fun hlt => ?_) (fun hge => ?_)
  · have write2 : ∀ (H4 H5 : AH) (i l j j1 : Nat), DevAt H5 i l j1 devX → True := fun _ _ _ _ _ _ _ => trivial
    refine wIx_at (by omega) (by omega) ?_
    have hk2 : k = 0 ∨ k = 1 := by omega
    rcases hk2 with rfl | rfl
    · refine ldP_at hq3 rfl (wCall_of (sector_call _ (by decide) (fun H4 hf4 => opS_at ?_)))
      have hT4 := hT.frame hf4
      have hA : DevAt H4 ia la ja devN := hT4.a
      refine wCall_of (write_call hA devN_ok (by show 0 < _; omega) 0 xs (fun H5 j5 hd5 hf5 hj5 => opI_at (wIf_nf ex1 ?_)))
      have hT5 := hT4.stepA hd5 hf5 hj5
      refine wCall_of (sector_call _ (by decide) (fun H6 hf6 => opS_at ?_))
      have hT6 := hT5.frame hf6
      refine wCall_of (write_call hT6.a devX_ok devX_few 0 ys (fun H7 j7 hd7 hf7 hj7 => opI_at ?_))
      have hT7 := hT6.stepA hd7 hf7 hj7
      rw [f8_J0_eq]
      unfold f8_J0_B
      have e4 := hf4.next; have e5 := hf5.next; have e6 := hf6.next; have e7 := hf7.next; have eq3 := hq3.lt
      have hne5 : j5 ≠ H2.next ∧ H.next ≤ j5 := by rcases hj5 with rfl | rfl | e <;> omega
      have hne7 : j7 ≠ H2.next ∧ H.next ≤ j7 := by rcases hj7 with rfl | rfl | e <;> omega
      have hfa : Fr [] H H7 := by
        have a1 := hf.trans hf4
        have a2 := a1.trans' hf5 (fun x hx => .inr (by simp at hx; omega))
        have a3 := a2.trans hf6
        exact a3.trans' hf7 (fun x hx => .inr (by simp at hx; omega))
      have hqa : Has H7 H2.next (.row [.pointer (some ⟨ia, 0, none⟩), .pointer (some ⟨ib, 0, none⟩)] 1) := (((hq3.fr hf4 (by simp)).fr hf5 (by simp; omega)).fr hf6 (by simp)).fr hf7 (by simp; omega)
      refine wIf_f (by have e2 : (((devN.write 0 xs).2).write 0 ys).1 = 0 := ex2; rw [e2]; rfl) ⟨1, by omega, f8_I0_mk ⟨1, j7, jb, by omega, wi1 0 (by omega), rfl, hT7, hqa, by omega, hfa⟩⟩
    · refine ldP_at hq3 rfl (wCall_of (sector_call _ (by decide) (fun H4 hf4 => opS_at ?_)))
      have hT4 := hT.frame hf4
      have hB : DevAt H4 ib lb jb devN := hT4.b
      refine wCall_of (write_call hB devN_ok (by show 0 < _; omega) 0 xs (fun H5 j5 hd5 hf5 hj5 => opI_at (wIf_nf ex1 ?_)))
      have hT5 := hT4.stepB hd5 hf5 hj5
      refine wCall_of (sector_call _ (by decide) (fun H6 hf6 => opS_at ?_))
      have hT6 := hT5.frame hf6
      refine wCall_of (write_call hT6.b devX_ok devX_few 0 ys (fun H7 j7 hd7 hf7 hj7 => opI_at ?_))
      have hT7 := hT6.stepB hd7 hf7 hj7
      rw [f8_J0_eq]
      unfold f8_J0_B
      have e4 := hf4.next; have e5 := hf5.next; have e6 := hf6.next; have e7 := hf7.next; have eq3 := hq3.lt
      have hne5 : j5 ≠ H2.next ∧ H.next ≤ j5 := by rcases hj5 with rfl | rfl | e <;> omega
      have hne7 : j7 ≠ H2.next ∧ H.next ≤ j7 := by rcases hj7 with rfl | rfl | e <;> omega
      have hfa : Fr [] H H7 := by
        have a1 := hf.trans hf4
        have a2 := a1.trans' hf5 (fun x hx => .inr (by simp at hx; omega))
        have a3 := a2.trans hf6
        exact a3.trans' hf7 (fun x hx => .inr (by simp at hx; omega))
      have hqa : Has H7 H2.next (.row [.pointer (some ⟨ia, 0, none⟩), .pointer (some ⟨ib, 0, none⟩)] 1) := (((hq3.fr hf4 (by simp)).fr hf5 (by simp; omega)).fr hf6 (by simp)).fr hf7 (by simp; omega)
      refine wIf_f (by have e2 : (((devN.write 0 xs).2).write 0 ys).1 = 0 := ex2; rw [e2]; rfl) ⟨0, by omega, f8_I0_mk ⟨2, ja, j7, by omega, wi1 1 (by omega), rfl, hT7, hqa, by omega, hfa⟩⟩
  · have hk2 : k = 2 := by omega
    subst hk2
    rw [f8_J1_eq]
    unfold f8_J1_B
    have hA : DevAt H3 ia la ja devW := hT.a
    refine wCall_of (kill_call hA devW_ok ⟨1, -1, 0⟩ (fun H4 j4 hd4 hf4 hj4 => ?_))
    have hT4 := hT.stepA hd4 (hf4.mono (by simp)) (by omega)
    have hB : DevAt H4 ib lb jb devW := hT4.b
    refine wCall_of (kill_call hB devW_ok ⟨0, 1, 3⟩ (fun H5 j5 hd5 hf5 hj5 => ?_))
    have hT5 := hT4.stepB hd5 (hf5.mono (by simp)) (by omega)
    have hfa : Fr [] H H5 := (hf.trans' hf4 (fun x hx => .inr (by simp at hx; omega))).trans' hf5 (fun x hx => .inr (by simp at hx; omega))
    refine wCall_of (read_call hT5.a (devW_ok.kill _) 0 ?_)
    refine opT_at rfl (opS_at (opI_at (wCall_of (read_call hT5.b (devW_ok.kill _) 0 ?_))))
    refine opT_at rfl (opS_at (opI_at (wCall_of (sector_call _ (by decide) (fun H6 hf6 => opS_at (wIf_dt ex3 (wCall_of (sector_call _ (by decide) (fun H7 hf7 => opS_at (wIf_dt ex4 ?_))))))))))
    have hT7 := (hT5.frame hf6).frame hf7
    refine wCall_of (sectors_call hT7.a (opI_at ?_))
    have : (decide ((((devW.kill ⟨1, -1, 0⟩).lasts.length : Nat) : Int) = 2)) = true := by rw [ex5]; rfl
    rw [this]
    exact h _ ((hfa.trans hf6).trans hf7)

theorem waits_nil (h : R (.ret (.int .i64 0)) H) : ACall Try.prog 14 [.pointer none] H R := by
  apply f14_call
  unfold f14_B
  exact wIf_t rfl h
theorem sectors_nil (h : R (.ret (.int .i64 0)) H) : ACall Try.prog 18 [.pointer none] H R := by
  apply f18_call
  unfold f18_B
  exact wIf_t rfl h
theorem lasting_nil (h : R (.ret (.string ⟨#[]⟩)) H) : ACall Try.prog 19 [.pointer none] H R := by
  apply f19_call
  unfold f19_B
  exact wIf_t rfl h
set_option maxRecDepth 20000 in
theorem blockNil_law (H : AH) : ACall Try.prog 7 [] H AllTrue := by
  apply f7_call
  unfold f7_B
  refine wCall_of (awake_call (fun H1 _ => opB_at (wIf_f rfl ?_)))
  refine wCall_of (kill_nil _ _ _ (fun H2 _ => wCall_of (fuse_nil _ _ _ _ (fun H3 _ => wCall_of (up_nil (wCall_of (fill_nil _ (wCall_of (read_nil _ ?_)))))))))
  refine opT_at rfl (opS_at (opI_at (wCall_of (awake_call (fun H4 _ => opB_at (wIf_t rfl (wIf_dt rfl ?_)))))))
  refine wCall_of (write_nil _ _ (opI_at (wIf_dt rfl ?_)))
  refine wCall_of (flush_nil (opI_at (wIf_dt rfl ?_)))
  refine wCall_of (sectors_nil (opI_at (wIf_dt rfl ?_)))
  refine wCall_of (waits_nil (opI_at (wIf_dt rfl ?_)))
  refine wCall_of (off_nil (opB_at (wIf_t rfl ?_)))
  refine wCall_of (lasting_nil (opS_at ?_))
  rfl
theorem blockNil_walk (w : World) : Calls Try.prog 7 #[] w fun e w' => e = .returned (.bool true) ∧ Below w.heap.size w w' :=
  calls_plain w (by rfl) (blockNil_law AH0)
end
end Go.Proofs.Ytnjhcnefgeodcaa
