/- The packing functions, each by what it computes: what the reader reads. -/
import Derived.Test.YtmidgfmopmpppaaVPackV
namespace Go.Proofs.Ytmidgfmopmpppaa
set_option linter.unusedVariables false
set_option linter.unusedSimpArgs false
open Go.RowKit

theorem AH.set_same (H : AH) (i : Nat) (o : AObj) (h : H.get i = some o) : H.set i o = H := by
  cases H with
  | mk n g =>
    unfold AH.set
    congr 1
    funext j
    by_cases e : j = i
    · subst e; simp only [if_true]; exact h.symm
    · simp only [if_neg e]

/-- A count is read. -/
def rdC (s : ByteArray) (e : Int) : Nat × ByteArray × Int :=
  if e = 0 then match pc s.data.toList with
    | .error e' => (0, ByteArray.empty, e')
    | .ok (n, k) => (n, s.extract k s.size, 0)
  else (0, s, e)

theorem sl_from {s : ByteArray} {k : Nat} (hk : k ≤ s.size) {H : AH} {K : Value → Prop} : aSlice Try.prog 9 (.string s) (some (.int .i64 k)) none none H K = K (.string (s.extract k s.size)) := by
  have h1 : (0 : Int) ≤ k := by omega
  have h2 : (k : Int) ≤ s.size := by omega
  simp [aSlice, und9, bound, h2]
theorem sl_cut {s : ByteArray} {j k : Nat} (hj : j ≤ k) (hk : k ≤ s.size) {H : AH} {K : Value → Prop} : aSlice Try.prog 9 (.string s) (some (.int .i64 j)) (some (.int .i64 k)) none H K = K (.string (s.extract j k)) := by
  have h1 : (j : Int) ≤ k := by omega
  have h2 : (k : Int) ≤ s.size := by omega
  simp [aSlice, und9, bound, h1, h2]
theorem ex30 (a b c : Value) (K : Value → Prop) : aExtract (.tuple #[a, b, c]) 0 K = K a := rfl
theorem ex31 (a b c : Value) (K : Value → Prop) : aExtract (.tuple #[a, b, c]) 1 K = K b := rfl
theorem ex32 (a b c : Value) (K : Value → Prop) : aExtract (.tuple #[a, b, c]) 2 K = K c := rfl
theorem pc_le {l : List UInt8} {n k : Nat} (h : pc l = .ok (n, k)) : k ≤ l.length := (pcF_ok 9 true l n k h).2.1
theorem pc_lt {l : List UInt8} {n k : Nat} (h : pc l = .ok (n, k)) : n < 18446744073709551616 := (pcF_ok 9 true l n k h).1
theorem pc_err {l : List UInt8} {e : Nat} (h : pc l = .error e) : e ≠ 0 := by have := pcF_errs 9 true l e h; omega
theorem data_len (s : ByteArray) : s.data.toList.length = s.size := by simp

theorem rcount_call (i : Nat) (s : ByteArray) (e : Int) (H : AH) (hg : H.get i = some (rdr s e)) (R : AEnd → AH → Prop)
    (h : R (.ret (.int .u64 (rdC s e).1)) (H.set i (rdr (rdC s e).2.1 (rdC s e).2.2))) : ACall Try.prog 28 [ptr i] H R := by
  apply f28_call
  unfold f28_B
  refine aCall_of (by kernel_rfl) (off_call i s e H hg _ ?_)
  dsimp only
  rw [aIf_ndec]
  unfold rdC at h
  by_cases he : e = 0
  · subst he
    rw [if_pos rfl] at h ⊢
    refine aCall_of (by kernel_rfl) (pcount_call i s 0 H hg _ ?_)
    cases hp : pc s.data.toList with
    | error e' =>
      rw [hp] at h
      have := pc_err hp
      dsimp only [cres]
      rw [ex30, ex31, ex32, bi_neq, aIf_ndec, if_neg (by omega)]
      exact aCall_of (by kernel_rfl) (fail_call i s 0 e' H hg _ h)
    | ok p =>
      obtain ⟨n, k⟩ := p
      rw [hp] at h
      have hk := pc_le hp
      rw [data_len] at hk
      dsimp only [cres]
      rw [ex30, ex31, ex32, bi_neq, aIf_ndec, if_pos rfl, nilc, fld0, ld0 hg, sl_from hk, nilc, fld0, sto0 hg]
      exact h
  · rw [if_neg he] at h ⊢
    rw [AH.set_same H i _ hg] at h
    exact h

theorem rcount_nil (H : AH) (R : AEnd → AH → Prop) (h : R (.ret (.int .u64 0)) H) : ACall Try.prog 28 [.pointer none] H R := by
  apply f28_call
  unfold f28_B
  refine aCall_of (by kernel_rfl) (off_nil H _ ?_)
  dsimp only
  rw [aIf_true]
  exact h

/-- The chapter's examples hold. -/
theorem pawake_call (H : AH) (R : AEnd → AH → Prop) (h : ∀ H', Ext H H' → R (.ret (.bool true)) H') : ACall Try.prog 19 [] H R := by
  apply f19_call
  unfold f19_B
  refine aCall_of (by kernel_rfl) (new_call _ H _ ?_)
  dsimp only
  have hg : (H.push (rdr ⟨#[128, 0]⟩ 0)).get H.next = some (rdr ⟨#[128, 0]⟩ 0) := by rw [AH.get_push, if_pos rfl]
  refine aCall_of (by kernel_rfl) (rcount_call H.next _ 0 _ hg _ ?_)
  dsimp only
  have hr : rdC ⟨#[128, 0]⟩ 0 = (0, ByteArray.empty, 4) := by decide +kernel
  rw [hr]
  dsimp only
  have hx : Ext H ((H.push (rdr ⟨#[128, 0]⟩ 0)).set H.next (rdr ByteArray.empty 4)) := ((Ext.refl H).push _).set (Nat.le_refl _) _
  generalize hH2 : (H.push (rdr ⟨#[128, 0]⟩ 0)).set H.next (rdr ByteArray.empty 4) = H2 at hx ⊢
  have hg2 : H2.get H.next = some (rdr ByteArray.empty 4) := by rw [← hH2, AH.get_set, if_pos rfl]
  have hn2 : H.next < H2.next := by rw [← hH2, AH.next_set, AH.next_push]; exact Nat.lt_succ_self _
  refine aCall_of (by kernel_rfl) (count_call 300 (by omega) _ _ fun H3 hx3 => ?_)
  dsimp only [str]
  rw [bs_eql, aIf_dec, if_pos (by decide +kernel)]
  refine aCall_of (by kernel_rfl) (number_call (-1) (by omega) (by omega) _ _ fun H4 hx4 => ?_)
  dsimp only [str]
  rw [bs_eql, aIf_dec, if_pos (by decide +kernel)]
  refine aCall_of (by kernel_rfl) (number_call 64 (by omega) (by omega) _ _ fun H5 hx5 => ?_)
  dsimp only [str]
  rw [bs_eql, aIf_dec, if_pos (by decide +kernel)]
  have hx25 := (hx3.trans hx4).trans hx5
  refine aCall_of (by kernel_rfl) (bad_call H.next ByteArray.empty 4 _ (by rw [hx25.get _ hn2]; exact hg2) _ ?_)
  dsimp only
  rw [bi_eql]
  exact h _ (hx.trans hx25)
end Go.Proofs.Ytmidgfmopmpppaa
