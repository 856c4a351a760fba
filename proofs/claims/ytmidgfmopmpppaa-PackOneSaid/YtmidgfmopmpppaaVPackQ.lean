/- The statement: bytes that are read as a count, a number or a text are those that it is written in; a beginning of them is too short. -/
import Derived.Test.YtmidgfmopmpppaaVPackP
import Derived.Test.YtmidgfmopmpppaaVGenE
import Derived.Test.YtmidgfmopmpppaaVAbsR
namespace Go.Proofs.Ytmidgfmopmpppaa
set_option linter.unusedVariables false
set_option linter.unusedSimpArgs false
open Go.RowKit

structure Tri (H : AH) (i : Nat) (a b c : AObj) : Prop where
  next : i + 1 + 1 < H.next
  g0 : H.get i = some a
  g1 : H.get (i + 1) = some b
  g2 : H.get (i + 1 + 1) = some c
theorem Tri.ext {H H' : AH} {i : Nat} {a b c : AObj} (h : Tri H i a b c) (x : Ext H H') : Tri H' i a b c :=
  ⟨Nat.lt_of_lt_of_le h.next x.next, by rw [x.get _ (by have := h.next; omega)]; exact h.g0, by rw [x.get _ (by have := h.next; omega)]; exact h.g1, by rw [x.get _ h.next]; exact h.g2⟩
theorem Tri.make (H : AH) (a b c : AObj) : Tri (((H.push a).push b).push c) H.next a b c := by
  refine ⟨Nat.lt_succ_self _, ?_, ?_, ?_⟩
  · rw [AH.get_push, AH.next_push, AH.next_push, if_neg (by omega), AH.get_push, AH.next_push, if_neg (by omega), AH.get_push, if_pos rfl]
  · rw [AH.get_push, AH.next_push, AH.next_push, if_neg (by omega), AH.get_push, AH.next_push, if_pos rfl]
  · rw [AH.get_push, AH.next_push, AH.next_push, if_pos rfl]
theorem Tri.set0 {H : AH} {i : Nat} {a b c : AObj} (h : Tri H i a b c) (o : AObj) : Tri (H.set i o) i o b c :=
  ⟨h.next, by rw [AH.get_set, if_pos rfl], by rw [AH.get_set, if_neg (by omega)]; exact h.g1, by rw [AH.get_set, if_neg (by omega)]; exact h.g2⟩
theorem Tri.set1 {H : AH} {i : Nat} {a b c : AObj} (h : Tri H i a b c) (o : AObj) : Tri (H.set (i + 1) o) i a o c :=
  ⟨h.next, by rw [AH.get_set, if_neg (by omega)]; exact h.g0, by rw [AH.get_set, if_pos rfl], by rw [AH.get_set, if_neg (by omega)]; exact h.g2⟩
theorem Tri.set2 {H : AH} {i : Nat} {a b c : AObj} (h : Tri H i a b c) (o : AObj) : Tri (H.set (i + 1 + 1) o) i a b o :=
  ⟨h.next, by rw [AH.get_set, if_neg (by omega)]; exact h.g0, by rw [AH.get_set, if_neg (by omega)]; exact h.g1, by rw [AH.get_set, if_pos rfl]⟩

theorem sl_to {s : ByteArray} {k : Nat} (hk : k ≤ s.size) {H : AH} {K : Value → Prop} : aSlice Try.prog 9 (.string s) none (some (.int .i64 k)) none H K = K (.string (s.extract 0 k)) := by
  have h2 : (k : Int) ≤ s.size := by omega
  simp [aSlice, und9, bound, h2]

theorem rdC_fact (s : ByteArray) (h : (rdC s 0).2.2 = 0) : ofL (vb (rdC s 0).1) = s.extract 0 (s.size - (rdC s 0).2.1.size) ∧ (rdC s 0).2.1.size ≤ s.size := by
  unfold rdC at h ⊢
  rw [if_pos rfl] at h ⊢
  cases hp : pc s.data.toList with
  | error e =>
    rw [hp] at h
    have := pc_err hp
    dsimp only at h
    omega
  | ok p =>
    obtain ⟨n, k⟩ := p
    have hk := pc_le hp
    rw [data_len] at hk
    dsimp only
    have hsz : (s.extract k s.size).size = s.size - k := by simp
    rw [hsz]
    have h1 := count_back _ n k hp
    rw [← ba_toList] at h1
    have h2 : s.size - (s.size - k) = k := by omega
    rw [h2]
    exact ⟨h1, by omega⟩
theorem rdT_fact (s : ByteArray) (m : Int) (h : (rdT s 0 m).2.2 = 0) : tb (rdT s 0 m).1 = s.extract 0 (s.size - (rdT s 0 m).2.1.size) ∧ (rdT s 0 m).2.1.size ≤ s.size := by
  unfold rdT at h ⊢
  rw [if_pos rfl] at h ⊢
  cases hp : pc s.data.toList with
  | error e =>
    rw [hp] at h
    have := pc_err hp
    dsimp only at h
    omega
  | ok p =>
    obtain ⟨n, k⟩ := p
    rw [hp] at h
    dsimp only at h ⊢
    by_cases h1 : m < n
    · rw [if_pos h1] at h; simp at h
    · rw [if_neg h1] at h ⊢
      by_cases h2 : s.size < k + n
      · rw [if_pos h2] at h; simp at h
      · rw [if_neg h2] at h ⊢
        dsimp only
        have hsz : (s.extract (k + n) s.size).size = s.size - (k + n) := by simp
        rw [hsz]
        have h3 := text_back _ n k hp (by rw [data_len]; omega)
        rw [← ba_toList] at h3
        have h4 : s.size - (s.size - (k + n)) = k + n := by omega
        rw [h4]
        exact ⟨h3, by omega⟩
theorem rdT_size (s : ByteArray) (m : Int) : (rdT s 0 m).1.size ≤ s.size := by
  unfold rdT
  rw [if_pos rfl]
  cases hp : pc s.data.toList with
  | error e => exact Nat.zero_le _
  | ok p =>
    obtain ⟨n, k⟩ := p
    dsimp only
    split
    · exact Nat.zero_le _
    · split
      · exact Nat.zero_le _
      · simp; omega

theorem sub_left {a b : Nat} (h : b ≤ a) (ha : a ≤ 20000) : IntKind.i64.wrap ((a : Int) - (b : Int)) = ((a - b : Nat) : Int) := by rw [wrap_i64 _ (by omega) (by omega)]; omega

set_option hygiene false in
local macro "tC" : tactic => `(tactic| (
  refine aCall_of (by kernel_rfl) (bad_call _ _ _ _ hT.g2 _ ?_)
  dsimp only
  rw [bi_eql, aIf_dec]
  by_cases hC : (rdT s 0 s.size).2.2 = 0
  · rw [if_pos hC]
    have hf := rdT_fact s s.size hC
    refine aCall_of (by kernel_rfl) (text_call _ (by have := rdT_size s s.size; omega) _ _ fun HC hxC => ?_)
    dsimp only [str]
    rw [len_str]
    replace hT := hT.ext hxC
    refine aCall_of (by kernel_rfl) (left_call _ _ _ _ hT.g2 _ ?_)
    dsimp only
    rw [bi_sub, sub_left hf.2 hs, sl_to (Nat.sub_le _ _), bs_neq, hf.1, dec_self, Bool.not_true]
    exact key _ _ _ _ _ _ _ _ _ _ _ _ _ _ _ _ _ _ _ _ _ _ _ _ _ _ _ _ _ _ _ _ _ _ _ _ _ _ _ _ _ _ _ _ _ _ _ _ _ _ _ _ _ _ _ _ _ _ _ _ _ _ _ _ _ _ _ _ _ _ _ _ _ _ _ _ _ _ _ _ _ _ _ _ _ _ _ _ _ _ _ _ _ _ _ _ _ _ _ _ _ _ _ _ _ _ _ _ _ ⟨rfl, rfl, rfl, rfl, hT.next, hT.g2⟩
  · rw [if_neg hC]
    exact key _ _ _ _ _ _ _ _ _ _ _ _ _ _ _ _ _ _ _ _ _ _ _ _ _ _ _ _ _ _ _ _ _ _ _ _ _ _ _ _ _ _ _ _ _ _ _ _ _ _ _ _ _ _ _ _ _ _ _ _ _ _ _ _ _ _ _ _ _ _ _ _ _ _ _ _ _ _ _ _ _ _ _ _ _ _ _ _ _ _ _ _ _ _ _ _ _ _ _ _ _ _ _ _ _ _ _ _ _ ⟨rfl, rfl, rfl, rfl, hT.next, hT.g2⟩))
set_option hygiene false in
local macro "tB" : tactic => `(tactic| (
  refine aCall_of (by kernel_rfl) (bad_call _ _ _ _ hT.g1 _ ?_)
  dsimp only
  rw [bi_eql, aIf_dec]
  by_cases hB : (rdC s 0).2.2 = 0
  · rw [if_pos hB]
    have hf := rdC_fact s hB
    refine aCall_of (by kernel_rfl) (number_call _ (uz_range _ (rdC_lt s 0)).1 (uz_range _ (rdC_lt s 0)).2 _ _ fun HB hxB => ?_)
    dsimp only [str]
    rw [len_str]
    replace hT := hT.ext hxB
    refine aCall_of (by kernel_rfl) (left_call _ _ _ _ hT.g1 _ ?_)
    dsimp only
    rw [bi_sub, sub_left hf.2 hs, sl_to (Nat.sub_le _ _), bs_neq, zz_uz, hf.1, dec_self, Bool.not_true, aIf_false]
    tC
  · rw [if_neg hB]
    tC))

set_option maxRecDepth 20000 in
set_option maxHeartbeats 4000000 in
theorem packOne_law (s : ByteArray) (hs0 : s.size ≤ 140737488351232) (n : Int) (h1 : -9223372036854775808 ≤ n) (h2 : n ≤ 9223372036854775807) (H : AH) : ACall Try.prog 11 [str s, i64 n] H AllTrue := by
  apply f11_call
  unfold f11_B
  refine aCall_of (by kernel_rfl) (pawake_call _ _ fun H1 _ => ?_)
  dsimp only [str]
  rw [un_not, Bool.not_true, aIf_false, len_str, bi_gtr, aIf_dec]
  by_cases hs : s.size > 20000
  · rw [if_pos (by omega)]
    exact aCall_of (by kernel_rfl) (pawake_call _ _ fun H2 _ => rfl)
  · rw [if_neg (by omega)]
    replace hs : s.size ≤ 20000 := by omega
    refine aCall_of (by kernel_rfl) (new_call s H1 _ (aCall_of (by kernel_rfl) (new_call s _ _ (aCall_of (by kernel_rfl) (new_call s _ _ ?_)))))
    dsimp only
    have hT := Tri.make H1 (rdr s 0) (rdr s 0) (rdr s 0)
    rw [AH.next_push, AH.next_push]
    refine aCall_of (by kernel_rfl) (rcount_call _ _ _ _ hT.g0 _ ?_)
    replace hT := hT.set0 (rdr (rdC s 0).2.1 (rdC s 0).2.2)
    dsimp only
    refine aCall_of (by kernel_rfl) (rnumber_call _ _ _ _ hT.g1 _ ?_)
    replace hT := hT.set1 (rdr (rdC s 0).2.1 (rdC s 0).2.2)
    dsimp only
    rw [len_str]
    refine aCall_of (by kernel_rfl) (rtext_call _ _ _ s.size (by omega) (by omega) (by omega) _ hT.g2 _ ?_)
    replace hT := hT.set2 (rdr (rdT s 0 s.size).2.1 (rdT s 0 s.size).2.2)
    dsimp only
    have key : f11_J0_A AllTrue fun s1 s7 s10 s81 _ _ _ H => s1 = i64 n ∧ s7 = ptr (H1.next + 1 + 1) ∧ s10 = .string (rdT s 0 s.size).1 ∧ s81 = .bool false ∧ H1.next + 1 + 1 < H.next ∧ H.get (H1.next + 1 + 1) = some (rdr (rdT s 0 s.size).2.1 (rdT s 0 s.size).2.2) := by
      unfold f11_J0_A
      intros
      rename_i G
      obtain ⟨rfl, rfl, rfl, rfl, hlt, hg⟩ := G
      rw [f11_J0_eq, f11_J0_B, aIf_false, f11_J1_eq, f11_J1_B]
      refine aCall_of (by kernel_rfl) (bad_call _ _ _ _ hg _ ?_)
      dsimp only
      rw [bi_neq, aIf_ndec]
      by_cases hC : (rdT s 0 s.size).2.2 = 0
      · rw [if_pos hC]
        have htz := rdT_size s s.size
        refine aCall_of (by kernel_rfl) (text_call _ (by omega) _ _ fun H3 hx3 => ?_)
        dsimp only [str, i64]
        generalize hw : tb (rdT s 0 s.size).1 = w
        have hwl : 1 ≤ w.size ∧ w.size ≤ 20010 := by
          rw [← hw]
          have e : (tb (rdT s 0 s.size).1).size = (vb (rdT s 0 s.size).1.size).length + (rdT s 0 s.size).1.size := by
            unfold tb; rw [ByteArray.size_append, ofL_size]
          have := vbF_length 9 (rdT s 0 s.size).1.size
          have h3 : (vb (rdT s 0 s.size).1.size).length = (vbF 9 (rdT s 0 s.size).1.size).length := rfl
          omega
        rw [cv_int und31 ty3, len_str, cv_int und31 ty3, wrap_u64 _ (by omega), bi_rem _ _ _ (by omega), cv_int und3 ty31]
        obtain ⟨u, hu⟩ : ∃ u : Nat, IntKind.u64.wrap n = u := ⟨(IntKind.u64.wrap n).toNat, by rw [wrapu64_eq]; omega⟩
        rw [hu]
        have hmod : ((u : Int)).tmod (w.size : Int) = ((u % w.size : Nat) : Int) := rfl
        have hlt2 : u % w.size < w.size := Nat.mod_lt _ (by omega)
        rw [hmod, wrap_i64 _ (by omega) (by omega), sl_to (by omega)]
        refine aCall_of (by kernel_rfl) (new_call _ _ _ ?_)
        dsimp only
        rw [len_str]
        have hsh := text_short (rdT s 0 s.size).1 (u % w.size) (by rw [hw]; exact hlt2) (by omega)
        rw [hw] at hsh
        refine aCall_of (by kernel_rfl) (rtext_call _ (w.extract 0 (u % w.size)) 0 w.size (by simp; omega) (by omega) (by omega) _ (by rw [AH.get_push, if_pos rfl]) _ ?_)
        dsimp only
        rw [hsh.1, hsh.2]
        refine aCall_of (by kernel_rfl) (pawake_call _ _ fun H4 hx4 => ?_)
        dsimp only
        rw [aIf_true]
        refine aCall_of (by kernel_rfl) (bad_call _ ByteArray.empty 3 _ (by rw [hx4.get _ (by rw [AH.next_set, AH.next_push]; exact Nat.lt_succ_self _), AH.get_set, if_pos rfl]) _ ?_)
        dsimp only
        rw [bi_eql, dec_self]
      · rw [if_neg hC]
        exact aCall_of (by kernel_rfl) (pawake_call _ _ fun H3 _ => rfl)
    refine aCall_of (by kernel_rfl) (bad_call _ _ _ _ hT.g0 _ ?_)
    dsimp only
    rw [bi_eql, aIf_dec]
    by_cases hA : (rdC s 0).2.2 = 0
    · rw [if_pos hA]
      have hf := rdC_fact s hA
      refine aCall_of (by kernel_rfl) (count_call _ (rdC_lt s 0) _ _ fun HA hxA => ?_)
      dsimp only [str]
      rw [len_str]
      replace hT := hT.ext hxA
      refine aCall_of (by kernel_rfl) (left_call _ _ _ _ hT.g0 _ ?_)
      dsimp only
      rw [bi_sub, sub_left hf.2 hs, sl_to (Nat.sub_le _ _), bs_neq, hf.1, dec_self, Bool.not_true, aIf_false]
      tB
    · rw [if_neg hA]
      tB

theorem packOne_walk (a0 : ByteArray) (w0 : a0.size ≤ 140737488351232) (a1 : Int) (w1 : (Lit.int .i64 a1).wf = true) (w : World) :
    Calls Try.prog 11 #[.string a0, .int .i64 a1] w fun e w' => e = .returned (.bool true) ∧ Below w.heap.size w w' :=
  calls_plain w (by rfl) (packOne_law a0 w0 a1 (wf_i64 w1).1 (wf_i64 w1).2 AH0)
end Go.Proofs.Ytmidgfmopmpppaa
