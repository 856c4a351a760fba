/- The document's device: Fill. -/
import Derived.Test.YtnjhcnefgeodcaaWBlkE
import Derived.Test.YtnjhcnefgeodcaaWBlkT
namespace Go.Proofs.Ytnjhcnefgeodcaa
set_option linter.unusedVariables false
set_option linter.unusedSimpArgs false
open Go.RowKit
theorem pad_cat (s : ByteArray) : s.extract 0 (min s.size 64) ++ zeros (64 - min s.size 64) = pad64 s := by
  unfold pad64 zeros
  rw [← ofL_data (s.extract 0 (min s.size 64)), ofL_append]
  congr 1
  rw [List.drop_replicate]
  congr 1
  simp
section
variable {H : AH} {i jl jw jt n : Nat} {d : Dev} {R : AEnd → AH → Prop}
set_option maxHeartbeats 1000000 in
set_option maxRecDepth 20000 in
theorem rfill_call (hd : RefAt H i jl jw jt n d) (hok : d.OK) (s : ByteArray) (hsz : s.size ≤ 9223372036854775807) (h : ∀ H', RefAt H' i jl jw jt n (d.fill s) → Fr [i, jl] H H' → R (.ret (.tuple #[])) H') :
    ACall Try.prog 28 [.pointer (some ⟨i, 0, none⟩), .string s] H R := by
  apply f28_call
  unfold f28_B
  obtain ⟨al, hal, al1, al2⟩ := slV_eq jl d.lasts.length
  have own := hd.own
  unfold refRow at own
  rw [hal] at own
  have hfew := hok.few
  refine wPt_at (ldL_at own rfl ?_)
  refine f28_L0_rule (J := fun m s' r H' => ∃ (k : Nat) (L : List ByteArray), k ≤ d.lasts.length ∧ r = (k : Int) ∧ m = d.lasts.length - k ∧ L.length = d.lasts.length ∧ s'.size ≤ 9223372036854775807 ∧ L.take k ++ fillL (d.lasts.length - k) s' = fillL d.lasts.length s ∧
      Has H' i (refRow jl jw jt n d) ∧ (d.lasts.length ≠ 0 → Has H' jl (.row (strs L) 1)) ∧ Fr [i, jl] H H') d.lasts.length
    ⟨0, d.lasts, Nat.zero_le _, rfl, rfl, rfl, hsz, rfl, hd.own, fun e => (hd.lasts e).1, Fr.refl _ _⟩ ?_
  rintro m s' r H1 ⟨k, L, hkl, rfl, rfl, hL, hsz1, hfl, ho, hl, hf⟩
  intros
  unfold f28_R0
  have ho1 := ho
  unfold refRow at ho1
  rw [hal] at ho1
  refine wIf_d (fun hlt => ?_) (fun hge => ?_)
  · have hlt : k < d.lasts.length := by omega
    have hl0 : d.lasts.length ≠ 0 := by omega
    have hl := hl hl0
    have hji := (hd.lasts hl0).2
    rw [al1 hl0] at ho1
    have hmin : (if 64 < (s'.size : Int) then 64 else (s'.size : Int)) = ((min s'.size 64 : Nat) : Int) := by split <;> omega
    rw [hmin]
    have hsub : IntKind.i64.wrap (64 - ((min s'.size 64 : Nat) : Int)) = ((64 - min s'.size 64 : Nat) : Int) := by rw [wi _ (by omega) (by omega)]; omega
    rw [hsub]
    have htn : ((min s'.size 64 : Nat) : Int).toNat = min s'.size 64 := by omega
    have hsn : ((s'.size : Nat) : Int).toNat = s'.size := by omega
    have hfill : (L.set k (pad64 s')).take (k + 1) ++ fillL (d.lasts.length - (k + 1)) (s'.extract (min s'.size 64) s'.size) = fillL d.lasts.length s := by
      rw [← hfl]
      have e : d.lasts.length - k = (d.lasts.length - (k + 1)) + 1 := by omega
      rw [e, fillL, List.take_set, List.take_add_one, List.getElem?_eq_getElem (by omega)]
      have : ((L.take k ++ (some L[k]).toList).set k (pad64 s')) = L.take k ++ [pad64 s'] := by
        have hlk : (L.take k).length = k := by rw [List.length_take]; omega
        rw [List.set_append_right _ _ (by omega), hlk]; simp
      rw [this]; simp
    have hcs : (s'.extract 0 (min s'.size 64)).size + (zeros (64 - min s'.size 64)).size ≤ 9223372036854775807 := by
      unfold zeros; rw [ofL_size, List.length_replicate, ByteArray.size_extract]; omega
    have done : ∀ (H2 : AH), Fr [] H1 H2 → ∀ H3, H3 = H2.set jl (.row (setCells (strs L) (0 + ((k : Nat) : Int).toNat * 1) [.string (s'.extract 0 (min s'.size 64) ++ zeros (64 - min s'.size 64))]) 1) →
        ∃ (k' : Nat) (L' : List ByteArray), k' ≤ d.lasts.length ∧ IntKind.i64.wrap ((k : Int) + 1) = (k' : Int) ∧ d.lasts.length - (k + 1) = d.lasts.length - k' ∧ L'.length = d.lasts.length ∧ (s'.extract (min s'.size 64) s'.size).size ≤ 9223372036854775807 ∧
          L'.take k' ++ fillL (d.lasts.length - k') (s'.extract (min s'.size 64) s'.size) = fillL d.lasts.length s ∧ Has H3 i (refRow jl jw jt n d) ∧ (d.lasts.length ≠ 0 → Has H3 jl (.row (strs L') 1)) ∧ Fr [i, jl] H H3 := by
      rintro H2 x H3 rfl
      rw [pad_cat, Int.toNat_natCast, Nat.zero_add, Nat.mul_one, strs_set]
      exact ⟨k + 1, L.set k (pad64 s'), hlt, wi1 k (by omega), rfl, by rw [List.length_set]; exact hL, by rw [ByteArray.size_extract]; omega, hfill, (ho.fr x (by simp)).setne hji.symm _, fun _ => (hl.fr x (by simp)).set _,
        (hf.trans (x.mono (by simp))).set (.inl (by simp)) _⟩
    have hkk : 0 + ((k : Nat) : Int).toNat * 1 + 1 ≤ (strs L).length := by rw [strs_length, hL]; omega
    refine wPt_at (wSlS_at (by omega) (by omega) (by omega) ?_)
    rw [htn]
    refine ⟨ldL_at ho1 rfl (wCall_of (blank_call _ (by omega) (fun H2 f2 => opS_at (wCat_at hcs (wIx_at (by omega) (by omega) (wSt_at (hl.fr f2 (by simp)) hkk ?_)))))),
      wCall_of (blank_call _ (by omega) (fun H2 f2 => opS_at (wCat_at hcs (ldL_at (ho1.fr f2 (by simp)) rfl (wIx_at (by omega) (by omega) (wSt_at (hl.fr f2 (by simp)) hkk ?_))))))⟩ <;>
    · rw [f28_J0_eq]
      unfold f28_J0_B
      refine wSlS_at (by omega) (by omega) (by omega) ?_
      rw [htn, hsn]
      exact ⟨d.lasts.length - (k + 1), by omega, f28_I0_mk (done _ f2 _ rfl)⟩
  · have hk : k = d.lasts.length := by omega
    subst hk
    rw [f28_J1_eq]
    unfold f28_J1_B
    refine wPt_at (wSt_at ho (by simp) ?_)
    have hLf : L = fillL d.lasts.length s := by
      rw [← hfl, Nat.sub_self, fillL, List.append_nil, ← hL, List.take_length]
    have hn : (d.fill s).lasts.length = d.lasts.length := fillL_length _ _
    refine h _ ⟨?_, fun e => ?_, fun e => absurd rfl e, fun e => ?_⟩ (hf.set (.inl (by simp)) _)
    · have e : refRow jl jw jt n (d.fill s) = .row (setCells [slV jl d.lasts.length, slV jw d.waits.length, .bool d.off, .int .i64 d.left, .int .u64 d.crash.keep, .int .i64 d.crash.torn, .int .i64 d.crash.at_, slV jt n] 1 [.slice none 0 0]) 0 := by
        unfold refRow
        rw [hn]
        rfl
      rw [e]
      exact ho.set _
    · rw [hn] at e
      show Has _ jl (.row (strs (fillL d.lasts.length s)) 1) ∧ _
      rw [← hLf]
      exact ⟨(hl e).setne (hd.lasts e).2 _, (hd.lasts e).2⟩
    · obtain ⟨cs, c1, c2, c3, c4, c5, c6⟩ := hd.tears e
      exact ⟨cs, c1, c2, (c3.fr hf (by simp only [List.mem_cons, List.not_mem_nil, or_false, not_or]; exact ⟨c4, c5⟩)).setne c4 _, c4, c5, fun x => absurd rfl x⟩
end
end Go.Proofs.Ytnjhcnefgeodcaa
