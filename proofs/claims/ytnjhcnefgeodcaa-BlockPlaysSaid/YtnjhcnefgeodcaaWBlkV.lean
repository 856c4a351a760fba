/- The document's device: New. -/
import Derived.Test.YtnjhcnefgeodcaaWBlkU
namespace Go.Proofs.Ytnjhcnefgeodcaa
set_option linter.unusedVariables false
set_option linter.unusedSimpArgs false
open Go.RowKit
/-- A row that grows by one element: what follows, and what stays. -/
theorem app_one {c0 l c esz by_ : Nat} {H : AH} {b : Option Addr} {cs new : List Value} {K : Option Addr → Nat → Nat → AH → Prop} {S : List Nat} (h : OwnC c0 H esz b l c cs) (hS : ∀ o, b = some ⟨o, 0, none⟩ → o ∈ S) (hc0 : c0 ≤ H.next)
    (hn : new.length = esz) (h1 : (new.all oneCell) = true) (h2 : (l + 1) * by_ ≤ 140737488355328) (h3 : l + 1 ≤ 9223372036854775807) {q : Nat} (hq : Has H q (.row new esz)) (hqo : ∀ o, b = some ⟨o, 0, none⟩ → o ≠ q)
    (hk : ∀ o H', OwnC c0 H' esz (some ⟨o, 0, none⟩) (l + 1) 0 (cs ++ new) → Fr S H H' → H.next ≤ o → K (some ⟨o, 0, none⟩) (l + 1) 0 H') : wAppL esz by_ b l c (some ⟨q, 0, none⟩) 1 0 H K := by
  have hsc := sliceCells_new H new esz 1 0 (by omega) hq
  rcases h with ⟨rfl, rfl, rfl, rfl⟩ | ⟨o, rfl, rfl, hl, ho, hb⟩
  · refine wAppL_nil (n := 0) hsc (by omega) h1 (by omega) (by omega) ?_
    exact hk _ _ (.inr ⟨_, rfl, rfl, by rw [List.nil_append]; omega, by rw [List.nil_append]; exact Has.new _ _, hc0⟩) ((Fr.refl _ _).push _) (Nat.le_refl _)
  · refine wAppL_own ho hl hsc (by omega) h1 h2 h3 (hk _ _ (.inr ⟨_, rfl, rfl, ?_, Has.new (H.drop o) _, by show c0 ≤ H.next; exact hc0⟩) (((Fr.refl _ _).drop (.inl (hS o rfl))).push _) (Nat.le_refl _))
    rw [List.length_append, ← hl, hn, Nat.add_mul]; omega
def ownS : Option Addr → List Nat
  | some ⟨o, _, _⟩ => [o]
  | none => []
theorem fillL_nil (n : Nat) : fillL n ByteArray.empty = List.replicate n (zeros 64) := by
  induction n with
  | zero => rfl
  | succ n ih =>
    have e : ByteArray.empty.extract (min ByteArray.empty.size 64) ByteArray.empty.size = ByteArray.empty := by decide
    rw [fillL, e, ih, List.replicate_succ]
    congr 1
section
variable {H : AH} {R : AEnd → AH → Prop}
abbrev nrow (b : Option Addr) (l c : Nat) : AObj := .row [.slice b l c, .slice none 0 0, .bool false, .int .i64 0, .int .u64 0, .int .i64 0, .int .i64 0, .slice none 0 0] 0
set_option maxRecDepth 20000 in
theorem rnew_call (n : Int) (h : ∀ H' i jl, RefAt H' i jl i i 0 (newDev (sectorsOf n)) → Fr [] H H' → H.next ≤ i → H.next ≤ jl → jl < H'.next → R (.ret (.pointer (some ⟨i, 0, none⟩))) H') : ACall Try.prog 21 [.int .i64 n] H R := by
  apply f21_call
  unfold f21_B
  refine wNew_at ?_
  have hb := Has.new H (nrow none 0 0)
  have f0 : Fr [] H (H.push (nrow none 0 0)) := (Fr.refl [] H).push _
  show f21_L0 _ _ (H.push (nrow none 0 0))
  generalize H.push (nrow none 0 0) = H0 at hb f0 ⊢
  generalize hi0 : H.next = i at hb ⊢
  have hi : H.next ≤ i := by omega
  have hS : sectorsOf n ≤ 4096 := sectorsOf_le n
  have hSn : ((sectorsOf n : Nat) : Int) = if 0 < n then (if 4096 < n then 4096 else n) else 0 := by unfold sectorsOf; split <;> split <;> (try split) <;> omega
  refine f21_L0_rule (J := fun m r H' => ∃ (k : Nat) (b : Option Addr), k ≤ sectorsOf n ∧ r = (k : Int) ∧ m = sectorsOf n - k ∧ (k = 0 → b = none) ∧ Has H' i (nrow b k 0) ∧ OwnC H.next H' 1 b k 0 (strs (List.replicate k (zeros 64))) ∧ (∀ o, b = some ⟨o, 0, none⟩ → o ≠ i) ∧ Fr [] H H') (sectorsOf n)
    ⟨0, none, by omega, rfl, by omega, fun _ => rfl, hb, OwnC.nil _ _ _, fun o e => (by cases e), f0⟩ ?_
  rintro m r H1 ⟨k, b, hk, rfl, rfl, hkb, ho, hl, hne, hf⟩
  intros
  unfold f21_R0
  have hret : k = sectorsOf n → R (.ret (.pointer (some ⟨i, 0, none⟩))) H1 := fun e => by
    rw [← e] at h
    have hlen : (newDev k).lasts.length = k := fillL_length _ _
    have hll : (newDev k).lasts = List.replicate k (zeros 64) := fillL_nil k
    rcases hl with ⟨rfl, e2, _, _⟩ | ⟨o, rfl, _, _, hoo, hoc⟩
    · subst e2
      exact h H1 i i ⟨ho, fun x => absurd hlen x, fun x => absurd rfl x, fun x => absurd rfl x⟩ hf hi hi ho.lt
    · by_cases k0 : k = 0
      · exact absurd (hkb k0) (by simp)
      · refine h H1 i o ⟨?_, fun x => ?_, fun x => absurd rfl x, fun x => absurd rfl x⟩ hf hi (by omega) hoo.lt
        · unfold refRow slV
          rw [hlen, if_neg k0]
          exact ho
        · rw [hll]
          exact ⟨hoo, hne o rfl⟩
  refine wIf_d (fun c1 => ?_) (fun c1 => ?_)
  · rw [f21_J0_eq]
    unfold f21_J0_B
    refine wIf_d (fun c2 => ?_) (fun c2 => ?_)
    · have hlt : k < sectorsOf n := by split at hSn <;> (try split at hSn) <;> omega
      rw [f21_J1_eq]
      unfold f21_J1_B
      have hin := hf.next
      refine wPt_at ⟨ldL_at ho rfl (wCall_of (blank_call 64 (by omega) (fun H2 f2 => opS_at (wBs_at ?_)))), wCall_of (blank_call 64 (by omega) (fun H2 f2 => opS_at ⟨ldL_at (ho.fr f2 (by simp)) rfl (wBs_at ?_), wBs_at (ldL_at ((ho.fr f2 (by simp)).push _) rfl ?_)⟩))⟩ <;>
      · have hq := Has.new H2 (.row [.string (zeros 64)] 1)
        have x2 : Fr [] H1 (H2.push (.row [.string (zeros 64)] 1)) := f2.push _
        have ho2 := ho.fr x2 (by simp)
        have hil := (ho.fr f2 (by simp)).lt
        have hnx := f2.next
        refine app_one (S := ownS b) (hl.fr x2 (fun j hj => by cases hj)) (fun o e => by rw [e]; simp [ownS]) (by rw [AH.next_push]; omega) rfl rfl (by omega) (by omega) hq (fun o e => ?_) (fun o H4 hl4 x4 hno => ?_)
        · rcases hl with ⟨rfl, _⟩ | ⟨o', rfl, _, _, hoo, _⟩
          · cases e
          · cases e
            have := (hoo.fr f2 (by simp)).lt
            omega
        · have ho4 := ho2.fr x4 (by
            intro hm
            rcases hl with ⟨rfl, _⟩ | ⟨o', rfl, _⟩
            · cases hm
            · exact hne o' rfl (List.mem_singleton.1 hm).symm)
          refine wPt_at (wSt_at ho4 (by simp) ?_)
          rw [f21_J2_eq]
          unfold f21_J2_B
          refine ⟨sectorsOf n - (k + 1), by omega, f21_I0_mk ⟨k + 1, some ⟨o, 0, none⟩, by omega, wi1 k (by omega), by omega, fun e => (by omega), ho4.set _, ?_, fun o2 e => ?_, ?_⟩⟩
          · have e2 : strs (List.replicate (k + 1) (zeros 64)) = strs (List.replicate k (zeros 64)) ++ [.string (zeros 64)] := by
              rw [List.replicate_succ']; simp [strs]
            rw [e2]
            rcases hl4 with ⟨x, _⟩ | ⟨o', x1, _, x3, x4', x5⟩
            · cases x
            · cases x1
              exact .inr ⟨o, rfl, rfl, x3, x4'.setne (by rw [AH.next_push] at hno; omega) _, x5⟩
          · cases e
            rw [AH.next_push] at hno
            omega
          · refine ((hf.trans x2).trans' x4 (fun j hj => .inr ?_)).set (.inr hi) _
            rcases hl with ⟨rfl, _⟩ | ⟨o', rfl, _, _, _, hoc⟩
            · cases hj
            · rw [List.mem_singleton.1 hj]; exact hoc
    · exact hret (by split at hSn <;> (try split at hSn) <;> omega)
  · rw [f21_J0_eq]
    unfold f21_J0_B
    exact wIf_f rfl (hret (by split at hSn <;> (try split at hSn) <;> omega))
end
end Go.Proofs.Ytnjhcnefgeodcaa
