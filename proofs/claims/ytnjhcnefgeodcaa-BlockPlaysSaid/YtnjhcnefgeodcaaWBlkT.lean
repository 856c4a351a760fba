/- The document's device: Lasting. -/
import Derived.Test.YtnjhcnefgeodcaaWBlkS
namespace Go.Proofs.Ytnjhcnefgeodcaa
set_option linter.unusedVariables false
set_option linter.unusedSimpArgs false
open Go.RowKit

/-- 'append(b, s...)' of a text to a row that the function grows itself. -/
theorem app_str {c0 l c : Nat} {H0 H : AH} {b : Option Addr} {bs : List UInt8} {s : ByteArray} {K : Option Addr → Nat → Nat → AH → Prop} (h : OwnC c0 H 1 b l c (bcells bs)) (hf : Fr [] H0 H) (hc : c0 = H0.next) (hl : bs.length + s.size ≤ 70368744177664)
    (hk : ∀ b' l' H', OwnC c0 H' 1 b' l' 0 (bcells (bs ++ s.data.toList)) → Fr [] H0 H' → K b' l' 0 H') : wAppS 1 b l c s H K := by
  have hlen := h.len
  rw [bcells_length] at hlen
  have hs := data_len s
  have hnx := hf.next
  unfold wAppS wApp
  rw [byteCells_eq]
  refine ⟨by rw [bcells_length]; omega, List.all_eq_true.2 fun x hx => by obtain ⟨y, _, rfl⟩ := List.mem_map.1 hx; rfl, ?_⟩
  rcases h with ⟨rfl, rfl, rfl, e⟩ | ⟨o, rfl, rfl, hl2, ho, hb⟩
  · have hb0 : bs = [] := by cases bs with | nil => rfl | cons x l => simp [bcells] at e
    subst hb0
    refine ⟨rfl, rfl, ?_⟩
    generalize hn : s.size = n at hl hs
    cases n with
    | zero =>
      have : s.data.toList = [] := List.length_eq_zero_iff.1 hs
      exact hk none 0 H (by rw [this]; exact OwnC.nil _ _ _) hf
    | succ n =>
      refine ⟨by omega, by omega, hk _ _ _ (.inr ⟨_, rfl, rfl, ?_, by rw [List.nil_append]; exact Has.new _ _, by omega⟩) (hf.push _)⟩
      rw [bcells_length, List.nil_append]; omega
  · show 0 = 0 ∧ _
    refine ⟨rfl, ?_⟩
    rw [ho.get]
    show (1 = 1 ∧ _)
    refine ⟨rfl, by omega, by omega, by omega, ?_⟩
    rw [List.drop_zero, bcells_app]
    refine hk _ _ _ (.inr ⟨_, rfl, rfl, ?_, Has.new (H.drop o) _, by show c0 ≤ H.next; omega⟩) ((hf.drop (.inr (by omega))).push _)
    rw [bcells_length, List.length_append]; omega
section
variable {H : AH} {i jl jw jt n : Nat} {d : Dev} {R : AEnd → AH → Prop}
theorem flat_len (l : List ByteArray) (h : ∀ s ∈ l, s.size = 64) : (l.map (·.data.toList)).flatten.length = 64 * l.length := by
  induction l with
  | nil => rfl
  | cons a l ih =>
    rw [List.map_cons, List.flatten_cons, List.length_append, ih (fun s hs => h s (List.mem_cons_of_mem _ hs)), List.length_cons, data_len, h a (List.mem_cons_self ..)]
    omega
theorem rlasting_call (hd : RefAt H i jl jw jt n d) (hok : d.OK) (h : ∀ H', Fr [] H H' → R (.ret (.string (ofL (d.lasts.map (·.data.toList)).flatten))) H') : ACall Try.prog 30 [.pointer (some ⟨i, 0, none⟩)] H R := by
  apply f30_call
  unfold f30_B
  obtain ⟨al, hal, al1, al2⟩ := slV_eq jl d.lasts.length
  have own := hd.own
  unfold refRow at own
  rw [hal] at own
  have hfew := hok.few
  refine wPt_at (ldL_at own rfl ?_)
  refine f30_L0_rule (J := fun m b l c r H' => ∃ q : Nat, q ≤ d.lasts.length ∧ m = d.lasts.length - q ∧ r = (q : Int) ∧ OwnC H.next H' 1 b l c (bcells ((d.lasts.take q).map (·.data.toList)).flatten) ∧ Fr [] H H') d.lasts.length
    ⟨0, by omega, by omega, rfl, OwnC.nil _ _ _, Fr.refl _ _⟩ ?_
  rintro m b l c r H' ⟨q, hq, rfl, rfl, ho, f⟩
  intros
  unfold f30_R0
  refine wIf_d (fun hlt => ?_) (fun hge => ?_)
  · have hlt : q < d.lasts.length := by omega
    obtain ⟨hl, hli⟩ := hd.lasts (by omega)
    rw [al1 (by omega)]
    have hs := strs_at d.lasts q hlt
    have hz := hok.lasts _ (List.getElem_mem hlt)
    refine wIx_at (by omega) (by omega) (ldS_at (hl.fr f (by simp)) (by rw [Nat.zero_add, Nat.mul_one, Int.toNat_natCast]; exact hs) ?_)
    have hfl := flat_len (d.lasts.take q) (fun s hs => hok.lasts s (List.mem_of_mem_take hs))
    rw [List.length_take] at hfl
    refine app_str ho f rfl (by rw [hfl, hz]; omega) (fun b' l' H2 ho2 f2 => ?_)
    refine ⟨d.lasts.length - (q + 1), by omega, f30_I0_mk ⟨q + 1, by omega, rfl, wi1 q (by omega), ?_, f2⟩⟩
    have e : (d.lasts.take (q + 1)) = d.lasts.take q ++ [d.lasts[q]] := by rw [List.take_add_one, List.getElem?_eq_getElem hlt]; rfl
    rw [e, List.map_append, List.flatten_append]
    simpa using ho2
  · have hq : q = d.lasts.length := by omega
    subst hq
    rw [f30_J0_eq]
    unfold f30_J0_B
    rw [List.take_length] at ho
    exact own_text ho (h _ f)
end
end Go.Proofs.Ytnjhcnefgeodcaa
