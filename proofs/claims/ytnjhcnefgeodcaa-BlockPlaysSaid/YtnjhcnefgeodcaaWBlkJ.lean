/- All sectors' bytes in a row: strings.Join, Lasting; how many sectors there are. -/
import Derived.Test.YtnjhcnefgeodcaaWShl
import Derived.Test.YtnjhcnefgeodcaaWBlkH
import Derived.Test.YtnjhcnefgeodcaaWBlkF
import Derived.Test.YtnjhcnefgeodcaaWAbsS
import Derived.Test.YtnjhcnefgeodcaaWGenB
import Derived.Test.YtnjhcnefgeodcaaWGenC
namespace Go.Proofs.Ytnjhcnefgeodcaa
set_option linter.unusedVariables false
set_option linter.unusedSimpArgs false
open Go.RowKit

theorem join_cat (l : List (List UInt8)) : Lib.join l [] = l.flatten := by
  unfold Lib.join
  induction l with
  | nil => rfl
  | cons x l ih =>
    cases l with
    | nil => simp [List.intercalate]
    | cons y l =>
      have : List.intercalate [] (x :: y :: l) = x ++ List.intercalate [] (y :: l) := by simp [List.intercalate]
      rw [this, ih]; rfl
theorem two_args {cargs : Array Value} {a b : Value} (h : cargs.size = 2) (h0 : cargs[0]? = some a) (h1 : cargs[1]? = some b) : cargs = #[a, b] := by
  apply Array.ext (by simp [h])
  intro i hi hj
  have : i = 0 ∨ i = 1 := by omega
  rcases this with rfl | rfl
  · have := (Array.getElem?_eq_some_iff.1 h0).2; simpa using this
  · have := (Array.getElem?_eq_some_iff.1 h1).2; simpa using this
section
variable {H : AH} {R : AEnd → AH → Prop}
theorem join_call {j : Nat} {l : List ByteArray} (h : Has H j (.row (strs l) 1)) (hN : l.length ≤ 140737488355328) (hlen : (catL l).size ≤ 140737488355328) (hR : R (.ret (.string (catL l))) H) :
    ACall Try.prog 34 [.slice (some ⟨j, 0, none⟩) l.length 0, .string ⟨#[]⟩] H R := by
  refine acall_keep (.string (catL l)) ?_ hR
  intro B w0 μ w cargs hr ha
  obtain ⟨hs, hat⟩ := ha
  obtain ⟨cv, h0, hv⟩ := hat 0 _ rfl
  obtain ⟨c1, h1, hv1⟩ := hat 1 _ rfl
  cases hv1
  obtain rfl := two_args (by simpa using hs.symm) h0 h1
  rcases strs_in hr h hv with ⟨rfl, a, c, rfl⟩ | ⟨bk, o, c, rfl, hbk, hc, hcells⟩
  · refine (Shl.strings_Join_none a c _ w).mono ?_
    rintro e w' ⟨rfl, rfl⟩
    exact ⟨⟨_, rfl, .string _⟩, Below.refl _ _⟩
  · have e : (Lib.join (l.map (·.data.toList)) (⟨#[]⟩ : ByteArray).data.toList) = (l.map (·.data.toList)).flatten := join_cat _
    refine (Shl.strings_Join bk o c l _ w hcells hbk hN hc ?_).mono ?_
    · rw [e]
      unfold catL at hlen
      rwa [ofL_size] at hlen
    · rintro e' w' ⟨rfl, hb⟩
      rw [e]
      exact ⟨⟨_, rfl, .string _⟩, hb⟩
theorem lasting_call {i jl jw : Nat} {d : Dev} (hd : DevAt H i jl jw d) (hok : d.OK) (h : R (.ret (.string (catL d.lasts))) H) : ACall Try.prog 19 [.pointer (some ⟨i, 0, none⟩)] H R := by
  apply f19_call
  unfold f19_B
  have hs := catL_size d.lasts hok.lasts
  have hf := hok.few
  exact wIf_f rfl (wPt_at (ldL_at hd.own rfl (wCall_of (join_call hd.lasts (by omega) (by omega) h))))
set_option maxRecDepth 20000 in
theorem blockSizes_law (H : AH) (a0 : Int) (w0 : (Lit.int .i64 a0).wf = true) : ACall Try.prog 4 [.int .i64 a0] H AllTrue := by
  apply f4_call
  unfold f4_B
  have hle := sectorsOf_le a0
  have hm : (if 0 < (if 4096 < a0 then 4096 else a0) then (if 4096 < a0 then 4096 else a0) else 0) = ((sectorsOf a0 : Nat) : Int) := by unfold sectorsOf; split <;> split <;> omega
  rw [hm]
  refine wCall_of (awake_call (fun H1 f1 => opB_at (wIf_f rfl (wCall_of (new_call a0 (fun H2 i jl hd f2 hi hj => opP_at ?_))))))
  generalize sectorsOf a0 = m at hle hd
  have ok := newDev_ok m hle
  have hl : (newDev m).lasts.length = m := fillL_length _ _
  refine wCall_of (read_call hd ok m (opT_at rfl (opS_at (opI_at (wCall_of (awake_call (fun H3 f3 => opB_at (wIf_t rfl ?_))))))))
  have hd3 := hd.fr f3 (by simp)
  refine wCall_of (sectors_call hd3 (opI_at (wIf_dt (by rw [hl]) (wCall_of (lasting_call hd3 ok (opS_at (wIf_dt ?_ (wIf_dt ?_ (wCall_of (waits_call hd3 (opI_at ?_)))))))))))
  · rw [catL_size _ ok.lasts, hl, wi _ (by omega) (by omega)]; omega
  · unfold Dev.read
    rw [if_neg (by show ¬ (false = true); simp), if_pos (by omega)]
  · show AEnd.ret (.bool (decide (((0 : Nat) : Int) = 0))) = _
    rfl
end
end Go.Proofs.Ytnjhcnefgeodcaa
