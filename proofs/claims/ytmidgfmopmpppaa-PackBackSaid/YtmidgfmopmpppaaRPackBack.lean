/- PackBack: for every input the law returns true, and each argument reads behind the call as it read before. Conditions: none beside the row's own. -/
import Derived.Test.YtmidgfmopmpppaaRows
import Derived.Test.YtmidgfmopmpppaaWPckJ
import Derived.Carry
import Derived.WalkKit
import Derived.ProofKit
import Derived.OpenShut
import Derived.ShutString
import Derived.ChangeOld
import Derived.Below
import Derived.SizedLaws
namespace Go.Proofs.Ytmidgfmopmpppaa.packBack
open Go.ChangeShapes Go.WideShapes Go.ChangeAt Go.RowKit
open Go.ChangeMaps (open_string shut_string)
set_option linter.unusedVariables false
theorem own : ownKnob Try.prog.godebug = none := by kernel_rfl
def intOf : Value → Int | .int _ n => n | _ => 0
def strOf' : Value → ByteArray | .string s => s | _ => ⟨#[]⟩
theorem walk {H : Type} {enc : TypeId × Value → H} (W : World) (a0 : Option Addr) (l0 c0 : Nat) {d : DataW H} {p : List MemPlace} (h : DataW.Trod enc Try.prog W 0 (fun _ => true) true 50 (.slice a0 l0 c0) d p) :
    Calls Try.prog 12 #[.slice a0 l0 c0] W fun e w' => e = .returned (.bool true) ∧ Below W.heap.size W w' := by
  obtain ⟨fuel, hf⟩ := h
  rcases Go.Proofs.Ytmidgfmopmpppaa.open_elems Try.underlying50 Try.underlying52 (by kernel_rfl) (by kernel_rfl) hf with hcs | ⟨a, len, cap, F, hcs, hl, hm, hF⟩
  · have hv : Value.slice a0 l0 c0 = .slice none 0 0 := List.head_eq_of_cons_eq hcs
    cases hv
    exact calls_plain W (by rfl) (packBack_law ⟨fun _ => 0, fun _ => 0, fun _ => ⟨#[]⟩⟩ none 0 0 (fun h => absurd h (Nat.lt_irrefl _)) [] (by omega) (fun i h => absurd h (Nat.not_lt_zero _)) (fun i h => absurd h (Nat.not_lt_zero _)) (fun i h => absurd h (Nat.not_lt_zero _)) (fun h => absurd h (Nat.lt_irrefl _)))
  · have hv : Value.slice a0 l0 c0 = .slice (some a) len cap := List.head_eq_of_cons_eq hcs
    obtain ⟨rfl, rfl, rfl⟩ : a0 = some a ∧ len = l0 ∧ cap = c0 := by cases hv; exact ⟨rfl, rfl, rfl⟩
    have fact : ∀ i, i < cap → F i 0 = .int .i64 (intOf (F i 0)) ∧ (∃ n : Nat, n < 18446744073709551616 ∧ F i 1 = .int .u64 n) ∧ (F i 2 = .string (strOf' (F i 2)) ∧ (strOf' (F i 2)).size ≤ maxLen) := by
      intro i hi
      obtain ⟨_, n0, y0, t0⟩ := hF i hi 0 _ rfl
      obtain ⟨_, n1, y1, t1⟩ := hF i hi 1 _ rfl
      obtain ⟨_, n2, y2, t2⟩ := hF i hi 2 _ rfl
      obtain ⟨m0, e0, _, _⟩ := DataW.trod_int Try.underlying3 t0
      obtain ⟨m1, e1, _, w1⟩ := DataW.trod_int Try.underlying34 t1
      obtain ⟨m2, e2, _, w2⟩ := DataW.trod_string Try.underlying9 t2
      obtain ⟨b, hb⟩ := wf_u64 w1
      have g0 : F i 0 = .int .i64 m0 := List.head_eq_of_cons_eq e0
      have g1 : F i 1 = .int .u64 m1 := List.head_eq_of_cons_eq e1
      have g2 : F i 2 = .string m2 := List.head_eq_of_cons_eq e2
      exact ⟨by rw [g0]; rfl, ⟨b.toNat, b.isLt, by rw [g1, hb]⟩, by rw [g2]; rfl, by rw [g2]; exact w2⟩
    have hcell : ∀ (x : Nat) v, (cellsOf 3 cap F)[x]? = some v → W.cell? (a.add x) = some v ∧ plainV v = true := by
      intro x v hx
      obtain ⟨i, j, hi, hj, rfl, rfl⟩ := cellsOf_some hx
      obtain ⟨f0, ⟨m, _, f1⟩, f2, _⟩ := fact i hi
      match j, hj with
      | 0, _ => exact ⟨(hF i hi 0 _ rfl).1, by rw [f0]; rfl⟩
      | 1, _ => exact ⟨(hF i hi 1 _ rfl).1, by rw [f1]; rfl⟩
      | 2, _ => exact ⟨(hF i hi 2 _ rfl).1, by rw [f2]; rfl⟩
    refine calls_in (f := 12) W a len cap (cellsOf 3 cap F) 3 [] [] ?_ rfl rfl (fun j v hj => (hcell j v hj).1) ?_ ?_
    · rw [List.all_eq_true]
      intro v hv
      obtain ⟨x, hx⟩ := List.getElem?_of_mem hv
      exact (hcell x v hx).2
    · by_cases hc : cap = 0
      · exact .inr ⟨by omega, hc⟩
      · exact .inl (cellsOf_nil (by omega) hc)
    · refine packBack_law ⟨fun i => intOf (F i 0), fun i => (intOf (F i 1)).toNat, fun i => strOf' (F i 2)⟩ (some ⟨0, 0, none⟩) len (cap + 1) (fun _ => rfl) (cellsOf 3 cap F) ?_ ?_ ?_ ?_ ?_
      · exact Nat.le_trans hl hm
      · intro i hi
        obtain ⟨m, hm', f1⟩ := (fact i (by omega)).2.1
        show (intOf (F i 1)).toNat < _
        rw [f1]; exact hm'
      · intro i hi
        exact (fact i (by omega)).2.2.2
      · intro i hi
        have hic : i < cap := by omega
        obtain ⟨f0, ⟨m, _, f1⟩, f2, _⟩ := fact i hic
        refine ⟨?_, ?_, ?_⟩
        · have := cellsOf_at (k := 3) (F := F) (j := 0) hic (by omega)
          rw [f0] at this; exact this
        · rw [cellsOf_at (j := 1) hic (by omega)]
          show some (F i 1) = some (.int .u64 (((intOf (F i 1)).toNat : Nat) : Int))
          rw [f1]; rfl
        · have := cellsOf_at (k := 3) (F := F) (j := 2) hic (by omega)
          rw [f2] at this; exact this
      · intro hl0
        have hne : cellsOf 3 cap F ≠ [] := cellsOf_nil (by omega) (by omega)
        exact ⟨by simp [AHro, hne], Nat.zero_lt_one⟩
set_option maxRecDepth 100000 in
theorem lifted (os : Os) (started : os.Started) (H : Type) (enc : TypeId × Value → H) :
    ReturnsInHanded {} Try.checked os 12 .any (Rows.packBackSpec.pre6 enc Try.prog Try.f12 Rows.packBackRow.domain false) (Rows.packBackSpec.post enc Try.prog Try.f12 false true false false) := by
  refine returnsInHanded_of_change_sized (C := Try.checked) own started (by kernel_rfl) Try.func12
    (ChangeSpec.witness6 (enc := enc) (C := Try.checked) false ⟨#[], #[.slice none 0 0], []⟩ 8 (by kernel_rfl) (by kernel_rfl) (by kernel_rfl) (by kernel_rfl)) ?_
  intro W base args ds gs before hval0 hW hcnd hsz0 _
  have hsz : (DataW.weightsEach Try.prog (Try.f12.params.toList ++ Rows.packBackSpec.plain.varTypes Try.prog) (ds ++ gs)).all (· ≤ reachBytes) = true := hsz0
  have hval : ∀ (j : Nat) t v, Try.f12.params[j]? = some t → args[j]? = some v → Value.okWide Try.prog W .any base t v := hval0
  have hW' := hW
  obtain ⟨p, q, hA0, hV, rfl, hfz, hnd⟩ := hW
  have hA : DataW.TrodAll enc Try.prog W 0 (fun _ => true) true Try.f12.params.toList args.toList ds p := hA0
  rw [Try.params12] at hA hval hsz
  obtain ⟨v0, vs0, d0, ds0, p0, q0, hargs, rfl, rfl, h0, r0⟩ := trodAll_cons hA
  obtain ⟨rfl, rfl, rfl⟩ := trodAll_nil r0
  obtain rfl : args = #[v0] := by cases args; simp_all
  obtain ⟨rfl, rfl⟩ := trodVars_none hV
  have hlt : ∀ x ∈ p0, x.block < W.heap.size := by
    obtain ⟨fu, hfu⟩ := h0
    exact fun x hx => DataW.trod_lt fu _ _ _ hfu x hx
  obtain ⟨a0, len, cap, rfl⟩ := okWide_slice Try.underlying50 (hval 0 50 v0 rfl rfl)
  refine (walk W a0 len cap h0).mono fun e W' ⟨he, bel⟩ => ?_
  subst he
  exact ⟨_, rfl, _, _, _, [], _, [], hW', trodAll_mk1 (shut_bool Try.underlying4 _), (trodAll_cons_mk (Below.trod (by kernel_rfl) (by kernel_rfl) (of_decide_eq_true (by kernel_rfl)) h0 bel hlt) trodAll_mk0), rfl, bel.frame _, fun h => by cases h⟩
theorem over : Rows.packBackRow.holds Try.pinned (OpenSpec.ofChange Rows.packBackSpec) :=
  OpenClaim.holds_of_wide 12 Try.f12 rfl rfl rfl rfl rfl rfl rfl ⟨rfl, rfl, rfl, rfl, rfl⟩ rfl rfl rfl rfl rfl (by kernel_rfl) Try.func12 (by kernel_rfl)
    (of_decide_eq_true (by kernel_rfl)) (by unfold Func.isWrapper; first | (rw [if_pos (by decide +kernel)]; kernel_rfl) | (rw [if_neg (by decide +kernel)]; exact ⟨rfl, rfl⟩))
    (fun os started H enc _ => lifted os started H enc)
end Go.Proofs.Ytmidgfmopmpppaa.packBack
namespace Go.Proofs.Ytmidgfmopmpppaa
theorem packBack_holds : Rows.PackBackSaid := packBack.over
#print axioms packBack_holds
end Go.Proofs.Ytmidgfmopmpppaa

