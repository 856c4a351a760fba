/- CodeBack: for every input the law returns true, and each argument reads behind the call as it read before. Conditions: none beside the row's own. -/
import Derived.Test.YtfghglacfjncmaaRows
import Derived.Test.YtfghglacfjncmaaWCodAH
import Derived.Test.YtfghglacfjncmaaWAbsQ
import Derived.Carry
import Derived.WalkKit
import Derived.ProofKit
import Derived.OpenShut
import Derived.ShutString
import Derived.ChangeOld
import Derived.Below
import Derived.SizedLaws
namespace Go.Proofs.Ytfghglacfjncmaa.codeBack
open Go.ChangeShapes Go.WideShapes Go.ChangeAt Go.RowKit
open Go.ChangeMaps (open_string shut_string)
set_option linter.unusedVariables false
theorem own : ownKnob Try.prog.godebug = none := by kernel_rfl
set_option maxRecDepth 100000 in
theorem lifted (os : Os) (started : os.Started) (H : Type) (enc : TypeId × Value → H) :
    ReturnsInHanded {} Try.checked os 8 .any (Rows.codeBackSpec.pre6 enc Try.prog Try.f8 Rows.codeBackRow.domain false) (Rows.codeBackSpec.post enc Try.prog Try.f8 false true false false) := by
  refine returnsInHanded_of_change_sized (C := Try.checked) own started (by kernel_rfl) Try.func8
    (ChangeSpec.witness6 (enc := enc) (C := Try.checked) false ⟨#[], #[.agg #[.int .i64 0, .int .i64 0, .string ByteArray.empty, .slice none 0 0], .agg #[.int .i64 0, .string ByteArray.empty, .string ByteArray.empty, .int .i64 0, .slice none 0 0, .slice none 0 0, .slice none 0 0], .agg #[.int .i64 0, .int .i64 0, .string ByteArray.empty, .slice none 0 0, .slice none 0 0, .int .i64 0]], []⟩ 8 (by kernel_rfl) (by kernel_rfl) (by kernel_rfl) (by kernel_rfl)) ?_
  intro W base args ds gs before hval0 hW hcnd hsz0 _
  have hsz : (DataW.weightsEach Try.prog (Try.f8.params.toList ++ Rows.codeBackSpec.plain.varTypes Try.prog) (ds ++ gs)).all (· ≤ reachBytes) = true := hsz0
  have hval : ∀ (j : Nat) t v, Try.f8.params[j]? = some t → args[j]? = some v → Value.okWide Try.prog W .any base t v := hval0
  have hW' := hW
  obtain ⟨p, q, hA0, hV, rfl, hfz, hnd⟩ := hW
  have hA : DataW.TrodAll enc Try.prog W 0 (fun _ => true) true Try.f8.params.toList args.toList ds p := hA0
  rw [Try.params8] at hA hval hsz
  obtain ⟨v0, vs0, d0, ds0, p0, q0, hargs, rfl, rfl, h0, r0⟩ := trodAll_cons hA
  obtain ⟨v1, vs1, d1, ds1, p1, q1, rfl, rfl, rfl, h1, r1⟩ := trodAll_cons r0
  obtain ⟨v2, vs2, d2, ds2, p2, q2, rfl, rfl, rfl, h2, r2⟩ := trodAll_cons r1
  obtain ⟨rfl, rfl, rfl⟩ := trodAll_nil r2
  obtain rfl : args = #[v0, v1, v2] := by cases args; simp_all
  obtain ⟨rfl, rfl⟩ := trodVars_none hV
  have rlI := rel0 W
  have roI := AllRo0
  have hlt0 : ∀ x ∈ p0, x.block < W.heap.size := by
    obtain ⟨fu, hfu⟩ := h0
    exact fun x hx => DataW.trod_lt fu _ _ _ hfu x hx
  obtain ⟨H0, m0, av0, cd0, fr0, le0, rl0, ro0, vr0, li0, kd0⟩ := open_agg 12 (ks := [.int .i64, .int .i64, .str, .sl 1 [.int .i64]]) Try.underlying24 (by kernel_rfl) (hval 0 24 v0 rfl rfl) h0 (fun n hn => of_decide_eq_true (List.all_eq_true.1 hsz n (DataW.weights_mem_each (j := 0) (t := 24) rfl rfl n hn))) rlI roI
  have hlt1 : ∀ x ∈ p1, x.block < W.heap.size := by
    obtain ⟨fu, hfu⟩ := h1
    exact fun x hx => DataW.trod_lt fu _ _ _ hfu x hx
  obtain ⟨H1, m1, av1, cd1, fr1, le1, rl1, ro1, vr1, li1, kd1⟩ := open_agg 12 (ks := [.int .i64, .str, .str, .int .i64, .sl 4 [.int .i64, .int .i64, .str, .sl 1 [.int .i64]], .sl 1 [.int .i64], .sl 4 [.int .i64, .str, .sl 4 [.int .i64, .int .i64, .str, .sl 1 [.int .i64]], .sl 4 [.int .i64, .int .i64, .str, .sl 1 [.int .i64]]]]) Try.underlying49 (by kernel_rfl) (hval 1 49 v1 rfl rfl) h1 (fun n hn => of_decide_eq_true (List.all_eq_true.1 hsz n (DataW.weights_mem_each (j := 1) (t := 49) rfl rfl n hn))) rl0 ro0
  have hlt2 : ∀ x ∈ p2, x.block < W.heap.size := by
    obtain ⟨fu, hfu⟩ := h2
    exact fun x hx => DataW.trod_lt fu _ _ _ hfu x hx
  obtain ⟨H2, m2, av2, cd2, fr2, le2, rl2, ro2, vr2, li2, kd2⟩ := open_agg 12 (ks := [.int .i64, .int .i64, .str, .sl 4 [.int .i64, .int .i64, .str, .sl 1 [.int .i64]], .sl 4 [.int .i64, .int .i64, .str, .sl 1 [.int .i64]], .int .i64]) Try.underlying66 (by kernel_rfl) (hval 2 66 v2 rfl rfl) h2 (fun n hn => of_decide_eq_true (List.all_eq_true.1 hsz n (DataW.weights_mem_each (j := 2) (t := 66) rfl rfl n hn))) rl1 ro1
  clear hA0 hval0 hsz0 hsz
  refine (calls_of rl2 (LR.cons ((vr0.mono le1).mono le2) (LR.cons (vr1.mono le2) (LR.cons vr2 (LR.nil' _)))) (codeBack_law H2 av0 cd0 ((li0.fr fr1).fr fr2) kd0 av1 cd1 (li1.fr fr2) kd1 av2 cd2 li2 kd2)).mono fun e W' ⟨he, bel⟩ => ?_
  subst he
  exact ⟨_, rfl, _, _, _, [], _, [], hW', trodAll_mk1 (shut_bool Try.underlying4 _), (trodAll_cons_mk (Below.trod (by kernel_rfl) (by kernel_rfl) (of_decide_eq_true (by kernel_rfl)) h0 bel hlt0) (trodAll_cons_mk (Below.trod (by kernel_rfl) (by kernel_rfl) (of_decide_eq_true (by kernel_rfl)) h1 bel hlt1) (trodAll_cons_mk (Below.trod (by kernel_rfl) (by kernel_rfl) (of_decide_eq_true (by kernel_rfl)) h2 bel hlt2) trodAll_mk0))), rfl, bel.frame _, fun h => by cases h⟩
theorem over : Rows.codeBackRow.holds Try.pinned (OpenSpec.ofChange Rows.codeBackSpec) :=
  OpenClaim.holds_of_wide 8 Try.f8 rfl rfl rfl rfl rfl rfl rfl ⟨rfl, rfl, rfl, rfl, rfl⟩ rfl rfl rfl rfl rfl (by kernel_rfl) Try.func8 (by kernel_rfl)
    (of_decide_eq_true (by kernel_rfl)) (by unfold Func.isWrapper; first | (rw [if_pos (by decide +kernel)]; kernel_rfl) | (rw [if_neg (by decide +kernel)]; exact ⟨rfl, rfl⟩))
    (fun os started H enc _ => lifted os started H enc)
end Go.Proofs.Ytfghglacfjncmaa.codeBack
namespace Go.Proofs.Ytfghglacfjncmaa
theorem codeBack_holds : Rows.CodeBackSaid := codeBack.over
#print axioms codeBack_holds
end Go.Proofs.Ytfghglacfjncmaa

