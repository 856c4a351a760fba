/- FrameHeads: for every input the law returns true, and each argument reads behind the call as it read before. Conditions: none beside the row's own. -/
import Derived.Test.YtnjhcnefgeodcaaDoorRows
import Derived.Test.YtnjhcnefgeodcaaDoorTie
import Derived.Test.YtnjhcnefgeodcaaDoorCards
import Derived.Test.YtnjhcnefgeodcaaDoorWFrmO
import Derived.Test.YtnjhcnefgeodcaaDoorWAbsQ
import Derived.Carry
import Derived.WalkKit
import Derived.ProofKit
import Derived.OpenShut
import Derived.ShutString
import Derived.ChangeOld
import Derived.Below
import Derived.SizedLaws
import Derived.LaidMore
import Derived.Lay
import Derived.SevenTiedAt
import Derived.Stop.Joined
namespace Go.Proofs.YtnjhcnefgeodcaaDoor.frameHeads
open Go.ChangeShapes Go.WideShapes Go.ChangeAt Go.RowKit
open Go.ChangeMaps (open_string shut_string)
set_option linter.unusedVariables false
theorem own : ownKnob Tryd.prog.godebug = none := by kernel_rfl
set_option maxRecDepth 100000 in
theorem lifted (os : Os) (started : os.Started) (H : Type) (enc : TypeId × Value → H) :
    ReturnsInHanded {} Tryd.checked os 7 .any (fun w args => (Rows.frameHeadsSpec.pre enc Tryd.prog Tryd.f7 Rows.frameHeadsRow.domain false w args ∧ laidMetH Tryd.prog Rows.frameHeadsRow.laid w) ∧ sizedMet enc Tryd.prog Tryd.f7 (OpenSpec.ofChange Rows.frameHeadsSpec) false w args) (Rows.frameHeadsSpec.post enc Tryd.prog Tryd.f7 false true false false) := by
  refine returnsInHanded_of_change_and (C := Tryd.checked) (X := fun w _ => laidMetH Tryd.prog Rows.frameHeadsRow.laid w) (fun _ _ _ hh h => h.of_heap hh) own started (by kernel_rfl) Tryd.func7
    (ChangeSpec.witness_shaped (enc := enc) (C := Tryd.checked) (os := os) (X := fun w _ => laidMetH Tryd.prog Rows.frameHeadsRow.laid w) false (World.laidAll Tryd.prog os Rows.frameHeadsRow.laid) #[.agg #[.int .u32 0, .int .u32 0, .int .u32 0, .int .u64 0]] 8 (World.laidAll_os _ _ _)
      (World.shaped_of_ZipB (by kernel_rfl) (by kernel_rfl)) (by kernel_rfl) (by kernel_rfl) (by kernel_rfl)
      (by rw [MakeChecks.laidMetH_plain _ _ _ (by kernel_rfl)]; exact laidMet_laidAll _ (by kernel_rfl) (by kernel_rfl))) ?_
  intro W base args ds gs before hval0 hW hcnd hsz0 hL _
  have hsz : (DataW.weightsEach Tryd.prog (Tryd.f7.params.toList ++ Rows.frameHeadsSpec.plain.varTypes Tryd.prog) (ds ++ gs)).all (· ≤ reachBytes) = true := hsz0
  have hval : ∀ (j : Nat) t v, Tryd.f7.params[j]? = some t → args[j]? = some v → Value.okWide Tryd.prog W .any base t v := hval0
  have hW' := hW
  obtain ⟨p, q, hA0, hV, rfl, hfz, hnd⟩ := hW
  have hA : DataW.TrodAll enc Tryd.prog W 0 (fun _ => true) true Tryd.f7.params.toList args.toList ds p := hA0
  rw [Tryd.params7] at hA hval hsz
  obtain ⟨v0, vs0, d0, ds0, p0, q0, hargs, rfl, rfl, h0, r0⟩ := trodAll_cons hA
  obtain ⟨rfl, rfl, rfl⟩ := trodAll_nil r0
  obtain rfl : args = #[v0] := by cases args; simp_all
  obtain ⟨rfl, rfl⟩ := trodVars_none hV
  have rlI := rel0 W
  have roI := AllRo0
  have hlt0 : ∀ x ∈ p0, x.block < W.heap.size := by
    obtain ⟨fu, hfu⟩ := h0
    exact fun x hx => DataW.trod_lt fu _ _ _ hfu x hx
  obtain ⟨H0, m0, av0, cd0, fr0, le0, rl0, ro0, vr0, li0, kd0⟩ := open_agg 12 (ks := [.int .u32, .int .u32, .int .u32, .int .u64]) Tryd.underlying44 (by kernel_rfl) (hval 0 44 v0 rfl rfl) h0 rlI roI
  clear hA0 hval0 hsz0 hsz
  refine (calls_of rl0 (LR.cons vr0 (LR.nil' _)) (frameHeads_law H0 av0 cd0 li0 kd0)).mono fun e W' ⟨he, bel⟩ => ?_
  subst he
  exact ⟨_, rfl, _, _, _, [], _, [], hW', trodAll_mk1 (shut_bool Tryd.underlying4 _), (trodAll_cons_mk (Below.trod (by kernel_rfl) (by kernel_rfl) (of_decide_eq_true (by kernel_rfl)) h0 bel hlt0) trodAll_mk0), rfl, bel.frame _, fun h => by cases h⟩
theorem over : Rows.FrameHeadsSaid :=
  OpenClaim.holds_of_wide 7 Tryd.f7 rfl rfl rfl rfl rfl rfl rfl ⟨rfl, rfl, rfl, rfl, rfl⟩ rfl rfl rfl rfl rfl (by kernel_rfl) Tryd.func7 (by kernel_rfl)
    (of_decide_eq_true (by kernel_rfl)) (by unfold Func.isWrapper; first | (rw [if_pos (by decide +kernel)]; kernel_rfl) | (rw [if_neg (by decide +kernel)]; exact ⟨rfl, rfl⟩))
    (fun os started H enc _ => lifted os started H enc)
theorem card : Rows.FrameHeadsCardSaid :=
  Claim7.holds_tied_plain_at .later [] [.data, .pinned] true (true, "105bd5ec6698630667ef8078be595eccf7be1e3515a539672c04c64052ee7a46") false over (fun _ h => by cases h) (by kernel_rfl) (fun _ h => by cases h) frameHeads_row_tie rfl ⟨rfl, rfl⟩ (by kernel_rfl) rfl
    (fun f fn hf hfn => by
      obtain rfl : f = 7 := Option.some.inj ((show Tryd.prog.funcNamed "switchyard/switchyardlaw04.FrameHeads" = some 7 by kernel_rfl).symm.trans hf) |>.symm
      obtain rfl : fn = Tryd.f7 := (Option.some.inj (Tryd.func7.symm.trans hfn)).symm
      exact ⟨by kernel_rfl, fun j t ht => by
        rw [Tryd.params7] at ht
        have hm : t ∈ (#[44] : Array TypeId).toList := Array.mem_toList_iff.2 (Array.mem_of_getElem? ht)
        have hall : ((#[44] : Array TypeId).toList.all fun u => !Tryd.prog.wantsStandIn u) = true := by kernel_rfl
        exact (show Tryd.prog.wantsStandIn t = false by simpa using List.all_eq_true.1 hall t hm)⟩)
    (by kernel_rfl)
end Go.Proofs.YtnjhcnefgeodcaaDoor.frameHeads
namespace Go.Proofs.YtnjhcnefgeodcaaDoor
theorem frameHeads_holds : Rows.FrameHeadsCardSaid := frameHeads.card
#print axioms frameHeads_holds
end Go.Proofs.YtnjhcnefgeodcaaDoor

