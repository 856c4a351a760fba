/- Bodies of functions as nested rules: printed by genw.py, a program of this claim. -/
import Derived.Test.YtnjhcnefgeodcaaWGenA
namespace Go.Proofs.Ytnjhcnefgeodcaa
open Go.RowKit
set_option linter.unusedVariables false
set_option maxRecDepth 100000

/-! f7: switchyard/switchyardlaw03.BlockNil -/
noncomputable def f7_c : Code := Try.f7.body.getD .skip
def f7_B (H : AH) (R : AEnd → AH → Prop) : Prop :=
 wCall Try.prog 8 [] H (fun r1 H2 =>
 opB r1 fun b5 =>
 wIf (!b5)
 (R (.ret (.bool false)) H2)
 (wCall Try.prog 20 [(.pointer none), (.agg #[(.int .u64 0), (.int .i64 0), (.int .i64 0)])] H2 (fun r6 H7 =>
 wCall Try.prog 10 [(.pointer none), (.int .i64 1), (.agg #[(.int .u64 0), (.int .i64 0), (.int .i64 0)])] H7 (fun r10 H11 =>
 wCall Try.prog 16 [(.pointer none)] H11 (fun r14 H15 =>
 wCall Try.prog 27 [(.pointer none), (.string ({ data := #[97] }))] H15 (fun r18 H19 =>
 wCall Try.prog 17 [(.pointer none), (.int .i64 0)] H19 (fun r22 H23 =>
 opT 2 r22 fun l26 =>
 opS (l26.headD undef) fun t27 =>
 opI .i64 (l26.tail.headD undef) fun n28 =>
 wCall Try.prog 8 [] H23 (fun r29 H30 =>
 opB r29 fun b33 =>
 wIf b33
 (wIf (decide (n28 = 1))
 (wCall Try.prog 12 [(.pointer none), (.int .i64 0), (.string ({ data := #[] }))] H30 (fun r34 H35 =>
 opI .i64 r34 fun n38 =>
 wIf (decide (n38 = 1))
 (wCall Try.prog 11 [(.pointer none)] H35 (fun r39 H40 =>
 opI .i64 r39 fun n43 =>
 wIf (decide (n43 = 1))
 (wCall Try.prog 18 [(.pointer none)] H40 (fun r44 H45 =>
 opI .i64 r44 fun n48 =>
 wIf (decide (n48 = 0))
 (wCall Try.prog 14 [(.pointer none)] H45 (fun r49 H50 =>
 opI .i64 r49 fun n53 =>
 wIf (decide (n53 = 0))
 (wCall Try.prog 15 [(.pointer none)] H50 (fun r54 H55 =>
 opB r54 fun b58 =>
 wIf (!b58)
 (wCall Try.prog 19 [(.pointer none)] H55 (fun r59 H60 =>
 opS r59 fun t63 =>
 R (.ret (.bool (decide (t63 = ({ data := #[] }))))) H60) (fun v62 H61 => R (.panic v62) H61))
 (R (.ret (.bool false)) H55)) (fun v57 H56 => R (.panic v57) H56))
 (R (.ret (.bool false)) H50)) (fun v52 H51 => R (.panic v52) H51))
 (R (.ret (.bool false)) H45)) (fun v47 H46 => R (.panic v47) H46))
 (R (.ret (.bool false)) H40)) (fun v42 H41 => R (.panic v42) H41))
 (R (.ret (.bool false)) H35)) (fun v37 H36 => R (.panic v37) H36))
 (R (.ret (.bool false)) H30))
 (R (.ret (.bool false)) H30)) (fun v32 H31 => R (.panic v32) H31)) (fun v25 H24 => R (.panic v25) H24)) (fun v21 H20 => R (.panic v21) H20)) (fun v17 H16 => R (.panic v17) H16)) (fun v13 H12 => R (.panic v13) H12)) (fun v9 H8 => R (.panic v9) H8))) (fun v4 H3 => R (.panic v4) H3)
theorem f7_eq (H : AH) (R : AEnd → AH → Prop) : awpF Try.prog f7_c (aPost Try.prog Try.f7 R) (([] : List Value) ++ List.replicate (Try.f7.ntmps - (([] : List Value)).length) undef) H = f7_B H R := by kernel_rfl
theorem f7_call (H : AH) (R : AEnd → AH → Prop) (h : f7_B H R) : ACall Try.prog 7 ([] : List Value) H R :=
  acall_of mixed Try.func7 (by kernel_rfl : Try.f7.body = some f7_c) (by kernel_rfl) (by kernel_rfl) (awp_of (Eq.mpr (f7_eq H R) h))

/-! f19: (*switchyard/block.Device).Lasting -/
noncomputable def f19_c : Code := Try.f19.body.getD .skip
def f19_B (x0 : Option Addr) (H : AH) (R : AEnd → AH → Prop) : Prop :=
 wIf x0.isNone
 (R (.ret (.string ({ data := #[] }))) H)
 (wPt x0 fun i1 k2 =>
 ldL i1 k2 H fun z3b z3l z3c =>
 wCall Try.prog 34 [(.slice z3b z3l z3c), (.string ({ data := #[] }))] H (fun r4 H5 =>
 opS r4 fun t8 =>
 R (.ret (.string t8)) H5) (fun v7 H6 => R (.panic v7) H6))
theorem f19_eq (x0 : Option Addr) (H : AH) (R : AEnd → AH → Prop) : awpF Try.prog f19_c (aPost Try.prog Try.f19 R) (([(.pointer x0)] : List Value) ++ List.replicate (Try.f19.ntmps - (([(.pointer x0)] : List Value)).length) undef) H = f19_B x0 H R := by kernel_rfl
theorem f19_call (x0 : Option Addr) (H : AH) (R : AEnd → AH → Prop) (h : f19_B x0 H R) : ACall Try.prog 19 ([(.pointer x0)] : List Value) H R :=
  acall_of mixed Try.func19 (by kernel_rfl : Try.f19.body = some f19_c) (by kernel_rfl) (by kernel_rfl) (awp_of (Eq.mpr (f19_eq x0 H R) h))

end Go.Proofs.Ytnjhcnefgeodcaa
