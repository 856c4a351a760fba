/- Bodies of functions as nested rules: printed by genw.py, a program of this claim. -/
import Derived.Test.YtmidgfmopmpppaaWTy
namespace Go.Proofs.Ytmidgfmopmpppaa
open Go.RowKit
set_option linter.unusedVariables false
set_option maxRecDepth 100000

/-! f13: switchyard/switchyardlaw02.PackNil -/
noncomputable def f13_c : Code := Try.f13.body.getD .skip
def f13_B (H : AH) (R : AEnd → AH → Prop) : Prop :=
 wCall Try.prog 19 [] H (fun r1 H2 =>
 opB r1 fun b5 =>
 wIf (!b5)
 (R (.ret (.bool false)) H2)
 (wCall Try.prog 19 [] H2 (fun r6 H7 =>
 opB r6 fun b10 =>
 wIf b10
 (wCall Try.prog 28 [(.pointer none)] H7 (fun r11 H12 =>
 opI .u64 r11 fun n15 =>
 wIf (decide (n15 = 0))
 (wCall Try.prog 29 [(.pointer none)] H12 (fun r16 H17 =>
 opI .i64 r16 fun n20 =>
 wIf (decide (n20 = 0))
 (wCall Try.prog 34 [(.pointer none)] H17 (fun r21 H22 =>
 opB r21 fun b25 =>
 wIf (!b25)
 (wCall Try.prog 30 [(.pointer none), (.int .i64 9)] H22 (fun r26 H27 =>
 opS r26 fun t30 =>
 wIf (decide (t30 = ({ data := #[] })))
 (wCall Try.prog 36 [(.pointer none), (.int .i64 9)] H27 (fun r31 H32 =>
 opI .i64 r31 fun n35 =>
 wIf (decide (n35 = 0))
 (wCall Try.prog 37 [(.pointer none)] H32 (fun r36 H37 =>
 opI .i64 r36 fun n40 =>
 wIf (decide (n40 = 0))
 (wCall Try.prog 31 [(.pointer none)] H37 (fun r41 H42 =>
 opI .i64 r41 fun n45 =>
 wIf (decide (n45 = 1))
 (wCall Try.prog 35 [(.pointer none)] H42 (fun r46 H47 =>
 opI .i64 r46 fun n50 =>
 wIf (decide (n50 = 1))
 (wCall Try.prog 32 [(.pointer none)] H47 (fun r51 H52 =>
 opI .i64 r51 fun n55 =>
 R (.ret (.bool (decide (n55 = 0)))) H52) (fun v54 H53 => R (.panic v54) H53))
 (R (.ret (.bool false)) H47)) (fun v49 H48 => R (.panic v49) H48))
 (R (.ret (.bool false)) H42)) (fun v44 H43 => R (.panic v44) H43))
 (R (.ret (.bool false)) H37)) (fun v39 H38 => R (.panic v39) H38))
 (R (.ret (.bool false)) H32)) (fun v34 H33 => R (.panic v34) H33))
 (R (.ret (.bool false)) H27)) (fun v29 H28 => R (.panic v29) H28))
 (R (.ret (.bool false)) H22)) (fun v24 H23 => R (.panic v24) H23))
 (R (.ret (.bool false)) H17)) (fun v19 H18 => R (.panic v19) H18))
 (R (.ret (.bool false)) H12)) (fun v14 H13 => R (.panic v14) H13))
 (R (.ret (.bool false)) H7)) (fun v9 H8 => R (.panic v9) H8))) (fun v4 H3 => R (.panic v4) H3)
theorem f13_eq (H : AH) (R : AEnd → AH → Prop) : awpF Try.prog f13_c (aPost Try.f13 R) (([] : List Value) ++ List.replicate (Try.f13.ntmps - (([] : List Value)).length) undef) H = f13_B H R := by kernel_rfl
theorem f13_call (H : AH) (R : AEnd → AH → Prop) (h : f13_B H R) : ACall Try.prog 13 ([] : List Value) H R :=
  acall_of mixed Try.func13 (by kernel_rfl : Try.f13.body = some f13_c) (by kernel_rfl) (by kernel_rfl) (awp_of (Eq.mpr (f13_eq H R) h))

end Go.Proofs.Ytmidgfmopmpppaa
