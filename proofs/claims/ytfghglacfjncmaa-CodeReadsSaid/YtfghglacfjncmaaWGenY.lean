/- Bodies of functions as nested rules: printed by genw.py, a program of this claim. -/
import Derived.Test.YtfghglacfjncmaaWTy
namespace Go.Proofs.Ytfghglacfjncmaa
open Go.RowKit
set_option linter.unusedVariables false
set_option maxRecDepth 100000

/-! f7: switchyard/switchyardlaw13.CodeReads -/
noncomputable def f7_c : Code := Try.f7.body.getD .skip
def f7_B (x0 : ByteArray) (H : AH) (R : AEnd → AH → Prop) : Prop :=
 wCall Try.prog 10 [] H (fun r1 H2 =>
 opB r1 fun b5 =>
 wIf (!b5)
 (R (.ret (.bool false)) H2)
 (wIf (decide ((x0.size : Int) > 5000))
 (wCall Try.prog 10 [] H2 (fun r6 H7 =>
 opB r6 fun b10 =>
 R (.ret (.bool b10)) H7) (fun v9 H8 => R (.panic v9) H8))
 (wCall Try.prog 41 [(.string x0)] H2 (fun r11 H12 =>
 opT 2 r11 fun l15 =>
 opA 6 (l15.headD undef) fun l16 =>
 opI .i64 (l16.headD undef) fun n17 =>
 opI .i64 (l16.tail.headD undef) fun n18 =>
 opS (l16.tail.tail.headD undef) fun t19 =>
 opL (l16.tail.tail.tail.headD undef) fun z20b z20l z20c =>
 opL (l16.tail.tail.tail.tail.headD undef) fun z21b z21l z21c =>
 opI .i64 (l16.tail.tail.tail.tail.tail.headD undef) fun n22 =>
 opI .i64 (l15.tail.headD undef) fun n23 =>
 wNew [(.int .i64 0), (.int .i64 0), (.string ({ data := #[] })), (.slice none 0 0), (.slice none 0 0), (.int .i64 0)] H12 fun i24 H25 =>
 wSt i24 0 [(.int .i64 n17), (.int .i64 n18), (.string t19), (.slice z20b z20l z20c), (.slice z21b z21l z21c), (.int .i64 n22)] H25 fun H26 =>
 wCall Try.prog 42 [(.string x0)] H26 (fun r27 H28 =>
 opT 2 r27 fun l31 =>
 opA 6 (l31.headD undef) fun l32 =>
 opI .i64 (l32.headD undef) fun n33 =>
 opI .i64 (l32.tail.headD undef) fun n34 =>
 opS (l32.tail.tail.headD undef) fun t35 =>
 opL (l32.tail.tail.tail.headD undef) fun z36b z36l z36c =>
 opL (l32.tail.tail.tail.tail.headD undef) fun z37b z37l z37c =>
 opI .i64 (l32.tail.tail.tail.tail.tail.headD undef) fun n38 =>
 opI .i64 (l31.tail.headD undef) fun n39 =>
 wNew [(.int .i64 0), (.int .i64 0), (.string ({ data := #[] })), (.slice none 0 0), (.slice none 0 0), (.int .i64 0)] H28 fun i40 H41 =>
 wSt i40 0 [(.int .i64 n33), (.int .i64 n34), (.string t35), (.slice z36b z36l z36c), (.slice z37b z37l z37c), (.int .i64 n38)] H41 fun H42 =>
 wCall Try.prog 43 [(.string x0)] H42 (fun r43 H44 =>
 opT 2 r43 fun l47 =>
 opA 7 (l47.headD undef) fun l48 =>
 opI .i64 (l48.headD undef) fun n49 =>
 opI .i64 (l48.tail.headD undef) fun n50 =>
 opS (l48.tail.tail.headD undef) fun t51 =>
 opI .i64 (l48.tail.tail.tail.headD undef) fun n52 =>
 opS (l48.tail.tail.tail.tail.headD undef) fun t53 =>
 opS (l48.tail.tail.tail.tail.tail.headD undef) fun t54 =>
 opL (l48.tail.tail.tail.tail.tail.tail.headD undef) fun z55b z55l z55c =>
 opI .i64 (l47.tail.headD undef) fun n56 =>
 wNew [(.int .i64 0), (.int .i64 0), (.string ({ data := #[] })), (.int .i64 0), (.string ({ data := #[] })), (.string ({ data := #[] })), (.slice none 0 0)] H44 fun i57 H58 =>
 wSt i57 0 [(.int .i64 n49), (.int .i64 n50), (.string t51), (.int .i64 n52), (.string t53), (.string t54), (.slice z55b z55l z55c)] H58 fun H59 =>
 wCall Try.prog 44 [(.string x0)] H59 (fun r60 H61 =>
 opT 2 r60 fun l64 =>
 opA 7 (l64.headD undef) fun l65 =>
 opI .i64 (l65.headD undef) fun n66 =>
 opI .i64 (l65.tail.headD undef) fun n67 =>
 opS (l65.tail.tail.headD undef) fun t68 =>
 opI .i64 (l65.tail.tail.tail.headD undef) fun n69 =>
 opS (l65.tail.tail.tail.tail.headD undef) fun t70 =>
 opS (l65.tail.tail.tail.tail.tail.headD undef) fun t71 =>
 opL (l65.tail.tail.tail.tail.tail.tail.headD undef) fun z72b z72l z72c =>
 opI .i64 (l64.tail.headD undef) fun n73 =>
 wNew [(.int .i64 0), (.int .i64 0), (.string ({ data := #[] })), (.int .i64 0), (.string ({ data := #[] })), (.string ({ data := #[] })), (.slice none 0 0)] H61 fun i74 H75 =>
 wSt i74 0 [(.int .i64 n66), (.int .i64 n67), (.string t68), (.int .i64 n69), (.string t70), (.string t71), (.slice z72b z72l z72c)] H75 fun H76 =>
 wCall Try.prog 45 [(.string x0)] H76 (fun r77 H78 =>
 opT 2 r77 fun l81 =>
 opA 3 (l81.headD undef) fun l82 =>
 opI .i64 (l82.headD undef) fun n83 =>
 opS (l82.tail.headD undef) fun t84 =>
 opI .i64 (l82.tail.tail.headD undef) fun n85 =>
 opI .i64 (l81.tail.headD undef) fun n86 =>
 wNew [(.int .i64 0), (.string ({ data := #[] })), (.int .i64 0)] H78 fun i87 H88 =>
 wSt i87 0 [(.int .i64 n83), (.string t84), (.int .i64 n85)] H88 fun H89 =>
 wCall Try.prog 46 [(.string x0)] H89 (fun r90 H91 =>
 opT 2 r90 fun l94 =>
 opA 3 (l94.headD undef) fun l95 =>
 opI .i64 (l95.headD undef) fun n96 =>
 opS (l95.tail.headD undef) fun t97 =>
 opI .i64 (l95.tail.tail.headD undef) fun n98 =>
 opI .i64 (l94.tail.headD undef) fun n99 =>
 wNew [(.int .i64 0), (.string ({ data := #[] })), (.int .i64 0)] H91 fun i100 H101 =>
 wSt i100 0 [(.int .i64 n96), (.string t97), (.int .i64 n98)] H101 fun H102 =>
 wCall Try.prog 10 [] H102 (fun r103 H104 =>
 opB r103 fun b107 =>
 wIf b107
 (ldI .i64 i24 0 H104 fun n108 =>
 ldI .i64 i24 1 H104 fun n109 =>
 ldS i24 2 H104 fun t110 =>
 ldL i24 3 H104 fun z111b z111l z111c =>
 ldL i24 4 H104 fun z112b z112l z112c =>
 ldI .i64 i24 5 H104 fun n113 =>
 ldI .i64 i40 0 H104 fun n114 =>
 ldI .i64 i40 1 H104 fun n115 =>
 ldS i40 2 H104 fun t116 =>
 ldL i40 3 H104 fun z117b z117l z117c =>
 ldL i40 4 H104 fun z118b z118l z118c =>
 ldI .i64 i40 5 H104 fun n119 =>
 wCall Try.prog 47 [(.agg #[(.int .i64 n108), (.int .i64 n109), (.string t110), (.slice z111b z111l z111c), (.slice z112b z112l z112c), (.int .i64 n113)]), (.agg #[(.int .i64 n114), (.int .i64 n115), (.string t116), (.slice z117b z117l z117c), (.slice z118b z118l z118c), (.int .i64 n119)])] H104 (fun r120 H121 =>
 opB r120 fun b124 =>
 wIf b124
 (wIf (decide (n23 = n39))
 (ldI .i64 i57 0 H121 fun n125 =>
 ldI .i64 i57 1 H121 fun n126 =>
 ldS i57 2 H121 fun t127 =>
 ldI .i64 i57 3 H121 fun n128 =>
 ldS i57 4 H121 fun t129 =>
 ldS i57 5 H121 fun t130 =>
 ldL i57 6 H121 fun z131b z131l z131c =>
 ldI .i64 i74 0 H121 fun n132 =>
 ldI .i64 i74 1 H121 fun n133 =>
 ldS i74 2 H121 fun t134 =>
 ldI .i64 i74 3 H121 fun n135 =>
 ldS i74 4 H121 fun t136 =>
 ldS i74 5 H121 fun t137 =>
 ldL i74 6 H121 fun z138b z138l z138c =>
 wCall Try.prog 48 [(.agg #[(.int .i64 n125), (.int .i64 n126), (.string t127), (.int .i64 n128), (.string t129), (.string t130), (.slice z131b z131l z131c)]), (.agg #[(.int .i64 n132), (.int .i64 n133), (.string t134), (.int .i64 n135), (.string t136), (.string t137), (.slice z138b z138l z138c)])] H121 (fun r139 H140 =>
 opB r139 fun b143 =>
 wIf b143
 (wIf (decide (n56 = n73))
 (ldI .i64 i87 0 H140 fun n144 =>
 ldS i87 1 H140 fun t145 =>
 ldI .i64 i87 2 H140 fun n146 =>
 ldI .i64 i100 0 H140 fun n147 =>
 ldS i100 1 H140 fun t148 =>
 ldI .i64 i100 2 H140 fun n149 =>
 wIf ((decide (n144 = n147)) && ((decide (t145 = t148)) && ((decide (n146 = n149)) && true)))
 (R (.ret (.bool (decide (n86 = n99)))) H140)
 (R (.ret (.bool false)) H140))
 (R (.ret (.bool false)) H140))
 (R (.ret (.bool false)) H140)) (fun v142 H141 => R (.panic v142) H141))
 (R (.ret (.bool false)) H121))
 (R (.ret (.bool false)) H121)) (fun v123 H122 => R (.panic v123) H122))
 (R (.ret (.bool false)) H104)) (fun v106 H105 => R (.panic v106) H105)) (fun v93 H92 => R (.panic v93) H92)) (fun v80 H79 => R (.panic v80) H79)) (fun v63 H62 => R (.panic v63) H62)) (fun v46 H45 => R (.panic v46) H45)) (fun v30 H29 => R (.panic v30) H29)) (fun v14 H13 => R (.panic v14) H13)))) (fun v4 H3 => R (.panic v4) H3)
theorem f7_eq (x0 : ByteArray) (H : AH) (R : AEnd → AH → Prop) : awpF Try.prog f7_c (aPost Try.prog Try.f7 R) (([(.string x0)] : List Value) ++ List.replicate (Try.f7.ntmps - (([(.string x0)] : List Value)).length) undef) H = f7_B x0 H R := by kernel_rfl
theorem f7_call (x0 : ByteArray) (H : AH) (R : AEnd → AH → Prop) (h : f7_B x0 H R) : ACall Try.prog 7 ([(.string x0)] : List Value) H R :=
  acall_of mixed Try.func7 (by kernel_rfl : Try.f7.body = some f7_c) (by kernel_rfl) (by kernel_rfl) (awp_of (Eq.mpr (f7_eq x0 H R) h))

end Go.Proofs.Ytfghglacfjncmaa
