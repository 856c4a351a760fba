/- Bodies of functions as nested rules: printed by genw.py, a program of this claim. -/
import Derived.Test.YtfghglacfjncmaaWTy
namespace Go.Proofs.Ytfghglacfjncmaa
open Go.RowKit
set_option linter.unusedVariables false
set_option maxRecDepth 100000

/-! f4: switchyard/switchyardlaw13.CodeGets -/
noncomputable def f4_c : Code := Try.f4.body.getD .skip
def f4_B (x0 : ByteArray) (H : AH) (R : AEnd → AH → Prop) : Prop :=
 wCall Try.prog 10 [] H (fun r1 H2 =>
 opB r1 fun b5 =>
 wIf (!b5)
 (R (.ret (.bool false)) H2)
 (wIf (decide ((x0.size : Int) > 5000))
 (wCall Try.prog 10 [] H2 (fun r6 H7 =>
 opB r6 fun b10 =>
 R (.ret (.bool b10)) H7) (fun v9 H8 => R (.panic v9) H8))
 (wCall Try.prog 17 [(.string x0)] H2 (fun r11 H12 =>
 opT 2 r11 fun l15 =>
 opA 4 (l15.headD undef) fun l16 =>
 opI .i64 (l16.headD undef) fun n17 =>
 opI .i64 (l16.tail.headD undef) fun n18 =>
 opS (l16.tail.tail.headD undef) fun t19 =>
 opL (l16.tail.tail.tail.headD undef) fun z20b z20l z20c =>
 opI .i64 (l15.tail.headD undef) fun n21 =>
 wNew [(.int .i64 0), (.int .i64 0), (.string ({ data := #[] })), (.slice none 0 0)] H12 fun i22 H23 =>
 wSt i22 0 [(.int .i64 n17), (.int .i64 n18), (.string t19), (.slice z20b z20l z20c)] H23 fun H24 =>
 wCall Try.prog 18 [(.string x0)] H24 (fun r25 H26 =>
 opT 2 r25 fun l29 =>
 opA 4 (l29.headD undef) fun l30 =>
 opI .i64 (l30.headD undef) fun n31 =>
 opI .i64 (l30.tail.headD undef) fun n32 =>
 opS (l30.tail.tail.headD undef) fun t33 =>
 opL (l30.tail.tail.tail.headD undef) fun z34b z34l z34c =>
 opI .i64 (l29.tail.headD undef) fun n35 =>
 wNew [(.int .i64 0), (.int .i64 0), (.string ({ data := #[] })), (.slice none 0 0)] H26 fun i36 H37 =>
 wSt i36 0 [(.int .i64 n31), (.int .i64 n32), (.string t33), (.slice z34b z34l z34c)] H37 fun H38 =>
 wCall Try.prog 19 [(.string x0)] H38 (fun r39 H40 =>
 opT 2 r39 fun l43 =>
 opA 4 (l43.headD undef) fun l44 =>
 opI .i64 (l44.headD undef) fun n45 =>
 opS (l44.tail.headD undef) fun t46 =>
 opL (l44.tail.tail.headD undef) fun z47b z47l z47c =>
 opL (l44.tail.tail.tail.headD undef) fun z48b z48l z48c =>
 opI .i64 (l43.tail.headD undef) fun n49 =>
 wNew [(.int .i64 0), (.string ({ data := #[] })), (.slice none 0 0), (.slice none 0 0)] H40 fun i50 H51 =>
 wSt i50 0 [(.int .i64 n45), (.string t46), (.slice z47b z47l z47c), (.slice z48b z48l z48c)] H51 fun H52 =>
 wCall Try.prog 20 [(.string x0)] H52 (fun r53 H54 =>
 opT 2 r53 fun l57 =>
 opA 4 (l57.headD undef) fun l58 =>
 opI .i64 (l58.headD undef) fun n59 =>
 opS (l58.tail.headD undef) fun t60 =>
 opL (l58.tail.tail.headD undef) fun z61b z61l z61c =>
 opL (l58.tail.tail.tail.headD undef) fun z62b z62l z62c =>
 opI .i64 (l57.tail.headD undef) fun n63 =>
 wNew [(.int .i64 0), (.string ({ data := #[] })), (.slice none 0 0), (.slice none 0 0)] H54 fun i64 H65 =>
 wSt i64 0 [(.int .i64 n59), (.string t60), (.slice z61b z61l z61c), (.slice z62b z62l z62c)] H65 fun H66 =>
 wCall Try.prog 21 [(.string x0)] H66 (fun r67 H68 =>
 opT 2 r67 fun l71 =>
 opA 7 (l71.headD undef) fun l72 =>
 opI .i64 (l72.headD undef) fun n73 =>
 opS (l72.tail.headD undef) fun t74 =>
 opS (l72.tail.tail.headD undef) fun t75 =>
 opI .i64 (l72.tail.tail.tail.headD undef) fun n76 =>
 opL (l72.tail.tail.tail.tail.headD undef) fun z77b z77l z77c =>
 opL (l72.tail.tail.tail.tail.tail.headD undef) fun z78b z78l z78c =>
 opL (l72.tail.tail.tail.tail.tail.tail.headD undef) fun z79b z79l z79c =>
 opI .i64 (l71.tail.headD undef) fun n80 =>
 wNew [(.int .i64 0), (.string ({ data := #[] })), (.string ({ data := #[] })), (.int .i64 0), (.slice none 0 0), (.slice none 0 0), (.slice none 0 0)] H68 fun i81 H82 =>
 wSt i81 0 [(.int .i64 n73), (.string t74), (.string t75), (.int .i64 n76), (.slice z77b z77l z77c), (.slice z78b z78l z78c), (.slice z79b z79l z79c)] H82 fun H83 =>
 wCall Try.prog 22 [(.string x0)] H83 (fun r84 H85 =>
 opT 2 r84 fun l88 =>
 opA 7 (l88.headD undef) fun l89 =>
 opI .i64 (l89.headD undef) fun n90 =>
 opS (l89.tail.headD undef) fun t91 =>
 opS (l89.tail.tail.headD undef) fun t92 =>
 opI .i64 (l89.tail.tail.tail.headD undef) fun n93 =>
 opL (l89.tail.tail.tail.tail.headD undef) fun z94b z94l z94c =>
 opL (l89.tail.tail.tail.tail.tail.headD undef) fun z95b z95l z95c =>
 opL (l89.tail.tail.tail.tail.tail.tail.headD undef) fun z96b z96l z96c =>
 opI .i64 (l88.tail.headD undef) fun n97 =>
 wNew [(.int .i64 0), (.string ({ data := #[] })), (.string ({ data := #[] })), (.int .i64 0), (.slice none 0 0), (.slice none 0 0), (.slice none 0 0)] H85 fun i98 H99 =>
 wSt i98 0 [(.int .i64 n90), (.string t91), (.string t92), (.int .i64 n93), (.slice z94b z94l z94c), (.slice z95b z95l z95c), (.slice z96b z96l z96c)] H99 fun H100 =>
 wCall Try.prog 10 [] H100 (fun r101 H102 =>
 opB r101 fun b105 =>
 wIf b105
 (ldI .i64 i22 0 H102 fun n106 =>
 ldI .i64 i22 1 H102 fun n107 =>
 ldS i22 2 H102 fun t108 =>
 ldL i22 3 H102 fun z109b z109l z109c =>
 ldI .i64 i36 0 H102 fun n110 =>
 ldI .i64 i36 1 H102 fun n111 =>
 ldS i36 2 H102 fun t112 =>
 ldL i36 3 H102 fun z113b z113l z113c =>
 wCall Try.prog 14 [(.agg #[(.int .i64 n106), (.int .i64 n107), (.string t108), (.slice z109b z109l z109c)]), (.agg #[(.int .i64 n110), (.int .i64 n111), (.string t112), (.slice z113b z113l z113c)])] H102 (fun r114 H115 =>
 opB r114 fun b118 =>
 wIf b118
 (wIf (decide (n21 = n35))
 (ldI .i64 i50 0 H115 fun n119 =>
 ldS i50 1 H115 fun t120 =>
 ldL i50 2 H115 fun z121b z121l z121c =>
 ldL i50 3 H115 fun z122b z122l z122c =>
 ldI .i64 i64 0 H115 fun n123 =>
 ldS i64 1 H115 fun t124 =>
 ldL i64 2 H115 fun z125b z125l z125c =>
 ldL i64 3 H115 fun z126b z126l z126c =>
 wCall Try.prog 16 [(.agg #[(.int .i64 n119), (.string t120), (.slice z121b z121l z121c), (.slice z122b z122l z122c)]), (.agg #[(.int .i64 n123), (.string t124), (.slice z125b z125l z125c), (.slice z126b z126l z126c)])] H115 (fun r127 H128 =>
 opB r127 fun b131 =>
 wIf b131
 (wIf (decide (n49 = n63))
 (ldI .i64 i81 0 H128 fun n132 =>
 ldS i81 1 H128 fun t133 =>
 ldS i81 2 H128 fun t134 =>
 ldI .i64 i81 3 H128 fun n135 =>
 ldL i81 4 H128 fun z136b z136l z136c =>
 ldL i81 5 H128 fun z137b z137l z137c =>
 ldL i81 6 H128 fun z138b z138l z138c =>
 ldI .i64 i98 0 H128 fun n139 =>
 ldS i98 1 H128 fun t140 =>
 ldS i98 2 H128 fun t141 =>
 ldI .i64 i98 3 H128 fun n142 =>
 ldL i98 4 H128 fun z143b z143l z143c =>
 ldL i98 5 H128 fun z144b z144l z144c =>
 ldL i98 6 H128 fun z145b z145l z145c =>
 wCall Try.prog 23 [(.agg #[(.int .i64 n132), (.string t133), (.string t134), (.int .i64 n135), (.slice z136b z136l z136c), (.slice z137b z137l z137c), (.slice z138b z138l z138c)]), (.agg #[(.int .i64 n139), (.string t140), (.string t141), (.int .i64 n142), (.slice z143b z143l z143c), (.slice z144b z144l z144c), (.slice z145b z145l z145c)])] H128 (fun r146 H147 =>
 opB r146 fun b150 =>
 wIf b150
 (R (.ret (.bool (decide (n80 = n97)))) H147)
 (R (.ret (.bool false)) H147)) (fun v149 H148 => R (.panic v149) H148))
 (R (.ret (.bool false)) H128))
 (R (.ret (.bool false)) H128)) (fun v130 H129 => R (.panic v130) H129))
 (R (.ret (.bool false)) H115))
 (R (.ret (.bool false)) H115)) (fun v117 H116 => R (.panic v117) H116))
 (R (.ret (.bool false)) H102)) (fun v104 H103 => R (.panic v104) H103)) (fun v87 H86 => R (.panic v87) H86)) (fun v70 H69 => R (.panic v70) H69)) (fun v56 H55 => R (.panic v56) H55)) (fun v42 H41 => R (.panic v42) H41)) (fun v28 H27 => R (.panic v28) H27)) (fun v14 H13 => R (.panic v14) H13)))) (fun v4 H3 => R (.panic v4) H3)
theorem f4_eq (x0 : ByteArray) (H : AH) (R : AEnd → AH → Prop) : awpF Try.prog f4_c (aPost Try.prog Try.f4 R) (([(.string x0)] : List Value) ++ List.replicate (Try.f4.ntmps - (([(.string x0)] : List Value)).length) undef) H = f4_B x0 H R := by kernel_rfl
theorem f4_call (x0 : ByteArray) (H : AH) (R : AEnd → AH → Prop) (h : f4_B x0 H R) : ACall Try.prog 4 ([(.string x0)] : List Value) H R :=
  acall_of mixed Try.func4 (by kernel_rfl : Try.f4.body = some f4_c) (by kernel_rfl) (by kernel_rfl) (awp_of (Eq.mpr (f4_eq x0 H R) h))

end Go.Proofs.Ytfghglacfjncmaa
