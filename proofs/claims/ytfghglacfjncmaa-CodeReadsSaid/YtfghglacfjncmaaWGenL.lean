/- Bodies of functions as nested rules: printed by genw.py, a program of this claim. -/
import Derived.Test.YtfghglacfjncmaaWTy
namespace Go.Proofs.Ytfghglacfjncmaa
open Go.RowKit
set_option linter.unusedVariables false
set_option maxRecDepth 100000

/-! f10: switchyard/switchyardlaw13.awake -/
noncomputable def f10_c : Code := Try.f10.body.getD .skip
def f10_B (H : AH) (R : AEnd → AH → Prop) : Prop :=
 wCall Try.prog 12 [(.agg #[(.int .i64 1), (.int .i64 (-1)), (.string ({ data := #[] })), (.slice none 0 0)])] H (fun r1 H2 =>
 opT 2 r1 fun l5 =>
 opS (l5.headD undef) fun t6 =>
 opI .i64 (l5.tail.headD undef) fun n7 =>
 wBs [(.int .i64 1), (.int .i64 2)] 1 H2 fun i8 H9 =>
 wCall Try.prog 12 [(.agg #[(.int .i64 5), (.int .i64 0), (.string ({ data := #[] })), (.slice (some ⟨i8, 0, none⟩) 2 0)])] H9 (fun r10 H11 =>
 opT 2 r10 fun l14 =>
 opS (l14.headD undef) fun t15 =>
 opI .i64 (l14.tail.headD undef) fun n16 =>
 wCall Try.prog 17 [(.string t15)] H11 (fun r17 H18 =>
 opT 2 r17 fun l21 =>
 opA 4 (l21.headD undef) fun l22 =>
 opI .i64 (l22.headD undef) fun n23 =>
 opI .i64 (l22.tail.headD undef) fun n24 =>
 opS (l22.tail.tail.headD undef) fun t25 =>
 opL (l22.tail.tail.tail.headD undef) fun z26b z26l z26c =>
 opI .i64 (l21.tail.headD undef) fun n27 =>
 wNew [(.int .i64 0), (.int .i64 0), (.string ({ data := #[] })), (.slice none 0 0)] H18 fun i28 H29 =>
 wSt i28 0 [(.int .i64 n23), (.int .i64 n24), (.string t25), (.slice z26b z26l z26c)] H29 fun H30 =>
 wIf (decide (t6 = ({ data := #[1, 1] })))
 (wIf (decide (n7 = 0))
 (wIf (decide (t15 = ({ data := #[5, 2, 2, 4] })))
 (wIf (decide (n16 = 0))
 (wIf (decide (n27 = 0))
 (ldL i28 3 H30 fun z31b z31l z31c =>
 R (.ret (.bool (decide ((z31l : Int) = 2)))) H30)
 (R (.ret (.bool false)) H30))
 (R (.ret (.bool false)) H30))
 (R (.ret (.bool false)) H30))
 (R (.ret (.bool false)) H30))
 (R (.ret (.bool false)) H30)) (fun v20 H19 => R (.panic v20) H19)) (fun v13 H12 => R (.panic v13) H12)) (fun v4 H3 => R (.panic v4) H3)
theorem f10_eq (H : AH) (R : AEnd → AH → Prop) : awpF Try.prog f10_c (aPost Try.prog Try.f10 R) (([] : List Value) ++ List.replicate (Try.f10.ntmps - (([] : List Value)).length) undef) H = f10_B H R := by kernel_rfl
theorem f10_call (H : AH) (R : AEnd → AH → Prop) (h : f10_B H R) : ACall Try.prog 10 ([] : List Value) H R :=
  acall_of mixed Try.func10 (by kernel_rfl : Try.f10.body = some f10_c) (by kernel_rfl) (by kernel_rfl) (awp_of (Eq.mpr (f10_eq H R) h))

/-! f11: switchyard/switchyardlaw13.few -/
-- join 0: live 0:l, 5:, 6:, 7:, 25:
-- loop 0: carried 7:
/-! f12: switchyard/code.PutValue -/
noncomputable def f12_c : Code := Try.f12.body.getD .skip
def f12_B (x0_0 x0_1 : Int) (x0_2 : ByteArray) (x0_3b : Option Addr) (x0_3l x0_3c : Nat) (H : AH) (R : AEnd → AH → Prop) : Prop :=
 wNew [(.int .i64 x0_0), (.int .i64 x0_1), (.string x0_2), (.slice x0_3b x0_3l x0_3c)] H fun i1 H2 =>
 ldI .i64 i1 0 H2 fun n3 =>
 ldI .i64 i1 1 H2 fun n4 =>
 ldS i1 2 H2 fun t5 =>
 ldL i1 3 H2 fun z6b z6l z6c =>
 wCall Try.prog 49 [(.agg #[(.int .i64 n3), (.int .i64 n4), (.string t5), (.slice z6b z6l z6c)]), (.func (.func 50) #[] #[])] H2 (fun r7 H8 =>
 opT 2 r7 fun l11 =>
 opS (l11.headD undef) fun t12 =>
 opI .i64 (l11.tail.headD undef) fun n13 =>
 R (.ret (.tuple #[(.string t12), (.int .i64 n13)])) H8) (fun v10 H9 => R (.panic v10) H9)
theorem f12_eq (x0_0 x0_1 : Int) (x0_2 : ByteArray) (x0_3b : Option Addr) (x0_3l x0_3c : Nat) (H : AH) (R : AEnd → AH → Prop) : awpF Try.prog f12_c (aPost Try.prog Try.f12 R) (([(.agg #[(.int .i64 x0_0), (.int .i64 x0_1), (.string x0_2), (.slice x0_3b x0_3l x0_3c)])] : List Value) ++ List.replicate (Try.f12.ntmps - (([(.agg #[(.int .i64 x0_0), (.int .i64 x0_1), (.string x0_2), (.slice x0_3b x0_3l x0_3c)])] : List Value)).length) undef) H = f12_B x0_0 x0_1 x0_2 x0_3b x0_3l x0_3c H R := by kernel_rfl
theorem f12_call (x0_0 x0_1 : Int) (x0_2 : ByteArray) (x0_3b : Option Addr) (x0_3l x0_3c : Nat) (H : AH) (R : AEnd → AH → Prop) (h : f12_B x0_0 x0_1 x0_2 x0_3b x0_3l x0_3c H R) : ACall Try.prog 12 ([(.agg #[(.int .i64 x0_0), (.int .i64 x0_1), (.string x0_2), (.slice x0_3b x0_3l x0_3c)])] : List Value) H R :=
  acall_of mixed Try.func12 (by kernel_rfl : Try.f12.body = some f12_c) (by kernel_rfl) (by kernel_rfl) (awp_of (Eq.mpr (f12_eq x0_0 x0_1 x0_2 x0_3b x0_3l x0_3c H R) h))

/-! f13: switchyard/code.PutMail -/
/-! f17: switchyard/code.GetValue -/
noncomputable def f17_c : Code := Try.f17.body.getD .skip
def f17_B (x0 : ByteArray) (H : AH) (R : AEnd → AH → Prop) : Prop :=
 wNew [(.int .i64 0), (.int .i64 0), (.string ({ data := #[] })), (.slice none 0 0)] H fun i1 H2 =>
 wCall Try.prog 54 [(.string x0), (.func (.func 55) #[] #[])] H2 (fun r3 H4 =>
 opT 2 r3 fun l7 =>
 opA 4 (l7.headD undef) fun l8 =>
 opI .i64 (l8.headD undef) fun n9 =>
 opI .i64 (l8.tail.headD undef) fun n10 =>
 opS (l8.tail.tail.headD undef) fun t11 =>
 opL (l8.tail.tail.tail.headD undef) fun z12b z12l z12c =>
 opI .i64 (l7.tail.headD undef) fun n13 =>
 wSt i1 0 [(.int .i64 n9), (.int .i64 n10), (.string t11), (.slice z12b z12l z12c)] H4 fun H14 =>
 wPt (some ⟨i1, 0, none⟩) fun i15 k16 =>
 ldI .i64 i15 k16 H14 fun n17 =>
 ldI .i64 i15 (k16 + 1) H14 fun n18 =>
 ldS i15 (k16 + 2) H14 fun t19 =>
 ldL i15 (k16 + 3) H14 fun z20b z20l z20c =>
 R (.ret (.tuple #[(.agg #[(.int .i64 n17), (.int .i64 n18), (.string t19), (.slice z20b z20l z20c)]), (.int .i64 n13)])) H14) (fun v6 H5 => R (.panic v6) H5)
theorem f17_eq (x0 : ByteArray) (H : AH) (R : AEnd → AH → Prop) : awpF Try.prog f17_c (aPost Try.prog Try.f17 R) (([(.string x0)] : List Value) ++ List.replicate (Try.f17.ntmps - (([(.string x0)] : List Value)).length) undef) H = f17_B x0 H R := by kernel_rfl
theorem f17_call (x0 : ByteArray) (H : AH) (R : AEnd → AH → Prop) (h : f17_B x0 H R) : ACall Try.prog 17 ([(.string x0)] : List Value) H R :=
  acall_of mixed Try.func17 (by kernel_rfl : Try.f17.body = some f17_c) (by kernel_rfl) (by kernel_rfl) (awp_of (Eq.mpr (f17_eq x0 H R) h))

/-! f24: switchyard/code.PutItem -/
/-! f25: switchyard/switchyardlaw13.put -/
/-! f32: switchyard/code.PutDead -/
/-! f33: switchyard/code.PutEvent -/
/-! f34: switchyard/code.PutSub -/
/-! f19: switchyard/code.GetMail -/
/-! f21: switchyard/code.GetItem -/
/-! f41: switchyard/code.GetDead -/
noncomputable def f41_c : Code := Try.f41.body.getD .skip
def f41_B (x0 : ByteArray) (H : AH) (R : AEnd → AH → Prop) : Prop :=
 wNew [(.int .i64 0), (.int .i64 0), (.string ({ data := #[] })), (.slice none 0 0), (.slice none 0 0), (.int .i64 0)] H fun i1 H2 =>
 wCall Try.prog 80 [(.string x0), (.func (.func 81) #[] #[])] H2 (fun r3 H4 =>
 opT 2 r3 fun l7 =>
 opA 6 (l7.headD undef) fun l8 =>
 opI .i64 (l8.headD undef) fun n9 =>
 opI .i64 (l8.tail.headD undef) fun n10 =>
 opS (l8.tail.tail.headD undef) fun t11 =>
 opL (l8.tail.tail.tail.headD undef) fun z12b z12l z12c =>
 opL (l8.tail.tail.tail.tail.headD undef) fun z13b z13l z13c =>
 opI .i64 (l8.tail.tail.tail.tail.tail.headD undef) fun n14 =>
 opI .i64 (l7.tail.headD undef) fun n15 =>
 wSt i1 0 [(.int .i64 n9), (.int .i64 n10), (.string t11), (.slice z12b z12l z12c), (.slice z13b z13l z13c), (.int .i64 n14)] H4 fun H16 =>
 wPt (some ⟨i1, 0, none⟩) fun i17 k18 =>
 ldI .i64 i17 k18 H16 fun n19 =>
 ldI .i64 i17 (k18 + 1) H16 fun n20 =>
 ldS i17 (k18 + 2) H16 fun t21 =>
 ldL i17 (k18 + 3) H16 fun z22b z22l z22c =>
 ldL i17 (k18 + 4) H16 fun z23b z23l z23c =>
 ldI .i64 i17 (k18 + 5) H16 fun n24 =>
 R (.ret (.tuple #[(.agg #[(.int .i64 n19), (.int .i64 n20), (.string t21), (.slice z22b z22l z22c), (.slice z23b z23l z23c), (.int .i64 n24)]), (.int .i64 n15)])) H16) (fun v6 H5 => R (.panic v6) H5)
theorem f41_eq (x0 : ByteArray) (H : AH) (R : AEnd → AH → Prop) : awpF Try.prog f41_c (aPost Try.prog Try.f41 R) (([(.string x0)] : List Value) ++ List.replicate (Try.f41.ntmps - (([(.string x0)] : List Value)).length) undef) H = f41_B x0 H R := by kernel_rfl
theorem f41_call (x0 : ByteArray) (H : AH) (R : AEnd → AH → Prop) (h : f41_B x0 H R) : ACall Try.prog 41 ([(.string x0)] : List Value) H R :=
  acall_of mixed Try.func41 (by kernel_rfl : Try.f41.body = some f41_c) (by kernel_rfl) (by kernel_rfl) (awp_of (Eq.mpr (f41_eq x0 H R) h))

/-! f43: switchyard/code.GetEvent -/
noncomputable def f43_c : Code := Try.f43.body.getD .skip
def f43_B (x0 : ByteArray) (H : AH) (R : AEnd → AH → Prop) : Prop :=
 wNew [(.int .i64 0), (.int .i64 0), (.string ({ data := #[] })), (.int .i64 0), (.string ({ data := #[] })), (.string ({ data := #[] })), (.slice none 0 0)] H fun i1 H2 =>
 wCall Try.prog 84 [(.string x0), (.func (.func 85) #[] #[])] H2 (fun r3 H4 =>
 opT 2 r3 fun l7 =>
 opA 7 (l7.headD undef) fun l8 =>
 opI .i64 (l8.headD undef) fun n9 =>
 opI .i64 (l8.tail.headD undef) fun n10 =>
 opS (l8.tail.tail.headD undef) fun t11 =>
 opI .i64 (l8.tail.tail.tail.headD undef) fun n12 =>
 opS (l8.tail.tail.tail.tail.headD undef) fun t13 =>
 opS (l8.tail.tail.tail.tail.tail.headD undef) fun t14 =>
 opL (l8.tail.tail.tail.tail.tail.tail.headD undef) fun z15b z15l z15c =>
 opI .i64 (l7.tail.headD undef) fun n16 =>
 wSt i1 0 [(.int .i64 n9), (.int .i64 n10), (.string t11), (.int .i64 n12), (.string t13), (.string t14), (.slice z15b z15l z15c)] H4 fun H17 =>
 wPt (some ⟨i1, 0, none⟩) fun i18 k19 =>
 ldI .i64 i18 k19 H17 fun n20 =>
 ldI .i64 i18 (k19 + 1) H17 fun n21 =>
 ldS i18 (k19 + 2) H17 fun t22 =>
 ldI .i64 i18 (k19 + 3) H17 fun n23 =>
 ldS i18 (k19 + 4) H17 fun t24 =>
 ldS i18 (k19 + 5) H17 fun t25 =>
 ldL i18 (k19 + 6) H17 fun z26b z26l z26c =>
 R (.ret (.tuple #[(.agg #[(.int .i64 n20), (.int .i64 n21), (.string t22), (.int .i64 n23), (.string t24), (.string t25), (.slice z26b z26l z26c)]), (.int .i64 n16)])) H17) (fun v6 H5 => R (.panic v6) H5)
theorem f43_eq (x0 : ByteArray) (H : AH) (R : AEnd → AH → Prop) : awpF Try.prog f43_c (aPost Try.prog Try.f43 R) (([(.string x0)] : List Value) ++ List.replicate (Try.f43.ntmps - (([(.string x0)] : List Value)).length) undef) H = f43_B x0 H R := by kernel_rfl
theorem f43_call (x0 : ByteArray) (H : AH) (R : AEnd → AH → Prop) (h : f43_B x0 H R) : ACall Try.prog 43 ([(.string x0)] : List Value) H R :=
  acall_of mixed Try.func43 (by kernel_rfl : Try.f43.body = some f43_c) (by kernel_rfl) (by kernel_rfl) (awp_of (Eq.mpr (f43_eq x0 H R) h))

/-! f45: switchyard/code.GetSub -/
noncomputable def f45_c : Code := Try.f45.body.getD .skip
def f45_B (x0 : ByteArray) (H : AH) (R : AEnd → AH → Prop) : Prop :=
 wNew [(.int .i64 0), (.string ({ data := #[] })), (.int .i64 0)] H fun i1 H2 =>
 wCall Try.prog 88 [(.string x0), (.func (.func 89) #[] #[])] H2 (fun r3 H4 =>
 opT 2 r3 fun l7 =>
 opA 3 (l7.headD undef) fun l8 =>
 opI .i64 (l8.headD undef) fun n9 =>
 opS (l8.tail.headD undef) fun t10 =>
 opI .i64 (l8.tail.tail.headD undef) fun n11 =>
 opI .i64 (l7.tail.headD undef) fun n12 =>
 wSt i1 0 [(.int .i64 n9), (.string t10), (.int .i64 n11)] H4 fun H13 =>
 wPt (some ⟨i1, 0, none⟩) fun i14 k15 =>
 ldI .i64 i14 k15 H13 fun n16 =>
 ldS i14 (k15 + 1) H13 fun t17 =>
 ldI .i64 i14 (k15 + 2) H13 fun n18 =>
 R (.ret (.tuple #[(.agg #[(.int .i64 n16), (.string t17), (.int .i64 n18)]), (.int .i64 n12)])) H13) (fun v6 H5 => R (.panic v6) H5)
theorem f45_eq (x0 : ByteArray) (H : AH) (R : AEnd → AH → Prop) : awpF Try.prog f45_c (aPost Try.prog Try.f45 R) (([(.string x0)] : List Value) ++ List.replicate (Try.f45.ntmps - (([(.string x0)] : List Value)).length) undef) H = f45_B x0 H R := by kernel_rfl
theorem f45_call (x0 : ByteArray) (H : AH) (R : AEnd → AH → Prop) (h : f45_B x0 H R) : ACall Try.prog 45 ([(.string x0)] : List Value) H R :=
  acall_of mixed Try.func45 (by kernel_rfl : Try.f45.body = some f45_c) (by kernel_rfl) (by kernel_rfl) (awp_of (Eq.mpr (f45_eq x0 H R) h))

end Go.Proofs.Ytfghglacfjncmaa
