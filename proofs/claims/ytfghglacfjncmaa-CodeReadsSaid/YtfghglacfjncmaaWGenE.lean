/- Bodies of functions as nested rules: printed by genw.py, a program of this claim. -/
import Derived.Test.YtfghglacfjncmaaWTy
import Derived.Test.YtfghglacfjncmaaWAbsZ
namespace Go.Proofs.Ytfghglacfjncmaa
open Go.RowKit
set_option linter.unusedVariables false
set_option maxRecDepth 100000

/-! f107: (switchyard/code.reader).check -/
noncomputable def f107_c : Code := Try.f107.body.getD .skip
def f107_B (x0_0 : Option Addr) (H : AH) (R : AEnd → AH → Prop) : Prop :=
 wNew [(.pointer x0_0)] H fun i1 H2 =>
 ldP i1 0 H2 fun a3 =>
 wCall Try.prog 132 [(.pointer a3)] H2 (fun r4 H5 =>
 opI .i64 r4 fun n8 =>
 wIf (!decide (n8 = 0))
 (R (.panic (.iface 157 (.agg #[(.int .i64 n8)]))) H5)
 (R (.ret (.tuple #[])) H5)) (fun v7 H6 => R (.panic v7) H6)
theorem f107_eq (x0_0 : Option Addr) (H : AH) (R : AEnd → AH → Prop) : awpF Try.prog f107_c (aPost Try.prog Try.f107 R) (([(.agg #[(.pointer x0_0)])] : List Value) ++ List.replicate (Try.f107.ntmps - (([(.agg #[(.pointer x0_0)])] : List Value)).length) undef) H = f107_B x0_0 H R := by kernel_rfl
theorem f107_call (x0_0 : Option Addr) (H : AH) (R : AEnd → AH → Prop) (h : f107_B x0_0 H R) : ACall Try.prog 107 ([(.agg #[(.pointer x0_0)])] : List Value) H R :=
  acall_of mixed Try.func107 (by kernel_rfl : Try.f107.body = some f107_c) (by kernel_rfl) (by kernel_rfl) (awp_of (Eq.mpr (f107_eq x0_0 H R) h))

/-! f108: (switchyard/code.reader).number -/
noncomputable def f108_c : Code := Try.f108.body.getD .skip
def f108_B (x0_0 : Option Addr) (H : AH) (R : AEnd → AH → Prop) : Prop :=
 wNew [(.pointer x0_0)] H fun i1 H2 =>
 ldP i1 0 H2 fun a3 =>
 wCall Try.prog 135 [(.pointer a3)] H2 (fun r4 H5 =>
 opI .i64 r4 fun n8 =>
 ldP i1 0 H5 fun a9 =>
 wCall Try.prog 107 [(.agg #[(.pointer a9)])] H5 (fun r10 H11 =>
 R (.ret (.int .i64 n8)) H11) (fun v13 H12 => R (.panic v13) H12)) (fun v7 H6 => R (.panic v7) H6)
theorem f108_eq (x0_0 : Option Addr) (H : AH) (R : AEnd → AH → Prop) : awpF Try.prog f108_c (aPost Try.prog Try.f108 R) (([(.agg #[(.pointer x0_0)])] : List Value) ++ List.replicate (Try.f108.ntmps - (([(.agg #[(.pointer x0_0)])] : List Value)).length) undef) H = f108_B x0_0 H R := by kernel_rfl
theorem f108_call (x0_0 : Option Addr) (H : AH) (R : AEnd → AH → Prop) (h : f108_B x0_0 H R) : ACall Try.prog 108 ([(.agg #[(.pointer x0_0)])] : List Value) H R :=
  acall_of mixed Try.func108 (by kernel_rfl : Try.f108.body = some f108_c) (by kernel_rfl) (by kernel_rfl) (awp_of (Eq.mpr (f108_eq x0_0 H R) h))

/-! f110: (switchyard/code.reader).text -/
noncomputable def f110_c : Code := Try.f110.body.getD .skip
def f110_B (x0_0 : Option Addr) (x1 : Int) (H : AH) (R : AEnd → AH → Prop) : Prop :=
 wNew [(.pointer x0_0)] H fun i1 H2 =>
 ldP i1 0 H2 fun a3 =>
 wCall Try.prog 136 [(.pointer a3), (.int .i64 x1)] H2 (fun r4 H5 =>
 opS r4 fun t8 =>
 ldP i1 0 H5 fun a9 =>
 wCall Try.prog 107 [(.agg #[(.pointer a9)])] H5 (fun r10 H11 =>
 R (.ret (.string t8)) H11) (fun v13 H12 => R (.panic v13) H12)) (fun v7 H6 => R (.panic v7) H6)
theorem f110_eq (x0_0 : Option Addr) (x1 : Int) (H : AH) (R : AEnd → AH → Prop) : awpF Try.prog f110_c (aPost Try.prog Try.f110 R) (([(.agg #[(.pointer x0_0)]), (.int .i64 x1)] : List Value) ++ List.replicate (Try.f110.ntmps - (([(.agg #[(.pointer x0_0)]), (.int .i64 x1)] : List Value)).length) undef) H = f110_B x0_0 x1 H R := by kernel_rfl
theorem f110_call (x0_0 : Option Addr) (x1 : Int) (H : AH) (R : AEnd → AH → Prop) (h : f110_B x0_0 x1 H R) : ACall Try.prog 110 ([(.agg #[(.pointer x0_0)]), (.int .i64 x1)] : List Value) H R :=
  acall_of mixed Try.func110 (by kernel_rfl : Try.f110.body = some f110_c) (by kernel_rfl) (by kernel_rfl) (awp_of (Eq.mpr (f110_eq x0_0 x1 H R) h))

/-! f111: (switchyard/code.reader).count -/
noncomputable def f111_c : Code := Try.f111.body.getD .skip
def f111_B (x0_0 : Option Addr) (x1 : Int) (H : AH) (R : AEnd → AH → Prop) : Prop :=
 wNew [(.pointer x0_0)] H fun i1 H2 =>
 ldP i1 0 H2 fun a3 =>
 wCall Try.prog 137 [(.pointer a3), (.int .i64 x1)] H2 (fun r4 H5 =>
 opI .i64 r4 fun n8 =>
 ldP i1 0 H5 fun a9 =>
 wCall Try.prog 107 [(.agg #[(.pointer a9)])] H5 (fun r10 H11 =>
 R (.ret (.int .i64 n8)) H11) (fun v13 H12 => R (.panic v13) H12)) (fun v7 H6 => R (.panic v7) H6)
theorem f111_eq (x0_0 : Option Addr) (x1 : Int) (H : AH) (R : AEnd → AH → Prop) : awpF Try.prog f111_c (aPost Try.prog Try.f111 R) (([(.agg #[(.pointer x0_0)]), (.int .i64 x1)] : List Value) ++ List.replicate (Try.f111.ntmps - (([(.agg #[(.pointer x0_0)]), (.int .i64 x1)] : List Value)).length) undef) H = f111_B x0_0 x1 H R := by kernel_rfl
theorem f111_call (x0_0 : Option Addr) (x1 : Int) (H : AH) (R : AEnd → AH → Prop) (h : f111_B x0_0 x1 H R) : ACall Try.prog 111 ([(.agg #[(.pointer x0_0)]), (.int .i64 x1)] : List Value) H R :=
  acall_of mixed Try.func111 (by kernel_rfl : Try.f111.body = some f111_c) (by kernel_rfl) (by kernel_rfl) (awp_of (Eq.mpr (f111_eq x0_0 x1 H R) h))

/-! f55: (switchyard/code.reader).value -/
noncomputable def f55_c : Code := Try.f55.body.getD .skip
noncomputable def f55_X0 (R : AEnd → AH → Prop) : AExit → List Value → AH → Prop := thenF (fun tm H => hold (awpF Try.prog (codeAt f55_c [1, 1, 1, 1]) (aPost Try.prog Try.f55 R) tm H)) (aPost Try.prog Try.f55 R)
noncomputable def f55_X1 (R : AEnd → AH → Prop) : AExit → List Value → AH → Prop := inBlockF 0 (f55_X0 R)
noncomputable def f55_X2 (R : AEnd → AH → Prop) : AExit → List Value → AH → Prop := inBlockF 1 (f55_X1 R)
noncomputable def f55_Q0 (R : AEnd → AH → Prop) : AExit → List Value → AH → Prop := (f55_X2 R)
def f55_L0 (R : AEnd → AH → Prop) (tm : List Value) (H : AH) : Prop := awpF Try.prog (codeAt f55_c [1, 1, 1, 0, 1, 0, 1, 1, 1, 1, 1, 1, 1, 1, 1, 1, 1, 0, 1, 0]) (f55_Q0 R) tm H
def f55_J0 (R : AEnd → AH → Prop) (tm : List Value) (H : AH) : Prop := hold (awpF Try.prog (codeAt f55_c [1, 1, 1, 1]) ((aPost Try.prog Try.f55 R)) tm H)
-- join 0: live 2:, 3:v
def f55_J0_B (s2 s3 : Nat) (H : AH) (R : AEnd → AH → Prop) : Prop :=
 ldI .i64 s3 0 H fun n1 =>
 ldI .i64 s3 1 H fun n2 =>
 ldS s3 2 H fun t3 =>
 ldL s3 3 H fun z4b z4l z4c =>
 wCall Try.prog 93 [(.agg #[(.int .i64 n1), (.int .i64 n2), (.string t3), (.slice z4b z4l z4c)])] H (fun r5 H6 =>
 opB r5 fun b9 =>
 wIf (!b9)
 (R (.panic (.iface 157 (.agg #[(.int .i64 4)]))) H6)
 (ldI .i64 s3 0 H6 fun n10 =>
 ldI .i64 s3 1 H6 fun n11 =>
 ldS s3 2 H6 fun t12 =>
 ldL s3 3 H6 fun z13b z13l z13c =>
 wSt s2 0 [(.int .i64 n10), (.int .i64 n11), (.string t12), (.slice z13b z13l z13c)] H6 fun H14 =>
 wPt (some ⟨s2, 0, none⟩) fun i15 k16 =>
 ldI .i64 i15 k16 H14 fun n17 =>
 ldI .i64 i15 (k16 + 1) H14 fun n18 =>
 ldS i15 (k16 + 2) H14 fun t19 =>
 ldL i15 (k16 + 3) H14 fun z20b z20l z20c =>
 R (.ret (.agg #[(.int .i64 n17), (.int .i64 n18), (.string t19), (.slice z20b z20l z20c)])) H14)) (fun v8 H7 => R (.panic v8) H7)
theorem f55_J0_eq (s0 s1 : Value) (s2 s3 : Nat) (s4 s5 s6 s7 s8 s9 s10 s11 s12 s13 s14 s15 s16 s17 s18 s19 s20 s21 s22 s23 s24 s25 s26 s27 s28 s29 s30 s31 s32 s33 s34 s35 s36 s37 s38 s39 s40 s41 s42 s43 s44 s45 s46 s47 s48 s49 s50 s51 s52 s53 s54 s55 s56 : Value) (H : AH) (R : AEnd → AH → Prop) : f55_J0 R [s0, s1, (.pointer (some ⟨s2, 0, none⟩)), (.pointer (some ⟨s3, 0, none⟩)), s4, s5, s6, s7, s8, s9, s10, s11, s12, s13, s14, s15, s16, s17, s18, s19, s20, s21, s22, s23, s24, s25, s26, s27, s28, s29, s30, s31, s32, s33, s34, s35, s36, s37, s38, s39, s40, s41, s42, s43, s44, s45, s46, s47, s48, s49, s50, s51, s52, s53, s54, s55, s56] H = f55_J0_B s2 s3 H R := by kernel_rfl
def f55_R0 (s0 : Value) (s1 s2 s3 : Nat) (s4 s5 s6 s7 s8 s9 s10 s11 s12 s13 s14 s15 s16 s17 s18 s19 s20 s21 s22 s23 s24 s25 s26 s27 s28 s29 s30 s31 s32 s33 s34 s35 s36 s37 s38 s39 : Value) (s40 s41 : Int) (s42 s43 s44 s45 s46 s47 s48 s49 s50 s51 s52 s53 s54 s55 s56 : Value) (H : AH) (K0 : List Value → AH → Prop) (R : AEnd → AH → Prop) : Prop :=
 wIf (decide (s41 < s40))
 (ldP s1 0 H fun a21 =>
 (ldL s3 3 H fun z22b z22l z22c =>
 wPin s1 0 [(.pointer a21)] H <|
 wCall Try.prog 108 [(.agg #[(.pointer a21)])] H (fun r23 H24 =>
 opI .i64 r23 fun n27 =>
 wBs [(.int .i64 n27)] 1 H24 fun i28 H29 =>
 wAppL 2 1 8 z22b z22l z22c (some ⟨i28, 0, none⟩) 1 0 H29 fun z30b z30l z30c H31 =>
 wSt s3 3 [(.slice z30b z30l z30c)] H31 fun H32 =>
 K0 [s0, (.pointer (some ⟨s1, 0, none⟩)), (.pointer (some ⟨s2, 0, none⟩)), (.pointer (some ⟨s3, 0, none⟩)), s4, s5, s6, s7, s8, s9, s10, s11, s12, s13, s14, s15, s16, s17, s18, s19, s20, s21, s22, s23, s24, s25, s26, s27, s28, s29, s30, s31, s32, s33, s34, s35, s36, s37, s38, s39, (.int .i64 s40), (.int .i64 (IntKind.i64.wrap (s41 + 1))), (.bool true), (.pointer (some ⟨s3, 3, none⟩)), (.slice z22b z22l z22c), (.agg #[(.pointer a21)]), (.int .i64 n27), (.slice (some ⟨i28, 0, none⟩) 1 0), (.slice z30b z30l z30c), (.pointer (some ⟨s3, 3, none⟩)), (.int .i64 (IntKind.i64.wrap (s41 + 1))), s51, s52, s53, s54, s55, s56] H32) (fun v26 H25 => R (.panic v26) H25)) ∧
 (wCall Try.prog 108 [(.agg #[(.pointer a21)])] H (fun r33 H34 =>
 opI .i64 r33 fun n37 =>
 (ldL s3 3 H34 fun z38b z38l z38c =>
 wBs [(.int .i64 n37)] 1 H34 fun i39 H40 =>
 wAppL 2 1 8 z38b z38l z38c (some ⟨i39, 0, none⟩) 1 0 H40 fun z41b z41l z41c H42 =>
 wSt s3 3 [(.slice z41b z41l z41c)] H42 fun H43 =>
 K0 [s0, (.pointer (some ⟨s1, 0, none⟩)), (.pointer (some ⟨s2, 0, none⟩)), (.pointer (some ⟨s3, 0, none⟩)), s4, s5, s6, s7, s8, s9, s10, s11, s12, s13, s14, s15, s16, s17, s18, s19, s20, s21, s22, s23, s24, s25, s26, s27, s28, s29, s30, s31, s32, s33, s34, s35, s36, s37, s38, s39, (.int .i64 s40), (.int .i64 (IntKind.i64.wrap (s41 + 1))), (.bool true), (.pointer (some ⟨s3, 3, none⟩)), (.slice z38b z38l z38c), (.agg #[(.pointer a21)]), (.int .i64 n37), (.slice (some ⟨i39, 0, none⟩) 1 0), (.slice z41b z41l z41c), (.pointer (some ⟨s3, 3, none⟩)), (.int .i64 (IntKind.i64.wrap (s41 + 1))), s51, s52, s53, s54, s55, s56] H43) ∧
 (wBs [(.int .i64 n37)] 1 H34 fun i44 H45 =>
 ldL s3 3 H45 fun z46b z46l z46c =>
 wAppL 2 1 8 z46b z46l z46c (some ⟨i44, 0, none⟩) 1 0 H45 fun z47b z47l z47c H48 =>
 wSt s3 3 [(.slice z47b z47l z47c)] H48 fun H49 =>
 K0 [s0, (.pointer (some ⟨s1, 0, none⟩)), (.pointer (some ⟨s2, 0, none⟩)), (.pointer (some ⟨s3, 0, none⟩)), s4, s5, s6, s7, s8, s9, s10, s11, s12, s13, s14, s15, s16, s17, s18, s19, s20, s21, s22, s23, s24, s25, s26, s27, s28, s29, s30, s31, s32, s33, s34, s35, s36, s37, s38, s39, (.int .i64 s40), (.int .i64 (IntKind.i64.wrap (s41 + 1))), (.bool true), (.pointer (some ⟨s3, 3, none⟩)), (.slice z46b z46l z46c), (.agg #[(.pointer a21)]), (.int .i64 n37), (.slice (some ⟨i44, 0, none⟩) 1 0), (.slice z47b z47l z47c), (.pointer (some ⟨s3, 3, none⟩)), (.int .i64 (IntKind.i64.wrap (s41 + 1))), s51, s52, s53, s54, s55, s56] H49)) (fun v36 H35 => R (.panic v36) H35)))
 (f55_J0 R [s0, (.pointer (some ⟨s1, 0, none⟩)), (.pointer (some ⟨s2, 0, none⟩)), (.pointer (some ⟨s3, 0, none⟩)), s4, s5, s6, s7, s8, s9, s10, s11, s12, s13, s14, s15, s16, s17, s18, s19, s20, s21, s22, s23, s24, s25, s26, s27, s28, s29, s30, s31, s32, s33, s34, s35, s36, s37, s38, s39, (.int .i64 s40), (.int .i64 s41), (.bool false), s43, s44, s45, s46, s47, s48, s49, s50, s51, s52, s53, s54, s55, s56] H)
theorem f55_R0_eq (s0 : Value) (s1 s2 s3 : Nat) (s4 s5 s6 s7 s8 s9 s10 s11 s12 s13 s14 s15 s16 s17 s18 s19 s20 s21 s22 s23 s24 s25 s26 s27 s28 s29 s30 s31 s32 s33 s34 s35 s36 s37 s38 s39 : Value) (s40 s41 : Int) (s42 s43 s44 s45 s46 s47 s48 s49 s50 s51 s52 s53 s54 s55 s56 : Value) (H : AH) (K0 : List Value → AH → Prop) (R : AEnd → AH → Prop) : awpF Try.prog (codeAt f55_c [1, 1, 1, 0, 1, 0, 1, 1, 1, 1, 1, 1, 1, 1, 1, 1, 1, 0, 1, 0, 0]) (thenF K0 (f55_Q0 R)) [s0, (.pointer (some ⟨s1, 0, none⟩)), (.pointer (some ⟨s2, 0, none⟩)), (.pointer (some ⟨s3, 0, none⟩)), s4, s5, s6, s7, s8, s9, s10, s11, s12, s13, s14, s15, s16, s17, s18, s19, s20, s21, s22, s23, s24, s25, s26, s27, s28, s29, s30, s31, s32, s33, s34, s35, s36, s37, s38, s39, (.int .i64 s40), (.int .i64 s41), s42, s43, s44, s45, s46, s47, s48, s49, s50, s51, s52, s53, s54, s55, s56] H = f55_R0 s0 s1 s2 s3 s4 s5 s6 s7 s8 s9 s10 s11 s12 s13 s14 s15 s16 s17 s18 s19 s20 s21 s22 s23 s24 s25 s26 s27 s28 s29 s30 s31 s32 s33 s34 s35 s36 s37 s38 s39 s40 s41 s42 s43 s44 s45 s46 s47 s48 s49 s50 s51 s52 s53 s54 s55 s56 H K0 R := by kernel_rfl
def f55_I0 (s0 : Value) (s1 s2 s3 : Nat) (s4 s5 s6 s7 s8 s9 s10 s11 s12 s13 s14 s15 s16 s17 s18 s19 s20 s21 s22 s23 s24 s25 s26 s27 s28 s29 s30 s31 s32 s33 s34 s35 s36 s37 s38 s39 : Value) (s40 : Int) (s51 s52 s53 s54 s55 s56 : Value) (J : Nat → Int → AH → Prop) (n : Nat) (tm : List Value) (H : AH) : Prop := ∃ (s41 : Int) (s42 s43 s44 s45 s46 s47 s48 s49 s50 : Value), tm = [s0, (.pointer (some ⟨s1, 0, none⟩)), (.pointer (some ⟨s2, 0, none⟩)), (.pointer (some ⟨s3, 0, none⟩)), s4, s5, s6, s7, s8, s9, s10, s11, s12, s13, s14, s15, s16, s17, s18, s19, s20, s21, s22, s23, s24, s25, s26, s27, s28, s29, s30, s31, s32, s33, s34, s35, s36, s37, s38, s39, (.int .i64 s40), (.int .i64 s41), s42, s43, s44, s45, s46, s47, s48, s49, s50, s51, s52, s53, s54, s55, s56] ∧ J n s41 H
theorem f55_I0_mk {s0 : Value} {s1 : Nat} {s2 : Nat} {s3 : Nat} {s4 : Value} {s5 : Value} {s6 : Value} {s7 : Value} {s8 : Value} {s9 : Value} {s10 : Value} {s11 : Value} {s12 : Value} {s13 : Value} {s14 : Value} {s15 : Value} {s16 : Value} {s17 : Value} {s18 : Value} {s19 : Value} {s20 : Value} {s21 : Value} {s22 : Value} {s23 : Value} {s24 : Value} {s25 : Value} {s26 : Value} {s27 : Value} {s28 : Value} {s29 : Value} {s30 : Value} {s31 : Value} {s32 : Value} {s33 : Value} {s34 : Value} {s35 : Value} {s36 : Value} {s37 : Value} {s38 : Value} {s39 : Value} {s40 : Int} {s41 : Int} {s42 : Value} {s43 : Value} {s44 : Value} {s45 : Value} {s46 : Value} {s47 : Value} {s48 : Value} {s49 : Value} {s50 : Value} {s51 : Value} {s52 : Value} {s53 : Value} {s54 : Value} {s55 : Value} {s56 : Value} {J : Nat → Int → AH → Prop} {n : Nat} {H : AH} (h : J n s41 H) : f55_I0 s0 s1 s2 s3 s4 s5 s6 s7 s8 s9 s10 s11 s12 s13 s14 s15 s16 s17 s18 s19 s20 s21 s22 s23 s24 s25 s26 s27 s28 s29 s30 s31 s32 s33 s34 s35 s36 s37 s38 s39 s40 s51 s52 s53 s54 s55 s56 J n [s0, (.pointer (some ⟨s1, 0, none⟩)), (.pointer (some ⟨s2, 0, none⟩)), (.pointer (some ⟨s3, 0, none⟩)), s4, s5, s6, s7, s8, s9, s10, s11, s12, s13, s14, s15, s16, s17, s18, s19, s20, s21, s22, s23, s24, s25, s26, s27, s28, s29, s30, s31, s32, s33, s34, s35, s36, s37, s38, s39, (.int .i64 s40), (.int .i64 s41), s42, s43, s44, s45, s46, s47, s48, s49, s50, s51, s52, s53, s54, s55, s56] H := ⟨_, _, _, _, _, _, _, _, _, _, rfl, h⟩
-- loop 0: carried 41:
theorem f55_L0_rule {s0 : Value} {s1 : Nat} {s2 : Nat} {s3 : Nat} {s4 : Value} {s5 : Value} {s6 : Value} {s7 : Value} {s8 : Value} {s9 : Value} {s10 : Value} {s11 : Value} {s12 : Value} {s13 : Value} {s14 : Value} {s15 : Value} {s16 : Value} {s17 : Value} {s18 : Value} {s19 : Value} {s20 : Value} {s21 : Value} {s22 : Value} {s23 : Value} {s24 : Value} {s25 : Value} {s26 : Value} {s27 : Value} {s28 : Value} {s29 : Value} {s30 : Value} {s31 : Value} {s32 : Value} {s33 : Value} {s34 : Value} {s35 : Value} {s36 : Value} {s37 : Value} {s38 : Value} {s39 : Value} {s40 : Int} {s41 : Int} {s42 : Value} {s43 : Value} {s44 : Value} {s45 : Value} {s46 : Value} {s47 : Value} {s48 : Value} {s49 : Value} {s50 : Value} {s51 : Value} {s52 : Value} {s53 : Value} {s54 : Value} {s55 : Value} {s56 : Value} {H : AH} {R : AEnd → AH → Prop} (J : Nat → Int → AH → Prop) (n : Nat) (h0 : J n s41 H)
  (step : ∀ (n : Nat) (s41 : Int) (H : AH), J n s41 H → ∀ (s42 s43 s44 s45 s46 s47 s48 s49 s50 : Value), f55_R0 s0 s1 s2 s3 s4 s5 s6 s7 s8 s9 s10 s11 s12 s13 s14 s15 s16 s17 s18 s19 s20 s21 s22 s23 s24 s25 s26 s27 s28 s29 s30 s31 s32 s33 s34 s35 s36 s37 s38 s39 s40 s41 s42 s43 s44 s45 s46 s47 s48 s49 s50 s51 s52 s53 s54 s55 s56 H (fun tm H => ∃ m, m < n ∧ f55_I0 s0 s1 s2 s3 s4 s5 s6 s7 s8 s9 s10 s11 s12 s13 s14 s15 s16 s17 s18 s19 s20 s21 s22 s23 s24 s25 s26 s27 s28 s29 s30 s31 s32 s33 s34 s35 s36 s37 s38 s39 s40 s51 s52 s53 s54 s55 s56 J m tm H) R) : f55_L0 R [s0, (.pointer (some ⟨s1, 0, none⟩)), (.pointer (some ⟨s2, 0, none⟩)), (.pointer (some ⟨s3, 0, none⟩)), s4, s5, s6, s7, s8, s9, s10, s11, s12, s13, s14, s15, s16, s17, s18, s19, s20, s21, s22, s23, s24, s25, s26, s27, s28, s29, s30, s31, s32, s33, s34, s35, s36, s37, s38, s39, (.int .i64 s40), (.int .i64 s41), s42, s43, s44, s45, s46, s47, s48, s49, s50, s51, s52, s53, s54, s55, s56] H :=
  awpF_loop (f55_I0 s0 s1 s2 s3 s4 s5 s6 s7 s8 s9 s10 s11 s12 s13 s14 s15 s16 s17 s18 s19 s20 s21 s22 s23 s24 s25 s26 s27 s28 s29 s30 s31 s32 s33 s34 s35 s36 s37 s38 s39 s40 s51 s52 s53 s54 s55 s56 J) n (f55_I0_mk h0) (by
    intro n tm H hh
    exact Exists.elim hh fun s41 hh => Exists.elim hh fun s42 hh => Exists.elim hh fun s43 hh => Exists.elim hh fun s44 hh => Exists.elim hh fun s45 hh => Exists.elim hh fun s46 hh => Exists.elim hh fun s47 hh => Exists.elim hh fun s48 hh => Exists.elim hh fun s49 hh => Exists.elim hh fun s50 hh => And.elim (fun e h =>
     (by subst e; exact Eq.mpr (f55_R0_eq s0 s1 s2 s3 s4 s5 s6 s7 s8 s9 s10 s11 s12 s13 s14 s15 s16 s17 s18 s19 s20 s21 s22 s23 s24 s25 s26 s27 s28 s29 s30 s31 s32 s33 s34 s35 s36 s37 s38 s39 s40 s41 s42 s43 s44 s45 s46 s47 s48 s49 s50 s51 s52 s53 s54 s55 s56 H _ R) (step n s41 H h s42 s43 s44 s45 s46 s47 s48 s49 s50))) hh)
def f55_B (x0_0 : Option Addr) (H : AH) (R : AEnd → AH → Prop) : Prop :=
 wNew [(.pointer x0_0)] H fun i50 H51 =>
 wNew [(.int .i64 0), (.int .i64 0), (.string ({ data := #[] })), (.slice none 0 0)] H51 fun i52 H53 =>
 ldP i50 0 H53 fun a54 =>
 wCall Try.prog 106 [(.pointer a54)] H53 (fun r55 H56 =>
 opI .i64 r55 fun n59 =>
 wNew [(.int .i64 0), (.int .i64 0), (.string ({ data := #[] })), (.slice none 0 0)] H56 fun i60 H61 =>
 wSt i60 0 [(.int .i64 n59), (.int .i64 0), (.string ({ data := #[] })), (.slice none 0 0)] H61 fun H62 =>
 ldP i50 0 H62 fun a63 =>
 wCall Try.prog 107 [(.agg #[(.pointer a63)])] H62 (fun r64 H65 =>
 ldI .i64 i60 0 H65 fun n68 =>
 wIf (decide (n68 = 0))
 (f55_J0 R [(.agg #[(.pointer x0_0)]), (.pointer (some ⟨i50, 0, none⟩)), (.pointer (some ⟨i52, 0, none⟩)), (.pointer (some ⟨i60, 0, none⟩)), (.pointer (some ⟨i50, 0, none⟩)), (.pointer a54), (.int .i64 n59), (.agg #[(.int .i64 n59), (.int .i64 0), (.string ({ data := #[] })), (.slice none 0 0)]), (.agg #[(.pointer a63)]), r64, (.pointer (some ⟨i60, 0, none⟩)), (.int .i64 n68), (.bool true), (.bool (decide (n68 = 0))), undef, undef, undef, undef, undef, undef, undef, undef, undef, undef, undef, undef, undef, undef, undef, undef, undef, undef, undef, undef, undef, undef, undef, undef, undef, undef, undef, undef, undef, undef, undef, undef, undef, undef, undef, undef, undef, undef, undef, undef, undef, undef, undef] H65)
 (wIf (decide (n68 = 1))
 (ldP i50 0 H65 fun a69 =>
 wCall Try.prog 108 [(.agg #[(.pointer a69)])] H65 (fun r70 H71 =>
 opI .i64 r70 fun n74 =>
 wSt i60 1 [(.int .i64 n74)] H71 fun H75 =>
 f55_J0 R [(.agg #[(.pointer x0_0)]), (.pointer (some ⟨i50, 0, none⟩)), (.pointer (some ⟨i52, 0, none⟩)), (.pointer (some ⟨i60, 0, none⟩)), (.pointer (some ⟨i50, 0, none⟩)), (.pointer a54), (.int .i64 n59), (.agg #[(.int .i64 n59), (.int .i64 0), (.string ({ data := #[] })), (.slice none 0 0)]), (.agg #[(.pointer a63)]), r64, (.pointer (some ⟨i60, 0, none⟩)), (.int .i64 n68), (.bool false), (.bool (decide (n68 = 0))), (.bool true), (.bool (decide (n68 = 1))), (.agg #[(.pointer a69)]), (.int .i64 n74), (.pointer (some ⟨i60, 1, none⟩)), undef, undef, undef, undef, undef, undef, undef, undef, undef, undef, undef, undef, undef, undef, undef, undef, undef, undef, undef, undef, undef, undef, undef, undef, undef, undef, undef, undef, undef, undef, undef, undef, undef, undef, undef, undef, undef, undef] H75) (fun v73 H72 => R (.panic v73) H72))
 (wIf (decide (n68 = 2))
 (ldP i50 0 H65 fun a76 =>
 wCall Try.prog 109 [(.pointer a76)] H65 (fun r77 H78 =>
 opB r77 fun b81 =>
 wIf b81
 (wSt i60 1 [(.int .i64 1)] H78 fun H82 =>
 ldP i50 0 H82 fun a83 =>
 wCall Try.prog 107 [(.agg #[(.pointer a83)])] H82 (fun r84 H85 =>
 f55_J0 R [(.agg #[(.pointer x0_0)]), (.pointer (some ⟨i50, 0, none⟩)), (.pointer (some ⟨i52, 0, none⟩)), (.pointer (some ⟨i60, 0, none⟩)), (.pointer (some ⟨i50, 0, none⟩)), (.pointer a54), (.int .i64 n59), (.agg #[(.int .i64 n59), (.int .i64 0), (.string ({ data := #[] })), (.slice none 0 0)]), (.agg #[(.pointer a63)]), r64, (.pointer (some ⟨i60, 0, none⟩)), (.int .i64 n68), (.bool false), (.bool (decide (n68 = 0))), (.bool false), (.bool (decide (n68 = 1))), undef, undef, undef, (.bool true), (.bool (decide (n68 = 2))), (.pointer (some ⟨i50, 0, none⟩)), (.pointer a76), (.bool true), (.pointer (some ⟨i60, 1, none⟩)), (.agg #[(.pointer a83)]), r84, undef, undef, undef, undef, undef, undef, undef, undef, undef, undef, undef, undef, undef, undef, undef, undef, undef, undef, undef, undef, undef, undef, undef, undef, undef, undef, undef, undef, undef, undef] H85) (fun v87 H86 => R (.panic v87) H86))
 (ldP i50 0 H78 fun a88 =>
 wCall Try.prog 107 [(.agg #[(.pointer a88)])] H78 (fun r89 H90 =>
 f55_J0 R [(.agg #[(.pointer x0_0)]), (.pointer (some ⟨i50, 0, none⟩)), (.pointer (some ⟨i52, 0, none⟩)), (.pointer (some ⟨i60, 0, none⟩)), (.pointer (some ⟨i50, 0, none⟩)), (.pointer a54), (.int .i64 n59), (.agg #[(.int .i64 n59), (.int .i64 0), (.string ({ data := #[] })), (.slice none 0 0)]), (.agg #[(.pointer a63)]), r64, (.pointer (some ⟨i60, 0, none⟩)), (.int .i64 n68), (.bool false), (.bool (decide (n68 = 0))), (.bool false), (.bool (decide (n68 = 1))), undef, undef, undef, (.bool true), (.bool (decide (n68 = 2))), (.pointer (some ⟨i50, 0, none⟩)), (.pointer a76), (.bool false), undef, (.agg #[(.pointer a88)]), r89, undef, undef, undef, undef, undef, undef, undef, undef, undef, undef, undef, undef, undef, undef, undef, undef, undef, undef, undef, undef, undef, undef, undef, undef, undef, undef, undef, undef, undef, undef] H90) (fun v92 H91 => R (.panic v92) H91))) (fun v80 H79 => R (.panic v80) H79))
 (wIf (decide (n68 = 3))
 (ldP i50 0 H65 fun a93 =>
 wCall Try.prog 110 [(.agg #[(.pointer a93)]), (.int .i64 64)] H65 (fun r94 H95 =>
 opS r94 fun t98 =>
 wSt i60 2 [(.string t98)] H95 fun H99 =>
 f55_J0 R [(.agg #[(.pointer x0_0)]), (.pointer (some ⟨i50, 0, none⟩)), (.pointer (some ⟨i52, 0, none⟩)), (.pointer (some ⟨i60, 0, none⟩)), (.pointer (some ⟨i50, 0, none⟩)), (.pointer a54), (.int .i64 n59), (.agg #[(.int .i64 n59), (.int .i64 0), (.string ({ data := #[] })), (.slice none 0 0)]), (.agg #[(.pointer a63)]), r64, (.pointer (some ⟨i60, 0, none⟩)), (.int .i64 n68), (.bool false), (.bool (decide (n68 = 0))), (.bool false), (.bool (decide (n68 = 1))), undef, undef, undef, (.bool false), (.bool (decide (n68 = 2))), undef, undef, undef, undef, undef, undef, (.bool true), (.bool (decide (n68 = 3))), (.agg #[(.pointer a93)]), (.string t98), (.pointer (some ⟨i60, 2, none⟩)), undef, undef, undef, undef, undef, undef, undef, undef, undef, undef, undef, undef, undef, undef, undef, undef, undef, undef, undef, undef, undef, undef, undef, undef, undef] H99) (fun v97 H96 => R (.panic v97) H96))
 (wIf (decide (n68 = 4))
 (ldP i50 0 H65 fun a100 =>
 wCall Try.prog 110 [(.agg #[(.pointer a100)]), (.int .i64 24)] H65 (fun r101 H102 =>
 opS r101 fun t105 =>
 wSt i60 2 [(.string t105)] H102 fun H106 =>
 f55_J0 R [(.agg #[(.pointer x0_0)]), (.pointer (some ⟨i50, 0, none⟩)), (.pointer (some ⟨i52, 0, none⟩)), (.pointer (some ⟨i60, 0, none⟩)), (.pointer (some ⟨i50, 0, none⟩)), (.pointer a54), (.int .i64 n59), (.agg #[(.int .i64 n59), (.int .i64 0), (.string ({ data := #[] })), (.slice none 0 0)]), (.agg #[(.pointer a63)]), r64, (.pointer (some ⟨i60, 0, none⟩)), (.int .i64 n68), (.bool false), (.bool (decide (n68 = 0))), (.bool false), (.bool (decide (n68 = 1))), undef, undef, undef, (.bool false), (.bool (decide (n68 = 2))), undef, undef, undef, undef, undef, undef, (.bool false), (.bool (decide (n68 = 3))), undef, undef, undef, (.bool true), (.bool (decide (n68 = 4))), (.agg #[(.pointer a100)]), (.string t105), (.pointer (some ⟨i60, 2, none⟩)), undef, undef, undef, undef, undef, undef, undef, undef, undef, undef, undef, undef, undef, undef, undef, undef, undef, undef, undef, undef] H106) (fun v104 H103 => R (.panic v104) H103))
 (wIf (decide (n68 = 5))
 (ldP i50 0 H65 fun a107 =>
 wCall Try.prog 111 [(.agg #[(.pointer a107)]), (.int .i64 16)] H65 (fun r108 H109 =>
 opI .i64 r108 fun n112 =>
 f55_L0 R [(.agg #[(.pointer x0_0)]), (.pointer (some ⟨i50, 0, none⟩)), (.pointer (some ⟨i52, 0, none⟩)), (.pointer (some ⟨i60, 0, none⟩)), (.pointer (some ⟨i50, 0, none⟩)), (.pointer a54), (.int .i64 n59), (.agg #[(.int .i64 n59), (.int .i64 0), (.string ({ data := #[] })), (.slice none 0 0)]), (.agg #[(.pointer a63)]), r64, (.pointer (some ⟨i60, 0, none⟩)), (.int .i64 n68), (.bool false), (.bool (decide (n68 = 0))), (.bool false), (.bool (decide (n68 = 1))), undef, undef, undef, (.bool false), (.bool (decide (n68 = 2))), undef, undef, undef, undef, undef, undef, (.bool false), (.bool (decide (n68 = 3))), undef, undef, undef, (.bool false), (.bool (decide (n68 = 4))), undef, undef, undef, (.bool true), (.bool (decide (n68 = 5))), (.agg #[(.pointer a107)]), (.int .i64 n112), (.int .i64 0), undef, undef, undef, undef, undef, undef, undef, undef, undef, undef, undef, undef, undef, undef, undef] H109) (fun v111 H110 => R (.panic v111) H110))
 (f55_J0 R [(.agg #[(.pointer x0_0)]), (.pointer (some ⟨i50, 0, none⟩)), (.pointer (some ⟨i52, 0, none⟩)), (.pointer (some ⟨i60, 0, none⟩)), (.pointer (some ⟨i50, 0, none⟩)), (.pointer a54), (.int .i64 n59), (.agg #[(.int .i64 n59), (.int .i64 0), (.string ({ data := #[] })), (.slice none 0 0)]), (.agg #[(.pointer a63)]), r64, (.pointer (some ⟨i60, 0, none⟩)), (.int .i64 n68), (.bool false), (.bool (decide (n68 = 0))), (.bool false), (.bool (decide (n68 = 1))), undef, undef, undef, (.bool false), (.bool (decide (n68 = 2))), undef, undef, undef, undef, undef, undef, (.bool false), (.bool (decide (n68 = 3))), undef, undef, undef, (.bool false), (.bool (decide (n68 = 4))), undef, undef, undef, (.bool false), (.bool (decide (n68 = 5))), undef, undef, undef, undef, undef, undef, undef, undef, undef, undef, undef, undef, undef, undef, undef, undef, undef, undef] H65))))))) (fun v67 H66 => R (.panic v67) H66)) (fun v58 H57 => R (.panic v58) H57)
theorem f55_eq (x0_0 : Option Addr) (H : AH) (R : AEnd → AH → Prop) : awpF Try.prog f55_c (aPost Try.prog Try.f55 R) (([(.agg #[(.pointer x0_0)])] : List Value) ++ List.replicate (Try.f55.ntmps - (([(.agg #[(.pointer x0_0)])] : List Value)).length) undef) H = f55_B x0_0 H R := by kernel_rfl
theorem f55_call (x0_0 : Option Addr) (H : AH) (R : AEnd → AH → Prop) (h : f55_B x0_0 H R) : ACall Try.prog 55 ([(.agg #[(.pointer x0_0)])] : List Value) H R :=
  acall_of mixed Try.func55 (by kernel_rfl : Try.f55.body = some f55_c) (by kernel_rfl) (by kernel_rfl) (awp_of (Eq.mpr (f55_eq x0_0 H R) h))

/-! f54: switchyard/code.get[switchyard/api.Value] -/
noncomputable def f54_c : Code := Try.f54.body.getD .skip
def f54_B (x0 : ByteArray) (H : AH) (R : AEnd → AH → Prop) : Prop :=
 wNew [(.int .i64 0), (.int .i64 0), (.string ({ data := #[] })), (.slice none 0 0)] H fun i1 H2 =>
 wNew [(.int .i64 0)] H2 fun i3 H4 =>
 wCall Try.prog 104 [(.string x0)] H4 (fun r5 H6 =>
 opP r5 fun a9 =>
 wNew [(.pointer none)] H6 fun i10 H11 =>
 wSt i10 0 [(.pointer a9)] H11 fun H12 =>
 ldP i10 0 H12 fun a13 =>
 wCall Try.prog 55 [(.agg #[(.pointer a13)])] H12 (fun r14 H15 =>
 opA 4 r14 fun l18 =>
 opI .i64 (l18.headD undef) fun n19 =>
 opI .i64 (l18.tail.headD undef) fun n20 =>
 opS (l18.tail.tail.headD undef) fun t21 =>
 opL (l18.tail.tail.tail.headD undef) fun z22b z22l z22c =>
 wNew [(.int .i64 0), (.int .i64 0), (.string ({ data := #[] })), (.slice none 0 0)] H15 fun i23 H24 =>
 wSt i23 0 [(.int .i64 n19), (.int .i64 n20), (.string t21), (.slice z22b z22l z22c)] H24 fun H25 =>
 ldP i10 0 H25 fun a26 =>
 wCall Try.prog 105 [(.pointer a26)] H25 (fun r27 H28 =>
 opI .i64 r27 fun n31 =>
 wIf (!decide (n31 = 0))
 (ADef Try.prog 103 [(.pointer (some ⟨i1, 0, none⟩)), (.pointer (some ⟨i3, 0, none⟩))] (some (.iface 157 (.agg #[(.int .i64 n31)]))) H28 (fun H32 =>
 wPt (some ⟨i1, 0, none⟩) fun i33 k34 =>
 ldI .i64 i33 k34 H32 fun n35 =>
 ldI .i64 i33 (k34 + 1) H32 fun n36 =>
 ldS i33 (k34 + 2) H32 fun t37 =>
 ldL i33 (k34 + 3) H32 fun z38b z38l z38c =>
 wPt (some ⟨i3, 0, none⟩) fun i39 k40 =>
 ldI .i64 i39 k40 H32 fun n41 =>
 R (.ret (.tuple #[(.agg #[(.int .i64 n35), (.int .i64 n36), (.string t37), (.slice z38b z38l z38c)]), (.int .i64 n41)])) H32))
 (ldI .i64 i23 0 H28 fun n42 =>
 ldI .i64 i23 1 H28 fun n43 =>
 ldS i23 2 H28 fun t44 =>
 ldL i23 3 H28 fun z45b z45l z45c =>
 wSt i1 0 [(.int .i64 n42), (.int .i64 n43), (.string t44), (.slice z45b z45l z45c)] H28 fun H46 =>
 wSt i3 0 [(.int .i64 0)] H46 fun H47 =>
 ADef Try.prog 103 [(.pointer (some ⟨i1, 0, none⟩)), (.pointer (some ⟨i3, 0, none⟩))] none H47 (fun H48 =>
 wPt (some ⟨i1, 0, none⟩) fun i49 k50 =>
 ldI .i64 i49 k50 H48 fun n51 =>
 ldI .i64 i49 (k50 + 1) H48 fun n52 =>
 ldS i49 (k50 + 2) H48 fun t53 =>
 ldL i49 (k50 + 3) H48 fun z54b z54l z54c =>
 wPt (some ⟨i3, 0, none⟩) fun i55 k56 =>
 ldI .i64 i55 k56 H48 fun n57 =>
 R (.ret (.tuple #[(.agg #[(.int .i64 n51), (.int .i64 n52), (.string t53), (.slice z54b z54l z54c)]), (.int .i64 n57)])) H48))) (fun v30 H29 => ADef Try.prog 103 [(.pointer (some ⟨i1, 0, none⟩)), (.pointer (some ⟨i3, 0, none⟩))] (some v30) H29 (fun H58 =>
 wPt (some ⟨i1, 0, none⟩) fun i59 k60 =>
 ldI .i64 i59 k60 H58 fun n61 =>
 ldI .i64 i59 (k60 + 1) H58 fun n62 =>
 ldS i59 (k60 + 2) H58 fun t63 =>
 ldL i59 (k60 + 3) H58 fun z64b z64l z64c =>
 wPt (some ⟨i3, 0, none⟩) fun i65 k66 =>
 ldI .i64 i65 k66 H58 fun n67 =>
 R (.ret (.tuple #[(.agg #[(.int .i64 n61), (.int .i64 n62), (.string t63), (.slice z64b z64l z64c)]), (.int .i64 n67)])) H58))) (fun v17 H16 => ADef Try.prog 103 [(.pointer (some ⟨i1, 0, none⟩)), (.pointer (some ⟨i3, 0, none⟩))] (some v17) H16 (fun H68 =>
 wPt (some ⟨i1, 0, none⟩) fun i69 k70 =>
 ldI .i64 i69 k70 H68 fun n71 =>
 ldI .i64 i69 (k70 + 1) H68 fun n72 =>
 ldS i69 (k70 + 2) H68 fun t73 =>
 ldL i69 (k70 + 3) H68 fun z74b z74l z74c =>
 wPt (some ⟨i3, 0, none⟩) fun i75 k76 =>
 ldI .i64 i75 k76 H68 fun n77 =>
 R (.ret (.tuple #[(.agg #[(.int .i64 n71), (.int .i64 n72), (.string t73), (.slice z74b z74l z74c)]), (.int .i64 n77)])) H68))) (fun v8 H7 => ADef Try.prog 103 [(.pointer (some ⟨i1, 0, none⟩)), (.pointer (some ⟨i3, 0, none⟩))] (some v8) H7 (fun H78 =>
 wPt (some ⟨i1, 0, none⟩) fun i79 k80 =>
 ldI .i64 i79 k80 H78 fun n81 =>
 ldI .i64 i79 (k80 + 1) H78 fun n82 =>
 ldS i79 (k80 + 2) H78 fun t83 =>
 ldL i79 (k80 + 3) H78 fun z84b z84l z84c =>
 wPt (some ⟨i3, 0, none⟩) fun i85 k86 =>
 ldI .i64 i85 k86 H78 fun n87 =>
 R (.ret (.tuple #[(.agg #[(.int .i64 n81), (.int .i64 n82), (.string t83), (.slice z84b z84l z84c)]), (.int .i64 n87)])) H78))
theorem f54_eq (x0 : ByteArray) (H : AH) (R : AEnd → AH → Prop) : awpF Try.prog (codeAt f54_c [0]) (D0 Try.prog Try.f54 103 (codeAt f54_c [1, 1]) 9 [4, 5] R) (([(.string x0), (.func (.func 55) #[] #[])] : List Value) ++ List.replicate (Try.f54.ntmps - (([(.string x0), (.func (.func 55) #[] #[])] : List Value)).length) undef) H = f54_B x0 H R := by kernel_rfl
theorem f54_call (x0 : ByteArray) (H : AH) (R : AEnd → AH → Prop) (h : f54_B x0 H R) : ACall Try.prog 54 ([(.string x0), (.func (.func 55) #[] #[])] : List Value) H R :=
  acall_deferF (id := 1) (o0 := opAt (codeAt f54_c [1, 0]) 0) (o1 := opAt (codeAt f54_c [1, 0]) 1) (t7 := 9) (cp := [4, 5]) mixed Try.func54 (by kernel_rfl : Try.f54.body = some f54_c) (by kernel_rfl) (by kernel_rfl) (by kernel_rfl) (by kernel_rfl) (by kernel_rfl) (by kernel_rfl) (by kernel_rfl) (by kernel_rfl) (by kernel_rfl) (by kernel_rfl) (by kernel_rfl) (Eq.mpr (f54_eq x0 H R) h)

/-! f103: switchyard/code.get[switchyard/api.Value]$1 -/
noncomputable def f103_c : Code := Try.f103.body.getD .skip
def f103_N_B (y0 y1 : Option Addr) (H : AH) (R : AH → Prop) : Prop :=
 R H
theorem f103_N_eq (y0 y1 : Option Addr) (H : AH) (R : AH → Prop) : awpF Try.prog (codeAt f103_c [1]) (C0 R) [(.pointer y0), (.pointer y1), Value.nilIface, undef, undef, undef, Value.nilIface, undef, undef, undef, undef, undef, undef, undef, undef, undef, undef, undef, undef, undef] H = f103_N_B y0 y1 H R := by kernel_rfl
theorem f103_N (y0 y1 : Option Addr) (H : AH) (R : AH → Prop) (h : f103_N_B y0 y1 H R) : ADef Try.prog 103 ([(.pointer y0), (.pointer y1)] : List Value) none H R :=
  adef_ofF (id := 0) (o0 := opAt (codeAt f103_c [0]) 0) (o1 := opAt (codeAt f103_c [0]) 1) (t5 := 6) (t2 := 2) mixed Try.func103 (by kernel_rfl : Try.f103.body = some f103_c) (by kernel_rfl) (by kernel_rfl) (by kernel_rfl) (by kernel_rfl) (by kernel_rfl) (by kernel_rfl) (by kernel_rfl) (by kernel_rfl) (by kernel_rfl) (show 6 < 2 + (20 - 2) by decide) [(.pointer y0), (.pointer y1), Value.nilIface, undef, undef, undef, Value.nilIface, undef, undef, undef, undef, undef, undef, undef, undef, undef, undef, undef, undef, undef] (by kernel_rfl) (Eq.mpr (f103_N_eq y0 y1 H R) h)
def f103_P_B (y0 y1 : Option Addr) (er : Int) (H : AH) (R : AH → Prop) : Prop :=
 wNew [(.int .i64 0)] H fun i1 H2 =>
 wSt i1 0 [(.int .i64 er)] H2 fun H3 =>
 wNew [(.int .i64 0), (.int .i64 0), (.string ({ data := #[] })), (.slice none 0 0)] H3 fun i4 H5 =>
 ldI .i64 i4 0 H5 fun n6 =>
 ldI .i64 i4 1 H5 fun n7 =>
 ldS i4 2 H5 fun t8 =>
 ldL i4 3 H5 fun z9b z9l z9c =>
 ldI .i64 i1 0 H5 fun n10 =>
 wPt y0 fun i12 k13 =>
 wSt i12 k13 [(.int .i64 n6), (.int .i64 n7), (.string t8), (.slice z9b z9l z9c)] H5 fun H11 =>
 wPin i1 0 [(.int .i64 n10)] H11 <|
 wPt y1 fun i15 k16 =>
 wSt i15 k16 [(.int .i64 n10)] H11 fun H14 =>
 R H14
theorem f103_P_eq (y0 y1 : Option Addr) (er : Int) (H : AH) (R : AH → Prop) : awpF Try.prog (codeAt f103_c [1]) (C0 R) [(.pointer y0), (.pointer y1), (.iface 157 (.agg #[(.int .i64 er)])), undef, undef, undef, (.iface 157 (.agg #[(.int .i64 er)])), undef, undef, undef, undef, undef, undef, undef, undef, undef, undef, undef, undef, undef] H = f103_P_B y0 y1 er H R := by kernel_rfl
theorem f103_P (y0 y1 : Option Addr) (er : Int) (H : AH) (R : AH → Prop) (h : f103_P_B y0 y1 er H R) : ADef Try.prog 103 ([(.pointer y0), (.pointer y1)] : List Value) (some (.iface 157 (.agg #[.int .i64 er]))) H R :=
  adef_ofF (id := 0) (o0 := opAt (codeAt f103_c [0]) 0) (o1 := opAt (codeAt f103_c [0]) 1) (t5 := 6) (t2 := 2) mixed Try.func103 (by kernel_rfl : Try.f103.body = some f103_c) (by kernel_rfl) (by kernel_rfl) (by kernel_rfl) (by kernel_rfl) (by kernel_rfl) (by kernel_rfl) (by kernel_rfl) (by kernel_rfl) (by kernel_rfl) (show 6 < 2 + (20 - 2) by decide) [(.pointer y0), (.pointer y1), (.iface 157 (.agg #[(.int .i64 er)])), undef, undef, undef, (.iface 157 (.agg #[(.int .i64 er)])), undef, undef, undef, undef, undef, undef, undef, undef, undef, undef, undef, undef, undef] (by kernel_rfl) (Eq.mpr (f103_P_eq y0 y1 er H R) h)

end Go.Proofs.Ytfghglacfjncmaa
