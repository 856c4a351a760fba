/- Bodies of functions as nested rules: printed by genw.py, a program of this claim. -/
import Derived.Test.YtnjhcnefgeodcaaDoorWTy
namespace Go.Proofs.YtnjhcnefgeodcaaDoor
open Go.RowKit
set_option linter.unusedVariables false
set_option maxRecDepth 100000

/-! f10: switchyard/frame.Put -/
noncomputable def f10_c : Code := Tryd.f10.body.getD .skip
noncomputable def f10_X0 (R : AEnd → AH → Prop) : AExit → List Value → AH → Prop := thenF (fun tm H => hold (awpF Tryd.prog (codeAt f10_c [1, 1]) (aPost Tryd.prog Tryd.f10 R) tm H)) (aPost Tryd.prog Tryd.f10 R)
noncomputable def f10_X1 (R : AEnd → AH → Prop) : AExit → List Value → AH → Prop := inBlockF 0 (f10_X0 R)
def f10_J0 (R : AEnd → AH → Prop) (tm : List Value) (H : AH) : Prop := hold (awpF Tryd.prog (codeAt f10_c [1, 0, 0, 1, 1, 1]) ((f10_X1 R)) tm H)
def f10_J1 (R : AEnd → AH → Prop) (tm : List Value) (H : AH) : Prop := hold (awpF Tryd.prog (codeAt f10_c [1, 1]) ((aPost Tryd.prog Tryd.f10 R)) tm H)
def f10_J2 (R : AEnd → AH → Prop) (tm : List Value) (H : AH) : Prop := hold (awpF Tryd.prog (codeAt f10_c [1, 1, 1]) ((aPost Tryd.prog Tryd.f10 R)) tm H)
-- join 2: live 4:s
def f10_J2_B (s4 : ByteArray) (H : AH) (R : AEnd → AH → Prop) : Prop :=
 wCall Tryd.prog 22 [(.string s4)] H (fun r1 H2 =>
 opI .u32 r1 fun n5 =>
 wCall Tryd.prog 20 [(.int .u64 (IntKind.u64.wrap n5)), (.int .i64 4)] H2 (fun r6 H7 =>
 opS r6 fun t10 =>
 wCat t10 s4 fun t11 =>
 wCall Tryd.prog 21 [(.string t11)] H7 (fun r12 H13 =>
 opS r12 fun t16 =>
 R (.ret (.tuple #[(.string t16), (.int .i64 0)])) H13) (fun v15 H14 => R (.panic v15) H14)) (fun v9 H8 => R (.panic v9) H8)) (fun v4 H3 => R (.panic v4) H3)
theorem f10_J2_eq (s0 : Value) (s1 : Value) (s2 : Value) (s3 : Value) (s4 : ByteArray) (s5 : Value) (s6 : Value) (s7 : Value) (s8 : Value) (s9 : Value) (s10 : Value) (s11 : Value) (s12 : Value) (s13 : Value) (s14 : Value) (s15 : Value) (s16 : Value) (s17 : Value) (s18 : Value) (s19 : Value) (s20 : Value) (s21 : Value) (s22 : Value) (s23 : Value) (s24 : Value) (s25 : Value) (s26 : Value) (s27 : Value) (s28 : Value) (s29 : Value) (s30 : Value) (s31 : Value) (s32 : Value) (s33 : Value) (s34 : Value) (s35 : Value) (s36 : Value) (s37 : Value) (s38 : Value) (s39 : Value) (s40 : Value) (s41 : Value) (s42 : Value) (s43 : Value) (s44 : Value) (s45 : Value) (s46 : Value) (s47 : Value) (H : AH) (R : AEnd → AH → Prop) : f10_J2 R [s0, s1, s2, s3, (.string s4), s5, s6, s7, s8, s9, s10, s11, s12, s13, s14, s15, s16, s17, s18, s19, s20, s21, s22, s23, s24, s25, s26, s27, s28, s29, s30, s31, s32, s33, s34, s35, s36, s37, s38, s39, s40, s41, s42, s43, s44, s45, s46, s47] H = f10_J2_B s4 H R := by kernel_rfl
-- join 1: live 1:u
def f10_J1_B (s0 : Value) (s1 : Option Addr) (s2 : Value) (s3 : Value) (s5 : Value) (s6 : Value) (s7 : Value) (s8 : Value) (s9 : Value) (s10 : Value) (s11 : Value) (s12 : Value) (s13 : Value) (s14 : Value) (s15 : Value) (s16 : Value) (s17 : Value) (s18 : Value) (s41 : Value) (s42 : Value) (s43 : Value) (s44 : Value) (s45 : Value) (s46 : Value) (s47 : Value) (H : AH) (R : AEnd → AH → Prop) : Prop :=
 wPt s1 fun i17 k18 =>
 wPt s1 fun i19 k20 =>
 wPt s1 fun i21 k22 =>
 wPt s1 fun i23 k24 =>
 wPt s1 fun i25 k26 =>
 ldI .u32 i17 k18 H fun n27 =>
 ldI .u64 i19 (k20 + 1) H fun n28 =>
 ldI .i64 i21 (k22 + 2) H fun n29 =>
 ldS i23 (k24 + 3) H fun t30 =>
 ldS i25 (k26 + 3) H fun t31 =>
 wCall Tryd.prog 20 [(.int .u64 (IntKind.u64.wrap n27)), (.int .i64 4)] H (fun r32 H33 =>
 opS r32 fun t36 =>
 wPin i25 (k26 + 3) [(.string t31)] H33 <|
 wPin i23 (k24 + 3) [(.string t30)] H33 <|
 wPin i21 (k22 + 2) [(.int .i64 n29)] H33 <|
 wPin i19 (k20 + 1) [(.int .u64 n28)] H33 <|
 wPin i17 k18 [(.int .u32 n27)] H33 <|
 wCall Tryd.prog 20 [(.int .u64 n28), (.int .i64 8)] H33 (fun r37 H38 =>
 opS r37 fun t41 =>
 wPin i25 (k26 + 3) [(.string t31)] H38 <|
 wPin i23 (k24 + 3) [(.string t30)] H38 <|
 wPin i21 (k22 + 2) [(.int .i64 n29)] H38 <|
 wPin i17 k18 [(.int .u32 n27)] H38 <|
 wCat t36 t41 fun t42 =>
 wCall Tryd.prog 20 [(.int .u64 (IntKind.u64.wrap n29)), (.int .i64 1)] H38 (fun r43 H44 =>
 opS r43 fun t47 =>
 wPin i25 (k26 + 3) [(.string t31)] H44 <|
 wPin i23 (k24 + 3) [(.string t30)] H44 <|
 wPin i21 (k22 + 2) [(.int .i64 n29)] H44 <|
 wPin i17 k18 [(.int .u32 n27)] H44 <|
 wCat t42 t47 fun t48 =>
 wCall Tryd.prog 20 [(.int .u64 (IntKind.u64.wrap (t30.size : Int))), (.int .i64 4)] H44 (fun r49 H50 =>
 opS r49 fun t53 =>
 wPin i25 (k26 + 3) [(.string t31)] H50 <|
 wPin i23 (k24 + 3) [(.string t30)] H50 <|
 wPin i21 (k22 + 2) [(.int .i64 n29)] H50 <|
 wPin i17 k18 [(.int .u32 n27)] H50 <|
 wCat t48 t53 fun t54 =>
 wCat t54 t31 fun t55 =>
 f10_J2 R [s0, (.pointer s1), s2, s3, (.string t55), s5, s6, s7, s8, s9, s10, s11, s12, s13, s14, s15, s16, s17, s18, (.pointer (some ⟨i17, k18, none⟩)), (.int .u32 n27), (.int .u64 (IntKind.u64.wrap n27)), (.string t36), (.pointer (some ⟨i19, (k20 + 1), none⟩)), (.int .u64 n28), (.string t41), (.string t42), (.pointer (some ⟨i21, (k22 + 2), none⟩)), (.int .i64 n29), (.int .u64 (IntKind.u64.wrap n29)), (.string t47), (.string t48), (.pointer (some ⟨i23, (k24 + 3), none⟩)), (.string t30), (.int .i64 (t30.size : Int)), (.int .u64 (IntKind.u64.wrap (t30.size : Int))), (.string t53), (.string t54), (.pointer (some ⟨i25, (k26 + 3), none⟩)), (.string t31), (.string t55), s41, s42, s43, s44, s45, s46, s47] H50) (fun v52 H51 => R (.panic v52) H51)) (fun v46 H45 => R (.panic v46) H45)) (fun v40 H39 => R (.panic v40) H39)) (fun v35 H34 => R (.panic v35) H34)
theorem f10_J1_eq (s0 : Value) (s1 : Option Addr) (s2 : Value) (s3 : Value) (s4 : Value) (s5 : Value) (s6 : Value) (s7 : Value) (s8 : Value) (s9 : Value) (s10 : Value) (s11 : Value) (s12 : Value) (s13 : Value) (s14 : Value) (s15 : Value) (s16 : Value) (s17 : Value) (s18 : Value) (s19 : Value) (s20 : Value) (s21 : Value) (s22 : Value) (s23 : Value) (s24 : Value) (s25 : Value) (s26 : Value) (s27 : Value) (s28 : Value) (s29 : Value) (s30 : Value) (s31 : Value) (s32 : Value) (s33 : Value) (s34 : Value) (s35 : Value) (s36 : Value) (s37 : Value) (s38 : Value) (s39 : Value) (s40 : Value) (s41 : Value) (s42 : Value) (s43 : Value) (s44 : Value) (s45 : Value) (s46 : Value) (s47 : Value) (H : AH) (R : AEnd → AH → Prop) : f10_J1 R [s0, (.pointer s1), s2, s3, s4, s5, s6, s7, s8, s9, s10, s11, s12, s13, s14, s15, s16, s17, s18, s19, s20, s21, s22, s23, s24, s25, s26, s27, s28, s29, s30, s31, s32, s33, s34, s35, s36, s37, s38, s39, s40, s41, s42, s43, s44, s45, s46, s47] H = f10_J1_B s0 s1 s2 s3 s5 s6 s7 s8 s9 s10 s11 s12 s13 s14 s15 s16 s17 s18 s41 s42 s43 s44 s45 s46 s47 H R := by kernel_rfl
-- join 0: live 1:u, 10:
def f10_J0_B (s0 : Value) (s1 : Option Addr) (s2 : Value) (s3 : Value) (s4 : Value) (s5 : Value) (s6 : Value) (s7 : Value) (s8 : Value) (s9 : Value) (s10 : Bool) (s11 : Value) (s12 : Value) (s13 : Value) (s14 : Value) (s15 : Value) (s16 : Value) (s17 : Value) (s18 : Value) (s19 : Value) (s20 : Value) (s21 : Value) (s22 : Value) (s23 : Value) (s24 : Value) (s25 : Value) (s26 : Value) (s27 : Value) (s28 : Value) (s29 : Value) (s30 : Value) (s31 : Value) (s32 : Value) (s33 : Value) (s34 : Value) (s35 : Value) (s36 : Value) (s37 : Value) (s38 : Value) (s39 : Value) (s40 : Value) (s41 : Value) (s42 : Value) (s43 : Value) (s44 : Value) (s45 : Value) (s46 : Value) (s47 : Value) (H : AH) (R : AEnd → AH → Prop) : Prop :=
 wIf s10
 (R (.ret (.tuple #[(.string ({ data := #[] })), (.int .i64 2)])) H)
 (f10_J1 R [s0, (.pointer s1), s2, s3, s4, s5, s6, s7, s8, s9, (.bool false), s11, s12, s13, s14, s15, s16, s17, s18, s19, s20, s21, s22, s23, s24, s25, s26, s27, s28, s29, s30, s31, s32, s33, s34, s35, s36, s37, s38, s39, s40, s41, s42, s43, s44, s45, s46, s47] H)
theorem f10_J0_eq (s0 : Value) (s1 : Option Addr) (s2 : Value) (s3 : Value) (s4 : Value) (s5 : Value) (s6 : Value) (s7 : Value) (s8 : Value) (s9 : Value) (s10 : Bool) (s11 : Value) (s12 : Value) (s13 : Value) (s14 : Value) (s15 : Value) (s16 : Value) (s17 : Value) (s18 : Value) (s19 : Value) (s20 : Value) (s21 : Value) (s22 : Value) (s23 : Value) (s24 : Value) (s25 : Value) (s26 : Value) (s27 : Value) (s28 : Value) (s29 : Value) (s30 : Value) (s31 : Value) (s32 : Value) (s33 : Value) (s34 : Value) (s35 : Value) (s36 : Value) (s37 : Value) (s38 : Value) (s39 : Value) (s40 : Value) (s41 : Value) (s42 : Value) (s43 : Value) (s44 : Value) (s45 : Value) (s46 : Value) (s47 : Value) (H : AH) (R : AEnd → AH → Prop) : f10_J0 R [s0, (.pointer s1), s2, s3, s4, s5, s6, s7, s8, s9, (.bool s10), s11, s12, s13, s14, s15, s16, s17, s18, s19, s20, s21, s22, s23, s24, s25, s26, s27, s28, s29, s30, s31, s32, s33, s34, s35, s36, s37, s38, s39, s40, s41, s42, s43, s44, s45, s46, s47] H = f10_J0_B s0 s1 s2 s3 s4 s5 s6 s7 s8 s9 s10 s11 s12 s13 s14 s15 s16 s17 s18 s19 s20 s21 s22 s23 s24 s25 s26 s27 s28 s29 s30 s31 s32 s33 s34 s35 s36 s37 s38 s39 s40 s41 s42 s43 s44 s45 s46 s47 H R := by kernel_rfl
def f10_B (x0_0 : Int) (x0_1 : Int) (x0_2 : Int) (x0_3 : ByteArray) (H : AH) (R : AEnd → AH → Prop) : Prop :=
 wNew [(.int .u32 x0_0), (.int .u64 x0_1), (.int .i64 x0_2), (.string x0_3)] H fun i56 H57 =>
 ldS i56 3 H57 fun t58 =>
 wIf (decide ((t58.size : Int) > 1048576))
 (R (.ret (.tuple #[(.string ({ data := #[] })), (.int .i64 5)])) H57)
 (ldI .i64 i56 2 H57 fun n59 =>
 wIf (decide (n59 < 0))
 (f10_J0 R [(.agg #[(.int .u32 x0_0), (.int .u64 x0_1), (.int .i64 x0_2), (.string x0_3)]), (.pointer (some ⟨i56, 0, none⟩)), (.string ({ data := #[] })), (.int .i64 0), undef, (.bool false), (.pointer (some ⟨i56, 3, none⟩)), (.string t58), (.int .i64 (t58.size : Int)), (.bool (decide ((t58.size : Int) > 1048576))), (.bool true), (.pointer (some ⟨i56, 2, none⟩)), (.int .i64 n59), (.bool (decide (n59 < 0))), (.bool true), undef, undef, undef, (.bool true), undef, undef, undef, undef, undef, undef, undef, undef, undef, undef, undef, undef, undef, undef, undef, undef, undef, undef, undef, undef, undef, undef, undef, undef, undef, undef, undef, undef, undef] H57)
 (ldI .i64 i56 2 H57 fun n60 =>
 f10_J0 R [(.agg #[(.int .u32 x0_0), (.int .u64 x0_1), (.int .i64 x0_2), (.string x0_3)]), (.pointer (some ⟨i56, 0, none⟩)), (.string ({ data := #[] })), (.int .i64 0), undef, (.bool false), (.pointer (some ⟨i56, 3, none⟩)), (.string t58), (.int .i64 (t58.size : Int)), (.bool (decide ((t58.size : Int) > 1048576))), (.bool (decide (n60 > 255))), (.pointer (some ⟨i56, 2, none⟩)), (.int .i64 n59), (.bool (decide (n59 < 0))), (.bool false), (.pointer (some ⟨i56, 2, none⟩)), (.int .i64 n60), (.bool (decide (n60 > 255))), (.bool (decide (n60 > 255))), undef, undef, undef, undef, undef, undef, undef, undef, undef, undef, undef, undef, undef, undef, undef, undef, undef, undef, undef, undef, undef, undef, undef, undef, undef, undef, undef, undef, undef] H57))
theorem f10_eq (x0_0 : Int) (x0_1 : Int) (x0_2 : Int) (x0_3 : ByteArray) (H : AH) (R : AEnd → AH → Prop) : awpF Tryd.prog f10_c (aPost Tryd.prog Tryd.f10 R) (([(.agg #[(.int .u32 x0_0), (.int .u64 x0_1), (.int .i64 x0_2), (.string x0_3)])] : List Value) ++ List.replicate (Tryd.f10.ntmps - (([(.agg #[(.int .u32 x0_0), (.int .u64 x0_1), (.int .i64 x0_2), (.string x0_3)])] : List Value)).length) undef) H = f10_B x0_0 x0_1 x0_2 x0_3 H R := by kernel_rfl
theorem f10_call (x0_0 : Int) (x0_1 : Int) (x0_2 : Int) (x0_3 : ByteArray) (H : AH) (R : AEnd → AH → Prop) (h : f10_B x0_0 x0_1 x0_2 x0_3 H R) : ACall Tryd.prog 10 ([(.agg #[(.int .u32 x0_0), (.int .u64 x0_1), (.int .i64 x0_2), (.string x0_3)])] : List Value) H R :=
  acall_of mixed Tryd.func10 (by kernel_rfl : Tryd.f10.body = some f10_c) (by kernel_rfl) (by kernel_rfl) (awp_of (Eq.mpr (f10_eq x0_0 x0_1 x0_2 x0_3 H R) h))

/-! f11: switchyard/switchyardref04.Put -/
noncomputable def f11_c : Code := Tryd.f11.body.getD .skip
noncomputable def f11_X0 (R : AEnd → AH → Prop) : AExit → List Value → AH → Prop := thenF (fun tm H => hold (awpF Tryd.prog (codeAt f11_c [1, 1, 1]) (aPost Tryd.prog Tryd.f11 R) tm H)) (aPost Tryd.prog Tryd.f11 R)
def f11_J0 (R : AEnd → AH → Prop) (tm : List Value) (H : AH) : Prop := hold (awpF Tryd.prog (codeAt f11_c [1, 1, 0, 1]) ((f11_X0 R)) tm H)
def f11_J1 (R : AEnd → AH → Prop) (tm : List Value) (H : AH) : Prop := hold (awpF Tryd.prog (codeAt f11_c [1, 1, 1]) ((aPost Tryd.prog Tryd.f11 R)) tm H)
def f11_J2 (R : AEnd → AH → Prop) (tm : List Value) (H : AH) : Prop := hold (awpF Tryd.prog (codeAt f11_c [1, 1, 1, 1]) ((aPost Tryd.prog Tryd.f11 R)) tm H)
-- join 2: live 4:s
def f11_J2_B (s4 : ByteArray) (H : AH) (R : AEnd → AH → Prop) : Prop :=
 wCall Tryd.prog 25 [(.string s4)] H (fun r1 H2 =>
 opI .u32 r1 fun n5 =>
 wCall Tryd.prog 23 [(.int .u64 (IntKind.u64.wrap n5)), (.int .i64 4)] H2 (fun r6 H7 =>
 opS r6 fun t10 =>
 wCat t10 s4 fun t11 =>
 wCall Tryd.prog 24 [(.string t11)] H7 (fun r12 H13 =>
 opS r12 fun t16 =>
 R (.ret (.tuple #[(.string t16), (.int .i64 0)])) H13) (fun v15 H14 => R (.panic v15) H14)) (fun v9 H8 => R (.panic v9) H8)) (fun v4 H3 => R (.panic v4) H3)
theorem f11_J2_eq (s0 : Value) (s1 : Value) (s2 : Value) (s3 : Value) (s4 : ByteArray) (s5 : Value) (s6 : Value) (s7 : Value) (s8 : Value) (s9 : Value) (s10 : Value) (s11 : Value) (s12 : Value) (s13 : Value) (s14 : Value) (s15 : Value) (s16 : Value) (s17 : Value) (s18 : Value) (s19 : Value) (s20 : Value) (s21 : Value) (s22 : Value) (s23 : Value) (s24 : Value) (s25 : Value) (s26 : Value) (s27 : Value) (s28 : Value) (s29 : Value) (s30 : Value) (s31 : Value) (s32 : Value) (s33 : Value) (s34 : Value) (s35 : Value) (s36 : Value) (s37 : Value) (s38 : Value) (s39 : Value) (s40 : Value) (s41 : Value) (s42 : Value) (s43 : Value) (s44 : Value) (s45 : Value) (H : AH) (R : AEnd → AH → Prop) : f11_J2 R [s0, s1, s2, s3, (.string s4), s5, s6, s7, s8, s9, s10, s11, s12, s13, s14, s15, s16, s17, s18, s19, s20, s21, s22, s23, s24, s25, s26, s27, s28, s29, s30, s31, s32, s33, s34, s35, s36, s37, s38, s39, s40, s41, s42, s43, s44, s45] H = f11_J2_B s4 H R := by kernel_rfl
-- join 1: live 1:u
def f11_J1_B (s0 : Value) (s1 : Option Addr) (s2 : Value) (s3 : Value) (s5 : Value) (s6 : Value) (s7 : Value) (s8 : Value) (s9 : Value) (s10 : Value) (s11 : Value) (s12 : Value) (s13 : Value) (s14 : Value) (s15 : Value) (s16 : Value) (s39 : Value) (s40 : Value) (s41 : Value) (s42 : Value) (s43 : Value) (s44 : Value) (s45 : Value) (H : AH) (R : AEnd → AH → Prop) : Prop :=
 wPt s1 fun i17 k18 =>
 wPt s1 fun i19 k20 =>
 wPt s1 fun i21 k22 =>
 wPt s1 fun i23 k24 =>
 wPt s1 fun i25 k26 =>
 ldI .u32 i17 k18 H fun n27 =>
 ldI .u64 i19 (k20 + 1) H fun n28 =>
 ldI .i64 i21 (k22 + 2) H fun n29 =>
 ldS i23 (k24 + 3) H fun t30 =>
 ldS i25 (k26 + 3) H fun t31 =>
 wCall Tryd.prog 23 [(.int .u64 (IntKind.u64.wrap n27)), (.int .i64 4)] H (fun r32 H33 =>
 opS r32 fun t36 =>
 wPin i25 (k26 + 3) [(.string t31)] H33 <|
 wPin i23 (k24 + 3) [(.string t30)] H33 <|
 wPin i21 (k22 + 2) [(.int .i64 n29)] H33 <|
 wPin i19 (k20 + 1) [(.int .u64 n28)] H33 <|
 wPin i17 k18 [(.int .u32 n27)] H33 <|
 wCall Tryd.prog 23 [(.int .u64 n28), (.int .i64 8)] H33 (fun r37 H38 =>
 opS r37 fun t41 =>
 wPin i25 (k26 + 3) [(.string t31)] H38 <|
 wPin i23 (k24 + 3) [(.string t30)] H38 <|
 wPin i21 (k22 + 2) [(.int .i64 n29)] H38 <|
 wPin i17 k18 [(.int .u32 n27)] H38 <|
 wCat t36 t41 fun t42 =>
 wCall Tryd.prog 23 [(.int .u64 (IntKind.u64.wrap n29)), (.int .i64 1)] H38 (fun r43 H44 =>
 opS r43 fun t47 =>
 wPin i25 (k26 + 3) [(.string t31)] H44 <|
 wPin i23 (k24 + 3) [(.string t30)] H44 <|
 wPin i21 (k22 + 2) [(.int .i64 n29)] H44 <|
 wPin i17 k18 [(.int .u32 n27)] H44 <|
 wCat t42 t47 fun t48 =>
 wCall Tryd.prog 23 [(.int .u64 (IntKind.u64.wrap (t30.size : Int))), (.int .i64 4)] H44 (fun r49 H50 =>
 opS r49 fun t53 =>
 wPin i25 (k26 + 3) [(.string t31)] H50 <|
 wPin i23 (k24 + 3) [(.string t30)] H50 <|
 wPin i21 (k22 + 2) [(.int .i64 n29)] H50 <|
 wPin i17 k18 [(.int .u32 n27)] H50 <|
 wCat t48 t53 fun t54 =>
 wCat t54 t31 fun t55 =>
 f11_J2 R [s0, (.pointer s1), s2, s3, (.string t55), s5, s6, s7, s8, s9, s10, s11, s12, s13, s14, s15, s16, (.pointer (some ⟨i17, k18, none⟩)), (.int .u32 n27), (.int .u64 (IntKind.u64.wrap n27)), (.string t36), (.pointer (some ⟨i19, (k20 + 1), none⟩)), (.int .u64 n28), (.string t41), (.string t42), (.pointer (some ⟨i21, (k22 + 2), none⟩)), (.int .i64 n29), (.int .u64 (IntKind.u64.wrap n29)), (.string t47), (.string t48), (.pointer (some ⟨i23, (k24 + 3), none⟩)), (.string t30), (.int .i64 (t30.size : Int)), (.int .u64 (IntKind.u64.wrap (t30.size : Int))), (.string t53), (.string t54), (.pointer (some ⟨i25, (k26 + 3), none⟩)), (.string t31), (.string t55), s39, s40, s41, s42, s43, s44, s45] H50) (fun v52 H51 => R (.panic v52) H51)) (fun v46 H45 => R (.panic v46) H45)) (fun v40 H39 => R (.panic v40) H39)) (fun v35 H34 => R (.panic v35) H34)
theorem f11_J1_eq (s0 : Value) (s1 : Option Addr) (s2 : Value) (s3 : Value) (s4 : Value) (s5 : Value) (s6 : Value) (s7 : Value) (s8 : Value) (s9 : Value) (s10 : Value) (s11 : Value) (s12 : Value) (s13 : Value) (s14 : Value) (s15 : Value) (s16 : Value) (s17 : Value) (s18 : Value) (s19 : Value) (s20 : Value) (s21 : Value) (s22 : Value) (s23 : Value) (s24 : Value) (s25 : Value) (s26 : Value) (s27 : Value) (s28 : Value) (s29 : Value) (s30 : Value) (s31 : Value) (s32 : Value) (s33 : Value) (s34 : Value) (s35 : Value) (s36 : Value) (s37 : Value) (s38 : Value) (s39 : Value) (s40 : Value) (s41 : Value) (s42 : Value) (s43 : Value) (s44 : Value) (s45 : Value) (H : AH) (R : AEnd → AH → Prop) : f11_J1 R [s0, (.pointer s1), s2, s3, s4, s5, s6, s7, s8, s9, s10, s11, s12, s13, s14, s15, s16, s17, s18, s19, s20, s21, s22, s23, s24, s25, s26, s27, s28, s29, s30, s31, s32, s33, s34, s35, s36, s37, s38, s39, s40, s41, s42, s43, s44, s45] H = f11_J1_B s0 s1 s2 s3 s5 s6 s7 s8 s9 s10 s11 s12 s13 s14 s15 s16 s39 s40 s41 s42 s43 s44 s45 H R := by kernel_rfl
-- join 0: live 1:u, 16:
def f11_J0_B (s0 : Value) (s1 : Option Addr) (s2 : Value) (s3 : Value) (s4 : Value) (s5 : Value) (s6 : Value) (s7 : Value) (s8 : Value) (s9 : Value) (s10 : Value) (s11 : Value) (s12 : Value) (s13 : Value) (s14 : Value) (s15 : Value) (s16 : Bool) (s17 : Value) (s18 : Value) (s19 : Value) (s20 : Value) (s21 : Value) (s22 : Value) (s23 : Value) (s24 : Value) (s25 : Value) (s26 : Value) (s27 : Value) (s28 : Value) (s29 : Value) (s30 : Value) (s31 : Value) (s32 : Value) (s33 : Value) (s34 : Value) (s35 : Value) (s36 : Value) (s37 : Value) (s38 : Value) (s39 : Value) (s40 : Value) (s41 : Value) (s42 : Value) (s43 : Value) (s44 : Value) (s45 : Value) (H : AH) (R : AEnd → AH → Prop) : Prop :=
 wIf s16
 (R (.ret (.tuple #[(.string ({ data := #[] })), (.int .i64 2)])) H)
 (f11_J1 R [s0, (.pointer s1), s2, s3, s4, s5, s6, s7, s8, s9, s10, s11, s12, s13, s14, s15, (.bool false), s17, s18, s19, s20, s21, s22, s23, s24, s25, s26, s27, s28, s29, s30, s31, s32, s33, s34, s35, s36, s37, s38, s39, s40, s41, s42, s43, s44, s45] H)
theorem f11_J0_eq (s0 : Value) (s1 : Option Addr) (s2 : Value) (s3 : Value) (s4 : Value) (s5 : Value) (s6 : Value) (s7 : Value) (s8 : Value) (s9 : Value) (s10 : Value) (s11 : Value) (s12 : Value) (s13 : Value) (s14 : Value) (s15 : Value) (s16 : Bool) (s17 : Value) (s18 : Value) (s19 : Value) (s20 : Value) (s21 : Value) (s22 : Value) (s23 : Value) (s24 : Value) (s25 : Value) (s26 : Value) (s27 : Value) (s28 : Value) (s29 : Value) (s30 : Value) (s31 : Value) (s32 : Value) (s33 : Value) (s34 : Value) (s35 : Value) (s36 : Value) (s37 : Value) (s38 : Value) (s39 : Value) (s40 : Value) (s41 : Value) (s42 : Value) (s43 : Value) (s44 : Value) (s45 : Value) (H : AH) (R : AEnd → AH → Prop) : f11_J0 R [s0, (.pointer s1), s2, s3, s4, s5, s6, s7, s8, s9, s10, s11, s12, s13, s14, s15, (.bool s16), s17, s18, s19, s20, s21, s22, s23, s24, s25, s26, s27, s28, s29, s30, s31, s32, s33, s34, s35, s36, s37, s38, s39, s40, s41, s42, s43, s44, s45] H = f11_J0_B s0 s1 s2 s3 s4 s5 s6 s7 s8 s9 s10 s11 s12 s13 s14 s15 s16 s17 s18 s19 s20 s21 s22 s23 s24 s25 s26 s27 s28 s29 s30 s31 s32 s33 s34 s35 s36 s37 s38 s39 s40 s41 s42 s43 s44 s45 H R := by kernel_rfl
def f11_B (x0_0 : Int) (x0_1 : Int) (x0_2 : Int) (x0_3 : ByteArray) (H : AH) (R : AEnd → AH → Prop) : Prop :=
 wNew [(.int .u32 x0_0), (.int .u64 x0_1), (.int .i64 x0_2), (.string x0_3)] H fun i56 H57 =>
 ldS i56 3 H57 fun t58 =>
 wIf (decide ((t58.size : Int) > 1048576))
 (R (.ret (.tuple #[(.string ({ data := #[] })), (.int .i64 5)])) H57)
 (ldI .i64 i56 2 H57 fun n59 =>
 wIf (decide (n59 < 0))
 (f11_J0 R [(.agg #[(.int .u32 x0_0), (.int .u64 x0_1), (.int .i64 x0_2), (.string x0_3)]), (.pointer (some ⟨i56, 0, none⟩)), (.string ({ data := #[] })), (.int .i64 0), undef, (.pointer (some ⟨i56, 3, none⟩)), (.string t58), (.int .i64 (t58.size : Int)), (.bool false), (.pointer (some ⟨i56, 2, none⟩)), (.int .i64 n59), (.bool (decide (n59 < 0))), (.bool true), undef, undef, undef, (.bool true), undef, undef, undef, undef, undef, undef, undef, undef, undef, undef, undef, undef, undef, undef, undef, undef, undef, undef, undef, undef, undef, undef, undef, undef, undef, undef, undef, undef, undef] H57)
 (ldI .i64 i56 2 H57 fun n60 =>
 f11_J0 R [(.agg #[(.int .u32 x0_0), (.int .u64 x0_1), (.int .i64 x0_2), (.string x0_3)]), (.pointer (some ⟨i56, 0, none⟩)), (.string ({ data := #[] })), (.int .i64 0), undef, (.pointer (some ⟨i56, 3, none⟩)), (.string t58), (.int .i64 (t58.size : Int)), (.bool false), (.pointer (some ⟨i56, 2, none⟩)), (.int .i64 n59), (.bool (decide (n59 < 0))), (.bool false), (.pointer (some ⟨i56, 2, none⟩)), (.int .i64 n60), (.bool (decide (n60 > 255))), (.bool (decide (n60 > 255))), undef, undef, undef, undef, undef, undef, undef, undef, undef, undef, undef, undef, undef, undef, undef, undef, undef, undef, undef, undef, undef, undef, undef, undef, undef, undef, undef, undef, undef] H57))
theorem f11_eq (x0_0 : Int) (x0_1 : Int) (x0_2 : Int) (x0_3 : ByteArray) (H : AH) (R : AEnd → AH → Prop) : awpF Tryd.prog f11_c (aPost Tryd.prog Tryd.f11 R) (([(.agg #[(.int .u32 x0_0), (.int .u64 x0_1), (.int .i64 x0_2), (.string x0_3)])] : List Value) ++ List.replicate (Tryd.f11.ntmps - (([(.agg #[(.int .u32 x0_0), (.int .u64 x0_1), (.int .i64 x0_2), (.string x0_3)])] : List Value)).length) undef) H = f11_B x0_0 x0_1 x0_2 x0_3 H R := by kernel_rfl
theorem f11_call (x0_0 : Int) (x0_1 : Int) (x0_2 : Int) (x0_3 : ByteArray) (H : AH) (R : AEnd → AH → Prop) (h : f11_B x0_0 x0_1 x0_2 x0_3 H R) : ACall Tryd.prog 11 ([(.agg #[(.int .u32 x0_0), (.int .u64 x0_1), (.int .i64 x0_2), (.string x0_3)])] : List Value) H R :=
  acall_of mixed Tryd.func11 (by kernel_rfl : Tryd.f11.body = some f11_c) (by kernel_rfl) (by kernel_rfl) (awp_of (Eq.mpr (f11_eq x0_0 x0_1 x0_2 x0_3 H R) h))

/-! f16: switchyard/frame.GetHead -/
noncomputable def f16_c : Code := Tryd.f16.body.getD .skip
noncomputable def f16_X0 (R : AEnd → AH → Prop) : AExit → List Value → AH → Prop := thenF (fun tm H => hold (awpF Tryd.prog (codeAt f16_c [1, 1]) (aPost Tryd.prog Tryd.f16 R) tm H)) (aPost Tryd.prog Tryd.f16 R)
def f16_J0 (R : AEnd → AH → Prop) (tm : List Value) (H : AH) : Prop := hold (awpF Tryd.prog (codeAt f16_c [1, 0, 1]) ((f16_X0 R)) tm H)
def f16_J1 (R : AEnd → AH → Prop) (tm : List Value) (H : AH) : Prop := hold (awpF Tryd.prog (codeAt f16_c [1, 1]) ((aPost Tryd.prog Tryd.f16 R)) tm H)
def f16_J2 (R : AEnd → AH → Prop) (tm : List Value) (H : AH) : Prop := hold (awpF Tryd.prog (codeAt f16_c [1, 1, 1]) ((aPost Tryd.prog Tryd.f16 R)) tm H)
-- join 2: live 2:, 4:h
def f16_J2_B (s2 : Option Addr) (s4 : Option Addr) (H : AH) (R : AEnd → AH → Prop) : Prop :=
 wPt s4 fun i1 k2 =>
 ldI .u32 i1 k2 H fun n3 =>
 ldI .u32 i1 (k2 + 1) H fun n4 =>
 ldI .u32 i1 (k2 + 2) H fun n5 =>
 ldI .u64 i1 (k2 + 3) H fun n6 =>
 wCall Tryd.prog 29 [(.agg #[(.int .u32 n3), (.int .u32 n4), (.int .u32 n5), (.int .u64 n6)])] H (fun r7 H8 =>
 opB r7 fun b11 =>
 wIf (!b11)
 (wPt s2 fun i13 k14 =>
 wSt i13 k14 [(.int .u32 0), (.int .u32 0), (.int .u32 0), (.int .u64 0)] H8 fun H12 =>
 wPt s2 fun i15 k16 =>
 ldI .u32 i15 k16 H12 fun n17 =>
 ldI .u32 i15 (k16 + 1) H12 fun n18 =>
 ldI .u32 i15 (k16 + 2) H12 fun n19 =>
 ldI .u64 i15 (k16 + 3) H12 fun n20 =>
 R (.ret (.tuple #[(.agg #[(.int .u32 n17), (.int .u32 n18), (.int .u32 n19), (.int .u64 n20)]), (.bool false)])) H12)
 (wPt s4 fun i21 k22 =>
 ldI .u32 i21 k22 H8 fun n23 =>
 ldI .u32 i21 (k22 + 1) H8 fun n24 =>
 ldI .u32 i21 (k22 + 2) H8 fun n25 =>
 ldI .u64 i21 (k22 + 3) H8 fun n26 =>
 wPt s2 fun i28 k29 =>
 wSt i28 k29 [(.int .u32 n23), (.int .u32 n24), (.int .u32 n25), (.int .u64 n26)] H8 fun H27 =>
 wPt s2 fun i30 k31 =>
 ldI .u32 i30 k31 H27 fun n32 =>
 ldI .u32 i30 (k31 + 1) H27 fun n33 =>
 ldI .u32 i30 (k31 + 2) H27 fun n34 =>
 ldI .u64 i30 (k31 + 3) H27 fun n35 =>
 R (.ret (.tuple #[(.agg #[(.int .u32 n32), (.int .u32 n33), (.int .u32 n34), (.int .u64 n35)]), (.bool true)])) H27)) (fun v10 H9 => R (.panic v10) H9)
theorem f16_J2_eq (s0 : Value) (s1 : Value) (s2 : Option Addr) (s3 : Value) (s4 : Option Addr) (s5 : Value) (s6 : Value) (s7 : Value) (s8 : Value) (s9 : Value) (s10 : Value) (s11 : Value) (s12 : Value) (s13 : Value) (s14 : Value) (s15 : Value) (s16 : Value) (s17 : Value) (s18 : Value) (s19 : Value) (s20 : Value) (s21 : Value) (s22 : Value) (s23 : Value) (s24 : Value) (s25 : Value) (s26 : Value) (s27 : Value) (s28 : Value) (s29 : Value) (s30 : Value) (s31 : Value) (s32 : Value) (s33 : Value) (s34 : Value) (s35 : Value) (s36 : Value) (s37 : Value) (s38 : Value) (s39 : Value) (s40 : Value) (s41 : Value) (s42 : Value) (s43 : Value) (s44 : Value) (s45 : Value) (s46 : Value) (s47 : Value) (s48 : Value) (s49 : Value) (s50 : Value) (H : AH) (R : AEnd → AH → Prop) : f16_J2 R [s0, s1, (.pointer s2), s3, (.pointer s4), s5, s6, s7, s8, s9, s10, s11, s12, s13, s14, s15, s16, s17, s18, s19, s20, s21, s22, s23, s24, s25, s26, s27, s28, s29, s30, s31, s32, s33, s34, s35, s36, s37, s38, s39, s40, s41, s42, s43, s44, s45, s46, s47, s48, s49, s50] H = f16_J2_B s2 s4 H R := by kernel_rfl
-- join 1: live 0:s, 2:
def f16_J1_B (s0 : ByteArray) (s1 : Value) (s2 : Option Addr) (s3 : Value) (s5 : Value) (s6 : Value) (s7 : Value) (s8 : Value) (s9 : Value) (s10 : Value) (s11 : Value) (s12 : Value) (s13 : Value) (s14 : Value) (s15 : Value) (s16 : Value) (s17 : Value) (s18 : Value) (s19 : Value) (s20 : Value) (s21 : Value) (s22 : Value) (s23 : Value) (s24 : Value) (s25 : Value) (s26 : Value) (s27 : Value) (s28 : Value) (s29 : Value) (s46 : Value) (s47 : Value) (s48 : Value) (s49 : Value) (s50 : Value) (H : AH) (R : AEnd → AH → Prop) : Prop :=
 wSlS s0 5 9 fun t36 =>
 wSlS s0 9 13 fun t37 =>
 wSlS s0 13 17 fun t38 =>
 wSlS s0 17 25 fun t39 =>
 (wCall Tryd.prog 26 [(.string t36)] H (fun r40 H41 =>
 opI .u64 r40 fun n44 =>
 (wCall Tryd.prog 26 [(.string t37)] H41 (fun r45 H46 =>
 opI .u64 r45 fun n49 =>
 (wCall Tryd.prog 26 [(.string t38)] H46 (fun r50 H51 =>
 opI .u64 r50 fun n54 =>
 (wCall Tryd.prog 26 [(.string t39)] H51 (fun r55 H56 =>
 opI .u64 r55 fun n59 =>
 wNew [(.int .u32 0), (.int .u32 0), (.int .u32 0), (.int .u64 0)] H56 fun i60 H61 =>
 wSt i60 0 [(.int .u32 (IntKind.u32.wrap n44)), (.int .u32 (IntKind.u32.wrap n49)), (.int .u32 (IntKind.u32.wrap n54)), (.int .u64 n59)] H61 fun H62 =>
 f16_J2 R [(.string s0), s1, (.pointer s2), s3, (.pointer (some ⟨i60, 0, none⟩)), s5, s6, s7, s8, s9, s10, s11, s12, s13, s14, s15, s16, s17, s18, s19, s20, s21, s22, s23, s24, s25, s26, s27, s28, s29, (.string s0), (.string t36), (.int .u64 n44), (.int .u32 (IntKind.u32.wrap n44)), (.string s0), (.string t37), (.int .u64 n49), (.int .u32 (IntKind.u32.wrap n49)), (.string s0), (.string t38), (.int .u64 n54), (.int .u32 (IntKind.u32.wrap n54)), (.string s0), (.string t39), (.int .u64 n59), (.agg #[(.int .u32 (IntKind.u32.wrap n44)), (.int .u32 (IntKind.u32.wrap n49)), (.int .u32 (IntKind.u32.wrap n54)), (.int .u64 n59)]), s46, s47, s48, s49, s50] H62) (fun v58 H57 => R (.panic v58) H57)) ∧
 (wNew [(.int .u32 0), (.int .u32 0), (.int .u32 0), (.int .u64 0)] H51 fun i63 H64 =>
 wCall Tryd.prog 26 [(.string t39)] H64 (fun r65 H66 =>
 opI .u64 r65 fun n69 =>
 wSt i63 0 [(.int .u32 (IntKind.u32.wrap n44)), (.int .u32 (IntKind.u32.wrap n49)), (.int .u32 (IntKind.u32.wrap n54)), (.int .u64 n69)] H66 fun H70 =>
 f16_J2 R [(.string s0), s1, (.pointer s2), s3, (.pointer (some ⟨i63, 0, none⟩)), s5, s6, s7, s8, s9, s10, s11, s12, s13, s14, s15, s16, s17, s18, s19, s20, s21, s22, s23, s24, s25, s26, s27, s28, s29, (.string s0), (.string t36), (.int .u64 n44), (.int .u32 (IntKind.u32.wrap n44)), (.string s0), (.string t37), (.int .u64 n49), (.int .u32 (IntKind.u32.wrap n49)), (.string s0), (.string t38), (.int .u64 n54), (.int .u32 (IntKind.u32.wrap n54)), (.string s0), (.string t39), (.int .u64 n69), (.agg #[(.int .u32 (IntKind.u32.wrap n44)), (.int .u32 (IntKind.u32.wrap n49)), (.int .u32 (IntKind.u32.wrap n54)), (.int .u64 n69)]), s46, s47, s48, s49, s50] H70) (fun v68 H67 => R (.panic v68) H67))) (fun v53 H52 => R (.panic v53) H52)) ∧
 (wNew [(.int .u32 0), (.int .u32 0), (.int .u32 0), (.int .u64 0)] H46 fun i71 H72 =>
 wCall Tryd.prog 26 [(.string t38)] H72 (fun r73 H74 =>
 opI .u64 r73 fun n77 =>
 wCall Tryd.prog 26 [(.string t39)] H74 (fun r78 H79 =>
 opI .u64 r78 fun n82 =>
 wSt i71 0 [(.int .u32 (IntKind.u32.wrap n44)), (.int .u32 (IntKind.u32.wrap n49)), (.int .u32 (IntKind.u32.wrap n77)), (.int .u64 n82)] H79 fun H83 =>
 f16_J2 R [(.string s0), s1, (.pointer s2), s3, (.pointer (some ⟨i71, 0, none⟩)), s5, s6, s7, s8, s9, s10, s11, s12, s13, s14, s15, s16, s17, s18, s19, s20, s21, s22, s23, s24, s25, s26, s27, s28, s29, (.string s0), (.string t36), (.int .u64 n44), (.int .u32 (IntKind.u32.wrap n44)), (.string s0), (.string t37), (.int .u64 n49), (.int .u32 (IntKind.u32.wrap n49)), (.string s0), (.string t38), (.int .u64 n77), (.int .u32 (IntKind.u32.wrap n77)), (.string s0), (.string t39), (.int .u64 n82), (.agg #[(.int .u32 (IntKind.u32.wrap n44)), (.int .u32 (IntKind.u32.wrap n49)), (.int .u32 (IntKind.u32.wrap n77)), (.int .u64 n82)]), s46, s47, s48, s49, s50] H83) (fun v81 H80 => R (.panic v81) H80)) (fun v76 H75 => R (.panic v76) H75))) (fun v48 H47 => R (.panic v48) H47)) ∧
 (wNew [(.int .u32 0), (.int .u32 0), (.int .u32 0), (.int .u64 0)] H41 fun i84 H85 =>
 wCall Tryd.prog 26 [(.string t37)] H85 (fun r86 H87 =>
 opI .u64 r86 fun n90 =>
 wCall Tryd.prog 26 [(.string t38)] H87 (fun r91 H92 =>
 opI .u64 r91 fun n95 =>
 wCall Tryd.prog 26 [(.string t39)] H92 (fun r96 H97 =>
 opI .u64 r96 fun n100 =>
 wSt i84 0 [(.int .u32 (IntKind.u32.wrap n44)), (.int .u32 (IntKind.u32.wrap n90)), (.int .u32 (IntKind.u32.wrap n95)), (.int .u64 n100)] H97 fun H101 =>
 f16_J2 R [(.string s0), s1, (.pointer s2), s3, (.pointer (some ⟨i84, 0, none⟩)), s5, s6, s7, s8, s9, s10, s11, s12, s13, s14, s15, s16, s17, s18, s19, s20, s21, s22, s23, s24, s25, s26, s27, s28, s29, (.string s0), (.string t36), (.int .u64 n44), (.int .u32 (IntKind.u32.wrap n44)), (.string s0), (.string t37), (.int .u64 n90), (.int .u32 (IntKind.u32.wrap n90)), (.string s0), (.string t38), (.int .u64 n95), (.int .u32 (IntKind.u32.wrap n95)), (.string s0), (.string t39), (.int .u64 n100), (.agg #[(.int .u32 (IntKind.u32.wrap n44)), (.int .u32 (IntKind.u32.wrap n90)), (.int .u32 (IntKind.u32.wrap n95)), (.int .u64 n100)]), s46, s47, s48, s49, s50] H101) (fun v99 H98 => R (.panic v99) H98)) (fun v94 H93 => R (.panic v94) H93)) (fun v89 H88 => R (.panic v89) H88))) (fun v43 H42 => R (.panic v43) H42)) ∧
 (wNew [(.int .u32 0), (.int .u32 0), (.int .u32 0), (.int .u64 0)] H fun i102 H103 =>
 wCall Tryd.prog 26 [(.string t36)] H103 (fun r104 H105 =>
 opI .u64 r104 fun n108 =>
 wCall Tryd.prog 26 [(.string t37)] H105 (fun r109 H110 =>
 opI .u64 r109 fun n113 =>
 wCall Tryd.prog 26 [(.string t38)] H110 (fun r114 H115 =>
 opI .u64 r114 fun n118 =>
 wCall Tryd.prog 26 [(.string t39)] H115 (fun r119 H120 =>
 opI .u64 r119 fun n123 =>
 wSt i102 0 [(.int .u32 (IntKind.u32.wrap n108)), (.int .u32 (IntKind.u32.wrap n113)), (.int .u32 (IntKind.u32.wrap n118)), (.int .u64 n123)] H120 fun H124 =>
 f16_J2 R [(.string s0), s1, (.pointer s2), s3, (.pointer (some ⟨i102, 0, none⟩)), s5, s6, s7, s8, s9, s10, s11, s12, s13, s14, s15, s16, s17, s18, s19, s20, s21, s22, s23, s24, s25, s26, s27, s28, s29, (.string s0), (.string t36), (.int .u64 n108), (.int .u32 (IntKind.u32.wrap n108)), (.string s0), (.string t37), (.int .u64 n113), (.int .u32 (IntKind.u32.wrap n113)), (.string s0), (.string t38), (.int .u64 n118), (.int .u32 (IntKind.u32.wrap n118)), (.string s0), (.string t39), (.int .u64 n123), (.agg #[(.int .u32 (IntKind.u32.wrap n108)), (.int .u32 (IntKind.u32.wrap n113)), (.int .u32 (IntKind.u32.wrap n118)), (.int .u64 n123)]), s46, s47, s48, s49, s50] H124) (fun v122 H121 => R (.panic v122) H121)) (fun v117 H116 => R (.panic v117) H116)) (fun v112 H111 => R (.panic v112) H111)) (fun v107 H106 => R (.panic v107) H106))
theorem f16_J1_eq (s0 : ByteArray) (s1 : Value) (s2 : Option Addr) (s3 : Value) (s4 : Value) (s5 : Value) (s6 : Value) (s7 : Value) (s8 : Value) (s9 : Value) (s10 : Value) (s11 : Value) (s12 : Value) (s13 : Value) (s14 : Value) (s15 : Value) (s16 : Value) (s17 : Value) (s18 : Value) (s19 : Value) (s20 : Value) (s21 : Value) (s22 : Value) (s23 : Value) (s24 : Value) (s25 : Value) (s26 : Value) (s27 : Value) (s28 : Value) (s29 : Value) (s30 : Value) (s31 : Value) (s32 : Value) (s33 : Value) (s34 : Value) (s35 : Value) (s36 : Value) (s37 : Value) (s38 : Value) (s39 : Value) (s40 : Value) (s41 : Value) (s42 : Value) (s43 : Value) (s44 : Value) (s45 : Value) (s46 : Value) (s47 : Value) (s48 : Value) (s49 : Value) (s50 : Value) (H : AH) (R : AEnd → AH → Prop) : f16_J1 R [(.string s0), s1, (.pointer s2), s3, s4, s5, s6, s7, s8, s9, s10, s11, s12, s13, s14, s15, s16, s17, s18, s19, s20, s21, s22, s23, s24, s25, s26, s27, s28, s29, s30, s31, s32, s33, s34, s35, s36, s37, s38, s39, s40, s41, s42, s43, s44, s45, s46, s47, s48, s49, s50] H = f16_J1_B s0 s1 s2 s3 s5 s6 s7 s8 s9 s10 s11 s12 s13 s14 s15 s16 s17 s18 s19 s20 s21 s22 s23 s24 s25 s26 s27 s28 s29 s46 s47 s48 s49 s50 H R := by kernel_rfl
-- join 0: live 0:s, 2:, 28:
def f16_J0_B (s0 : ByteArray) (s1 : Value) (s2 : Option Addr) (s3 : Value) (s4 : Value) (s5 : Value) (s6 : Value) (s7 : Value) (s8 : Value) (s9 : Value) (s10 : Value) (s11 : Value) (s12 : Value) (s13 : Value) (s14 : Value) (s15 : Value) (s16 : Value) (s17 : Value) (s18 : Value) (s19 : Value) (s20 : Value) (s21 : Value) (s22 : Value) (s23 : Value) (s24 : Value) (s25 : Value) (s26 : Value) (s27 : Value) (s28 : Bool) (s29 : Value) (s30 : Value) (s31 : Value) (s32 : Value) (s33 : Value) (s34 : Value) (s35 : Value) (s36 : Value) (s37 : Value) (s38 : Value) (s39 : Value) (s40 : Value) (s41 : Value) (s42 : Value) (s43 : Value) (s44 : Value) (s45 : Value) (s46 : Value) (s47 : Value) (s48 : Value) (s49 : Value) (s50 : Value) (H : AH) (R : AEnd → AH → Prop) : Prop :=
 wIf s28
 (wPt s2 fun i126 k127 =>
 wSt i126 k127 [(.int .u32 0), (.int .u32 0), (.int .u32 0), (.int .u64 0)] H fun H125 =>
 wPt s2 fun i128 k129 =>
 ldI .u32 i128 k129 H125 fun n130 =>
 ldI .u32 i128 (k129 + 1) H125 fun n131 =>
 ldI .u32 i128 (k129 + 2) H125 fun n132 =>
 ldI .u64 i128 (k129 + 3) H125 fun n133 =>
 R (.ret (.tuple #[(.agg #[(.int .u32 n130), (.int .u32 n131), (.int .u32 n132), (.int .u64 n133)]), (.bool false)])) H125)
 (f16_J1 R [(.string s0), s1, (.pointer s2), s3, s4, s5, s6, s7, s8, s9, s10, s11, s12, s13, s14, s15, s16, s17, s18, s19, s20, s21, s22, s23, s24, s25, s26, s27, (.bool false), s29, s30, s31, s32, s33, s34, s35, s36, s37, s38, s39, s40, s41, s42, s43, s44, s45, s46, s47, s48, s49, s50] H)
theorem f16_J0_eq (s0 : ByteArray) (s1 : Value) (s2 : Option Addr) (s3 : Value) (s4 : Value) (s5 : Value) (s6 : Value) (s7 : Value) (s8 : Value) (s9 : Value) (s10 : Value) (s11 : Value) (s12 : Value) (s13 : Value) (s14 : Value) (s15 : Value) (s16 : Value) (s17 : Value) (s18 : Value) (s19 : Value) (s20 : Value) (s21 : Value) (s22 : Value) (s23 : Value) (s24 : Value) (s25 : Value) (s26 : Value) (s27 : Value) (s28 : Bool) (s29 : Value) (s30 : Value) (s31 : Value) (s32 : Value) (s33 : Value) (s34 : Value) (s35 : Value) (s36 : Value) (s37 : Value) (s38 : Value) (s39 : Value) (s40 : Value) (s41 : Value) (s42 : Value) (s43 : Value) (s44 : Value) (s45 : Value) (s46 : Value) (s47 : Value) (s48 : Value) (s49 : Value) (s50 : Value) (H : AH) (R : AEnd → AH → Prop) : f16_J0 R [(.string s0), s1, (.pointer s2), s3, s4, s5, s6, s7, s8, s9, s10, s11, s12, s13, s14, s15, s16, s17, s18, s19, s20, s21, s22, s23, s24, s25, s26, s27, (.bool s28), s29, s30, s31, s32, s33, s34, s35, s36, s37, s38, s39, s40, s41, s42, s43, s44, s45, s46, s47, s48, s49, s50] H = f16_J0_B s0 s1 s2 s3 s4 s5 s6 s7 s8 s9 s10 s11 s12 s13 s14 s15 s16 s17 s18 s19 s20 s21 s22 s23 s24 s25 s26 s27 s28 s29 s30 s31 s32 s33 s34 s35 s36 s37 s38 s39 s40 s41 s42 s43 s44 s45 s46 s47 s48 s49 s50 H R := by kernel_rfl
def f16_B (x0 : ByteArray) (H : AH) (R : AEnd → AH → Prop) : Prop :=
 wNew [(.int .u32 0), (.int .u32 0), (.int .u32 0), (.int .u64 0)] H fun i134 H135 =>
 wIf (!decide ((x0.size : Int) = 64))
 (f16_J0 R [(.string x0), undef, (.pointer (some ⟨i134, 0, none⟩)), (.bool false), undef, (.string x0), (.int .i64 (x0.size : Int)), (.bool (!decide ((x0.size : Int) = 64))), (.bool true), undef, undef, undef, (.bool true), (.bool true), undef, undef, undef, undef, undef, undef, undef, undef, (.bool true), (.bool true), undef, undef, undef, undef, (.bool true), undef, undef, undef, undef, undef, undef, undef, undef, undef, undef, undef, undef, undef, undef, undef, undef, undef, undef, undef, undef, undef, undef] H135)
 (wIxS x0 4 fun n136 =>
 wIf (!decide (n136 = 72))
 (f16_J0 R [(.string x0), undef, (.pointer (some ⟨i134, 0, none⟩)), (.bool false), undef, (.string x0), (.int .i64 (x0.size : Int)), (.bool (!decide ((x0.size : Int) = 64))), (.bool false), (.string x0), (.int .u8 n136), (.bool (!decide (n136 = 72))), (.bool (!decide (n136 = 72))), (.bool true), undef, undef, undef, undef, undef, undef, undef, undef, (.bool true), (.bool true), undef, undef, undef, undef, (.bool true), undef, undef, undef, undef, undef, undef, undef, undef, undef, undef, undef, undef, undef, undef, undef, undef, undef, undef, undef, undef, undef, undef] H135)
 (wSlS x0 4 x0.size fun t137 =>
 wSlS x0 0 4 fun t138 =>
 wCall Tryd.prog 22 [(.string t137)] H135 (fun r139 H140 =>
 opI .u32 r139 fun n143 =>
 wCall Tryd.prog 26 [(.string t138)] H140 (fun r144 H145 =>
 opI .u64 r144 fun n148 =>
 wIf (!decide ((IntKind.u64.wrap n143) = n148))
 (f16_J0 R [(.string x0), undef, (.pointer (some ⟨i134, 0, none⟩)), (.bool false), undef, (.string x0), (.int .i64 (x0.size : Int)), (.bool (!decide ((x0.size : Int) = 64))), (.bool false), (.string x0), (.int .u8 n136), (.bool (!decide (n136 = 72))), (.bool (!decide (n136 = 72))), (.bool false), (.string x0), (.string t137), (.int .u32 n143), (.int .u64 (IntKind.u64.wrap n143)), (.string x0), (.string t138), (.int .u64 n148), (.bool (!decide ((IntKind.u64.wrap n143) = n148))), (.bool (!decide ((IntKind.u64.wrap n143) = n148))), (.bool true), undef, undef, undef, undef, (.bool true), undef, undef, undef, undef, undef, undef, undef, undef, undef, undef, undef, undef, undef, undef, undef, undef, undef, undef, undef, undef, undef, undef] H145)
 (wSlS x0 25 x0.size fun t149 =>
 wCall Tryd.prog 27 [(.string t149), (.string ({ data := #[0] }))] H145 (fun r150 H151 =>
 opS r150 fun t154 =>
 f16_J0 R [(.string x0), undef, (.pointer (some ⟨i134, 0, none⟩)), (.bool false), undef, (.string x0), (.int .i64 (x0.size : Int)), (.bool (!decide ((x0.size : Int) = 64))), (.bool false), (.string x0), (.int .u8 n136), (.bool (!decide (n136 = 72))), (.bool (!decide (n136 = 72))), (.bool false), (.string x0), (.string t137), (.int .u32 n143), (.int .u64 (IntKind.u64.wrap n143)), (.string x0), (.string t138), (.int .u64 n148), (.bool (!decide ((IntKind.u64.wrap n143) = n148))), (.bool (!decide ((IntKind.u64.wrap n143) = n148))), (.bool false), (.string x0), (.string t149), (.string t154), (.bool (!decide (t154 = ({ data := #[] })))), (.bool (!decide (t154 = ({ data := #[] })))), undef, undef, undef, undef, undef, undef, undef, undef, undef, undef, undef, undef, undef, undef, undef, undef, undef, undef, undef, undef, undef, undef] H151) (fun v153 H152 => R (.panic v153) H152))) (fun v147 H146 => R (.panic v147) H146)) (fun v142 H141 => R (.panic v142) H141)))
theorem f16_eq (x0 : ByteArray) (H : AH) (R : AEnd → AH → Prop) : awpF Tryd.prog f16_c (aPost Tryd.prog Tryd.f16 R) (([(.string x0)] : List Value) ++ List.replicate (Tryd.f16.ntmps - (([(.string x0)] : List Value)).length) undef) H = f16_B x0 H R := by kernel_rfl
theorem f16_call (x0 : ByteArray) (H : AH) (R : AEnd → AH → Prop) (h : f16_B x0 H R) : ACall Tryd.prog 16 ([(.string x0)] : List Value) H R :=
  acall_of mixed Tryd.func16 (by kernel_rfl : Tryd.f16.body = some f16_c) (by kernel_rfl) (by kernel_rfl) (awp_of (Eq.mpr (f16_eq x0 H R) h))

end Go.Proofs.YtnjhcnefgeodcaaDoor
