/- Bodies of functions as nested rules: printed by genw.py, a program of this claim. -/
import Derived.Test.YtfghglacfjncmaaWTy
namespace Go.Proofs.Ytfghglacfjncmaa
open Go.RowKit
set_option linter.unusedVariables false
set_option maxRecDepth 100000

/-! f57: (*switchyard/switchyardref02.Reader).End -/
noncomputable def f57_c : Code := Try.f57.body.getD .skip
noncomputable def f57_X0 (R : AEnd → AH → Prop) : AExit → List Value → AH → Prop := thenF (fun tm H => hold (awpF Try.prog (codeAt f57_c [1, 1]) (aPost Try.prog Try.f57 R) tm H)) (aPost Try.prog Try.f57 R)
def f57_J0 (R : AEnd → AH → Prop) (tm : List Value) (H : AH) : Prop := hold (awpF Try.prog (codeAt f57_c [1, 0, 1]) ((f57_X0 R)) tm H)
def f57_J1 (R : AEnd → AH → Prop) (tm : List Value) (H : AH) : Prop := hold (awpF Try.prog (codeAt f57_c [1, 1]) ((aPost Try.prog Try.f57 R)) tm H)
-- join 1: live 0:r
def f57_J1_B (s0 : Option Addr) (H : AH) (R : AEnd → AH → Prop) : Prop :=
 wPt s0 fun i1 k2 =>
 ldI .i64 i1 (k2 + 2) H fun n3 =>
 R (.ret (.int .i64 n3)) H
theorem f57_J1_eq (s0 : Option Addr) (s1 s2 s3 s4 s5 s6 s7 s8 s9 s10 s11 s12 s13 s14 s15 s16 s17 s18 s19 s20 s21 s22 s23 : Value) (H : AH) (R : AEnd → AH → Prop) : f57_J1 R [(.pointer s0), s1, s2, s3, s4, s5, s6, s7, s8, s9, s10, s11, s12, s13, s14, s15, s16, s17, s18, s19, s20, s21, s22, s23] H = f57_J1_B s0 H R := by kernel_rfl
-- join 0: live 0:r, 19:
def f57_J0_B (s0 : Option Addr) (s1 s2 s3 s4 s5 s6 s7 s8 s9 s10 s11 s12 s13 s14 s15 s16 s17 s18 : Value) (s19 : Bool) (s20 s21 s22 s23 : Value) (H : AH) (R : AEnd → AH → Prop) : Prop :=
 wIf s19
 (R (.ret (.int .i64 4)) H)
 (f57_J1 R [(.pointer s0), s1, s2, s3, s4, s5, s6, s7, s8, s9, s10, s11, s12, s13, s14, s15, s16, s17, s18, (.bool false), s20, s21, s22, s23] H)
theorem f57_J0_eq (s0 : Option Addr) (s1 s2 s3 s4 s5 s6 s7 s8 s9 s10 s11 s12 s13 s14 s15 s16 s17 s18 : Value) (s19 : Bool) (s20 s21 s22 s23 : Value) (H : AH) (R : AEnd → AH → Prop) : f57_J0 R [(.pointer s0), s1, s2, s3, s4, s5, s6, s7, s8, s9, s10, s11, s12, s13, s14, s15, s16, s17, s18, (.bool s19), s20, s21, s22, s23] H = f57_J0_B s0 s1 s2 s3 s4 s5 s6 s7 s8 s9 s10 s11 s12 s13 s14 s15 s16 s17 s18 s19 s20 s21 s22 s23 H R := by kernel_rfl
def f57_B (x0 : Option Addr) (H : AH) (R : AEnd → AH → Prop) : Prop :=
 wPt x0 fun i4 k5 =>
 ldI .i64 i4 (k5 + 2) H fun n6 =>
 wIf (decide (n6 = 0))
 (wPt x0 fun i7 k8 =>
 wPt x0 fun i9 k10 =>
 (ldI .i64 i7 (k8 + 1) H fun n11 =>
 ldS i9 k10 H fun t12 =>
 f57_J0 R [(.pointer x0), undef, (.int .i64 0), (.pointer x0), (.pointer (some ⟨i4, k5, none⟩)), (.pointer (some ⟨i4, (k5 + 2), none⟩)), (.int .i64 n6), (.bool (decide (n6 = 0))), (.bool true), (.pointer x0), (.pointer (some ⟨i7, k8, none⟩)), (.pointer (some ⟨i7, (k8 + 1), none⟩)), (.int .i64 n11), (.pointer x0), (.pointer (some ⟨i9, k10, none⟩)), (.pointer (some ⟨i9, k10, none⟩)), (.string t12), (.int .i64 (t12.size : Int)), (.bool (decide (n11 < (t12.size : Int)))), (.bool (decide (n11 < (t12.size : Int)))), undef, undef, undef, undef] H) ∧
 (ldS i9 k10 H fun t13 =>
 ldI .i64 i7 (k8 + 1) H fun n14 =>
 f57_J0 R [(.pointer x0), undef, (.int .i64 0), (.pointer x0), (.pointer (some ⟨i4, k5, none⟩)), (.pointer (some ⟨i4, (k5 + 2), none⟩)), (.int .i64 n6), (.bool (decide (n6 = 0))), (.bool true), (.pointer x0), (.pointer (some ⟨i7, k8, none⟩)), (.pointer (some ⟨i7, (k8 + 1), none⟩)), (.int .i64 n14), (.pointer x0), (.pointer (some ⟨i9, k10, none⟩)), (.pointer (some ⟨i9, k10, none⟩)), (.string t13), (.int .i64 (t13.size : Int)), (.bool (decide (n14 < (t13.size : Int)))), (.bool (decide (n14 < (t13.size : Int)))), undef, undef, undef, undef] H))
 ((f57_J0 R [(.pointer x0), undef, (.int .i64 0), (.pointer x0), (.pointer (some ⟨i4, k5, none⟩)), (.pointer (some ⟨i4, (k5 + 2), none⟩)), (.int .i64 n6), (.bool (decide (n6 = 0))), (.bool false), undef, undef, undef, undef, undef, undef, undef, undef, undef, undef, (.bool false), undef, undef, undef, undef] H) ∧
 (f57_J0 R [(.pointer x0), undef, (.int .i64 0), (.pointer x0), (.pointer (some ⟨i4, k5, none⟩)), (.pointer (some ⟨i4, (k5 + 2), none⟩)), (.int .i64 n6), (.bool (decide (n6 = 0))), (.bool false), undef, undef, undef, undef, undef, undef, undef, undef, undef, undef, (.bool false), undef, undef, undef, undef] H))
theorem f57_eq (x0 : Option Addr) (H : AH) (R : AEnd → AH → Prop) : awpF Try.prog f57_c (aPost Try.prog Try.f57 R) (([(.pointer x0)] : List Value) ++ List.replicate (Try.f57.ntmps - (([(.pointer x0)] : List Value)).length) undef) H = f57_B x0 H R := by kernel_rfl
theorem f57_call (x0 : Option Addr) (H : AH) (R : AEnd → AH → Prop) (h : f57_B x0 H R) : ACall Try.prog 57 ([(.pointer x0)] : List Value) H R :=
  acall_of mixed Try.func57 (by kernel_rfl : Try.f57.body = some f57_c) (by kernel_rfl) (by kernel_rfl) (awp_of (Eq.mpr (f57_eq x0 H R) h))

/-! f82: (*switchyard/switchyardref02.Reader).Number -/
noncomputable def f82_c : Code := Try.f82.body.getD .skip
def f82_B (x0 : Option Addr) (H : AH) (R : AEnd → AH → Prop) : Prop :=
 wCall Try.prog 124 [(.pointer x0)] H (fun r1 H2 =>
 opI .u64 r1 fun n5 =>
 wIf (decide ((Int.tmod n5 2) = 1))
 (R (.ret (.int .i64 (IntKind.i64.wrap ((IntKind.i64.wrap (0 - (IntKind.i64.wrap (IntKind.u64.wrap (Int.tdiv n5 2))))) - 1)))) H2)
 (R (.ret (.int .i64 (IntKind.i64.wrap (IntKind.u64.wrap (Int.tdiv n5 2))))) H2)) (fun v4 H3 => R (.panic v4) H3)
theorem f82_eq (x0 : Option Addr) (H : AH) (R : AEnd → AH → Prop) : awpF Try.prog f82_c (aPost Try.prog Try.f82 R) (([(.pointer x0)] : List Value) ++ List.replicate (Try.f82.ntmps - (([(.pointer x0)] : List Value)).length) undef) H = f82_B x0 H R := by kernel_rfl
theorem f82_call (x0 : Option Addr) (H : AH) (R : AEnd → AH → Prop) (h : f82_B x0 H R) : ACall Try.prog 82 ([(.pointer x0)] : List Value) H R :=
  acall_of mixed Try.func82 (by kernel_rfl : Try.f82.body = some f82_c) (by kernel_rfl) (by kernel_rfl) (awp_of (Eq.mpr (f82_eq x0 H R) h))

/-! f83: (*switchyard/switchyardref02.Reader).Small -/
noncomputable def f83_c : Code := Try.f83.body.getD .skip
noncomputable def f83_X0 (R : AEnd → AH → Prop) : AExit → List Value → AH → Prop := thenF (fun tm H => hold (awpF Try.prog (codeAt f83_c [1, 1, 1, 1]) (aPost Try.prog Try.f83 R) tm H)) (aPost Try.prog Try.f83 R)
def f83_J0 (R : AEnd → AH → Prop) (tm : List Value) (H : AH) : Prop := hold (awpF Try.prog (codeAt f83_c [1, 1, 1, 0, 1]) ((f83_X0 R)) tm H)
def f83_J1 (R : AEnd → AH → Prop) (tm : List Value) (H : AH) : Prop := hold (awpF Try.prog (codeAt f83_c [1, 1, 1, 1]) ((aPost Try.prog Try.f83 R)) tm H)
-- join 1: live 0:r, 5:n, 6:end, 7:e
def f83_J1_B (s0 : Option Addr) (s5 s6 s7 : Int) (H : AH) (R : AEnd → AH → Prop) : Prop :=
 wIf (!decide (s7 = 0))
 (wPt s0 fun i1 k2 =>
 wSt i1 (k2 + 2) [(.int .i64 s7)] H fun H3 =>
 R (.ret (.int .i64 0)) H3)
 (wPt s0 fun i4 k5 =>
 wSt i4 (k5 + 1) [(.int .i64 s6)] H fun H6 =>
 R (.ret (.int .i64 (IntKind.i64.wrap s5))) H6)
theorem f83_J1_eq (s0 : Option Addr) (s1 s2 s3 s4 : Value) (s5 s6 s7 : Int) (s8 s9 s10 s11 s12 s13 s14 s15 s16 s17 s18 s19 s20 s21 s22 s23 s24 s25 s26 s27 s28 s29 s30 s31 s32 s33 s34 s35 s36 s37 s38 s39 s40 s41 s42 : Value) (H : AH) (R : AEnd → AH → Prop) : f83_J1 R [(.pointer s0), s1, s2, s3, s4, (.int .u64 s5), (.int .i64 s6), (.int .i64 s7), s8, s9, s10, s11, s12, s13, s14, s15, s16, s17, s18, s19, s20, s21, s22, s23, s24, s25, s26, s27, s28, s29, s30, s31, s32, s33, s34, s35, s36, s37, s38, s39, s40, s41, s42] H = f83_J1_B s0 s5 s6 s7 H R := by kernel_rfl
-- join 0: live 0:r, 5:n, 6:end, 7:e, 30:
def f83_J0_B (s0 : Option Addr) (s1 s2 s3 s4 : Value) (s5 s6 s7 : Int) (s8 s9 s10 s11 s12 s13 s14 s15 s16 s17 s18 s19 s20 s21 s22 s23 s24 s25 s26 s27 s28 s29 : Value) (s30 : Bool) (s31 s32 s33 s34 s35 s36 s37 s38 s39 s40 s41 s42 : Value) (H : AH) (R : AEnd → AH → Prop) : Prop :=
 wIf s30
 (f83_J1 R [(.pointer s0), s1, s2, s3, s4, (.int .u64 s5), (.int .i64 s6), (.int .i64 5), s8, s9, s10, s11, s12, s13, s14, s15, s16, s17, s18, s19, s20, s21, s22, s23, s24, s25, s26, s27, s28, s29, (.bool true), s31, s32, s33, s34, s35, s36, s37, s38, s39, s40, s41, s42] H)
 (f83_J1 R [(.pointer s0), s1, s2, s3, s4, (.int .u64 s5), (.int .i64 s6), (.int .i64 s7), s8, s9, s10, s11, s12, s13, s14, s15, s16, s17, s18, s19, s20, s21, s22, s23, s24, s25, s26, s27, s28, s29, (.bool false), s31, s32, s33, s34, s35, s36, s37, s38, s39, s40, s41, s42] H)
theorem f83_J0_eq (s0 : Option Addr) (s1 s2 s3 s4 : Value) (s5 s6 s7 : Int) (s8 s9 s10 s11 s12 s13 s14 s15 s16 s17 s18 s19 s20 s21 s22 s23 s24 s25 s26 s27 s28 s29 : Value) (s30 : Bool) (s31 s32 s33 s34 s35 s36 s37 s38 s39 s40 s41 s42 : Value) (H : AH) (R : AEnd → AH → Prop) : f83_J0 R [(.pointer s0), s1, s2, s3, s4, (.int .u64 s5), (.int .i64 s6), (.int .i64 s7), s8, s9, s10, s11, s12, s13, s14, s15, s16, s17, s18, s19, s20, s21, s22, s23, s24, s25, s26, s27, s28, s29, (.bool s30), s31, s32, s33, s34, s35, s36, s37, s38, s39, s40, s41, s42] H = f83_J0_B s0 s1 s2 s3 s4 s5 s6 s7 s8 s9 s10 s11 s12 s13 s14 s15 s16 s17 s18 s19 s20 s21 s22 s23 s24 s25 s26 s27 s28 s29 s30 s31 s32 s33 s34 s35 s36 s37 s38 s39 s40 s41 s42 H R := by kernel_rfl
def f83_B (x0 : Option Addr) (x1 : Int) (H : AH) (R : AEnd → AH → Prop) : Prop :=
 wPt x0 fun i7 k8 =>
 ldI .i64 i7 (k8 + 2) H fun n9 =>
 wIf (!decide (n9 = 0))
 (R (.ret (.int .i64 0)) H)
 (wCall Try.prog 125 [(.pointer x0)] H (fun r10 H11 =>
 opT 3 r10 fun l14 =>
 opI .u64 (l14.headD undef) fun n15 =>
 opI .i64 (l14.tail.headD undef) fun n16 =>
 opI .i64 (l14.tail.tail.headD undef) fun n17 =>
 wIf (decide (n17 = 0))
 (wIf (decide (x1 < 0))
 (f83_J0 R [(.pointer x0), (.int .i64 x1), undef, undef, (.int .i64 0), (.int .u64 n15), (.int .i64 n16), (.int .i64 n17), (.pointer x0), (.pointer (some ⟨i7, k8, none⟩)), (.pointer (some ⟨i7, (k8 + 2), none⟩)), (.int .i64 n9), (.bool false), (.tuple #[(.int .u64 n15), (.int .i64 n16), (.int .i64 n17)]), (.pointer x0), (.tuple #[(.int .u64 n15), (.int .i64 n16), (.int .i64 n17)]), (.int .u64 n15), (.int .i64 n16), (.int .i64 n17), (.int .i64 n17), (.bool (decide (n17 = 0))), (.bool true), (.int .i64 x1), (.bool (decide (x1 < 0))), (.bool true), undef, undef, undef, undef, (.bool true), (.bool true), undef, undef, undef, undef, undef, undef, undef, undef, undef, undef, undef, undef] H11)
 (f83_J0 R [(.pointer x0), (.int .i64 x1), undef, undef, (.int .i64 0), (.int .u64 n15), (.int .i64 n16), (.int .i64 n17), (.pointer x0), (.pointer (some ⟨i7, k8, none⟩)), (.pointer (some ⟨i7, (k8 + 2), none⟩)), (.int .i64 n9), (.bool false), (.tuple #[(.int .u64 n15), (.int .i64 n16), (.int .i64 n17)]), (.pointer x0), (.tuple #[(.int .u64 n15), (.int .i64 n16), (.int .i64 n17)]), (.int .u64 n15), (.int .i64 n16), (.int .i64 n17), (.int .i64 n17), (.bool (decide (n17 = 0))), (.bool true), (.int .i64 x1), (.bool (decide (x1 < 0))), (.bool false), (.int .u64 n15), (.int .i64 x1), (.int .u64 (IntKind.u64.wrap x1)), (.bool (decide (n15 > (IntKind.u64.wrap x1)))), (.bool (decide (n15 > (IntKind.u64.wrap x1)))), (.bool (decide (n15 > (IntKind.u64.wrap x1)))), undef, undef, undef, undef, undef, undef, undef, undef, undef, undef, undef, undef] H11))
 (f83_J0 R [(.pointer x0), (.int .i64 x1), undef, undef, (.int .i64 0), (.int .u64 n15), (.int .i64 n16), (.int .i64 n17), (.pointer x0), (.pointer (some ⟨i7, k8, none⟩)), (.pointer (some ⟨i7, (k8 + 2), none⟩)), (.int .i64 n9), (.bool false), (.tuple #[(.int .u64 n15), (.int .i64 n16), (.int .i64 n17)]), (.pointer x0), (.tuple #[(.int .u64 n15), (.int .i64 n16), (.int .i64 n17)]), (.int .u64 n15), (.int .i64 n16), (.int .i64 n17), (.int .i64 n17), (.bool (decide (n17 = 0))), (.bool false), undef, undef, undef, undef, undef, undef, undef, undef, (.bool false), undef, undef, undef, undef, undef, undef, undef, undef, undef, undef, undef, undef] H11)) (fun v13 H12 => R (.panic v13) H12))
theorem f83_eq (x0 : Option Addr) (x1 : Int) (H : AH) (R : AEnd → AH → Prop) : awpF Try.prog f83_c (aPost Try.prog Try.f83 R) (([(.pointer x0), (.int .i64 x1)] : List Value) ++ List.replicate (Try.f83.ntmps - (([(.pointer x0), (.int .i64 x1)] : List Value)).length) undef) H = f83_B x0 x1 H R := by kernel_rfl
theorem f83_call (x0 : Option Addr) (x1 : Int) (H : AH) (R : AEnd → AH → Prop) (h : f83_B x0 x1 H R) : ACall Try.prog 83 ([(.pointer x0), (.int .i64 x1)] : List Value) H R :=
  acall_of mixed Try.func83 (by kernel_rfl : Try.f83.body = some f83_c) (by kernel_rfl) (by kernel_rfl) (awp_of (Eq.mpr (f83_eq x0 x1 H R) h))

/-! f86: (*switchyard/switchyardref02.Reader).Text -/
noncomputable def f86_c : Code := Try.f86.body.getD .skip
noncomputable def f86_X0 (R : AEnd → AH → Prop) : AExit → List Value → AH → Prop := thenF (fun tm H => hold (awpF Try.prog (codeAt f86_c [1, 1, 1, 1]) (aPost Try.prog Try.f86 R) tm H)) (aPost Try.prog Try.f86 R)
def f86_J0 (R : AEnd → AH → Prop) (tm : List Value) (H : AH) : Prop := hold (awpF Try.prog (codeAt f86_c [1, 1, 1, 0, 1]) ((f86_X0 R)) tm H)
def f86_J1 (R : AEnd → AH → Prop) (tm : List Value) (H : AH) : Prop := hold (awpF Try.prog (codeAt f86_c [1, 1, 1, 1]) ((aPost Try.prog Try.f86 R)) tm H)
noncomputable def f86_X1 (R : AEnd → AH → Prop) : AExit → List Value → AH → Prop := thenF (fun tm H => hold (awpF Try.prog (codeAt f86_c [1, 1, 1, 1, 1]) (aPost Try.prog Try.f86 R) tm H)) (aPost Try.prog Try.f86 R)
def f86_J2 (R : AEnd → AH → Prop) (tm : List Value) (H : AH) : Prop := hold (awpF Try.prog (codeAt f86_c [1, 1, 1, 1, 0, 1]) ((f86_X1 R)) tm H)
def f86_J3 (R : AEnd → AH → Prop) (tm : List Value) (H : AH) : Prop := hold (awpF Try.prog (codeAt f86_c [1, 1, 1, 1, 1]) ((aPost Try.prog Try.f86 R)) tm H)
-- join 3: live 0:G, 5:d, 6:e, 7:.
def f86_J3_B (s0 : Option Addr) (s5 s6 s7 : Int) (H : AH) (R : AEnd → AH → Prop) : Prop :=
 wIf (!decide (s7 = 0))
 (wPt s0 fun i1 k2 =>
 wSt i1 (k2 + 2) [(.int .i64 s7)] H fun H3 =>
 R (.ret (.string ({ data := #[] }))) H3)
 (wPt s0 fun i4 k5 =>
 wSt i4 (k5 + 1) [(.int .i64 (IntKind.i64.wrap (s6 + (IntKind.i64.wrap s5))))] H fun H6 =>
 wPt s0 fun i7 k8 =>
 wPt s0 fun i9 k10 =>
 ldS i7 k8 H6 fun t11 =>
 ldI .i64 i9 (k10 + 1) H6 fun n12 =>
 wSlS t11 s6 n12 fun t13 =>
 R (.ret (.string t13)) H6)
theorem f86_J3_eq (s0 : Option Addr) (s1 s2 s3 s4 : Value) (s5 s6 s7 : Int) (s8 s9 s10 s11 s12 s13 s14 s15 s16 s17 s18 s19 s20 s21 s22 s23 s24 s25 s26 s27 s28 s29 s30 s31 s32 s33 s34 s35 s36 s37 s38 s39 s40 s41 s42 s43 s44 s45 s46 s47 s48 s49 s50 s51 s52 s53 s54 s55 s56 s57 s58 s59 s60 s61 s62 s63 s64 s65 s66 s67 : Value) (H : AH) (R : AEnd → AH → Prop) : f86_J3 R [(.pointer s0), s1, s2, s3, s4, (.int .u64 s5), (.int .i64 s6), (.int .i64 s7), s8, s9, s10, s11, s12, s13, s14, s15, s16, s17, s18, s19, s20, s21, s22, s23, s24, s25, s26, s27, s28, s29, s30, s31, s32, s33, s34, s35, s36, s37, s38, s39, s40, s41, s42, s43, s44, s45, s46, s47, s48, s49, s50, s51, s52, s53, s54, s55, s56, s57, s58, s59, s60, s61, s62, s63, s64, s65, s66, s67] H = f86_J3_B s0 s5 s6 s7 H R := by kernel_rfl
-- join 2: live 0:G, 5:d, 6:e, 7:., 44:?
def f86_J2_B (s0 : Option Addr) (s1 s2 s3 s4 : Value) (s5 s6 s7 : Int) (s8 s9 s10 s11 s12 s13 s14 s15 s16 s17 s18 s19 s20 s21 s22 s23 s24 s25 s26 s27 s28 s29 s30 s31 s32 s33 s34 s35 s36 s37 s38 s39 s40 s41 s42 s43 : Value) (s44 : Bool) (s45 s46 s47 s48 s49 s50 s51 s52 s53 s54 s55 s56 s57 s58 s59 s60 s61 s62 s63 s64 s65 s66 s67 : Value) (H : AH) (R : AEnd → AH → Prop) : Prop :=
 wIf s44
 (f86_J3 R [(.pointer s0), s1, s2, s3, s4, (.int .u64 s5), (.int .i64 s6), (.int .i64 3), s8, s9, s10, s11, s12, s13, s14, s15, s16, s17, s18, s19, s20, s21, s22, s23, s24, s25, s26, s27, s28, s29, s30, s31, s32, s33, s34, s35, s36, s37, s38, s39, s40, s41, s42, s43, (.bool true), s45, s46, s47, s48, s49, s50, s51, s52, s53, s54, s55, s56, s57, s58, s59, s60, s61, s62, s63, s64, s65, s66, s67] H)
 (f86_J3 R [(.pointer s0), s1, s2, s3, s4, (.int .u64 s5), (.int .i64 s6), (.int .i64 s7), s8, s9, s10, s11, s12, s13, s14, s15, s16, s17, s18, s19, s20, s21, s22, s23, s24, s25, s26, s27, s28, s29, s30, s31, s32, s33, s34, s35, s36, s37, s38, s39, s40, s41, s42, s43, (.bool false), s45, s46, s47, s48, s49, s50, s51, s52, s53, s54, s55, s56, s57, s58, s59, s60, s61, s62, s63, s64, s65, s66, s67] H)
theorem f86_J2_eq (s0 : Option Addr) (s1 s2 s3 s4 : Value) (s5 s6 s7 : Int) (s8 s9 s10 s11 s12 s13 s14 s15 s16 s17 s18 s19 s20 s21 s22 s23 s24 s25 s26 s27 s28 s29 s30 s31 s32 s33 s34 s35 s36 s37 s38 s39 s40 s41 s42 s43 : Value) (s44 : Bool) (s45 s46 s47 s48 s49 s50 s51 s52 s53 s54 s55 s56 s57 s58 s59 s60 s61 s62 s63 s64 s65 s66 s67 : Value) (H : AH) (R : AEnd → AH → Prop) : f86_J2 R [(.pointer s0), s1, s2, s3, s4, (.int .u64 s5), (.int .i64 s6), (.int .i64 s7), s8, s9, s10, s11, s12, s13, s14, s15, s16, s17, s18, s19, s20, s21, s22, s23, s24, s25, s26, s27, s28, s29, s30, s31, s32, s33, s34, s35, s36, s37, s38, s39, s40, s41, s42, s43, (.bool s44), s45, s46, s47, s48, s49, s50, s51, s52, s53, s54, s55, s56, s57, s58, s59, s60, s61, s62, s63, s64, s65, s66, s67] H = f86_J2_B s0 s1 s2 s3 s4 s5 s6 s7 s8 s9 s10 s11 s12 s13 s14 s15 s16 s17 s18 s19 s20 s21 s22 s23 s24 s25 s26 s27 s28 s29 s30 s31 s32 s33 s34 s35 s36 s37 s38 s39 s40 s41 s42 s43 s44 s45 s46 s47 s48 s49 s50 s51 s52 s53 s54 s55 s56 s57 s58 s59 s60 s61 s62 s63 s64 s65 s66 s67 H R := by kernel_rfl
-- join 1: live 0:G, 5:d, 6:e, 7:.
def f86_J1_B (s0 : Option Addr) (s1 s2 s3 s4 : Value) (s5 s6 s7 : Int) (s8 s9 s10 s11 s12 s13 s14 s15 s16 s17 s18 s19 s20 s21 s22 s23 s24 s25 s26 s27 s28 s29 s30 s45 s46 s47 s48 s49 s50 s51 s52 s53 s54 s55 s56 s57 s58 s59 s60 s61 s62 s63 s64 s65 s66 s67 : Value) (H : AH) (R : AEnd → AH → Prop) : Prop :=
 wIf (decide (s7 = 0))
 (wPt s0 fun i14 k15 =>
 ldS i14 k15 H fun t16 =>
 f86_J2 R [(.pointer s0), s1, s2, s3, s4, (.int .u64 s5), (.int .i64 s6), (.int .i64 s7), s8, s9, s10, s11, s12, s13, s14, s15, s16, s17, s18, s19, s20, s21, s22, s23, s24, s25, s26, s27, s28, s29, s30, (.int .i64 s7), (.bool (decide (s7 = 0))), (.bool true), (.int .u64 s5), (.pointer s0), (.pointer (some ⟨i14, k15, none⟩)), (.pointer (some ⟨i14, k15, none⟩)), (.string t16), (.int .i64 (t16.size : Int)), (.int .i64 s6), (.int .i64 (IntKind.i64.wrap ((t16.size : Int) - s6))), (.int .u64 (IntKind.u64.wrap (IntKind.i64.wrap ((t16.size : Int) - s6)))), (.bool (decide (s5 > (IntKind.u64.wrap (IntKind.i64.wrap ((t16.size : Int) - s6)))))), (.bool (decide (s5 > (IntKind.u64.wrap (IntKind.i64.wrap ((t16.size : Int) - s6)))))), s45, s46, s47, s48, s49, s50, s51, s52, s53, s54, s55, s56, s57, s58, s59, s60, s61, s62, s63, s64, s65, s66, s67] H)
 (f86_J2 R [(.pointer s0), s1, s2, s3, s4, (.int .u64 s5), (.int .i64 s6), (.int .i64 s7), s8, s9, s10, s11, s12, s13, s14, s15, s16, s17, s18, s19, s20, s21, s22, s23, s24, s25, s26, s27, s28, s29, s30, (.int .i64 s7), (.bool (decide (s7 = 0))), (.bool false), undef, undef, undef, undef, undef, undef, undef, undef, undef, undef, (.bool false), s45, s46, s47, s48, s49, s50, s51, s52, s53, s54, s55, s56, s57, s58, s59, s60, s61, s62, s63, s64, s65, s66, s67] H)
theorem f86_J1_eq (s0 : Option Addr) (s1 s2 s3 s4 : Value) (s5 s6 s7 : Int) (s8 s9 s10 s11 s12 s13 s14 s15 s16 s17 s18 s19 s20 s21 s22 s23 s24 s25 s26 s27 s28 s29 s30 s31 s32 s33 s34 s35 s36 s37 s38 s39 s40 s41 s42 s43 s44 s45 s46 s47 s48 s49 s50 s51 s52 s53 s54 s55 s56 s57 s58 s59 s60 s61 s62 s63 s64 s65 s66 s67 : Value) (H : AH) (R : AEnd → AH → Prop) : f86_J1 R [(.pointer s0), s1, s2, s3, s4, (.int .u64 s5), (.int .i64 s6), (.int .i64 s7), s8, s9, s10, s11, s12, s13, s14, s15, s16, s17, s18, s19, s20, s21, s22, s23, s24, s25, s26, s27, s28, s29, s30, s31, s32, s33, s34, s35, s36, s37, s38, s39, s40, s41, s42, s43, s44, s45, s46, s47, s48, s49, s50, s51, s52, s53, s54, s55, s56, s57, s58, s59, s60, s61, s62, s63, s64, s65, s66, s67] H = f86_J1_B s0 s1 s2 s3 s4 s5 s6 s7 s8 s9 s10 s11 s12 s13 s14 s15 s16 s17 s18 s19 s20 s21 s22 s23 s24 s25 s26 s27 s28 s29 s30 s45 s46 s47 s48 s49 s50 s51 s52 s53 s54 s55 s56 s57 s58 s59 s60 s61 s62 s63 s64 s65 s66 s67 H R := by kernel_rfl
-- join 0: live 0:G, 5:d, 6:e, 7:., 30:?
def f86_J0_B (s0 : Option Addr) (s1 s2 s3 s4 : Value) (s5 s6 s7 : Int) (s8 s9 s10 s11 s12 s13 s14 s15 s16 s17 s18 s19 s20 s21 s22 s23 s24 s25 s26 s27 s28 s29 : Value) (s30 : Bool) (s31 s32 s33 s34 s35 s36 s37 s38 s39 s40 s41 s42 s43 s44 s45 s46 s47 s48 s49 s50 s51 s52 s53 s54 s55 s56 s57 s58 s59 s60 s61 s62 s63 s64 s65 s66 s67 : Value) (H : AH) (R : AEnd → AH → Prop) : Prop :=
 wIf s30
 (f86_J1 R [(.pointer s0), s1, s2, s3, s4, (.int .u64 s5), (.int .i64 s6), (.int .i64 5), s8, s9, s10, s11, s12, s13, s14, s15, s16, s17, s18, s19, s20, s21, s22, s23, s24, s25, s26, s27, s28, s29, (.bool true), s31, s32, s33, s34, s35, s36, s37, s38, s39, s40, s41, s42, s43, s44, s45, s46, s47, s48, s49, s50, s51, s52, s53, s54, s55, s56, s57, s58, s59, s60, s61, s62, s63, s64, s65, s66, s67] H)
 (f86_J1 R [(.pointer s0), s1, s2, s3, s4, (.int .u64 s5), (.int .i64 s6), (.int .i64 s7), s8, s9, s10, s11, s12, s13, s14, s15, s16, s17, s18, s19, s20, s21, s22, s23, s24, s25, s26, s27, s28, s29, (.bool false), s31, s32, s33, s34, s35, s36, s37, s38, s39, s40, s41, s42, s43, s44, s45, s46, s47, s48, s49, s50, s51, s52, s53, s54, s55, s56, s57, s58, s59, s60, s61, s62, s63, s64, s65, s66, s67] H)
theorem f86_J0_eq (s0 : Option Addr) (s1 s2 s3 s4 : Value) (s5 s6 s7 : Int) (s8 s9 s10 s11 s12 s13 s14 s15 s16 s17 s18 s19 s20 s21 s22 s23 s24 s25 s26 s27 s28 s29 : Value) (s30 : Bool) (s31 s32 s33 s34 s35 s36 s37 s38 s39 s40 s41 s42 s43 s44 s45 s46 s47 s48 s49 s50 s51 s52 s53 s54 s55 s56 s57 s58 s59 s60 s61 s62 s63 s64 s65 s66 s67 : Value) (H : AH) (R : AEnd → AH → Prop) : f86_J0 R [(.pointer s0), s1, s2, s3, s4, (.int .u64 s5), (.int .i64 s6), (.int .i64 s7), s8, s9, s10, s11, s12, s13, s14, s15, s16, s17, s18, s19, s20, s21, s22, s23, s24, s25, s26, s27, s28, s29, (.bool s30), s31, s32, s33, s34, s35, s36, s37, s38, s39, s40, s41, s42, s43, s44, s45, s46, s47, s48, s49, s50, s51, s52, s53, s54, s55, s56, s57, s58, s59, s60, s61, s62, s63, s64, s65, s66, s67] H = f86_J0_B s0 s1 s2 s3 s4 s5 s6 s7 s8 s9 s10 s11 s12 s13 s14 s15 s16 s17 s18 s19 s20 s21 s22 s23 s24 s25 s26 s27 s28 s29 s30 s31 s32 s33 s34 s35 s36 s37 s38 s39 s40 s41 s42 s43 s44 s45 s46 s47 s48 s49 s50 s51 s52 s53 s54 s55 s56 s57 s58 s59 s60 s61 s62 s63 s64 s65 s66 s67 H R := by kernel_rfl
def f86_B (x0 : Option Addr) (x1 : Int) (H : AH) (R : AEnd → AH → Prop) : Prop :=
 wPt x0 fun i17 k18 =>
 ldI .i64 i17 (k18 + 2) H fun n19 =>
 wIf (!decide (n19 = 0))
 (R (.ret (.string ({ data := #[] }))) H)
 (wCall Try.prog 125 [(.pointer x0)] H (fun r20 H21 =>
 opT 3 r20 fun l24 =>
 opI .u64 (l24.headD undef) fun n25 =>
 opI .i64 (l24.tail.headD undef) fun n26 =>
 opI .i64 (l24.tail.tail.headD undef) fun n27 =>
 wIf (decide (n27 = 0))
 (wIf (decide (x1 < 0))
 (f86_J0 R [(.pointer x0), (.int .i64 x1), undef, undef, (.string ({ data := #[] })), (.int .u64 n25), (.int .i64 n26), (.int .i64 n27), (.pointer x0), (.pointer (some ⟨i17, k18, none⟩)), (.pointer (some ⟨i17, (k18 + 2), none⟩)), (.int .i64 n19), (.bool false), (.tuple #[(.int .u64 n25), (.int .i64 n26), (.int .i64 n27)]), (.pointer x0), (.tuple #[(.int .u64 n25), (.int .i64 n26), (.int .i64 n27)]), (.int .u64 n25), (.int .i64 n26), (.int .i64 n27), (.int .i64 n27), (.bool (decide (n27 = 0))), (.bool true), (.int .i64 x1), (.bool (decide (x1 < 0))), (.bool true), undef, undef, undef, undef, (.bool true), (.bool true), undef, undef, undef, undef, undef, undef, undef, undef, undef, undef, undef, undef, undef, undef, undef, undef, undef, undef, undef, undef, undef, undef, undef, undef, undef, undef, undef, undef, undef, undef, undef, undef, undef, undef, undef, undef, undef] H21)
 (f86_J0 R [(.pointer x0), (.int .i64 x1), undef, undef, (.string ({ data := #[] })), (.int .u64 n25), (.int .i64 n26), (.int .i64 n27), (.pointer x0), (.pointer (some ⟨i17, k18, none⟩)), (.pointer (some ⟨i17, (k18 + 2), none⟩)), (.int .i64 n19), (.bool false), (.tuple #[(.int .u64 n25), (.int .i64 n26), (.int .i64 n27)]), (.pointer x0), (.tuple #[(.int .u64 n25), (.int .i64 n26), (.int .i64 n27)]), (.int .u64 n25), (.int .i64 n26), (.int .i64 n27), (.int .i64 n27), (.bool (decide (n27 = 0))), (.bool true), (.int .i64 x1), (.bool (decide (x1 < 0))), (.bool false), (.int .u64 n25), (.int .i64 x1), (.int .u64 (IntKind.u64.wrap x1)), (.bool (decide (n25 > (IntKind.u64.wrap x1)))), (.bool (decide (n25 > (IntKind.u64.wrap x1)))), (.bool (decide (n25 > (IntKind.u64.wrap x1)))), undef, undef, undef, undef, undef, undef, undef, undef, undef, undef, undef, undef, undef, undef, undef, undef, undef, undef, undef, undef, undef, undef, undef, undef, undef, undef, undef, undef, undef, undef, undef, undef, undef, undef, undef, undef, undef] H21))
 (f86_J0 R [(.pointer x0), (.int .i64 x1), undef, undef, (.string ({ data := #[] })), (.int .u64 n25), (.int .i64 n26), (.int .i64 n27), (.pointer x0), (.pointer (some ⟨i17, k18, none⟩)), (.pointer (some ⟨i17, (k18 + 2), none⟩)), (.int .i64 n19), (.bool false), (.tuple #[(.int .u64 n25), (.int .i64 n26), (.int .i64 n27)]), (.pointer x0), (.tuple #[(.int .u64 n25), (.int .i64 n26), (.int .i64 n27)]), (.int .u64 n25), (.int .i64 n26), (.int .i64 n27), (.int .i64 n27), (.bool (decide (n27 = 0))), (.bool false), undef, undef, undef, undef, undef, undef, undef, undef, (.bool false), undef, undef, undef, undef, undef, undef, undef, undef, undef, undef, undef, undef, undef, undef, undef, undef, undef, undef, undef, undef, undef, undef, undef, undef, undef, undef, undef, undef, undef, undef, undef, undef, undef, undef, undef, undef, undef] H21)) (fun v23 H22 => R (.panic v23) H22))
theorem f86_eq (x0 : Option Addr) (x1 : Int) (H : AH) (R : AEnd → AH → Prop) : awpF Try.prog f86_c (aPost Try.prog Try.f86 R) (([(.pointer x0), (.int .i64 x1)] : List Value) ++ List.replicate (Try.f86.ntmps - (([(.pointer x0), (.int .i64 x1)] : List Value)).length) undef) H = f86_B x0 x1 H R := by kernel_rfl
theorem f86_call (x0 : Option Addr) (x1 : Int) (H : AH) (R : AEnd → AH → Prop) (h : f86_B x0 x1 H R) : ACall Try.prog 86 ([(.pointer x0), (.int .i64 x1)] : List Value) H R :=
  acall_of mixed Try.func86 (by kernel_rfl : Try.f86.body = some f86_c) (by kernel_rfl) (by kernel_rfl) (awp_of (Eq.mpr (f86_eq x0 x1 H R) h))

/-! f112: (*switchyard/switchyardref02.Reader).Byte -/
noncomputable def f112_c : Code := Try.f112.body.getD .skip
noncomputable def f112_X0 (R : AEnd → AH → Prop) : AExit → List Value → AH → Prop := thenF (fun tm H => hold (awpF Try.prog (codeAt f112_c [1, 1]) (aPost Try.prog Try.f112 R) tm H)) (aPost Try.prog Try.f112 R)
def f112_J0 (R : AEnd → AH → Prop) (tm : List Value) (H : AH) : Prop := hold (awpF Try.prog (codeAt f112_c [1, 0, 1]) ((f112_X0 R)) tm H)
def f112_J1 (R : AEnd → AH → Prop) (tm : List Value) (H : AH) : Prop := hold (awpF Try.prog (codeAt f112_c [1, 1]) ((aPost Try.prog Try.f112 R)) tm H)
-- join 1: live 0:r
def f112_J1_B (s0 : Option Addr) (H : AH) (R : AEnd → AH → Prop) : Prop :=
 wPt s0 fun i1 k2 =>
 ldI .i64 i1 (k2 + 2) H fun n3 =>
 wIf (!decide (n3 = 0))
 (R (.ret (.int .i64 0)) H)
 (wPt s0 fun i4 k5 =>
 ldI .i64 i4 (k5 + 1) H fun n6 =>
 wPt s0 fun i7 k8 =>
 wSt i7 (k8 + 1) [(.int .i64 (IntKind.i64.wrap (n6 + 1)))] H fun H9 =>
 wPt s0 fun i10 k11 =>
 wPt s0 fun i12 k13 =>
 ldS i10 k11 H9 fun t14 =>
 ldI .i64 i12 (k13 + 1) H9 fun n15 =>
 wIxS t14 (IntKind.i64.wrap (n15 - 1)) fun n16 =>
 R (.ret (.int .i64 (IntKind.i64.wrap n16))) H9)
theorem f112_J1_eq (s0 : Option Addr) (s1 s2 s3 s4 s5 s6 s7 s8 s9 s10 s11 s12 s13 s14 s15 s16 s17 s18 s19 s20 s21 s22 s23 s24 s25 s26 s27 s28 s29 s30 s31 s32 s33 s34 s35 s36 s37 s38 s39 s40 s41 s42 s43 s44 s45 : Value) (H : AH) (R : AEnd → AH → Prop) : f112_J1 R [(.pointer s0), s1, s2, s3, s4, s5, s6, s7, s8, s9, s10, s11, s12, s13, s14, s15, s16, s17, s18, s19, s20, s21, s22, s23, s24, s25, s26, s27, s28, s29, s30, s31, s32, s33, s34, s35, s36, s37, s38, s39, s40, s41, s42, s43, s44, s45] H = f112_J1_B s0 H R := by kernel_rfl
-- join 0: live 0:r, 19:
def f112_J0_B (s0 : Option Addr) (s1 s2 s3 s4 s5 s6 s7 s8 s9 s10 s11 s12 s13 s14 s15 s16 s17 s18 : Value) (s19 : Bool) (s20 s21 s22 s23 s24 s25 s26 s27 s28 s29 s30 s31 s32 s33 s34 s35 s36 s37 s38 s39 s40 s41 s42 s43 s44 s45 : Value) (H : AH) (R : AEnd → AH → Prop) : Prop :=
 wIf s19
 (wPt s0 fun i17 k18 =>
 wSt i17 (k18 + 2) [(.int .i64 3)] H fun H19 =>
 f112_J1 R [(.pointer s0), s1, s2, s3, s4, s5, s6, s7, s8, s9, s10, s11, s12, s13, s14, s15, s16, s17, s18, (.bool true), (.pointer s0), (.pointer (some ⟨i17, k18, none⟩)), (.pointer (some ⟨i17, (k18 + 2), none⟩)), s23, s24, s25, s26, s27, s28, s29, s30, s31, s32, s33, s34, s35, s36, s37, s38, s39, s40, s41, s42, s43, s44, s45] H19)
 (f112_J1 R [(.pointer s0), s1, s2, s3, s4, s5, s6, s7, s8, s9, s10, s11, s12, s13, s14, s15, s16, s17, s18, (.bool false), s20, s21, s22, s23, s24, s25, s26, s27, s28, s29, s30, s31, s32, s33, s34, s35, s36, s37, s38, s39, s40, s41, s42, s43, s44, s45] H)
theorem f112_J0_eq (s0 : Option Addr) (s1 s2 s3 s4 s5 s6 s7 s8 s9 s10 s11 s12 s13 s14 s15 s16 s17 s18 : Value) (s19 : Bool) (s20 s21 s22 s23 s24 s25 s26 s27 s28 s29 s30 s31 s32 s33 s34 s35 s36 s37 s38 s39 s40 s41 s42 s43 s44 s45 : Value) (H : AH) (R : AEnd → AH → Prop) : f112_J0 R [(.pointer s0), s1, s2, s3, s4, s5, s6, s7, s8, s9, s10, s11, s12, s13, s14, s15, s16, s17, s18, (.bool s19), s20, s21, s22, s23, s24, s25, s26, s27, s28, s29, s30, s31, s32, s33, s34, s35, s36, s37, s38, s39, s40, s41, s42, s43, s44, s45] H = f112_J0_B s0 s1 s2 s3 s4 s5 s6 s7 s8 s9 s10 s11 s12 s13 s14 s15 s16 s17 s18 s19 s20 s21 s22 s23 s24 s25 s26 s27 s28 s29 s30 s31 s32 s33 s34 s35 s36 s37 s38 s39 s40 s41 s42 s43 s44 s45 H R := by kernel_rfl
def f112_B (x0 : Option Addr) (H : AH) (R : AEnd → AH → Prop) : Prop :=
 wPt x0 fun i20 k21 =>
 ldI .i64 i20 (k21 + 2) H fun n22 =>
 wIf (decide (n22 = 0))
 (wPt x0 fun i23 k24 =>
 wPt x0 fun i25 k26 =>
 (ldI .i64 i23 (k24 + 1) H fun n27 =>
 ldS i25 k26 H fun t28 =>
 f112_J0 R [(.pointer x0), undef, (.int .i64 0), (.pointer x0), (.pointer (some ⟨i20, k21, none⟩)), (.pointer (some ⟨i20, (k21 + 2), none⟩)), (.int .i64 n22), (.bool (decide (n22 = 0))), (.bool true), (.pointer x0), (.pointer (some ⟨i23, k24, none⟩)), (.pointer (some ⟨i23, (k24 + 1), none⟩)), (.int .i64 n27), (.pointer x0), (.pointer (some ⟨i25, k26, none⟩)), (.pointer (some ⟨i25, k26, none⟩)), (.string t28), (.int .i64 (t28.size : Int)), (.bool (decide (n27 ≥ (t28.size : Int)))), (.bool (decide (n27 ≥ (t28.size : Int)))), undef, undef, undef, undef, undef, undef, undef, undef, undef, undef, undef, undef, undef, undef, undef, undef, undef, undef, undef, undef, undef, undef, undef, undef, undef, undef] H) ∧
 (ldS i25 k26 H fun t29 =>
 ldI .i64 i23 (k24 + 1) H fun n30 =>
 f112_J0 R [(.pointer x0), undef, (.int .i64 0), (.pointer x0), (.pointer (some ⟨i20, k21, none⟩)), (.pointer (some ⟨i20, (k21 + 2), none⟩)), (.int .i64 n22), (.bool (decide (n22 = 0))), (.bool true), (.pointer x0), (.pointer (some ⟨i23, k24, none⟩)), (.pointer (some ⟨i23, (k24 + 1), none⟩)), (.int .i64 n30), (.pointer x0), (.pointer (some ⟨i25, k26, none⟩)), (.pointer (some ⟨i25, k26, none⟩)), (.string t29), (.int .i64 (t29.size : Int)), (.bool (decide (n30 ≥ (t29.size : Int)))), (.bool (decide (n30 ≥ (t29.size : Int)))), undef, undef, undef, undef, undef, undef, undef, undef, undef, undef, undef, undef, undef, undef, undef, undef, undef, undef, undef, undef, undef, undef, undef, undef, undef, undef] H))
 ((f112_J0 R [(.pointer x0), undef, (.int .i64 0), (.pointer x0), (.pointer (some ⟨i20, k21, none⟩)), (.pointer (some ⟨i20, (k21 + 2), none⟩)), (.int .i64 n22), (.bool (decide (n22 = 0))), (.bool false), undef, undef, undef, undef, undef, undef, undef, undef, undef, undef, (.bool false), undef, undef, undef, undef, undef, undef, undef, undef, undef, undef, undef, undef, undef, undef, undef, undef, undef, undef, undef, undef, undef, undef, undef, undef, undef, undef] H) ∧
 (f112_J0 R [(.pointer x0), undef, (.int .i64 0), (.pointer x0), (.pointer (some ⟨i20, k21, none⟩)), (.pointer (some ⟨i20, (k21 + 2), none⟩)), (.int .i64 n22), (.bool (decide (n22 = 0))), (.bool false), undef, undef, undef, undef, undef, undef, undef, undef, undef, undef, (.bool false), undef, undef, undef, undef, undef, undef, undef, undef, undef, undef, undef, undef, undef, undef, undef, undef, undef, undef, undef, undef, undef, undef, undef, undef, undef, undef] H))
theorem f112_eq (x0 : Option Addr) (H : AH) (R : AEnd → AH → Prop) : awpF Try.prog f112_c (aPost Try.prog Try.f112 R) (([(.pointer x0)] : List Value) ++ List.replicate (Try.f112.ntmps - (([(.pointer x0)] : List Value)).length) undef) H = f112_B x0 H R := by kernel_rfl
theorem f112_call (x0 : Option Addr) (H : AH) (R : AEnd → AH → Prop) (h : f112_B x0 H R) : ACall Try.prog 112 ([(.pointer x0)] : List Value) H R :=
  acall_of mixed Try.func112 (by kernel_rfl : Try.f112.body = some f112_c) (by kernel_rfl) (by kernel_rfl) (awp_of (Eq.mpr (f112_eq x0 H R) h))

/-! f113: (*switchyard/switchyardref02.Reader).Truth -/
noncomputable def f113_c : Code := Try.f113.body.getD .skip
noncomputable def f113_X0 (R : AEnd → AH → Prop) : AExit → List Value → AH → Prop := thenF (fun tm H => hold (awpF Try.prog (codeAt f113_c [1, 1]) (aPost Try.prog Try.f113 R) tm H)) (aPost Try.prog Try.f113 R)
def f113_J0 (R : AEnd → AH → Prop) (tm : List Value) (H : AH) : Prop := hold (awpF Try.prog (codeAt f113_c [1, 0, 1]) ((f113_X0 R)) tm H)
def f113_J1 (R : AEnd → AH → Prop) (tm : List Value) (H : AH) : Prop := hold (awpF Try.prog (codeAt f113_c [1, 1]) ((aPost Try.prog Try.f113 R)) tm H)
-- join 1: live 0:r
def f113_J1_B (s0 : Option Addr) (H : AH) (R : AEnd → AH → Prop) : Prop :=
 wCall Try.prog 112 [(.pointer s0)] H (fun r1 H2 =>
 opI .i64 r1 fun n5 =>
 R (.ret (.bool (decide (n5 = 1)))) H2) (fun v4 H3 => R (.panic v4) H3)
theorem f113_J1_eq (s0 : Option Addr) (s1 s2 s3 s4 s5 s6 s7 s8 s9 s10 s11 s12 s13 s14 s15 s16 s17 s18 s19 s20 s21 s22 s23 s24 s25 s26 s27 s28 s29 s30 s31 s32 s33 s34 s35 s36 s37 : Value) (H : AH) (R : AEnd → AH → Prop) : f113_J1 R [(.pointer s0), s1, s2, s3, s4, s5, s6, s7, s8, s9, s10, s11, s12, s13, s14, s15, s16, s17, s18, s19, s20, s21, s22, s23, s24, s25, s26, s27, s28, s29, s30, s31, s32, s33, s34, s35, s36, s37] H = f113_J1_B s0 H R := by kernel_rfl
-- join 0: live 0:r, 31:
def f113_J0_B (s0 : Option Addr) (s1 s2 s3 s4 s5 s6 s7 s8 s9 s10 s11 s12 s13 s14 s15 s16 s17 s18 s19 s20 s21 s22 s23 s24 s25 s26 s27 s28 s29 s30 : Value) (s31 : Bool) (s32 s33 s34 s35 s36 s37 : Value) (H : AH) (R : AEnd → AH → Prop) : Prop :=
 wIf s31
 (wPt s0 fun i6 k7 =>
 wSt i6 (k7 + 2) [(.int .i64 4)] H fun H8 =>
 f113_J1 R [(.pointer s0), s1, s2, s3, s4, s5, s6, s7, s8, s9, s10, s11, s12, s13, s14, s15, s16, s17, s18, s19, s20, s21, s22, s23, s24, s25, s26, s27, s28, s29, s30, (.bool true), (.pointer s0), (.pointer (some ⟨i6, k7, none⟩)), (.pointer (some ⟨i6, (k7 + 2), none⟩)), s35, s36, s37] H8)
 (f113_J1 R [(.pointer s0), s1, s2, s3, s4, s5, s6, s7, s8, s9, s10, s11, s12, s13, s14, s15, s16, s17, s18, s19, s20, s21, s22, s23, s24, s25, s26, s27, s28, s29, s30, (.bool false), s32, s33, s34, s35, s36, s37] H)
theorem f113_J0_eq (s0 : Option Addr) (s1 s2 s3 s4 s5 s6 s7 s8 s9 s10 s11 s12 s13 s14 s15 s16 s17 s18 s19 s20 s21 s22 s23 s24 s25 s26 s27 s28 s29 s30 : Value) (s31 : Bool) (s32 s33 s34 s35 s36 s37 : Value) (H : AH) (R : AEnd → AH → Prop) : f113_J0 R [(.pointer s0), s1, s2, s3, s4, s5, s6, s7, s8, s9, s10, s11, s12, s13, s14, s15, s16, s17, s18, s19, s20, s21, s22, s23, s24, s25, s26, s27, s28, s29, s30, (.bool s31), s32, s33, s34, s35, s36, s37] H = f113_J0_B s0 s1 s2 s3 s4 s5 s6 s7 s8 s9 s10 s11 s12 s13 s14 s15 s16 s17 s18 s19 s20 s21 s22 s23 s24 s25 s26 s27 s28 s29 s30 s31 s32 s33 s34 s35 s36 s37 H R := by kernel_rfl
def f113_B (x0 : Option Addr) (H : AH) (R : AEnd → AH → Prop) : Prop :=
 wPt x0 fun i9 k10 =>
 ldI .i64 i9 (k10 + 2) H fun n11 =>
 wIf (decide (n11 = 0))
 (wPt x0 fun i12 k13 =>
 wPt x0 fun i14 k15 =>
 (ldI .i64 i12 (k13 + 1) H fun n16 =>
 ldS i14 k15 H fun t17 =>
 wIf (decide (n16 < (t17.size : Int)))
 (wPt x0 fun i18 k19 =>
 wPt x0 fun i20 k21 =>
 (ldS i18 k19 H fun t22 =>
 ldI .i64 i20 (k21 + 1) H fun n23 =>
 wIxS t22 n23 fun n24 =>
 f113_J0 R [(.pointer x0), undef, (.bool false), (.pointer x0), (.pointer (some ⟨i9, k10, none⟩)), (.pointer (some ⟨i9, (k10 + 2), none⟩)), (.int .i64 n11), (.bool (decide (n11 = 0))), (.bool true), (.pointer x0), (.pointer (some ⟨i12, k13, none⟩)), (.pointer (some ⟨i12, (k13 + 1), none⟩)), (.int .i64 n16), (.pointer x0), (.pointer (some ⟨i14, k15, none⟩)), (.pointer (some ⟨i14, k15, none⟩)), (.string t17), (.int .i64 (t17.size : Int)), (.bool (decide (n16 < (t17.size : Int)))), (.bool (decide (n16 < (t17.size : Int)))), (.bool true), (.pointer x0), (.pointer (some ⟨i18, k19, none⟩)), (.pointer (some ⟨i18, k19, none⟩)), (.string t22), (.pointer x0), (.pointer (some ⟨i20, k21, none⟩)), (.pointer (some ⟨i20, (k21 + 1), none⟩)), (.int .i64 n23), (.int .u8 n24), (.bool (decide (n24 > 1))), (.bool (decide (n24 > 1))), undef, undef, undef, undef, undef, undef] H) ∧
 (ldI .i64 i20 (k21 + 1) H fun n25 =>
 ldS i18 k19 H fun t26 =>
 wIxS t26 n25 fun n27 =>
 f113_J0 R [(.pointer x0), undef, (.bool false), (.pointer x0), (.pointer (some ⟨i9, k10, none⟩)), (.pointer (some ⟨i9, (k10 + 2), none⟩)), (.int .i64 n11), (.bool (decide (n11 = 0))), (.bool true), (.pointer x0), (.pointer (some ⟨i12, k13, none⟩)), (.pointer (some ⟨i12, (k13 + 1), none⟩)), (.int .i64 n16), (.pointer x0), (.pointer (some ⟨i14, k15, none⟩)), (.pointer (some ⟨i14, k15, none⟩)), (.string t17), (.int .i64 (t17.size : Int)), (.bool (decide (n16 < (t17.size : Int)))), (.bool (decide (n16 < (t17.size : Int)))), (.bool true), (.pointer x0), (.pointer (some ⟨i18, k19, none⟩)), (.pointer (some ⟨i18, k19, none⟩)), (.string t26), (.pointer x0), (.pointer (some ⟨i20, k21, none⟩)), (.pointer (some ⟨i20, (k21 + 1), none⟩)), (.int .i64 n25), (.int .u8 n27), (.bool (decide (n27 > 1))), (.bool (decide (n27 > 1))), undef, undef, undef, undef, undef, undef] H))
 ((f113_J0 R [(.pointer x0), undef, (.bool false), (.pointer x0), (.pointer (some ⟨i9, k10, none⟩)), (.pointer (some ⟨i9, (k10 + 2), none⟩)), (.int .i64 n11), (.bool (decide (n11 = 0))), (.bool true), (.pointer x0), (.pointer (some ⟨i12, k13, none⟩)), (.pointer (some ⟨i12, (k13 + 1), none⟩)), (.int .i64 n16), (.pointer x0), (.pointer (some ⟨i14, k15, none⟩)), (.pointer (some ⟨i14, k15, none⟩)), (.string t17), (.int .i64 (t17.size : Int)), (.bool (decide (n16 < (t17.size : Int)))), (.bool (decide (n16 < (t17.size : Int)))), (.bool false), undef, undef, undef, undef, undef, undef, undef, undef, undef, undef, (.bool false), undef, undef, undef, undef, undef, undef] H) ∧
 (f113_J0 R [(.pointer x0), undef, (.bool false), (.pointer x0), (.pointer (some ⟨i9, k10, none⟩)), (.pointer (some ⟨i9, (k10 + 2), none⟩)), (.int .i64 n11), (.bool (decide (n11 = 0))), (.bool true), (.pointer x0), (.pointer (some ⟨i12, k13, none⟩)), (.pointer (some ⟨i12, (k13 + 1), none⟩)), (.int .i64 n16), (.pointer x0), (.pointer (some ⟨i14, k15, none⟩)), (.pointer (some ⟨i14, k15, none⟩)), (.string t17), (.int .i64 (t17.size : Int)), (.bool (decide (n16 < (t17.size : Int)))), (.bool (decide (n16 < (t17.size : Int)))), (.bool false), undef, undef, undef, undef, undef, undef, undef, undef, undef, undef, (.bool false), undef, undef, undef, undef, undef, undef] H))) ∧
 (ldS i14 k15 H fun t28 =>
 ldI .i64 i12 (k13 + 1) H fun n29 =>
 wIf (decide (n29 < (t28.size : Int)))
 (wPt x0 fun i30 k31 =>
 wPt x0 fun i32 k33 =>
 (ldS i30 k31 H fun t34 =>
 ldI .i64 i32 (k33 + 1) H fun n35 =>
 wIxS t34 n35 fun n36 =>
 f113_J0 R [(.pointer x0), undef, (.bool false), (.pointer x0), (.pointer (some ⟨i9, k10, none⟩)), (.pointer (some ⟨i9, (k10 + 2), none⟩)), (.int .i64 n11), (.bool (decide (n11 = 0))), (.bool true), (.pointer x0), (.pointer (some ⟨i12, k13, none⟩)), (.pointer (some ⟨i12, (k13 + 1), none⟩)), (.int .i64 n29), (.pointer x0), (.pointer (some ⟨i14, k15, none⟩)), (.pointer (some ⟨i14, k15, none⟩)), (.string t28), (.int .i64 (t28.size : Int)), (.bool (decide (n29 < (t28.size : Int)))), (.bool (decide (n29 < (t28.size : Int)))), (.bool true), (.pointer x0), (.pointer (some ⟨i30, k31, none⟩)), (.pointer (some ⟨i30, k31, none⟩)), (.string t34), (.pointer x0), (.pointer (some ⟨i32, k33, none⟩)), (.pointer (some ⟨i32, (k33 + 1), none⟩)), (.int .i64 n35), (.int .u8 n36), (.bool (decide (n36 > 1))), (.bool (decide (n36 > 1))), undef, undef, undef, undef, undef, undef] H) ∧
 (ldI .i64 i32 (k33 + 1) H fun n37 =>
 ldS i30 k31 H fun t38 =>
 wIxS t38 n37 fun n39 =>
 f113_J0 R [(.pointer x0), undef, (.bool false), (.pointer x0), (.pointer (some ⟨i9, k10, none⟩)), (.pointer (some ⟨i9, (k10 + 2), none⟩)), (.int .i64 n11), (.bool (decide (n11 = 0))), (.bool true), (.pointer x0), (.pointer (some ⟨i12, k13, none⟩)), (.pointer (some ⟨i12, (k13 + 1), none⟩)), (.int .i64 n29), (.pointer x0), (.pointer (some ⟨i14, k15, none⟩)), (.pointer (some ⟨i14, k15, none⟩)), (.string t28), (.int .i64 (t28.size : Int)), (.bool (decide (n29 < (t28.size : Int)))), (.bool (decide (n29 < (t28.size : Int)))), (.bool true), (.pointer x0), (.pointer (some ⟨i30, k31, none⟩)), (.pointer (some ⟨i30, k31, none⟩)), (.string t38), (.pointer x0), (.pointer (some ⟨i32, k33, none⟩)), (.pointer (some ⟨i32, (k33 + 1), none⟩)), (.int .i64 n37), (.int .u8 n39), (.bool (decide (n39 > 1))), (.bool (decide (n39 > 1))), undef, undef, undef, undef, undef, undef] H))
 ((f113_J0 R [(.pointer x0), undef, (.bool false), (.pointer x0), (.pointer (some ⟨i9, k10, none⟩)), (.pointer (some ⟨i9, (k10 + 2), none⟩)), (.int .i64 n11), (.bool (decide (n11 = 0))), (.bool true), (.pointer x0), (.pointer (some ⟨i12, k13, none⟩)), (.pointer (some ⟨i12, (k13 + 1), none⟩)), (.int .i64 n29), (.pointer x0), (.pointer (some ⟨i14, k15, none⟩)), (.pointer (some ⟨i14, k15, none⟩)), (.string t28), (.int .i64 (t28.size : Int)), (.bool (decide (n29 < (t28.size : Int)))), (.bool (decide (n29 < (t28.size : Int)))), (.bool false), undef, undef, undef, undef, undef, undef, undef, undef, undef, undef, (.bool false), undef, undef, undef, undef, undef, undef] H) ∧
 (f113_J0 R [(.pointer x0), undef, (.bool false), (.pointer x0), (.pointer (some ⟨i9, k10, none⟩)), (.pointer (some ⟨i9, (k10 + 2), none⟩)), (.int .i64 n11), (.bool (decide (n11 = 0))), (.bool true), (.pointer x0), (.pointer (some ⟨i12, k13, none⟩)), (.pointer (some ⟨i12, (k13 + 1), none⟩)), (.int .i64 n29), (.pointer x0), (.pointer (some ⟨i14, k15, none⟩)), (.pointer (some ⟨i14, k15, none⟩)), (.string t28), (.int .i64 (t28.size : Int)), (.bool (decide (n29 < (t28.size : Int)))), (.bool (decide (n29 < (t28.size : Int)))), (.bool false), undef, undef, undef, undef, undef, undef, undef, undef, undef, undef, (.bool false), undef, undef, undef, undef, undef, undef] H))))
 (((f113_J0 R [(.pointer x0), undef, (.bool false), (.pointer x0), (.pointer (some ⟨i9, k10, none⟩)), (.pointer (some ⟨i9, (k10 + 2), none⟩)), (.int .i64 n11), (.bool (decide (n11 = 0))), (.bool false), undef, undef, undef, undef, undef, undef, undef, undef, undef, undef, (.bool false), (.bool false), undef, undef, undef, undef, undef, undef, undef, undef, undef, undef, (.bool false), undef, undef, undef, undef, undef, undef] H) ∧
 (f113_J0 R [(.pointer x0), undef, (.bool false), (.pointer x0), (.pointer (some ⟨i9, k10, none⟩)), (.pointer (some ⟨i9, (k10 + 2), none⟩)), (.int .i64 n11), (.bool (decide (n11 = 0))), (.bool false), undef, undef, undef, undef, undef, undef, undef, undef, undef, undef, (.bool false), (.bool false), undef, undef, undef, undef, undef, undef, undef, undef, undef, undef, (.bool false), undef, undef, undef, undef, undef, undef] H)) ∧
 ((f113_J0 R [(.pointer x0), undef, (.bool false), (.pointer x0), (.pointer (some ⟨i9, k10, none⟩)), (.pointer (some ⟨i9, (k10 + 2), none⟩)), (.int .i64 n11), (.bool (decide (n11 = 0))), (.bool false), undef, undef, undef, undef, undef, undef, undef, undef, undef, undef, (.bool false), (.bool false), undef, undef, undef, undef, undef, undef, undef, undef, undef, undef, (.bool false), undef, undef, undef, undef, undef, undef] H) ∧
 (f113_J0 R [(.pointer x0), undef, (.bool false), (.pointer x0), (.pointer (some ⟨i9, k10, none⟩)), (.pointer (some ⟨i9, (k10 + 2), none⟩)), (.int .i64 n11), (.bool (decide (n11 = 0))), (.bool false), undef, undef, undef, undef, undef, undef, undef, undef, undef, undef, (.bool false), (.bool false), undef, undef, undef, undef, undef, undef, undef, undef, undef, undef, (.bool false), undef, undef, undef, undef, undef, undef] H)))
theorem f113_eq (x0 : Option Addr) (H : AH) (R : AEnd → AH → Prop) : awpF Try.prog f113_c (aPost Try.prog Try.f113 R) (([(.pointer x0)] : List Value) ++ List.replicate (Try.f113.ntmps - (([(.pointer x0)] : List Value)).length) undef) H = f113_B x0 H R := by kernel_rfl
theorem f113_call (x0 : Option Addr) (H : AH) (R : AEnd → AH → Prop) (h : f113_B x0 H R) : ACall Try.prog 113 ([(.pointer x0)] : List Value) H R :=
  acall_of mixed Try.func113 (by kernel_rfl : Try.f113.body = some f113_c) (by kernel_rfl) (by kernel_rfl) (awp_of (Eq.mpr (f113_eq x0 H R) h))

/-! f114: (*switchyard/switchyardref13.Reading).form -/
noncomputable def f114_c : Code := Try.f114.body.getD .skip
def f114_B (x0 : Option Addr) (H : AH) (R : AEnd → AH → Prop) : Prop :=
 wPt x0 fun i1 k2 =>
 ldI .i64 i1 (k2 + 2) H fun n3 =>
 wIf (decide (n3 = 0))
 (wPt x0 fun i4 k5 =>
 wSt i4 (k5 + 2) [(.int .i64 4)] H fun H6 =>
 R (.ret (.tuple #[])) H6)
 (R (.ret (.tuple #[])) H)
theorem f114_eq (x0 : Option Addr) (H : AH) (R : AEnd → AH → Prop) : awpF Try.prog f114_c (aPost Try.prog Try.f114 R) (([(.pointer x0)] : List Value) ++ List.replicate (Try.f114.ntmps - (([(.pointer x0)] : List Value)).length) undef) H = f114_B x0 H R := by kernel_rfl
theorem f114_call (x0 : Option Addr) (H : AH) (R : AEnd → AH → Prop) (h : f114_B x0 H R) : ACall Try.prog 114 ([(.pointer x0)] : List Value) H R :=
  acall_of mixed Try.func114 (by kernel_rfl : Try.f114.body = some f114_c) (by kernel_rfl) (by kernel_rfl) (awp_of (Eq.mpr (f114_eq x0 H R) h))

/-! f124: (*switchyard/switchyardref02.Reader).Count -/
noncomputable def f124_c : Code := Try.f124.body.getD .skip
def f124_B (x0 : Option Addr) (H : AH) (R : AEnd → AH → Prop) : Prop :=
 wPt x0 fun i1 k2 =>
 ldI .i64 i1 (k2 + 2) H fun n3 =>
 wIf (!decide (n3 = 0))
 (R (.ret (.int .u64 0)) H)
 (wCall Try.prog 125 [(.pointer x0)] H (fun r4 H5 =>
 opT 3 r4 fun l8 =>
 opI .u64 (l8.headD undef) fun n9 =>
 opI .i64 (l8.tail.headD undef) fun n10 =>
 opI .i64 (l8.tail.tail.headD undef) fun n11 =>
 wIf (!decide (n11 = 0))
 (wPt x0 fun i12 k13 =>
 wSt i12 (k13 + 2) [(.int .i64 n11)] H5 fun H14 =>
 R (.ret (.int .u64 0)) H14)
 (wPt x0 fun i15 k16 =>
 wSt i15 (k16 + 1) [(.int .i64 n10)] H5 fun H17 =>
 R (.ret (.int .u64 n9)) H17)) (fun v7 H6 => R (.panic v7) H6))
theorem f124_eq (x0 : Option Addr) (H : AH) (R : AEnd → AH → Prop) : awpF Try.prog f124_c (aPost Try.prog Try.f124 R) (([(.pointer x0)] : List Value) ++ List.replicate (Try.f124.ntmps - (([(.pointer x0)] : List Value)).length) undef) H = f124_B x0 H R := by kernel_rfl
theorem f124_call (x0 : Option Addr) (H : AH) (R : AEnd → AH → Prop) (h : f124_B x0 H R) : ACall Try.prog 124 ([(.pointer x0)] : List Value) H R :=
  acall_of mixed Try.func124 (by kernel_rfl : Try.f124.body = some f124_c) (by kernel_rfl) (by kernel_rfl) (awp_of (Eq.mpr (f124_eq x0 H R) h))

/-! f125: (*switchyard/switchyardref02.Reader).count -/
noncomputable def f125_c : Code := Try.f125.body.getD .skip
noncomputable def f125_X0 (R : AEnd → AH → Prop) : AExit → List Value → AH → Prop := thenF (fun tm H => hold (awpF Try.prog (codeAt f125_c [1, 1, 1]) (aPost Try.prog Try.f125 R) tm H)) (aPost Try.prog Try.f125 R)
noncomputable def f125_X1 (R : AEnd → AH → Prop) : AExit → List Value → AH → Prop := inBlockF 0 (f125_X0 R)
noncomputable def f125_Q0 (R : AEnd → AH → Prop) : AExit → List Value → AH → Prop := (f125_X1 R)
def f125_L0 (R : AEnd → AH → Prop) (tm : List Value) (H : AH) : Prop := awpF Try.prog (codeAt f125_c [1, 1, 0, 1, 0]) (f125_Q0 R) tm H
noncomputable def f125_X2 (K0 : List Value → AH → Prop) (R : AEnd → AH → Prop) : AExit → List Value → AH → Prop := thenF (fun tm H => hold (awpF Try.prog (codeAt f125_c [1, 1, 0, 1, 0, 0, 1, 1]) (thenF K0 (f125_Q0 R)) tm H)) (thenF K0 (f125_Q0 R))
noncomputable def f125_X3 (K0 : List Value → AH → Prop) (R : AEnd → AH → Prop) : AExit → List Value → AH → Prop := inBlockF 1 (f125_X2 K0 R)
noncomputable def f125_X4 (K0 : List Value → AH → Prop) (R : AEnd → AH → Prop) : AExit → List Value → AH → Prop := thenF (fun tm H => hold (awpF Try.prog (codeAt f125_c [1, 1, 0, 1, 0, 0, 1, 0, 0, 1]) (f125_X3 K0 R) tm H)) (f125_X3 K0 R)
def f125_J0 (K0 : List Value → AH → Prop) (R : AEnd → AH → Prop) (tm : List Value) (H : AH) : Prop := hold (awpF Try.prog (codeAt f125_c [1, 1, 0, 1, 0, 0, 1, 0, 0, 0, 1]) ((f125_X4 K0 R)) tm H)
def f125_J1 (K0 : List Value → AH → Prop) (R : AEnd → AH → Prop) (tm : List Value) (H : AH) : Prop := hold (awpF Try.prog (codeAt f125_c [1, 1, 0, 1, 0, 0, 1, 0, 0, 1]) ((f125_X3 K0 R)) tm H)
def f125_J2 (K0 : List Value → AH → Prop) (R : AEnd → AH → Prop) (tm : List Value) (H : AH) : Prop := hold (awpF Try.prog (codeAt f125_c [1, 1, 0, 1, 0, 0, 1, 0, 0, 1, 1]) ((f125_X3 K0 R)) tm H)
noncomputable def f125_X5 (K0 : List Value → AH → Prop) (R : AEnd → AH → Prop) : AExit → List Value → AH → Prop := thenF (fun tm H => hold (awpF Try.prog (codeAt f125_c [1, 1, 0, 1, 0, 0, 1, 0, 0, 1, 1, 1]) (f125_X3 K0 R) tm H)) (f125_X3 K0 R)
def f125_J3 (K0 : List Value → AH → Prop) (R : AEnd → AH → Prop) (tm : List Value) (H : AH) : Prop := hold (awpF Try.prog (codeAt f125_c [1, 1, 0, 1, 0, 0, 1, 0, 0, 1, 1, 0, 1]) ((f125_X5 K0 R)) tm H)
def f125_J4 (K0 : List Value → AH → Prop) (R : AEnd → AH → Prop) (tm : List Value) (H : AH) : Prop := hold (awpF Try.prog (codeAt f125_c [1, 1, 0, 1, 0, 0, 1, 0, 0, 1, 1, 1]) ((f125_X3 K0 R)) tm H)
noncomputable def f125_X6 (K0 : List Value → AH → Prop) (R : AEnd → AH → Prop) : AExit → List Value → AH → Prop := thenF (fun tm H => hold (awpF Try.prog (codeAt f125_c [1, 1, 0, 1, 0, 0, 1, 0, 0, 1, 1, 1, 1, 1, 0, 1]) (f125_X3 K0 R) tm H)) (f125_X3 K0 R)
def f125_J5 (K0 : List Value → AH → Prop) (R : AEnd → AH → Prop) (tm : List Value) (H : AH) : Prop := hold (awpF Try.prog (codeAt f125_c [1, 1, 0, 1, 0, 0, 1, 0, 0, 1, 1, 1, 1, 1, 0, 0, 1]) ((f125_X6 K0 R)) tm H)
def f125_J6 (K0 : List Value → AH → Prop) (R : AEnd → AH → Prop) (tm : List Value) (H : AH) : Prop := hold (awpF Try.prog (codeAt f125_c [1, 1, 0, 1, 0, 0, 1, 0, 0, 1, 1, 1, 1, 1, 0, 1]) ((f125_X3 K0 R)) tm H)
def f125_J7 (K0 : List Value → AH → Prop) (R : AEnd → AH → Prop) (tm : List Value) (H : AH) : Prop := hold (awpF Try.prog (codeAt f125_c [1, 1, 0, 1, 0, 0, 1, 1]) ((thenF K0 (f125_Q0 R))) tm H)
def f125_J8 (R : AEnd → AH → Prop) (tm : List Value) (H : AH) : Prop := hold (awpF Try.prog (codeAt f125_c [1, 1, 1]) ((aPost Try.prog Try.f125 R)) tm H)
-- join 8: live 
-- join 7: live 0:G, 5:d, 6:e
def f125_J7_B (s0 : Option Addr) (s1 s2 s3 s4 : Value) (s5 s6 : Int) (s7 s8 s9 s12 s13 s14 s15 s16 s17 s18 s19 s20 s21 s22 s23 s24 s25 s26 s27 s28 s29 s30 s31 s32 s33 s34 s35 s36 s37 s38 s39 s40 s41 s42 s43 s44 s45 s46 s47 s48 s49 s50 s51 s52 s53 s54 s55 s56 s57 s58 s59 s60 s61 s62 s63 s64 s65 s66 s67 s68 s69 s70 s71 s72 s73 s74 s75 s76 s77 s78 : Value) (H : AH) (K0 : List Value → AH → Prop) (R : AEnd → AH → Prop) : Prop :=
 K0 [(.pointer s0), s1, s2, s3, s4, (.int .u64 s5), (.int .i64 (IntKind.i64.wrap (s6 + 1))), s7, s8, s9, (.int .i64 s6), (.int .i64 (IntKind.i64.wrap (s6 + 1))), s12, s13, s14, s15, s16, s17, s18, s19, s20, s21, s22, s23, s24, s25, s26, s27, s28, s29, s30, s31, s32, s33, s34, s35, s36, s37, s38, s39, s40, s41, s42, s43, s44, s45, s46, s47, s48, s49, s50, s51, s52, s53, s54, s55, s56, s57, s58, s59, s60, s61, s62, s63, s64, s65, s66, s67, s68, s69, s70, s71, s72, s73, s74, s75, s76, s77, s78] H
theorem f125_J7_eq (s0 : Option Addr) (s1 s2 s3 s4 : Value) (s5 s6 : Int) (s7 s8 s9 s10 s11 s12 s13 s14 s15 s16 s17 s18 s19 s20 s21 s22 s23 s24 s25 s26 s27 s28 s29 s30 s31 s32 s33 s34 s35 s36 s37 s38 s39 s40 s41 s42 s43 s44 s45 s46 s47 s48 s49 s50 s51 s52 s53 s54 s55 s56 s57 s58 s59 s60 s61 s62 s63 s64 s65 s66 s67 s68 s69 s70 s71 s72 s73 s74 s75 s76 s77 s78 : Value) (H : AH) (K0 : List Value → AH → Prop) (R : AEnd → AH → Prop) : f125_J7 K0 R [(.pointer s0), s1, s2, s3, s4, (.int .u64 s5), (.int .i64 s6), s7, s8, s9, s10, s11, s12, s13, s14, s15, s16, s17, s18, s19, s20, s21, s22, s23, s24, s25, s26, s27, s28, s29, s30, s31, s32, s33, s34, s35, s36, s37, s38, s39, s40, s41, s42, s43, s44, s45, s46, s47, s48, s49, s50, s51, s52, s53, s54, s55, s56, s57, s58, s59, s60, s61, s62, s63, s64, s65, s66, s67, s68, s69, s70, s71, s72, s73, s74, s75, s76, s77, s78] H = f125_J7_B s0 s1 s2 s3 s4 s5 s6 s7 s8 s9 s12 s13 s14 s15 s16 s17 s18 s19 s20 s21 s22 s23 s24 s25 s26 s27 s28 s29 s30 s31 s32 s33 s34 s35 s36 s37 s38 s39 s40 s41 s42 s43 s44 s45 s46 s47 s48 s49 s50 s51 s52 s53 s54 s55 s56 s57 s58 s59 s60 s61 s62 s63 s64 s65 s66 s67 s68 s69 s70 s71 s72 s73 s74 s75 s76 s77 s78 H K0 R := by kernel_rfl
-- join 6: live 0:G, 5:d, 6:e
def f125_J6_B (s0 : Option Addr) (s5 s6 : Int) (H : AH) (K0 : List Value → AH → Prop) (R : AEnd → AH → Prop) : Prop :=
 wPt s0 fun i1 k2 =>
 ldI .i64 i1 (k2 + 1) H fun n3 =>
 R (.ret (.tuple #[(.int .u64 s5), (.int .i64 (IntKind.i64.wrap ((IntKind.i64.wrap (n3 + s6)) + 1))), (.int .i64 0)])) H
theorem f125_J6_eq (s0 : Option Addr) (s1 s2 s3 s4 : Value) (s5 s6 : Int) (s7 s8 s9 s10 s11 s12 s13 s14 s15 s16 s17 s18 s19 s20 s21 s22 s23 s24 s25 s26 s27 s28 s29 s30 s31 s32 s33 s34 s35 s36 s37 s38 s39 s40 s41 s42 s43 s44 s45 s46 s47 s48 s49 s50 s51 s52 s53 s54 s55 s56 s57 s58 s59 s60 s61 s62 s63 s64 s65 s66 s67 s68 s69 s70 s71 s72 s73 s74 s75 s76 s77 s78 : Value) (H : AH) (K0 : List Value → AH → Prop) (R : AEnd → AH → Prop) : f125_J6 K0 R [(.pointer s0), s1, s2, s3, s4, (.int .u64 s5), (.int .i64 s6), s7, s8, s9, s10, s11, s12, s13, s14, s15, s16, s17, s18, s19, s20, s21, s22, s23, s24, s25, s26, s27, s28, s29, s30, s31, s32, s33, s34, s35, s36, s37, s38, s39, s40, s41, s42, s43, s44, s45, s46, s47, s48, s49, s50, s51, s52, s53, s54, s55, s56, s57, s58, s59, s60, s61, s62, s63, s64, s65, s66, s67, s68, s69, s70, s71, s72, s73, s74, s75, s76, s77, s78] H = f125_J6_B s0 s5 s6 H K0 R := by kernel_rfl
-- join 5: live 0:G, 5:d, 6:e, 70:?
def f125_J5_B (s0 : Option Addr) (s1 s2 s3 s4 : Value) (s5 s6 : Int) (s7 s8 s9 s10 s11 s12 s13 s14 s15 s16 s17 s18 s19 s20 s21 s22 s23 s24 s25 s26 s27 s28 s29 s30 s31 s32 s33 s34 s35 s36 s37 s38 s39 s40 s41 s42 s43 s44 s45 s46 s47 s48 s49 s50 s51 s52 s53 s54 s55 s56 s57 s58 s59 s60 s61 s62 s63 s64 s65 s66 s67 s68 s69 : Value) (s70 : Bool) (s71 s72 s73 s74 s75 s76 s77 s78 : Value) (H : AH) (K0 : List Value → AH → Prop) (R : AEnd → AH → Prop) : Prop :=
 wIf s70
 (R (.ret (.tuple #[(.int .u64 0), (.int .i64 0), (.int .i64 4)])) H)
 (f125_J6 K0 R [(.pointer s0), s1, s2, s3, s4, (.int .u64 s5), (.int .i64 s6), s7, s8, s9, s10, s11, s12, s13, s14, s15, s16, s17, s18, s19, s20, s21, s22, s23, s24, s25, s26, s27, s28, s29, s30, s31, s32, s33, s34, s35, s36, s37, s38, s39, s40, s41, s42, s43, s44, s45, s46, s47, s48, s49, s50, s51, s52, s53, s54, s55, s56, s57, s58, s59, s60, s61, s62, s63, s64, s65, s66, s67, s68, s69, (.bool false), s71, s72, s73, s74, s75, s76, s77, s78] H)
theorem f125_J5_eq (s0 : Option Addr) (s1 s2 s3 s4 : Value) (s5 s6 : Int) (s7 s8 s9 s10 s11 s12 s13 s14 s15 s16 s17 s18 s19 s20 s21 s22 s23 s24 s25 s26 s27 s28 s29 s30 s31 s32 s33 s34 s35 s36 s37 s38 s39 s40 s41 s42 s43 s44 s45 s46 s47 s48 s49 s50 s51 s52 s53 s54 s55 s56 s57 s58 s59 s60 s61 s62 s63 s64 s65 s66 s67 s68 s69 : Value) (s70 : Bool) (s71 s72 s73 s74 s75 s76 s77 s78 : Value) (H : AH) (K0 : List Value → AH → Prop) (R : AEnd → AH → Prop) : f125_J5 K0 R [(.pointer s0), s1, s2, s3, s4, (.int .u64 s5), (.int .i64 s6), s7, s8, s9, s10, s11, s12, s13, s14, s15, s16, s17, s18, s19, s20, s21, s22, s23, s24, s25, s26, s27, s28, s29, s30, s31, s32, s33, s34, s35, s36, s37, s38, s39, s40, s41, s42, s43, s44, s45, s46, s47, s48, s49, s50, s51, s52, s53, s54, s55, s56, s57, s58, s59, s60, s61, s62, s63, s64, s65, s66, s67, s68, s69, (.bool s70), s71, s72, s73, s74, s75, s76, s77, s78] H = f125_J5_B s0 s1 s2 s3 s4 s5 s6 s7 s8 s9 s10 s11 s12 s13 s14 s15 s16 s17 s18 s19 s20 s21 s22 s23 s24 s25 s26 s27 s28 s29 s30 s31 s32 s33 s34 s35 s36 s37 s38 s39 s40 s41 s42 s43 s44 s45 s46 s47 s48 s49 s50 s51 s52 s53 s54 s55 s56 s57 s58 s59 s60 s61 s62 s63 s64 s65 s66 s67 s68 s69 s70 s71 s72 s73 s74 s75 s76 s77 s78 H K0 R := by kernel_rfl
-- join 4: live 0:G, 5:d, 6:e, 7:.
def f125_J4_B (s0 : Option Addr) (s1 s2 s3 s4 : Value) (s5 s6 s7 : Int) (s8 s9 s10 s11 s12 s13 s14 s15 s16 s17 s18 s19 s20 s21 s22 s23 s24 s25 s26 s27 s28 s29 s30 s31 s32 s33 s34 s35 s36 s37 s38 s39 s40 s41 s52 s53 s54 s55 s56 s57 s58 s59 s60 s61 s62 s63 s64 s65 s66 s67 s68 s69 s70 s71 s72 s73 s74 s75 s76 s77 s78 : Value) (H : AH) (K0 : List Value → AH → Prop) (R : AEnd → AH → Prop) : Prop :=
 wNn (IntKind.u64.wrap (IntKind.i64.wrap (7 * s6)))
 (wIf (decide (s7 < 128))
 (wPt s0 fun i4 k5 =>
 wPt s0 fun i6 k7 =>
 wPt s0 fun i8 k9 =>
 ldS i4 k5 H fun t10 =>
 ldI .i64 i6 (k7 + 1) H fun n11 =>
 ldI .i64 i8 (k9 + 1) H fun n12 =>
 wSlS t10 n11 (IntKind.i64.wrap ((IntKind.i64.wrap (n12 + s6)) + 1)) fun t13 =>
 wCall Try.prog 70 [(.int .u64 (IntKind.u64.wrap (s5 + (IntKind.u64.wrap ((Int.tmod s7 128) * (2 ^ (min (Int.toNat (IntKind.u64.wrap (IntKind.i64.wrap (7 * s6)))) IntKind.u64.bits)))))))] H (fun r14 H15 =>
 opS r14 fun t18 =>
 wPin i8 (k9 + 1) [(.int .i64 n12)] H15 <|
 wPin i6 (k7 + 1) [(.int .i64 n11)] H15 <|
 wPin i4 k5 [(.string t10)] H15 <|
 f125_J5 K0 R [(.pointer s0), s1, s2, s3, s4, (.int .u64 (IntKind.u64.wrap (s5 + (IntKind.u64.wrap ((Int.tmod s7 128) * (2 ^ (min (Int.toNat (IntKind.u64.wrap (IntKind.i64.wrap (7 * s6)))) IntKind.u64.bits))))))), (.int .i64 s6), (.int .u64 s7), s8, s9, s10, s11, s12, s13, s14, s15, s16, s17, s18, s19, s20, s21, s22, s23, s24, s25, s26, s27, s28, s29, s30, s31, s32, s33, s34, s35, s36, s37, s38, s39, s40, s41, (.int .u64 s5), (.int .u64 s7), (.int .u64 (Int.tmod s7 128)), (.int .i64 s6), (.int .i64 (IntKind.i64.wrap (7 * s6))), (.int .u64 (IntKind.u64.wrap (IntKind.i64.wrap (7 * s6)))), (.int .u64 (IntKind.u64.wrap ((Int.tmod s7 128) * (2 ^ (min (Int.toNat (IntKind.u64.wrap (IntKind.i64.wrap (7 * s6)))) IntKind.u64.bits))))), (.int .u64 (IntKind.u64.wrap (s5 + (IntKind.u64.wrap ((Int.tmod s7 128) * (2 ^ (min (Int.toNat (IntKind.u64.wrap (IntKind.i64.wrap (7 * s6)))) IntKind.u64.bits))))))), (.int .u64 s7), (.bool true), (.int .u64 (IntKind.u64.wrap (s5 + (IntKind.u64.wrap ((Int.tmod s7 128) * (2 ^ (min (Int.toNat (IntKind.u64.wrap (IntKind.i64.wrap (7 * s6)))) IntKind.u64.bits))))))), (.string t18), (.pointer s0), (.pointer (some ⟨i4, k5, none⟩)), (.pointer (some ⟨i4, k5, none⟩)), (.string t10), (.pointer s0), (.pointer (some ⟨i6, k7, none⟩)), (.pointer (some ⟨i6, (k7 + 1), none⟩)), (.int .i64 n11), (.pointer s0), (.pointer (some ⟨i8, k9, none⟩)), (.pointer (some ⟨i8, (k9 + 1), none⟩)), (.int .i64 n12), (.int .i64 s6), (.int .i64 (IntKind.i64.wrap (n12 + s6))), (.int .i64 (IntKind.i64.wrap ((IntKind.i64.wrap (n12 + s6)) + 1))), (.string t13), (.bool (!decide (t18 = t13))), s71, s72, s73, s74, s75, s76, s77, s78] H15) (fun v17 H16 => R (.panic v17) H16))
 (f125_J7 K0 R [(.pointer s0), s1, s2, s3, s4, (.int .u64 (IntKind.u64.wrap (s5 + (IntKind.u64.wrap ((Int.tmod s7 128) * (2 ^ (min (Int.toNat (IntKind.u64.wrap (IntKind.i64.wrap (7 * s6)))) IntKind.u64.bits))))))), (.int .i64 s6), (.int .u64 s7), s8, s9, s10, s11, s12, s13, s14, s15, s16, s17, s18, s19, s20, s21, s22, s23, s24, s25, s26, s27, s28, s29, s30, s31, s32, s33, s34, s35, s36, s37, s38, s39, s40, s41, (.int .u64 s5), (.int .u64 s7), (.int .u64 (Int.tmod s7 128)), (.int .i64 s6), (.int .i64 (IntKind.i64.wrap (7 * s6))), (.int .u64 (IntKind.u64.wrap (IntKind.i64.wrap (7 * s6)))), (.int .u64 (IntKind.u64.wrap ((Int.tmod s7 128) * (2 ^ (min (Int.toNat (IntKind.u64.wrap (IntKind.i64.wrap (7 * s6)))) IntKind.u64.bits))))), (.int .u64 (IntKind.u64.wrap (s5 + (IntKind.u64.wrap ((Int.tmod s7 128) * (2 ^ (min (Int.toNat (IntKind.u64.wrap (IntKind.i64.wrap (7 * s6)))) IntKind.u64.bits))))))), (.int .u64 s7), (.bool false), s52, s53, s54, s55, s56, s57, s58, s59, s60, s61, s62, s63, s64, s65, s66, s67, s68, s69, s70, s71, s72, s73, s74, s75, s76, s77, s78] H))
theorem f125_J4_eq (s0 : Option Addr) (s1 s2 s3 s4 : Value) (s5 s6 s7 : Int) (s8 s9 s10 s11 s12 s13 s14 s15 s16 s17 s18 s19 s20 s21 s22 s23 s24 s25 s26 s27 s28 s29 s30 s31 s32 s33 s34 s35 s36 s37 s38 s39 s40 s41 s42 s43 s44 s45 s46 s47 s48 s49 s50 s51 s52 s53 s54 s55 s56 s57 s58 s59 s60 s61 s62 s63 s64 s65 s66 s67 s68 s69 s70 s71 s72 s73 s74 s75 s76 s77 s78 : Value) (H : AH) (K0 : List Value → AH → Prop) (R : AEnd → AH → Prop) : f125_J4 K0 R [(.pointer s0), s1, s2, s3, s4, (.int .u64 s5), (.int .i64 s6), (.int .u64 s7), s8, s9, s10, s11, s12, s13, s14, s15, s16, s17, s18, s19, s20, s21, s22, s23, s24, s25, s26, s27, s28, s29, s30, s31, s32, s33, s34, s35, s36, s37, s38, s39, s40, s41, s42, s43, s44, s45, s46, s47, s48, s49, s50, s51, s52, s53, s54, s55, s56, s57, s58, s59, s60, s61, s62, s63, s64, s65, s66, s67, s68, s69, s70, s71, s72, s73, s74, s75, s76, s77, s78] H = f125_J4_B s0 s1 s2 s3 s4 s5 s6 s7 s8 s9 s10 s11 s12 s13 s14 s15 s16 s17 s18 s19 s20 s21 s22 s23 s24 s25 s26 s27 s28 s29 s30 s31 s32 s33 s34 s35 s36 s37 s38 s39 s40 s41 s52 s53 s54 s55 s56 s57 s58 s59 s60 s61 s62 s63 s64 s65 s66 s67 s68 s69 s70 s71 s72 s73 s74 s75 s76 s77 s78 H K0 R := by kernel_rfl
-- join 3: live 0:G, 5:d, 6:e, 7:., 41:?
def f125_J3_B (s0 : Option Addr) (s1 s2 s3 s4 : Value) (s5 s6 s7 : Int) (s8 s9 s10 s11 s12 s13 s14 s15 s16 s17 s18 s19 s20 s21 s22 s23 s24 s25 s26 s27 s28 s29 s30 s31 s32 s33 s34 s35 s36 s37 s38 s39 s40 : Value) (s41 : Bool) (s42 s43 s44 s45 s46 s47 s48 s49 s50 s51 s52 s53 s54 s55 s56 s57 s58 s59 s60 s61 s62 s63 s64 s65 s66 s67 s68 s69 s70 s71 s72 s73 s74 s75 s76 s77 s78 : Value) (H : AH) (K0 : List Value → AH → Prop) (R : AEnd → AH → Prop) : Prop :=
 wIf s41
 (R (.ret (.tuple #[(.int .u64 0), (.int .i64 0), (.int .i64 4)])) H)
 (f125_J4 K0 R [(.pointer s0), s1, s2, s3, s4, (.int .u64 s5), (.int .i64 s6), (.int .u64 s7), s8, s9, s10, s11, s12, s13, s14, s15, s16, s17, s18, s19, s20, s21, s22, s23, s24, s25, s26, s27, s28, s29, s30, s31, s32, s33, s34, s35, s36, s37, s38, s39, s40, (.bool false), s42, s43, s44, s45, s46, s47, s48, s49, s50, s51, s52, s53, s54, s55, s56, s57, s58, s59, s60, s61, s62, s63, s64, s65, s66, s67, s68, s69, s70, s71, s72, s73, s74, s75, s76, s77, s78] H)
theorem f125_J3_eq (s0 : Option Addr) (s1 s2 s3 s4 : Value) (s5 s6 s7 : Int) (s8 s9 s10 s11 s12 s13 s14 s15 s16 s17 s18 s19 s20 s21 s22 s23 s24 s25 s26 s27 s28 s29 s30 s31 s32 s33 s34 s35 s36 s37 s38 s39 s40 : Value) (s41 : Bool) (s42 s43 s44 s45 s46 s47 s48 s49 s50 s51 s52 s53 s54 s55 s56 s57 s58 s59 s60 s61 s62 s63 s64 s65 s66 s67 s68 s69 s70 s71 s72 s73 s74 s75 s76 s77 s78 : Value) (H : AH) (K0 : List Value → AH → Prop) (R : AEnd → AH → Prop) : f125_J3 K0 R [(.pointer s0), s1, s2, s3, s4, (.int .u64 s5), (.int .i64 s6), (.int .u64 s7), s8, s9, s10, s11, s12, s13, s14, s15, s16, s17, s18, s19, s20, s21, s22, s23, s24, s25, s26, s27, s28, s29, s30, s31, s32, s33, s34, s35, s36, s37, s38, s39, s40, (.bool s41), s42, s43, s44, s45, s46, s47, s48, s49, s50, s51, s52, s53, s54, s55, s56, s57, s58, s59, s60, s61, s62, s63, s64, s65, s66, s67, s68, s69, s70, s71, s72, s73, s74, s75, s76, s77, s78] H = f125_J3_B s0 s1 s2 s3 s4 s5 s6 s7 s8 s9 s10 s11 s12 s13 s14 s15 s16 s17 s18 s19 s20 s21 s22 s23 s24 s25 s26 s27 s28 s29 s30 s31 s32 s33 s34 s35 s36 s37 s38 s39 s40 s41 s42 s43 s44 s45 s46 s47 s48 s49 s50 s51 s52 s53 s54 s55 s56 s57 s58 s59 s60 s61 s62 s63 s64 s65 s66 s67 s68 s69 s70 s71 s72 s73 s74 s75 s76 s77 s78 H K0 R := by kernel_rfl
-- join 2: live 0:G, 5:d, 6:e, 7:.
def f125_J2_B (s0 : Option Addr) (s1 s2 s3 s4 : Value) (s5 s6 s7 : Int) (s8 s9 s10 s11 s12 s13 s14 s15 s16 s17 s18 s19 s20 s21 s22 s23 s24 s25 s26 s27 s28 s29 s30 s31 s32 s33 s34 s35 s42 s43 s44 s45 s46 s47 s48 s49 s50 s51 s52 s53 s54 s55 s56 s57 s58 s59 s60 s61 s62 s63 s64 s65 s66 s67 s68 s69 s70 s71 s72 s73 s74 s75 s76 s77 s78 : Value) (H : AH) (K0 : List Value → AH → Prop) (R : AEnd → AH → Prop) : Prop :=
 wIf (decide (s6 = 9))
 (f125_J3 K0 R [(.pointer s0), s1, s2, s3, s4, (.int .u64 s5), (.int .i64 s6), (.int .u64 s7), s8, s9, s10, s11, s12, s13, s14, s15, s16, s17, s18, s19, s20, s21, s22, s23, s24, s25, s26, s27, s28, s29, s30, s31, s32, s33, s34, s35, (.int .i64 s6), (.bool (decide (s6 = 9))), (.bool true), (.int .u64 s7), (.bool (decide (s7 > 1))), (.bool (decide (s7 > 1))), s42, s43, s44, s45, s46, s47, s48, s49, s50, s51, s52, s53, s54, s55, s56, s57, s58, s59, s60, s61, s62, s63, s64, s65, s66, s67, s68, s69, s70, s71, s72, s73, s74, s75, s76, s77, s78] H)
 (f125_J3 K0 R [(.pointer s0), s1, s2, s3, s4, (.int .u64 s5), (.int .i64 s6), (.int .u64 s7), s8, s9, s10, s11, s12, s13, s14, s15, s16, s17, s18, s19, s20, s21, s22, s23, s24, s25, s26, s27, s28, s29, s30, s31, s32, s33, s34, s35, (.int .i64 s6), (.bool (decide (s6 = 9))), (.bool false), undef, undef, (.bool false), s42, s43, s44, s45, s46, s47, s48, s49, s50, s51, s52, s53, s54, s55, s56, s57, s58, s59, s60, s61, s62, s63, s64, s65, s66, s67, s68, s69, s70, s71, s72, s73, s74, s75, s76, s77, s78] H)
theorem f125_J2_eq (s0 : Option Addr) (s1 s2 s3 s4 : Value) (s5 s6 s7 : Int) (s8 s9 s10 s11 s12 s13 s14 s15 s16 s17 s18 s19 s20 s21 s22 s23 s24 s25 s26 s27 s28 s29 s30 s31 s32 s33 s34 s35 s36 s37 s38 s39 s40 s41 s42 s43 s44 s45 s46 s47 s48 s49 s50 s51 s52 s53 s54 s55 s56 s57 s58 s59 s60 s61 s62 s63 s64 s65 s66 s67 s68 s69 s70 s71 s72 s73 s74 s75 s76 s77 s78 : Value) (H : AH) (K0 : List Value → AH → Prop) (R : AEnd → AH → Prop) : f125_J2 K0 R [(.pointer s0), s1, s2, s3, s4, (.int .u64 s5), (.int .i64 s6), (.int .u64 s7), s8, s9, s10, s11, s12, s13, s14, s15, s16, s17, s18, s19, s20, s21, s22, s23, s24, s25, s26, s27, s28, s29, s30, s31, s32, s33, s34, s35, s36, s37, s38, s39, s40, s41, s42, s43, s44, s45, s46, s47, s48, s49, s50, s51, s52, s53, s54, s55, s56, s57, s58, s59, s60, s61, s62, s63, s64, s65, s66, s67, s68, s69, s70, s71, s72, s73, s74, s75, s76, s77, s78] H = f125_J2_B s0 s1 s2 s3 s4 s5 s6 s7 s8 s9 s10 s11 s12 s13 s14 s15 s16 s17 s18 s19 s20 s21 s22 s23 s24 s25 s26 s27 s28 s29 s30 s31 s32 s33 s34 s35 s42 s43 s44 s45 s46 s47 s48 s49 s50 s51 s52 s53 s54 s55 s56 s57 s58 s59 s60 s61 s62 s63 s64 s65 s66 s67 s68 s69 s70 s71 s72 s73 s74 s75 s76 s77 s78 H K0 R := by kernel_rfl
-- join 1: live 0:G, 5:d, 6:e
def f125_J1_B (s0 : Option Addr) (s1 s2 s3 s4 : Value) (s5 s6 : Int) (s8 s9 s10 s11 s12 s13 s14 s15 s16 s17 s18 s19 s20 s21 s22 s23 s36 s37 s38 s39 s40 s41 s42 s43 s44 s45 s46 s47 s48 s49 s50 s51 s52 s53 s54 s55 s56 s57 s58 s59 s60 s61 s62 s63 s64 s65 s66 s67 s68 s69 s70 s71 s72 s73 s74 s75 s76 s77 s78 : Value) (H : AH) (K0 : List Value → AH → Prop) (R : AEnd → AH → Prop) : Prop :=
 wPt s0 fun i19 k20 =>
 wPt s0 fun i21 k22 =>
 ldS i19 k20 H fun t23 =>
 ldI .i64 i21 (k22 + 1) H fun n24 =>
 wIxS t23 (IntKind.i64.wrap (n24 + s6)) fun n25 =>
 f125_J2 K0 R [(.pointer s0), s1, s2, s3, s4, (.int .u64 s5), (.int .i64 s6), (.int .u64 (IntKind.u64.wrap n25)), s8, s9, s10, s11, s12, s13, s14, s15, s16, s17, s18, s19, s20, s21, s22, s23, (.pointer s0), (.pointer (some ⟨i19, k20, none⟩)), (.pointer (some ⟨i19, k20, none⟩)), (.string t23), (.pointer s0), (.pointer (some ⟨i21, k22, none⟩)), (.pointer (some ⟨i21, (k22 + 1), none⟩)), (.int .i64 n24), (.int .i64 s6), (.int .i64 (IntKind.i64.wrap (n24 + s6))), (.int .u8 n25), (.int .u64 (IntKind.u64.wrap n25)), s36, s37, s38, s39, s40, s41, s42, s43, s44, s45, s46, s47, s48, s49, s50, s51, s52, s53, s54, s55, s56, s57, s58, s59, s60, s61, s62, s63, s64, s65, s66, s67, s68, s69, s70, s71, s72, s73, s74, s75, s76, s77, s78] H
theorem f125_J1_eq (s0 : Option Addr) (s1 s2 s3 s4 : Value) (s5 s6 : Int) (s7 s8 s9 s10 s11 s12 s13 s14 s15 s16 s17 s18 s19 s20 s21 s22 s23 s24 s25 s26 s27 s28 s29 s30 s31 s32 s33 s34 s35 s36 s37 s38 s39 s40 s41 s42 s43 s44 s45 s46 s47 s48 s49 s50 s51 s52 s53 s54 s55 s56 s57 s58 s59 s60 s61 s62 s63 s64 s65 s66 s67 s68 s69 s70 s71 s72 s73 s74 s75 s76 s77 s78 : Value) (H : AH) (K0 : List Value → AH → Prop) (R : AEnd → AH → Prop) : f125_J1 K0 R [(.pointer s0), s1, s2, s3, s4, (.int .u64 s5), (.int .i64 s6), s7, s8, s9, s10, s11, s12, s13, s14, s15, s16, s17, s18, s19, s20, s21, s22, s23, s24, s25, s26, s27, s28, s29, s30, s31, s32, s33, s34, s35, s36, s37, s38, s39, s40, s41, s42, s43, s44, s45, s46, s47, s48, s49, s50, s51, s52, s53, s54, s55, s56, s57, s58, s59, s60, s61, s62, s63, s64, s65, s66, s67, s68, s69, s70, s71, s72, s73, s74, s75, s76, s77, s78] H = f125_J1_B s0 s1 s2 s3 s4 s5 s6 s8 s9 s10 s11 s12 s13 s14 s15 s16 s17 s18 s19 s20 s21 s22 s23 s36 s37 s38 s39 s40 s41 s42 s43 s44 s45 s46 s47 s48 s49 s50 s51 s52 s53 s54 s55 s56 s57 s58 s59 s60 s61 s62 s63 s64 s65 s66 s67 s68 s69 s70 s71 s72 s73 s74 s75 s76 s77 s78 H K0 R := by kernel_rfl
-- join 0: live 0:G, 5:d, 6:e, 23:?
def f125_J0_B (s0 : Option Addr) (s1 s2 s3 s4 : Value) (s5 s6 : Int) (s7 s8 s9 s10 s11 s12 s13 s14 s15 s16 s17 s18 s19 s20 s21 s22 : Value) (s23 : Bool) (s24 s25 s26 s27 s28 s29 s30 s31 s32 s33 s34 s35 s36 s37 s38 s39 s40 s41 s42 s43 s44 s45 s46 s47 s48 s49 s50 s51 s52 s53 s54 s55 s56 s57 s58 s59 s60 s61 s62 s63 s64 s65 s66 s67 s68 s69 s70 s71 s72 s73 s74 s75 s76 s77 s78 : Value) (H : AH) (K0 : List Value → AH → Prop) (R : AEnd → AH → Prop) : Prop :=
 wIf s23
 (R (.ret (.tuple #[(.int .u64 0), (.int .i64 0), (.int .i64 3)])) H)
 (f125_J1 K0 R [(.pointer s0), s1, s2, s3, s4, (.int .u64 s5), (.int .i64 s6), s7, s8, s9, s10, s11, s12, s13, s14, s15, s16, s17, s18, s19, s20, s21, s22, (.bool false), s24, s25, s26, s27, s28, s29, s30, s31, s32, s33, s34, s35, s36, s37, s38, s39, s40, s41, s42, s43, s44, s45, s46, s47, s48, s49, s50, s51, s52, s53, s54, s55, s56, s57, s58, s59, s60, s61, s62, s63, s64, s65, s66, s67, s68, s69, s70, s71, s72, s73, s74, s75, s76, s77, s78] H)
theorem f125_J0_eq (s0 : Option Addr) (s1 s2 s3 s4 : Value) (s5 s6 : Int) (s7 s8 s9 s10 s11 s12 s13 s14 s15 s16 s17 s18 s19 s20 s21 s22 : Value) (s23 : Bool) (s24 s25 s26 s27 s28 s29 s30 s31 s32 s33 s34 s35 s36 s37 s38 s39 s40 s41 s42 s43 s44 s45 s46 s47 s48 s49 s50 s51 s52 s53 s54 s55 s56 s57 s58 s59 s60 s61 s62 s63 s64 s65 s66 s67 s68 s69 s70 s71 s72 s73 s74 s75 s76 s77 s78 : Value) (H : AH) (K0 : List Value → AH → Prop) (R : AEnd → AH → Prop) : f125_J0 K0 R [(.pointer s0), s1, s2, s3, s4, (.int .u64 s5), (.int .i64 s6), s7, s8, s9, s10, s11, s12, s13, s14, s15, s16, s17, s18, s19, s20, s21, s22, (.bool s23), s24, s25, s26, s27, s28, s29, s30, s31, s32, s33, s34, s35, s36, s37, s38, s39, s40, s41, s42, s43, s44, s45, s46, s47, s48, s49, s50, s51, s52, s53, s54, s55, s56, s57, s58, s59, s60, s61, s62, s63, s64, s65, s66, s67, s68, s69, s70, s71, s72, s73, s74, s75, s76, s77, s78] H = f125_J0_B s0 s1 s2 s3 s4 s5 s6 s7 s8 s9 s10 s11 s12 s13 s14 s15 s16 s17 s18 s19 s20 s21 s22 s23 s24 s25 s26 s27 s28 s29 s30 s31 s32 s33 s34 s35 s36 s37 s38 s39 s40 s41 s42 s43 s44 s45 s46 s47 s48 s49 s50 s51 s52 s53 s54 s55 s56 s57 s58 s59 s60 s61 s62 s63 s64 s65 s66 s67 s68 s69 s70 s71 s72 s73 s74 s75 s76 s77 s78 H K0 R := by kernel_rfl
def f125_R0 (s0 : Option Addr) (s1 s2 s3 s4 : Value) (s5 s6 : Int) (s7 s8 s9 s10 s11 s12 s13 s14 s15 s16 s17 s18 s19 s20 s21 s22 s23 s24 s25 s26 s27 s28 s29 s30 s31 s32 s33 s34 s35 s36 s37 s38 s39 s40 s41 s42 s43 s44 s45 s46 s47 s48 s49 s50 s51 s52 s53 s54 s55 s56 s57 s58 s59 s60 s61 s62 s63 s64 s65 s66 s67 s68 s69 s70 s71 s72 s73 s74 s75 s76 s77 s78 : Value) (H : AH) (K0 : List Value → AH → Prop) (R : AEnd → AH → Prop) : Prop :=
 wIf (decide (s6 < 10))
 (wPt s0 fun i26 k27 =>
 wPt s0 fun i28 k29 =>
 ldI .i64 i26 (k27 + 1) H fun n30 =>
 ldS i28 k29 H fun t31 =>
 f125_J0 K0 R [(.pointer s0), s1, s2, s3, s4, (.int .u64 s5), (.int .i64 s6), s7, (.int .i64 s6), (.bool true), s10, s11, (.pointer s0), (.pointer (some ⟨i26, k27, none⟩)), (.pointer (some ⟨i26, (k27 + 1), none⟩)), (.int .i64 n30), (.int .i64 s6), (.int .i64 (IntKind.i64.wrap (n30 + s6))), (.pointer s0), (.pointer (some ⟨i28, k29, none⟩)), (.pointer (some ⟨i28, k29, none⟩)), (.string t31), (.int .i64 (t31.size : Int)), (.bool (decide ((IntKind.i64.wrap (n30 + s6)) ≥ (t31.size : Int)))), s24, s25, s26, s27, s28, s29, s30, s31, s32, s33, s34, s35, s36, s37, s38, s39, s40, s41, s42, s43, s44, s45, s46, s47, s48, s49, s50, s51, s52, s53, s54, s55, s56, s57, s58, s59, s60, s61, s62, s63, s64, s65, s66, s67, s68, s69, s70, s71, s72, s73, s74, s75, s76, s77, s78] H)
 (f125_J8 R [(.pointer s0), s1, s2, s3, s4, (.int .u64 s5), (.int .i64 s6), s7, (.int .i64 s6), (.bool false), s10, s11, s12, s13, s14, s15, s16, s17, s18, s19, s20, s21, s22, s23, s24, s25, s26, s27, s28, s29, s30, s31, s32, s33, s34, s35, s36, s37, s38, s39, s40, s41, s42, s43, s44, s45, s46, s47, s48, s49, s50, s51, s52, s53, s54, s55, s56, s57, s58, s59, s60, s61, s62, s63, s64, s65, s66, s67, s68, s69, s70, s71, s72, s73, s74, s75, s76, s77, s78] H)
theorem f125_R0_eq (s0 : Option Addr) (s1 s2 s3 s4 : Value) (s5 s6 : Int) (s7 s8 s9 s10 s11 s12 s13 s14 s15 s16 s17 s18 s19 s20 s21 s22 s23 s24 s25 s26 s27 s28 s29 s30 s31 s32 s33 s34 s35 s36 s37 s38 s39 s40 s41 s42 s43 s44 s45 s46 s47 s48 s49 s50 s51 s52 s53 s54 s55 s56 s57 s58 s59 s60 s61 s62 s63 s64 s65 s66 s67 s68 s69 s70 s71 s72 s73 s74 s75 s76 s77 s78 : Value) (H : AH) (K0 : List Value → AH → Prop) (R : AEnd → AH → Prop) : awpF Try.prog (codeAt f125_c [1, 1, 0, 1, 0, 0]) (thenF K0 (f125_Q0 R)) [(.pointer s0), s1, s2, s3, s4, (.int .u64 s5), (.int .i64 s6), s7, s8, s9, s10, s11, s12, s13, s14, s15, s16, s17, s18, s19, s20, s21, s22, s23, s24, s25, s26, s27, s28, s29, s30, s31, s32, s33, s34, s35, s36, s37, s38, s39, s40, s41, s42, s43, s44, s45, s46, s47, s48, s49, s50, s51, s52, s53, s54, s55, s56, s57, s58, s59, s60, s61, s62, s63, s64, s65, s66, s67, s68, s69, s70, s71, s72, s73, s74, s75, s76, s77, s78] H = f125_R0 s0 s1 s2 s3 s4 s5 s6 s7 s8 s9 s10 s11 s12 s13 s14 s15 s16 s17 s18 s19 s20 s21 s22 s23 s24 s25 s26 s27 s28 s29 s30 s31 s32 s33 s34 s35 s36 s37 s38 s39 s40 s41 s42 s43 s44 s45 s46 s47 s48 s49 s50 s51 s52 s53 s54 s55 s56 s57 s58 s59 s60 s61 s62 s63 s64 s65 s66 s67 s68 s69 s70 s71 s72 s73 s74 s75 s76 s77 s78 H K0 R := by kernel_rfl
def f125_I0 (s0 : Option Addr) (s1 : Value) (J : Nat → Int → Int → AH → Prop) (n : Nat) (tm : List Value) (H : AH) : Prop := ∃ (s2 s3 s4 : Value) (s5 s6 : Int) (s7 s8 s9 s10 s11 s12 s13 s14 s15 s16 s17 s18 s19 s20 s21 s22 s23 s24 s25 s26 s27 s28 s29 s30 s31 s32 s33 s34 s35 s36 s37 s38 s39 s40 s41 s42 s43 s44 s45 s46 s47 s48 s49 s50 s51 s52 s53 s54 s55 s56 s57 s58 s59 s60 s61 s62 s63 s64 s65 s66 s67 s68 s69 s70 s71 s72 s73 s74 s75 s76 s77 s78 : Value), tm = [(.pointer s0), s1, s2, s3, s4, (.int .u64 s5), (.int .i64 s6), s7, s8, s9, s10, s11, s12, s13, s14, s15, s16, s17, s18, s19, s20, s21, s22, s23, s24, s25, s26, s27, s28, s29, s30, s31, s32, s33, s34, s35, s36, s37, s38, s39, s40, s41, s42, s43, s44, s45, s46, s47, s48, s49, s50, s51, s52, s53, s54, s55, s56, s57, s58, s59, s60, s61, s62, s63, s64, s65, s66, s67, s68, s69, s70, s71, s72, s73, s74, s75, s76, s77, s78] ∧ J n s5 s6 H
theorem f125_I0_mk {s0 : Option Addr} {s1 : Value} {s2 : Value} {s3 : Value} {s4 : Value} {s5 : Int} {s6 : Int} {s7 : Value} {s8 : Value} {s9 : Value} {s10 : Value} {s11 : Value} {s12 : Value} {s13 : Value} {s14 : Value} {s15 : Value} {s16 : Value} {s17 : Value} {s18 : Value} {s19 : Value} {s20 : Value} {s21 : Value} {s22 : Value} {s23 : Value} {s24 : Value} {s25 : Value} {s26 : Value} {s27 : Value} {s28 : Value} {s29 : Value} {s30 : Value} {s31 : Value} {s32 : Value} {s33 : Value} {s34 : Value} {s35 : Value} {s36 : Value} {s37 : Value} {s38 : Value} {s39 : Value} {s40 : Value} {s41 : Value} {s42 : Value} {s43 : Value} {s44 : Value} {s45 : Value} {s46 : Value} {s47 : Value} {s48 : Value} {s49 : Value} {s50 : Value} {s51 : Value} {s52 : Value} {s53 : Value} {s54 : Value} {s55 : Value} {s56 : Value} {s57 : Value} {s58 : Value} {s59 : Value} {s60 : Value} {s61 : Value} {s62 : Value} {s63 : Value} {s64 : Value} {s65 : Value} {s66 : Value} {s67 : Value} {s68 : Value} {s69 : Value} {s70 : Value} {s71 : Value} {s72 : Value} {s73 : Value} {s74 : Value} {s75 : Value} {s76 : Value} {s77 : Value} {s78 : Value} {J : Nat → Int → Int → AH → Prop} {n : Nat} {H : AH} (h : J n s5 s6 H) : f125_I0 s0 s1 J n [(.pointer s0), s1, s2, s3, s4, (.int .u64 s5), (.int .i64 s6), s7, s8, s9, s10, s11, s12, s13, s14, s15, s16, s17, s18, s19, s20, s21, s22, s23, s24, s25, s26, s27, s28, s29, s30, s31, s32, s33, s34, s35, s36, s37, s38, s39, s40, s41, s42, s43, s44, s45, s46, s47, s48, s49, s50, s51, s52, s53, s54, s55, s56, s57, s58, s59, s60, s61, s62, s63, s64, s65, s66, s67, s68, s69, s70, s71, s72, s73, s74, s75, s76, s77, s78] H := ⟨_, _, _, _, _, _, _, _, _, _, _, _, _, _, _, _, _, _, _, _, _, _, _, _, _, _, _, _, _, _, _, _, _, _, _, _, _, _, _, _, _, _, _, _, _, _, _, _, _, _, _, _, _, _, _, _, _, _, _, _, _, _, _, _, _, _, _, _, _, _, _, _, _, _, _, _, _, rfl, h⟩
-- loop 0: carried 5:d, 6:e
theorem f125_L0_rule {s0 : Option Addr} {s1 : Value} {s2 : Value} {s3 : Value} {s4 : Value} {s5 : Int} {s6 : Int} {s7 : Value} {s8 : Value} {s9 : Value} {s10 : Value} {s11 : Value} {s12 : Value} {s13 : Value} {s14 : Value} {s15 : Value} {s16 : Value} {s17 : Value} {s18 : Value} {s19 : Value} {s20 : Value} {s21 : Value} {s22 : Value} {s23 : Value} {s24 : Value} {s25 : Value} {s26 : Value} {s27 : Value} {s28 : Value} {s29 : Value} {s30 : Value} {s31 : Value} {s32 : Value} {s33 : Value} {s34 : Value} {s35 : Value} {s36 : Value} {s37 : Value} {s38 : Value} {s39 : Value} {s40 : Value} {s41 : Value} {s42 : Value} {s43 : Value} {s44 : Value} {s45 : Value} {s46 : Value} {s47 : Value} {s48 : Value} {s49 : Value} {s50 : Value} {s51 : Value} {s52 : Value} {s53 : Value} {s54 : Value} {s55 : Value} {s56 : Value} {s57 : Value} {s58 : Value} {s59 : Value} {s60 : Value} {s61 : Value} {s62 : Value} {s63 : Value} {s64 : Value} {s65 : Value} {s66 : Value} {s67 : Value} {s68 : Value} {s69 : Value} {s70 : Value} {s71 : Value} {s72 : Value} {s73 : Value} {s74 : Value} {s75 : Value} {s76 : Value} {s77 : Value} {s78 : Value} {H : AH} {R : AEnd → AH → Prop} (J : Nat → Int → Int → AH → Prop) (n : Nat) (h0 : J n s5 s6 H)
  (step : ∀ (n : Nat) (s5 s6 : Int) (H : AH), J n s5 s6 H → ∀ (s2 s3 s4 s7 s8 s9 s10 s11 s12 s13 s14 s15 s16 s17 s18 s19 s20 s21 s22 s23 s24 s25 s26 s27 s28 s29 s30 s31 s32 s33 s34 s35 s36 s37 s38 s39 s40 s41 s42 s43 s44 s45 s46 s47 s48 s49 s50 s51 s52 s53 s54 s55 s56 s57 s58 s59 s60 s61 s62 s63 s64 s65 s66 s67 s68 s69 s70 s71 s72 s73 s74 s75 s76 s77 s78 : Value), f125_R0 s0 s1 s2 s3 s4 s5 s6 s7 s8 s9 s10 s11 s12 s13 s14 s15 s16 s17 s18 s19 s20 s21 s22 s23 s24 s25 s26 s27 s28 s29 s30 s31 s32 s33 s34 s35 s36 s37 s38 s39 s40 s41 s42 s43 s44 s45 s46 s47 s48 s49 s50 s51 s52 s53 s54 s55 s56 s57 s58 s59 s60 s61 s62 s63 s64 s65 s66 s67 s68 s69 s70 s71 s72 s73 s74 s75 s76 s77 s78 H (fun tm H => ∃ m, m < n ∧ f125_I0 s0 s1 J m tm H) R) : f125_L0 R [(.pointer s0), s1, s2, s3, s4, (.int .u64 s5), (.int .i64 s6), s7, s8, s9, s10, s11, s12, s13, s14, s15, s16, s17, s18, s19, s20, s21, s22, s23, s24, s25, s26, s27, s28, s29, s30, s31, s32, s33, s34, s35, s36, s37, s38, s39, s40, s41, s42, s43, s44, s45, s46, s47, s48, s49, s50, s51, s52, s53, s54, s55, s56, s57, s58, s59, s60, s61, s62, s63, s64, s65, s66, s67, s68, s69, s70, s71, s72, s73, s74, s75, s76, s77, s78] H :=
  awpF_loop (f125_I0 s0 s1 J) n (f125_I0_mk h0) (by
    intro n tm H hh
    exact Exists.elim hh fun s2 hh => Exists.elim hh fun s3 hh => Exists.elim hh fun s4 hh => Exists.elim hh fun s5 hh => Exists.elim hh fun s6 hh => Exists.elim hh fun s7 hh => Exists.elim hh fun s8 hh => Exists.elim hh fun s9 hh => Exists.elim hh fun s10 hh => Exists.elim hh fun s11 hh => Exists.elim hh fun s12 hh => Exists.elim hh fun s13 hh => Exists.elim hh fun s14 hh => Exists.elim hh fun s15 hh => Exists.elim hh fun s16 hh => Exists.elim hh fun s17 hh => Exists.elim hh fun s18 hh => Exists.elim hh fun s19 hh => Exists.elim hh fun s20 hh => Exists.elim hh fun s21 hh => Exists.elim hh fun s22 hh => Exists.elim hh fun s23 hh => Exists.elim hh fun s24 hh => Exists.elim hh fun s25 hh => Exists.elim hh fun s26 hh => Exists.elim hh fun s27 hh => Exists.elim hh fun s28 hh => Exists.elim hh fun s29 hh => Exists.elim hh fun s30 hh => Exists.elim hh fun s31 hh => Exists.elim hh fun s32 hh => Exists.elim hh fun s33 hh => Exists.elim hh fun s34 hh => Exists.elim hh fun s35 hh => Exists.elim hh fun s36 hh => Exists.elim hh fun s37 hh => Exists.elim hh fun s38 hh => Exists.elim hh fun s39 hh => Exists.elim hh fun s40 hh => Exists.elim hh fun s41 hh => Exists.elim hh fun s42 hh => Exists.elim hh fun s43 hh => Exists.elim hh fun s44 hh => Exists.elim hh fun s45 hh => Exists.elim hh fun s46 hh => Exists.elim hh fun s47 hh => Exists.elim hh fun s48 hh => Exists.elim hh fun s49 hh => Exists.elim hh fun s50 hh => Exists.elim hh fun s51 hh => Exists.elim hh fun s52 hh => Exists.elim hh fun s53 hh => Exists.elim hh fun s54 hh => Exists.elim hh fun s55 hh => Exists.elim hh fun s56 hh => Exists.elim hh fun s57 hh => Exists.elim hh fun s58 hh => Exists.elim hh fun s59 hh => Exists.elim hh fun s60 hh => Exists.elim hh fun s61 hh => Exists.elim hh fun s62 hh => Exists.elim hh fun s63 hh => Exists.elim hh fun s64 hh => Exists.elim hh fun s65 hh => Exists.elim hh fun s66 hh => Exists.elim hh fun s67 hh => Exists.elim hh fun s68 hh => Exists.elim hh fun s69 hh => Exists.elim hh fun s70 hh => Exists.elim hh fun s71 hh => Exists.elim hh fun s72 hh => Exists.elim hh fun s73 hh => Exists.elim hh fun s74 hh => Exists.elim hh fun s75 hh => Exists.elim hh fun s76 hh => Exists.elim hh fun s77 hh => Exists.elim hh fun s78 hh => And.elim (fun e h =>
     (by subst e; exact Eq.mpr (f125_R0_eq s0 s1 s2 s3 s4 s5 s6 s7 s8 s9 s10 s11 s12 s13 s14 s15 s16 s17 s18 s19 s20 s21 s22 s23 s24 s25 s26 s27 s28 s29 s30 s31 s32 s33 s34 s35 s36 s37 s38 s39 s40 s41 s42 s43 s44 s45 s46 s47 s48 s49 s50 s51 s52 s53 s54 s55 s56 s57 s58 s59 s60 s61 s62 s63 s64 s65 s66 s67 s68 s69 s70 s71 s72 s73 s74 s75 s76 s77 s78 H _ R) (step n s5 s6 H h s2 s3 s4 s7 s8 s9 s10 s11 s12 s13 s14 s15 s16 s17 s18 s19 s20 s21 s22 s23 s24 s25 s26 s27 s28 s29 s30 s31 s32 s33 s34 s35 s36 s37 s38 s39 s40 s41 s42 s43 s44 s45 s46 s47 s48 s49 s50 s51 s52 s53 s54 s55 s56 s57 s58 s59 s60 s61 s62 s63 s64 s65 s66 s67 s68 s69 s70 s71 s72 s73 s74 s75 s76 s77 s78))) hh)
def f125_B (x0 : Option Addr) (H : AH) (R : AEnd → AH → Prop) : Prop :=
 f125_L0 R [(.pointer x0), undef, (.int .u64 0), (.int .i64 0), (.int .i64 0), (.int .u64 0), (.int .i64 0), undef, undef, undef, undef, undef, undef, undef, undef, undef, undef, undef, undef, undef, undef, undef, undef, undef, undef, undef, undef, undef, undef, undef, undef, undef, undef, undef, undef, undef, undef, undef, undef, undef, undef, undef, undef, undef, undef, undef, undef, undef, undef, undef, undef, undef, undef, undef, undef, undef, undef, undef, undef, undef, undef, undef, undef, undef, undef, undef, undef, undef, undef, undef, undef, undef, undef, undef, undef, undef, undef, undef, undef] H
theorem f125_eq (x0 : Option Addr) (H : AH) (R : AEnd → AH → Prop) : awpF Try.prog f125_c (aPost Try.prog Try.f125 R) (([(.pointer x0)] : List Value) ++ List.replicate (Try.f125.ntmps - (([(.pointer x0)] : List Value)).length) undef) H = f125_B x0 H R := by kernel_rfl
theorem f125_call (x0 : Option Addr) (H : AH) (R : AEnd → AH → Prop) (h : f125_B x0 H R) : ACall Try.prog 125 ([(.pointer x0)] : List Value) H R :=
  acall_of mixed Try.func125 (by kernel_rfl : Try.f125.body = some f125_c) (by kernel_rfl) (by kernel_rfl) (awp_of (Eq.mpr (f125_eq x0 H R) h))

/-! f56: (*switchyard/switchyardref13.Reading).value -/
noncomputable def f56_c : Code := Try.f56.body.getD .skip
noncomputable def f56_X0 (R : AEnd → AH → Prop) : AExit → List Value → AH → Prop := thenF (fun tm H => hold (awpF Try.prog (codeAt f56_c [1, 1, 1, 1]) (aPost Try.prog Try.f56 R) tm H)) (aPost Try.prog Try.f56 R)
noncomputable def f56_X1 (R : AEnd → AH → Prop) : AExit → List Value → AH → Prop := inBlockF 0 (f56_X0 R)
noncomputable def f56_X2 (R : AEnd → AH → Prop) : AExit → List Value → AH → Prop := inBlockF 1 (f56_X1 R)
noncomputable def f56_Q0 (R : AEnd → AH → Prop) : AExit → List Value → AH → Prop := (f56_X2 R)
def f56_L0 (R : AEnd → AH → Prop) (tm : List Value) (H : AH) : Prop := awpF Try.prog (codeAt f56_c [1, 1, 1, 0, 1, 0, 1, 1, 1, 1, 1, 1, 1, 1, 1, 0, 1, 1, 0]) (f56_Q0 R) tm H
def f56_J0 (K0 : List Value → AH → Prop) (R : AEnd → AH → Prop) (tm : List Value) (H : AH) : Prop := hold (awpF Try.prog (codeAt f56_c [1, 1, 1, 0, 1, 0, 1, 1, 1, 1, 1, 1, 1, 1, 1, 0, 1, 1, 0, 0, 1, 1]) ((thenF K0 (f56_Q0 R))) tm H)
def f56_J1 (R : AEnd → AH → Prop) (tm : List Value) (H : AH) : Prop := hold (awpF Try.prog (codeAt f56_c [1, 1, 1, 1]) ((aPost Try.prog Try.f56 R)) tm H)
-- join 1: live 0:G, 2:., 3:C
def f56_J1_B (s0 s2 s3 : Option Addr) (H : AH) (R : AEnd → AH → Prop) : Prop :=
 wPt s3 fun i1 k2 =>
 ldI .i64 i1 k2 H fun n3 =>
 ldI .i64 i1 (k2 + 1) H fun n4 =>
 ldS i1 (k2 + 2) H fun t5 =>
 ldL i1 (k2 + 3) H fun z6b z6l z6c =>
 wCall Try.prog 27 [(.agg #[(.int .i64 n3), (.int .i64 n4), (.string t5), (.slice z6b z6l z6c)])] H (fun r7 H8 =>
 opB r7 fun b11 =>
 wIf (!b11)
 (wCall Try.prog 114 [(.pointer s0)] H8 (fun r12 H13 =>
 wPt s3 fun i16 k17 =>
 ldI .i64 i16 k17 H13 fun n18 =>
 ldI .i64 i16 (k17 + 1) H13 fun n19 =>
 ldS i16 (k17 + 2) H13 fun t20 =>
 ldL i16 (k17 + 3) H13 fun z21b z21l z21c =>
 wPt s2 fun i23 k24 =>
 wSt i23 k24 [(.int .i64 n18), (.int .i64 n19), (.string t20), (.slice z21b z21l z21c)] H13 fun H22 =>
 wPt s2 fun i25 k26 =>
 ldI .i64 i25 k26 H22 fun n27 =>
 ldI .i64 i25 (k26 + 1) H22 fun n28 =>
 ldS i25 (k26 + 2) H22 fun t29 =>
 ldL i25 (k26 + 3) H22 fun z30b z30l z30c =>
 R (.ret (.agg #[(.int .i64 n27), (.int .i64 n28), (.string t29), (.slice z30b z30l z30c)])) H22) (fun v15 H14 => R (.panic v15) H14))
 (wPt s3 fun i31 k32 =>
 ldI .i64 i31 k32 H8 fun n33 =>
 ldI .i64 i31 (k32 + 1) H8 fun n34 =>
 ldS i31 (k32 + 2) H8 fun t35 =>
 ldL i31 (k32 + 3) H8 fun z36b z36l z36c =>
 wPt s2 fun i38 k39 =>
 wSt i38 k39 [(.int .i64 n33), (.int .i64 n34), (.string t35), (.slice z36b z36l z36c)] H8 fun H37 =>
 wPt s2 fun i40 k41 =>
 ldI .i64 i40 k41 H37 fun n42 =>
 ldI .i64 i40 (k41 + 1) H37 fun n43 =>
 ldS i40 (k41 + 2) H37 fun t44 =>
 ldL i40 (k41 + 3) H37 fun z45b z45l z45c =>
 R (.ret (.agg #[(.int .i64 n42), (.int .i64 n43), (.string t44), (.slice z45b z45l z45c)])) H37)) (fun v10 H9 => R (.panic v10) H9)
theorem f56_J1_eq (s0 : Option Addr) (s1 : Value) (s2 s3 : Option Addr) (s4 s5 s6 s7 s8 s9 s10 s11 s12 s13 s14 s15 s16 s17 s18 s19 s20 s21 s22 s23 s24 s25 s26 s27 s28 s29 s30 s31 s32 s33 s34 s35 s36 s37 s38 s39 s40 s41 s42 s43 s44 s45 s46 s47 s48 s49 s50 s51 s52 s53 s54 s55 s56 s57 s58 s59 s60 s61 s62 s63 s64 s65 s66 s67 s68 s69 s70 s71 s72 s73 : Value) (H : AH) (R : AEnd → AH → Prop) : f56_J1 R [(.pointer s0), s1, (.pointer s2), (.pointer s3), s4, s5, s6, s7, s8, s9, s10, s11, s12, s13, s14, s15, s16, s17, s18, s19, s20, s21, s22, s23, s24, s25, s26, s27, s28, s29, s30, s31, s32, s33, s34, s35, s36, s37, s38, s39, s40, s41, s42, s43, s44, s45, s46, s47, s48, s49, s50, s51, s52, s53, s54, s55, s56, s57, s58, s59, s60, s61, s62, s63, s64, s65, s66, s67, s68, s69, s70, s71, s72, s73] H = f56_J1_B s0 s2 s3 H R := by kernel_rfl
-- join 0: live 0:G, 2:., 3:C, 4:o, 5:d
def f56_J0_B (s0 : Option Addr) (s1 : Value) (s2 s3 : Option Addr) (s4 s5 : Int) (s6 s7 s8 s9 s10 s11 s12 s13 s14 s15 s16 s17 s18 s19 s20 s21 s22 s23 s24 s25 s26 s27 s28 s29 s30 s31 s32 s33 s34 s35 s36 s37 s38 s39 s40 s41 s42 s43 s44 s45 s46 s47 s48 s49 s50 s51 s52 s53 s54 s55 s56 s59 s60 s61 s62 s63 s64 s65 s66 s67 s68 s69 s70 s71 s72 s73 : Value) (H : AH) (K0 : List Value → AH → Prop) (R : AEnd → AH → Prop) : Prop :=
 K0 [(.pointer s0), s1, (.pointer s2), (.pointer s3), (.int .i64 s4), (.int .i64 (IntKind.i64.wrap (s5 + 1))), s6, s7, s8, s9, s10, s11, s12, s13, s14, s15, s16, s17, s18, s19, s20, s21, s22, s23, s24, s25, s26, s27, s28, s29, s30, s31, s32, s33, s34, s35, s36, s37, s38, s39, s40, s41, s42, s43, s44, s45, s46, s47, s48, s49, s50, s51, s52, s53, s54, s55, s56, (.int .i64 s5), (.int .i64 (IntKind.i64.wrap (s5 + 1))), s59, s60, s61, s62, s63, s64, s65, s66, s67, s68, s69, s70, s71, s72, s73] H
theorem f56_J0_eq (s0 : Option Addr) (s1 : Value) (s2 s3 : Option Addr) (s4 s5 : Int) (s6 s7 s8 s9 s10 s11 s12 s13 s14 s15 s16 s17 s18 s19 s20 s21 s22 s23 s24 s25 s26 s27 s28 s29 s30 s31 s32 s33 s34 s35 s36 s37 s38 s39 s40 s41 s42 s43 s44 s45 s46 s47 s48 s49 s50 s51 s52 s53 s54 s55 s56 s57 s58 s59 s60 s61 s62 s63 s64 s65 s66 s67 s68 s69 s70 s71 s72 s73 : Value) (H : AH) (K0 : List Value → AH → Prop) (R : AEnd → AH → Prop) : f56_J0 K0 R [(.pointer s0), s1, (.pointer s2), (.pointer s3), (.int .i64 s4), (.int .i64 s5), s6, s7, s8, s9, s10, s11, s12, s13, s14, s15, s16, s17, s18, s19, s20, s21, s22, s23, s24, s25, s26, s27, s28, s29, s30, s31, s32, s33, s34, s35, s36, s37, s38, s39, s40, s41, s42, s43, s44, s45, s46, s47, s48, s49, s50, s51, s52, s53, s54, s55, s56, s57, s58, s59, s60, s61, s62, s63, s64, s65, s66, s67, s68, s69, s70, s71, s72, s73] H = f56_J0_B s0 s1 s2 s3 s4 s5 s6 s7 s8 s9 s10 s11 s12 s13 s14 s15 s16 s17 s18 s19 s20 s21 s22 s23 s24 s25 s26 s27 s28 s29 s30 s31 s32 s33 s34 s35 s36 s37 s38 s39 s40 s41 s42 s43 s44 s45 s46 s47 s48 s49 s50 s51 s52 s53 s54 s55 s56 s59 s60 s61 s62 s63 s64 s65 s66 s67 s68 s69 s70 s71 s72 s73 H K0 R := by kernel_rfl
def f56_R0 (s0 : Option Addr) (s1 : Value) (s2 s3 : Option Addr) (s4 s5 : Int) (s6 s7 s8 s9 s10 s11 s12 s13 s14 s15 s16 s17 s18 s19 s20 s21 s22 s23 s24 s25 s26 s27 s28 s29 s30 s31 s32 s33 s34 s35 s36 s37 s38 s39 s40 s41 s42 s43 s44 s45 s46 s47 s48 s49 s50 s51 s52 s53 s54 s55 s56 s57 s58 s59 s60 s61 s62 s63 s64 s65 s66 s67 s68 s69 s70 s71 s72 s73 : Value) (H : AH) (K0 : List Value → AH → Prop) (R : AEnd → AH → Prop) : Prop :=
 wIf (decide (s5 < s4))
 (wPt s3 fun i46 k47 =>
 wPt s0 fun i48 k49 =>
 (ldL i46 (k47 + 3) H fun z50b z50l z50c =>
 wCall Try.prog 82 [(.pointer (some ⟨i48, k49, none⟩))] H (fun r51 H52 =>
 opI .i64 r51 fun n55 =>
 wBs [(.int .i64 n55)] 1 H52 fun i56 H57 =>
 wAppL 2 1 8 z50b z50l z50c (some ⟨i56, 0, none⟩) 1 0 H57 fun z58b z58l z58c H59 =>
 wPt s3 fun i60 k61 =>
 wSt i60 (k61 + 3) [(.slice z58b z58l z58c)] H59 fun H62 =>
 f56_J0 K0 R [(.pointer s0), s1, (.pointer s2), (.pointer s3), (.int .i64 s4), (.int .i64 s5), s6, s7, s8, s9, s10, s11, s12, s13, s14, s15, s16, s17, s18, s19, s20, s21, s22, s23, s24, s25, s26, s27, s28, s29, s30, s31, s32, s33, s34, s35, s36, s37, s38, s39, s40, s41, s42, s43, s44, s45, s46, s47, s48, s49, s50, s51, s52, s53, (.int .i64 s5), (.int .i64 s4), (.bool true), s57, s58, (.pointer (some ⟨i46, (k47 + 3), none⟩)), (.slice z50b z50l z50c), (.pointer s0), (.pointer (some ⟨i48, k49, none⟩)), (.pointer (some ⟨i48, k49, none⟩)), (.int .i64 n55), (.slice (some ⟨i56, 0, none⟩) 1 0), (.slice z58b z58l z58c), (.pointer (some ⟨i60, (k61 + 3), none⟩)), s68, s69, s70, s71, s72, s73] H62) (fun v54 H53 => R (.panic v54) H53)) ∧
 (wCall Try.prog 82 [(.pointer (some ⟨i48, k49, none⟩))] H (fun r63 H64 =>
 opI .i64 r63 fun n67 =>
 (ldL i46 (k47 + 3) H64 fun z68b z68l z68c =>
 wBs [(.int .i64 n67)] 1 H64 fun i69 H70 =>
 wAppL 2 1 8 z68b z68l z68c (some ⟨i69, 0, none⟩) 1 0 H70 fun z71b z71l z71c H72 =>
 wPt s3 fun i73 k74 =>
 wSt i73 (k74 + 3) [(.slice z71b z71l z71c)] H72 fun H75 =>
 f56_J0 K0 R [(.pointer s0), s1, (.pointer s2), (.pointer s3), (.int .i64 s4), (.int .i64 s5), s6, s7, s8, s9, s10, s11, s12, s13, s14, s15, s16, s17, s18, s19, s20, s21, s22, s23, s24, s25, s26, s27, s28, s29, s30, s31, s32, s33, s34, s35, s36, s37, s38, s39, s40, s41, s42, s43, s44, s45, s46, s47, s48, s49, s50, s51, s52, s53, (.int .i64 s5), (.int .i64 s4), (.bool true), s57, s58, (.pointer (some ⟨i46, (k47 + 3), none⟩)), (.slice z68b z68l z68c), (.pointer s0), (.pointer (some ⟨i48, k49, none⟩)), (.pointer (some ⟨i48, k49, none⟩)), (.int .i64 n67), (.slice (some ⟨i69, 0, none⟩) 1 0), (.slice z71b z71l z71c), (.pointer (some ⟨i73, (k74 + 3), none⟩)), s68, s69, s70, s71, s72, s73] H75) ∧
 (wBs [(.int .i64 n67)] 1 H64 fun i76 H77 =>
 ldL i46 (k47 + 3) H77 fun z78b z78l z78c =>
 wAppL 2 1 8 z78b z78l z78c (some ⟨i76, 0, none⟩) 1 0 H77 fun z79b z79l z79c H80 =>
 wPt s3 fun i81 k82 =>
 wSt i81 (k82 + 3) [(.slice z79b z79l z79c)] H80 fun H83 =>
 f56_J0 K0 R [(.pointer s0), s1, (.pointer s2), (.pointer s3), (.int .i64 s4), (.int .i64 s5), s6, s7, s8, s9, s10, s11, s12, s13, s14, s15, s16, s17, s18, s19, s20, s21, s22, s23, s24, s25, s26, s27, s28, s29, s30, s31, s32, s33, s34, s35, s36, s37, s38, s39, s40, s41, s42, s43, s44, s45, s46, s47, s48, s49, s50, s51, s52, s53, (.int .i64 s5), (.int .i64 s4), (.bool true), s57, s58, (.pointer (some ⟨i46, (k47 + 3), none⟩)), (.slice z78b z78l z78c), (.pointer s0), (.pointer (some ⟨i48, k49, none⟩)), (.pointer (some ⟨i48, k49, none⟩)), (.int .i64 n67), (.slice (some ⟨i76, 0, none⟩) 1 0), (.slice z79b z79l z79c), (.pointer (some ⟨i81, (k82 + 3), none⟩)), s68, s69, s70, s71, s72, s73] H83)) (fun v66 H65 => R (.panic v66) H65)))
 (f56_J1 R [(.pointer s0), s1, (.pointer s2), (.pointer s3), (.int .i64 s4), (.int .i64 s5), s6, s7, s8, s9, s10, s11, s12, s13, s14, s15, s16, s17, s18, s19, s20, s21, s22, s23, s24, s25, s26, s27, s28, s29, s30, s31, s32, s33, s34, s35, s36, s37, s38, s39, s40, s41, s42, s43, s44, s45, s46, s47, s48, s49, s50, s51, s52, s53, (.int .i64 s5), (.int .i64 s4), (.bool false), s57, s58, s59, s60, s61, s62, s63, s64, s65, s66, s67, s68, s69, s70, s71, s72, s73] H)
theorem f56_R0_eq (s0 : Option Addr) (s1 : Value) (s2 s3 : Option Addr) (s4 s5 : Int) (s6 s7 s8 s9 s10 s11 s12 s13 s14 s15 s16 s17 s18 s19 s20 s21 s22 s23 s24 s25 s26 s27 s28 s29 s30 s31 s32 s33 s34 s35 s36 s37 s38 s39 s40 s41 s42 s43 s44 s45 s46 s47 s48 s49 s50 s51 s52 s53 s54 s55 s56 s57 s58 s59 s60 s61 s62 s63 s64 s65 s66 s67 s68 s69 s70 s71 s72 s73 : Value) (H : AH) (K0 : List Value → AH → Prop) (R : AEnd → AH → Prop) : awpF Try.prog (codeAt f56_c [1, 1, 1, 0, 1, 0, 1, 1, 1, 1, 1, 1, 1, 1, 1, 0, 1, 1, 0, 0]) (thenF K0 (f56_Q0 R)) [(.pointer s0), s1, (.pointer s2), (.pointer s3), (.int .i64 s4), (.int .i64 s5), s6, s7, s8, s9, s10, s11, s12, s13, s14, s15, s16, s17, s18, s19, s20, s21, s22, s23, s24, s25, s26, s27, s28, s29, s30, s31, s32, s33, s34, s35, s36, s37, s38, s39, s40, s41, s42, s43, s44, s45, s46, s47, s48, s49, s50, s51, s52, s53, s54, s55, s56, s57, s58, s59, s60, s61, s62, s63, s64, s65, s66, s67, s68, s69, s70, s71, s72, s73] H = f56_R0 s0 s1 s2 s3 s4 s5 s6 s7 s8 s9 s10 s11 s12 s13 s14 s15 s16 s17 s18 s19 s20 s21 s22 s23 s24 s25 s26 s27 s28 s29 s30 s31 s32 s33 s34 s35 s36 s37 s38 s39 s40 s41 s42 s43 s44 s45 s46 s47 s48 s49 s50 s51 s52 s53 s54 s55 s56 s57 s58 s59 s60 s61 s62 s63 s64 s65 s66 s67 s68 s69 s70 s71 s72 s73 H K0 R := by kernel_rfl
def f56_I0 (s0 : Option Addr) (s1 : Value) (s2 s3 : Option Addr) (s4 : Int) (s6 s7 s8 s9 s10 s11 s12 s13 s14 s15 s16 s17 s18 s19 s20 s21 s22 s23 s24 s25 s26 s27 s28 s29 s30 s31 s32 s33 s34 s35 s36 s37 s38 s39 s40 s41 s42 s43 s44 s45 s46 s47 s48 s49 s50 s51 s52 s53 s68 s69 s70 s71 s72 s73 : Value) (J : Nat → Int → AH → Prop) (n : Nat) (tm : List Value) (H : AH) : Prop := ∃ (s5 : Int) (s54 s55 s56 s57 s58 s59 s60 s61 s62 s63 s64 s65 s66 s67 : Value), tm = [(.pointer s0), s1, (.pointer s2), (.pointer s3), (.int .i64 s4), (.int .i64 s5), s6, s7, s8, s9, s10, s11, s12, s13, s14, s15, s16, s17, s18, s19, s20, s21, s22, s23, s24, s25, s26, s27, s28, s29, s30, s31, s32, s33, s34, s35, s36, s37, s38, s39, s40, s41, s42, s43, s44, s45, s46, s47, s48, s49, s50, s51, s52, s53, s54, s55, s56, s57, s58, s59, s60, s61, s62, s63, s64, s65, s66, s67, s68, s69, s70, s71, s72, s73] ∧ J n s5 H
theorem f56_I0_mk {s0 : Option Addr} {s1 : Value} {s2 : Option Addr} {s3 : Option Addr} {s4 : Int} {s5 : Int} {s6 : Value} {s7 : Value} {s8 : Value} {s9 : Value} {s10 : Value} {s11 : Value} {s12 : Value} {s13 : Value} {s14 : Value} {s15 : Value} {s16 : Value} {s17 : Value} {s18 : Value} {s19 : Value} {s20 : Value} {s21 : Value} {s22 : Value} {s23 : Value} {s24 : Value} {s25 : Value} {s26 : Value} {s27 : Value} {s28 : Value} {s29 : Value} {s30 : Value} {s31 : Value} {s32 : Value} {s33 : Value} {s34 : Value} {s35 : Value} {s36 : Value} {s37 : Value} {s38 : Value} {s39 : Value} {s40 : Value} {s41 : Value} {s42 : Value} {s43 : Value} {s44 : Value} {s45 : Value} {s46 : Value} {s47 : Value} {s48 : Value} {s49 : Value} {s50 : Value} {s51 : Value} {s52 : Value} {s53 : Value} {s54 : Value} {s55 : Value} {s56 : Value} {s57 : Value} {s58 : Value} {s59 : Value} {s60 : Value} {s61 : Value} {s62 : Value} {s63 : Value} {s64 : Value} {s65 : Value} {s66 : Value} {s67 : Value} {s68 : Value} {s69 : Value} {s70 : Value} {s71 : Value} {s72 : Value} {s73 : Value} {J : Nat → Int → AH → Prop} {n : Nat} {H : AH} (h : J n s5 H) : f56_I0 s0 s1 s2 s3 s4 s6 s7 s8 s9 s10 s11 s12 s13 s14 s15 s16 s17 s18 s19 s20 s21 s22 s23 s24 s25 s26 s27 s28 s29 s30 s31 s32 s33 s34 s35 s36 s37 s38 s39 s40 s41 s42 s43 s44 s45 s46 s47 s48 s49 s50 s51 s52 s53 s68 s69 s70 s71 s72 s73 J n [(.pointer s0), s1, (.pointer s2), (.pointer s3), (.int .i64 s4), (.int .i64 s5), s6, s7, s8, s9, s10, s11, s12, s13, s14, s15, s16, s17, s18, s19, s20, s21, s22, s23, s24, s25, s26, s27, s28, s29, s30, s31, s32, s33, s34, s35, s36, s37, s38, s39, s40, s41, s42, s43, s44, s45, s46, s47, s48, s49, s50, s51, s52, s53, s54, s55, s56, s57, s58, s59, s60, s61, s62, s63, s64, s65, s66, s67, s68, s69, s70, s71, s72, s73] H := ⟨_, _, _, _, _, _, _, _, _, _, _, _, _, _, _, rfl, h⟩
-- loop 0: carried 5:d
theorem f56_L0_rule {s0 : Option Addr} {s1 : Value} {s2 : Option Addr} {s3 : Option Addr} {s4 : Int} {s5 : Int} {s6 : Value} {s7 : Value} {s8 : Value} {s9 : Value} {s10 : Value} {s11 : Value} {s12 : Value} {s13 : Value} {s14 : Value} {s15 : Value} {s16 : Value} {s17 : Value} {s18 : Value} {s19 : Value} {s20 : Value} {s21 : Value} {s22 : Value} {s23 : Value} {s24 : Value} {s25 : Value} {s26 : Value} {s27 : Value} {s28 : Value} {s29 : Value} {s30 : Value} {s31 : Value} {s32 : Value} {s33 : Value} {s34 : Value} {s35 : Value} {s36 : Value} {s37 : Value} {s38 : Value} {s39 : Value} {s40 : Value} {s41 : Value} {s42 : Value} {s43 : Value} {s44 : Value} {s45 : Value} {s46 : Value} {s47 : Value} {s48 : Value} {s49 : Value} {s50 : Value} {s51 : Value} {s52 : Value} {s53 : Value} {s54 : Value} {s55 : Value} {s56 : Value} {s57 : Value} {s58 : Value} {s59 : Value} {s60 : Value} {s61 : Value} {s62 : Value} {s63 : Value} {s64 : Value} {s65 : Value} {s66 : Value} {s67 : Value} {s68 : Value} {s69 : Value} {s70 : Value} {s71 : Value} {s72 : Value} {s73 : Value} {H : AH} {R : AEnd → AH → Prop} (J : Nat → Int → AH → Prop) (n : Nat) (h0 : J n s5 H)
  (step : ∀ (n : Nat) (s5 : Int) (H : AH), J n s5 H → ∀ (s54 s55 s56 s57 s58 s59 s60 s61 s62 s63 s64 s65 s66 s67 : Value), f56_R0 s0 s1 s2 s3 s4 s5 s6 s7 s8 s9 s10 s11 s12 s13 s14 s15 s16 s17 s18 s19 s20 s21 s22 s23 s24 s25 s26 s27 s28 s29 s30 s31 s32 s33 s34 s35 s36 s37 s38 s39 s40 s41 s42 s43 s44 s45 s46 s47 s48 s49 s50 s51 s52 s53 s54 s55 s56 s57 s58 s59 s60 s61 s62 s63 s64 s65 s66 s67 s68 s69 s70 s71 s72 s73 H (fun tm H => ∃ m, m < n ∧ f56_I0 s0 s1 s2 s3 s4 s6 s7 s8 s9 s10 s11 s12 s13 s14 s15 s16 s17 s18 s19 s20 s21 s22 s23 s24 s25 s26 s27 s28 s29 s30 s31 s32 s33 s34 s35 s36 s37 s38 s39 s40 s41 s42 s43 s44 s45 s46 s47 s48 s49 s50 s51 s52 s53 s68 s69 s70 s71 s72 s73 J m tm H) R) : f56_L0 R [(.pointer s0), s1, (.pointer s2), (.pointer s3), (.int .i64 s4), (.int .i64 s5), s6, s7, s8, s9, s10, s11, s12, s13, s14, s15, s16, s17, s18, s19, s20, s21, s22, s23, s24, s25, s26, s27, s28, s29, s30, s31, s32, s33, s34, s35, s36, s37, s38, s39, s40, s41, s42, s43, s44, s45, s46, s47, s48, s49, s50, s51, s52, s53, s54, s55, s56, s57, s58, s59, s60, s61, s62, s63, s64, s65, s66, s67, s68, s69, s70, s71, s72, s73] H :=
  awpF_loop (f56_I0 s0 s1 s2 s3 s4 s6 s7 s8 s9 s10 s11 s12 s13 s14 s15 s16 s17 s18 s19 s20 s21 s22 s23 s24 s25 s26 s27 s28 s29 s30 s31 s32 s33 s34 s35 s36 s37 s38 s39 s40 s41 s42 s43 s44 s45 s46 s47 s48 s49 s50 s51 s52 s53 s68 s69 s70 s71 s72 s73 J) n (f56_I0_mk h0) (by
    intro n tm H hh
    exact Exists.elim hh fun s5 hh => Exists.elim hh fun s54 hh => Exists.elim hh fun s55 hh => Exists.elim hh fun s56 hh => Exists.elim hh fun s57 hh => Exists.elim hh fun s58 hh => Exists.elim hh fun s59 hh => Exists.elim hh fun s60 hh => Exists.elim hh fun s61 hh => Exists.elim hh fun s62 hh => Exists.elim hh fun s63 hh => Exists.elim hh fun s64 hh => Exists.elim hh fun s65 hh => Exists.elim hh fun s66 hh => Exists.elim hh fun s67 hh => And.elim (fun e h =>
     (by subst e; exact Eq.mpr (f56_R0_eq s0 s1 s2 s3 s4 s5 s6 s7 s8 s9 s10 s11 s12 s13 s14 s15 s16 s17 s18 s19 s20 s21 s22 s23 s24 s25 s26 s27 s28 s29 s30 s31 s32 s33 s34 s35 s36 s37 s38 s39 s40 s41 s42 s43 s44 s45 s46 s47 s48 s49 s50 s51 s52 s53 s54 s55 s56 s57 s58 s59 s60 s61 s62 s63 s64 s65 s66 s67 s68 s69 s70 s71 s72 s73 H _ R) (step n s5 H h s54 s55 s56 s57 s58 s59 s60 s61 s62 s63 s64 s65 s66 s67))) hh)
def f56_B (x0 : Option Addr) (H : AH) (R : AEnd → AH → Prop) : Prop :=
 wNew [(.int .i64 0), (.int .i64 0), (.string ({ data := #[] })), (.slice none 0 0)] H fun i84 H85 =>
 wPt x0 fun i86 k87 =>
 wCall Try.prog 112 [(.pointer (some ⟨i86, k87, none⟩))] H85 (fun r88 H89 =>
 opI .i64 r88 fun n92 =>
 wNew [(.int .i64 0), (.int .i64 0), (.string ({ data := #[] })), (.slice none 0 0)] H89 fun i93 H94 =>
 wSt i93 0 [(.int .i64 n92), (.int .i64 0), (.string ({ data := #[] })), (.slice none 0 0)] H94 fun H95 =>
 wPt x0 fun i96 k97 =>
 ldI .i64 i96 (k97 + 2) H95 fun n98 =>
 wIf (!decide (n98 = 0))
 (wSt i84 0 [(.int .i64 0), (.int .i64 0), (.string ({ data := #[] })), (.slice none 0 0)] H95 fun H99 =>
 wPt (some ⟨i84, 0, none⟩) fun i100 k101 =>
 ldI .i64 i100 k101 H99 fun n102 =>
 ldI .i64 i100 (k101 + 1) H99 fun n103 =>
 ldS i100 (k101 + 2) H99 fun t104 =>
 ldL i100 (k101 + 3) H99 fun z105b z105l z105c =>
 R (.ret (.agg #[(.int .i64 n102), (.int .i64 n103), (.string t104), (.slice z105b z105l z105c)])) H99)
 (ldI .i64 i93 0 H95 fun n106 =>
 wIf (decide (n106 = 1))
 (wPt x0 fun i107 k108 =>
 wCall Try.prog 82 [(.pointer (some ⟨i107, k108, none⟩))] H95 (fun r109 H110 =>
 opI .i64 r109 fun n113 =>
 wSt i93 1 [(.int .i64 n113)] H110 fun H114 =>
 f56_J1 R [(.pointer x0), undef, (.pointer (some ⟨i84, 0, none⟩)), (.pointer (some ⟨i93, 0, none⟩)), undef, undef, (.pointer x0), (.pointer (some ⟨i86, k87, none⟩)), (.pointer (some ⟨i86, k87, none⟩)), (.int .i64 n92), (.agg #[(.int .i64 n92), (.int .i64 0), (.string ({ data := #[] })), (.slice none 0 0)]), (.pointer x0), (.pointer (some ⟨i96, k97, none⟩)), (.pointer (some ⟨i96, k97, none⟩)), (.pointer (some ⟨i96, (k97 + 2), none⟩)), (.int .i64 n98), (.bool false), undef, (.pointer (some ⟨i93, 0, none⟩)), (.int .i64 n106), (.bool true), (.bool (decide (n106 = 1))), (.pointer x0), (.pointer (some ⟨i107, k108, none⟩)), (.pointer (some ⟨i107, k108, none⟩)), (.int .i64 n113), (.pointer (some ⟨i93, 1, none⟩)), undef, undef, undef, undef, undef, undef, undef, undef, undef, undef, undef, undef, undef, undef, undef, undef, undef, undef, undef, undef, undef, undef, undef, undef, undef, undef, undef, undef, undef, undef, undef, undef, undef, undef, undef, undef, undef, undef, undef, undef, undef, undef, undef, undef, undef, undef, undef] H114) (fun v112 H111 => R (.panic v112) H111))
 (wIf (decide (n106 = 2))
 (wPt x0 fun i115 k116 =>
 wCall Try.prog 113 [(.pointer (some ⟨i115, k116, none⟩))] H95 (fun r117 H118 =>
 opB r117 fun b121 =>
 wIf b121
 (wSt i93 1 [(.int .i64 1)] H118 fun H122 =>
 f56_J1 R [(.pointer x0), undef, (.pointer (some ⟨i84, 0, none⟩)), (.pointer (some ⟨i93, 0, none⟩)), undef, undef, (.pointer x0), (.pointer (some ⟨i86, k87, none⟩)), (.pointer (some ⟨i86, k87, none⟩)), (.int .i64 n92), (.agg #[(.int .i64 n92), (.int .i64 0), (.string ({ data := #[] })), (.slice none 0 0)]), (.pointer x0), (.pointer (some ⟨i96, k97, none⟩)), (.pointer (some ⟨i96, k97, none⟩)), (.pointer (some ⟨i96, (k97 + 2), none⟩)), (.int .i64 n98), (.bool false), undef, (.pointer (some ⟨i93, 0, none⟩)), (.int .i64 n106), (.bool false), (.bool (decide (n106 = 1))), undef, undef, undef, undef, undef, (.bool true), (.bool (decide (n106 = 2))), (.pointer x0), (.pointer (some ⟨i115, k116, none⟩)), (.pointer (some ⟨i115, k116, none⟩)), (.bool true), (.pointer (some ⟨i93, 1, none⟩)), undef, undef, undef, undef, undef, undef, undef, undef, undef, undef, undef, undef, undef, undef, undef, undef, undef, undef, undef, undef, undef, undef, undef, undef, undef, undef, undef, undef, undef, undef, undef, undef, undef, undef, undef, undef, undef, undef, undef, undef] H122)
 (f56_J1 R [(.pointer x0), undef, (.pointer (some ⟨i84, 0, none⟩)), (.pointer (some ⟨i93, 0, none⟩)), undef, undef, (.pointer x0), (.pointer (some ⟨i86, k87, none⟩)), (.pointer (some ⟨i86, k87, none⟩)), (.int .i64 n92), (.agg #[(.int .i64 n92), (.int .i64 0), (.string ({ data := #[] })), (.slice none 0 0)]), (.pointer x0), (.pointer (some ⟨i96, k97, none⟩)), (.pointer (some ⟨i96, k97, none⟩)), (.pointer (some ⟨i96, (k97 + 2), none⟩)), (.int .i64 n98), (.bool false), undef, (.pointer (some ⟨i93, 0, none⟩)), (.int .i64 n106), (.bool false), (.bool (decide (n106 = 1))), undef, undef, undef, undef, undef, (.bool true), (.bool (decide (n106 = 2))), (.pointer x0), (.pointer (some ⟨i115, k116, none⟩)), (.pointer (some ⟨i115, k116, none⟩)), (.bool false), undef, undef, undef, undef, undef, undef, undef, undef, undef, undef, undef, undef, undef, undef, undef, undef, undef, undef, undef, undef, undef, undef, undef, undef, undef, undef, undef, undef, undef, undef, undef, undef, undef, undef, undef, undef, undef, undef, undef, undef, undef] H118)) (fun v120 H119 => R (.panic v120) H119))
 (wIf (decide (n106 = 3))
 (wPt x0 fun i123 k124 =>
 wCall Try.prog 86 [(.pointer (some ⟨i123, k124, none⟩)), (.int .i64 64)] H95 (fun r125 H126 =>
 opS r125 fun t129 =>
 wSt i93 2 [(.string t129)] H126 fun H130 =>
 f56_J1 R [(.pointer x0), undef, (.pointer (some ⟨i84, 0, none⟩)), (.pointer (some ⟨i93, 0, none⟩)), undef, undef, (.pointer x0), (.pointer (some ⟨i86, k87, none⟩)), (.pointer (some ⟨i86, k87, none⟩)), (.int .i64 n92), (.agg #[(.int .i64 n92), (.int .i64 0), (.string ({ data := #[] })), (.slice none 0 0)]), (.pointer x0), (.pointer (some ⟨i96, k97, none⟩)), (.pointer (some ⟨i96, k97, none⟩)), (.pointer (some ⟨i96, (k97 + 2), none⟩)), (.int .i64 n98), (.bool false), undef, (.pointer (some ⟨i93, 0, none⟩)), (.int .i64 n106), (.bool false), (.bool (decide (n106 = 1))), undef, undef, undef, undef, undef, (.bool false), (.bool (decide (n106 = 2))), undef, undef, undef, undef, undef, (.bool true), (.bool (decide (n106 = 3))), (.pointer x0), (.pointer (some ⟨i123, k124, none⟩)), (.pointer (some ⟨i123, k124, none⟩)), (.string t129), (.pointer (some ⟨i93, 2, none⟩)), undef, undef, undef, undef, undef, undef, undef, undef, undef, undef, undef, undef, undef, undef, undef, undef, undef, undef, undef, undef, undef, undef, undef, undef, undef, undef, undef, undef, undef, undef, undef, undef, undef] H130) (fun v128 H127 => R (.panic v128) H127))
 (wIf (decide (n106 = 4))
 (wPt x0 fun i131 k132 =>
 wCall Try.prog 86 [(.pointer (some ⟨i131, k132, none⟩)), (.int .i64 24)] H95 (fun r133 H134 =>
 opS r133 fun t137 =>
 wSt i93 2 [(.string t137)] H134 fun H138 =>
 f56_J1 R [(.pointer x0), undef, (.pointer (some ⟨i84, 0, none⟩)), (.pointer (some ⟨i93, 0, none⟩)), undef, undef, (.pointer x0), (.pointer (some ⟨i86, k87, none⟩)), (.pointer (some ⟨i86, k87, none⟩)), (.int .i64 n92), (.agg #[(.int .i64 n92), (.int .i64 0), (.string ({ data := #[] })), (.slice none 0 0)]), (.pointer x0), (.pointer (some ⟨i96, k97, none⟩)), (.pointer (some ⟨i96, k97, none⟩)), (.pointer (some ⟨i96, (k97 + 2), none⟩)), (.int .i64 n98), (.bool false), undef, (.pointer (some ⟨i93, 0, none⟩)), (.int .i64 n106), (.bool false), (.bool (decide (n106 = 1))), undef, undef, undef, undef, undef, (.bool false), (.bool (decide (n106 = 2))), undef, undef, undef, undef, undef, (.bool false), (.bool (decide (n106 = 3))), undef, undef, undef, undef, undef, (.bool true), (.bool (decide (n106 = 4))), (.pointer x0), (.pointer (some ⟨i131, k132, none⟩)), (.pointer (some ⟨i131, k132, none⟩)), (.string t137), (.pointer (some ⟨i93, 2, none⟩)), undef, undef, undef, undef, undef, undef, undef, undef, undef, undef, undef, undef, undef, undef, undef, undef, undef, undef, undef, undef, undef, undef, undef, undef, undef, undef] H138) (fun v136 H135 => R (.panic v136) H135))
 (wIf (decide (n106 = 5))
 (wPt x0 fun i139 k140 =>
 wCall Try.prog 83 [(.pointer (some ⟨i139, k140, none⟩)), (.int .i64 16)] H95 (fun r141 H142 =>
 opI .i64 r141 fun n145 =>
 f56_L0 R [(.pointer x0), undef, (.pointer (some ⟨i84, 0, none⟩)), (.pointer (some ⟨i93, 0, none⟩)), (.int .i64 n145), (.int .i64 0), (.pointer x0), (.pointer (some ⟨i86, k87, none⟩)), (.pointer (some ⟨i86, k87, none⟩)), (.int .i64 n92), (.agg #[(.int .i64 n92), (.int .i64 0), (.string ({ data := #[] })), (.slice none 0 0)]), (.pointer x0), (.pointer (some ⟨i96, k97, none⟩)), (.pointer (some ⟨i96, k97, none⟩)), (.pointer (some ⟨i96, (k97 + 2), none⟩)), (.int .i64 n98), (.bool false), undef, (.pointer (some ⟨i93, 0, none⟩)), (.int .i64 n106), (.bool false), (.bool (decide (n106 = 1))), undef, undef, undef, undef, undef, (.bool false), (.bool (decide (n106 = 2))), undef, undef, undef, undef, undef, (.bool false), (.bool (decide (n106 = 3))), undef, undef, undef, undef, undef, (.bool false), (.bool (decide (n106 = 4))), undef, undef, undef, undef, undef, (.bool true), (.bool (decide (n106 = 5))), (.pointer x0), (.pointer (some ⟨i139, k140, none⟩)), (.pointer (some ⟨i139, k140, none⟩)), (.int .i64 n145), undef, undef, undef, undef, undef, undef, undef, undef, undef, undef, undef, undef, undef, undef, undef, undef, undef, undef, undef, undef] H142) (fun v144 H143 => R (.panic v144) H143))
 (f56_J1 R [(.pointer x0), undef, (.pointer (some ⟨i84, 0, none⟩)), (.pointer (some ⟨i93, 0, none⟩)), undef, undef, (.pointer x0), (.pointer (some ⟨i86, k87, none⟩)), (.pointer (some ⟨i86, k87, none⟩)), (.int .i64 n92), (.agg #[(.int .i64 n92), (.int .i64 0), (.string ({ data := #[] })), (.slice none 0 0)]), (.pointer x0), (.pointer (some ⟨i96, k97, none⟩)), (.pointer (some ⟨i96, k97, none⟩)), (.pointer (some ⟨i96, (k97 + 2), none⟩)), (.int .i64 n98), (.bool false), undef, (.pointer (some ⟨i93, 0, none⟩)), (.int .i64 n106), (.bool false), (.bool (decide (n106 = 1))), undef, undef, undef, undef, undef, (.bool false), (.bool (decide (n106 = 2))), undef, undef, undef, undef, undef, (.bool false), (.bool (decide (n106 = 3))), undef, undef, undef, undef, undef, (.bool false), (.bool (decide (n106 = 4))), undef, undef, undef, undef, undef, (.bool false), (.bool (decide (n106 = 5))), undef, undef, undef, undef, undef, undef, undef, undef, undef, undef, undef, undef, undef, undef, undef, undef, undef, undef, undef, undef, undef, undef, undef, undef] H95))))))) (fun v91 H90 => R (.panic v91) H90)
theorem f56_eq (x0 : Option Addr) (H : AH) (R : AEnd → AH → Prop) : awpF Try.prog f56_c (aPost Try.prog Try.f56 R) (([(.pointer x0)] : List Value) ++ List.replicate (Try.f56.ntmps - (([(.pointer x0)] : List Value)).length) undef) H = f56_B x0 H R := by kernel_rfl
theorem f56_call (x0 : Option Addr) (H : AH) (R : AEnd → AH → Prop) (h : f56_B x0 H R) : ACall Try.prog 56 ([(.pointer x0)] : List Value) H R :=
  acall_of mixed Try.func56 (by kernel_rfl : Try.f56.body = some f56_c) (by kernel_rfl) (by kernel_rfl) (awp_of (Eq.mpr (f56_eq x0 H R) h))

/-! f60: (*switchyard/switchyardref13.Reading).mail -/
noncomputable def f60_c : Code := Try.f60.body.getD .skip
def f60_B (x0 : Option Addr) (H : AH) (R : AEnd → AH → Prop) : Prop :=
 wNew [(.int .i64 0), (.string ({ data := #[] })), (.slice none 0 0), (.slice none 0 0)] H fun i1 H2 =>
 wPt x0 fun i3 k4 =>
 wCall Try.prog 82 [(.pointer (some ⟨i3, k4, none⟩))] H2 (fun r5 H6 =>
 opI .i64 r5 fun n9 =>
 wPt x0 fun i10 k11 =>
 wCall Try.prog 86 [(.pointer (some ⟨i10, k11, none⟩)), (.int .i64 24)] H6 (fun r12 H13 =>
 opS r12 fun t16 =>
 wCall Try.prog 87 [(.pointer x0)] H13 (fun r17 H18 =>
 opL r17 fun z21b z21l z21c =>
 wCall Try.prog 87 [(.pointer x0)] H18 (fun r22 H23 =>
 opL r22 fun z26b z26l z26c =>
 wSt i1 0 [(.int .i64 n9), (.string t16), (.slice z21b z21l z21c), (.slice z26b z26l z26c)] H23 fun H27 =>
 wPt (some ⟨i1, 0, none⟩) fun i28 k29 =>
 ldI .i64 i28 k29 H27 fun n30 =>
 ldS i28 (k29 + 1) H27 fun t31 =>
 ldL i28 (k29 + 2) H27 fun z32b z32l z32c =>
 ldL i28 (k29 + 3) H27 fun z33b z33l z33c =>
 R (.ret (.agg #[(.int .i64 n30), (.string t31), (.slice z32b z32l z32c), (.slice z33b z33l z33c)])) H27) (fun v25 H24 => R (.panic v25) H24)) (fun v20 H19 => R (.panic v20) H19)) (fun v15 H14 => R (.panic v15) H14)) (fun v8 H7 => R (.panic v8) H7)
theorem f60_eq (x0 : Option Addr) (H : AH) (R : AEnd → AH → Prop) : awpF Try.prog f60_c (aPost Try.prog Try.f60 R) (([(.pointer x0)] : List Value) ++ List.replicate (Try.f60.ntmps - (([(.pointer x0)] : List Value)).length) undef) H = f60_B x0 H R := by kernel_rfl
theorem f60_call (x0 : Option Addr) (H : AH) (R : AEnd → AH → Prop) (h : f60_B x0 H R) : ACall Try.prog 60 ([(.pointer x0)] : List Value) H R :=
  acall_of mixed Try.func60 (by kernel_rfl : Try.f60.body = some f60_c) (by kernel_rfl) (by kernel_rfl) (awp_of (Eq.mpr (f60_eq x0 H R) h))

/-! f63: (*switchyard/switchyardref13.Reading).item -/
noncomputable def f63_c : Code := Try.f63.body.getD .skip
noncomputable def f63_X0 (R : AEnd → AH → Prop) : AExit → List Value → AH → Prop := thenF (fun tm H => hold (awpF Try.prog (codeAt f63_c [1, 1, 1, 1, 1, 1, 1, 1, 1]) (aPost Try.prog Try.f63 R) tm H)) (aPost Try.prog Try.f63 R)
noncomputable def f63_X1 (R : AEnd → AH → Prop) : AExit → List Value → AH → Prop := inBlockF 0 (f63_X0 R)
noncomputable def f63_Q0 (R : AEnd → AH → Prop) : AExit → List Value → AH → Prop := (f63_X1 R)
def f63_L0 (R : AEnd → AH → Prop) (tm : List Value) (H : AH) : Prop := awpF Try.prog (codeAt f63_c [1, 1, 1, 1, 1, 1, 1, 1, 0, 1, 0]) (f63_Q0 R) tm H
noncomputable def f63_X2 (R : AEnd → AH → Prop) : AExit → List Value → AH → Prop := thenF (fun tm H => hold (awpF Try.prog (codeAt f63_c [1, 1, 1, 1, 1, 1, 1, 1, 1, 1, 1]) (aPost Try.prog Try.f63 R) tm H)) (aPost Try.prog Try.f63 R)
noncomputable def f63_X3 (R : AEnd → AH → Prop) : AExit → List Value → AH → Prop := inBlockF 2 (f63_X2 R)
noncomputable def f63_Q1 (R : AEnd → AH → Prop) : AExit → List Value → AH → Prop := (f63_X3 R)
def f63_L1 (R : AEnd → AH → Prop) (tm : List Value) (H : AH) : Prop := awpF Try.prog (codeAt f63_c [1, 1, 1, 1, 1, 1, 1, 1, 1, 1, 0, 1, 0]) (f63_Q1 R) tm H
def f63_J0 (K0 : List Value → AH → Prop) (R : AEnd → AH → Prop) (tm : List Value) (H : AH) : Prop := hold (awpF Try.prog (codeAt f63_c [1, 1, 1, 1, 1, 1, 1, 1, 0, 1, 0, 0, 1, 1]) ((thenF K0 (f63_Q0 R))) tm H)
def f63_J1 (R : AEnd → AH → Prop) (tm : List Value) (H : AH) : Prop := hold (awpF Try.prog (codeAt f63_c [1, 1, 1, 1, 1, 1, 1, 1, 1]) ((aPost Try.prog Try.f63 R)) tm H)
noncomputable def f63_X4 (K1 : List Value → AH → Prop) (R : AEnd → AH → Prop) : AExit → List Value → AH → Prop := thenF (fun tm H => hold (awpF Try.prog (codeAt f63_c [1, 1, 1, 1, 1, 1, 1, 1, 1, 1, 0, 1, 0, 0, 1]) (thenF K1 (f63_Q1 R)) tm H)) (thenF K1 (f63_Q1 R))
def f63_J2 (K1 : List Value → AH → Prop) (R : AEnd → AH → Prop) (tm : List Value) (H : AH) : Prop := hold (awpF Try.prog (codeAt f63_c [1, 1, 1, 1, 1, 1, 1, 1, 1, 1, 0, 1, 0, 0, 0, 1]) ((f63_X4 K1 R)) tm H)
def f63_J3 (K1 : List Value → AH → Prop) (R : AEnd → AH → Prop) (tm : List Value) (H : AH) : Prop := hold (awpF Try.prog (codeAt f63_c [1, 1, 1, 1, 1, 1, 1, 1, 1, 1, 0, 1, 0, 0, 1]) ((thenF K1 (f63_Q1 R))) tm H)
def f63_J4 (K1 : List Value → AH → Prop) (R : AEnd → AH → Prop) (tm : List Value) (H : AH) : Prop := hold (awpF Try.prog (codeAt f63_c [1, 1, 1, 1, 1, 1, 1, 1, 1, 1, 0, 1, 0, 0, 1, 1]) ((thenF K1 (f63_Q1 R))) tm H)
-- join 4: live 0:G, 2:., 3:C, 4:o, 6:e
def f63_J4_B (s0 : Option Addr) (s1 : Value) (s2 s3 : Option Addr) (s4 : Int) (s5 : Value) (s6 : Int) (s7 s8 s9 s10 s11 s12 s13 s14 s15 s16 s17 s18 s19 s20 s21 s22 s23 s24 s25 s26 s27 s28 s29 s30 s31 s32 s33 s34 s35 s36 s37 s38 s39 s40 s41 s42 s43 s44 s45 s46 s47 s48 s49 s50 s51 s52 s53 s54 s55 s56 s57 s58 s59 s60 s61 s62 s65 s66 s67 s68 s69 s70 s71 s72 : Value) (H : AH) (K1 : List Value → AH → Prop) (R : AEnd → AH → Prop) : Prop :=
 K1 [(.pointer s0), s1, (.pointer s2), (.pointer s3), (.int .i64 s4), s5, (.int .i64 (IntKind.i64.wrap (s6 + 1))), s7, s8, s9, s10, s11, s12, s13, s14, s15, s16, s17, s18, s19, s20, s21, s22, s23, s24, s25, s26, s27, s28, s29, s30, s31, s32, s33, s34, s35, s36, s37, s38, s39, s40, s41, s42, s43, s44, s45, s46, s47, s48, s49, s50, s51, s52, s53, s54, s55, s56, s57, s58, s59, s60, s61, s62, (.int .i64 s6), (.int .i64 (IntKind.i64.wrap (s6 + 1))), s65, s66, s67, s68, s69, s70, s71, s72] H
theorem f63_J4_eq (s0 : Option Addr) (s1 : Value) (s2 s3 : Option Addr) (s4 : Int) (s5 : Value) (s6 : Int) (s7 s8 s9 s10 s11 s12 s13 s14 s15 s16 s17 s18 s19 s20 s21 s22 s23 s24 s25 s26 s27 s28 s29 s30 s31 s32 s33 s34 s35 s36 s37 s38 s39 s40 s41 s42 s43 s44 s45 s46 s47 s48 s49 s50 s51 s52 s53 s54 s55 s56 s57 s58 s59 s60 s61 s62 s63 s64 s65 s66 s67 s68 s69 s70 s71 s72 : Value) (H : AH) (K1 : List Value → AH → Prop) (R : AEnd → AH → Prop) : f63_J4 K1 R [(.pointer s0), s1, (.pointer s2), (.pointer s3), (.int .i64 s4), s5, (.int .i64 s6), s7, s8, s9, s10, s11, s12, s13, s14, s15, s16, s17, s18, s19, s20, s21, s22, s23, s24, s25, s26, s27, s28, s29, s30, s31, s32, s33, s34, s35, s36, s37, s38, s39, s40, s41, s42, s43, s44, s45, s46, s47, s48, s49, s50, s51, s52, s53, s54, s55, s56, s57, s58, s59, s60, s61, s62, s63, s64, s65, s66, s67, s68, s69, s70, s71, s72] H = f63_J4_B s0 s1 s2 s3 s4 s5 s6 s7 s8 s9 s10 s11 s12 s13 s14 s15 s16 s17 s18 s19 s20 s21 s22 s23 s24 s25 s26 s27 s28 s29 s30 s31 s32 s33 s34 s35 s36 s37 s38 s39 s40 s41 s42 s43 s44 s45 s46 s47 s48 s49 s50 s51 s52 s53 s54 s55 s56 s57 s58 s59 s60 s61 s62 s65 s66 s67 s68 s69 s70 s71 s72 H K1 R := by kernel_rfl
-- join 3: live 0:G, 2:., 3:C, 4:o, 6:e
def f63_J3_B (s0 : Option Addr) (s1 : Value) (s2 s3 : Option Addr) (s4 : Int) (s5 : Value) (s6 : Int) (s7 s8 s9 s10 s11 s12 s13 s14 s15 s16 s17 s18 s19 s20 s21 s22 s23 s24 s25 s26 s27 s28 s29 s30 s31 s32 s33 s34 s35 s36 s37 s38 s39 s40 s41 s42 s43 s44 s45 s46 s47 s48 s49 s50 s51 s52 s53 s54 s55 s56 s57 s58 s59 s60 s61 s62 s63 s64 s72 : Value) (H : AH) (K1 : List Value → AH → Prop) (R : AEnd → AH → Prop) : Prop :=
 wPt s3 fun i1 k2 =>
 (ldL i1 (k2 + 6) H fun z3b z3l z3c =>
 wCall Try.prog 60 [(.pointer s0)] H (fun r4 H5 =>
 opA 4 r4 fun l8 =>
 opI .i64 (l8.headD undef) fun n9 =>
 opS (l8.tail.headD undef) fun t10 =>
 opL (l8.tail.tail.headD undef) fun z11b z11l z11c =>
 opL (l8.tail.tail.tail.headD undef) fun z12b z12l z12c =>
 wBs [(.int .i64 n9), (.string t10), (.slice z11b z11l z11c), (.slice z12b z12l z12c)] 4 H5 fun i13 H14 =>
 wAppL 27 4 72 z3b z3l z3c (some ⟨i13, 0, none⟩) 1 0 H14 fun z15b z15l z15c H16 =>
 wPt s3 fun i17 k18 =>
 wSt i17 (k18 + 6) [(.slice z15b z15l z15c)] H16 fun H19 =>
 f63_J4 K1 R [(.pointer s0), s1, (.pointer s2), (.pointer s3), (.int .i64 s4), s5, (.int .i64 s6), s7, s8, s9, s10, s11, s12, s13, s14, s15, s16, s17, s18, s19, s20, s21, s22, s23, s24, s25, s26, s27, s28, s29, s30, s31, s32, s33, s34, s35, s36, s37, s38, s39, s40, s41, s42, s43, s44, s45, s46, s47, s48, s49, s50, s51, s52, s53, s54, s55, s56, s57, s58, s59, s60, s61, s62, s63, s64, (.pointer (some ⟨i1, (k2 + 6), none⟩)), (.slice z3b z3l z3c), (.pointer s0), (.agg #[(.int .i64 n9), (.string t10), (.slice z11b z11l z11c), (.slice z12b z12l z12c)]), (.slice (some ⟨i13, 0, none⟩) 1 0), (.slice z15b z15l z15c), (.pointer (some ⟨i17, (k18 + 6), none⟩)), s72] H19) (fun v7 H6 => R (.panic v7) H6)) ∧
 (wCall Try.prog 60 [(.pointer s0)] H (fun r20 H21 =>
 opA 4 r20 fun l24 =>
 opI .i64 (l24.headD undef) fun n25 =>
 opS (l24.tail.headD undef) fun t26 =>
 opL (l24.tail.tail.headD undef) fun z27b z27l z27c =>
 opL (l24.tail.tail.tail.headD undef) fun z28b z28l z28c =>
 (ldL i1 (k2 + 6) H21 fun z29b z29l z29c =>
 wBs [(.int .i64 n25), (.string t26), (.slice z27b z27l z27c), (.slice z28b z28l z28c)] 4 H21 fun i30 H31 =>
 wAppL 27 4 72 z29b z29l z29c (some ⟨i30, 0, none⟩) 1 0 H31 fun z32b z32l z32c H33 =>
 wPt s3 fun i34 k35 =>
 wSt i34 (k35 + 6) [(.slice z32b z32l z32c)] H33 fun H36 =>
 f63_J4 K1 R [(.pointer s0), s1, (.pointer s2), (.pointer s3), (.int .i64 s4), s5, (.int .i64 s6), s7, s8, s9, s10, s11, s12, s13, s14, s15, s16, s17, s18, s19, s20, s21, s22, s23, s24, s25, s26, s27, s28, s29, s30, s31, s32, s33, s34, s35, s36, s37, s38, s39, s40, s41, s42, s43, s44, s45, s46, s47, s48, s49, s50, s51, s52, s53, s54, s55, s56, s57, s58, s59, s60, s61, s62, s63, s64, (.pointer (some ⟨i1, (k2 + 6), none⟩)), (.slice z29b z29l z29c), (.pointer s0), (.agg #[(.int .i64 n25), (.string t26), (.slice z27b z27l z27c), (.slice z28b z28l z28c)]), (.slice (some ⟨i30, 0, none⟩) 1 0), (.slice z32b z32l z32c), (.pointer (some ⟨i34, (k35 + 6), none⟩)), s72] H36) ∧
 (wBs [(.int .i64 n25), (.string t26), (.slice z27b z27l z27c), (.slice z28b z28l z28c)] 4 H21 fun i37 H38 =>
 ldL i1 (k2 + 6) H38 fun z39b z39l z39c =>
 wAppL 27 4 72 z39b z39l z39c (some ⟨i37, 0, none⟩) 1 0 H38 fun z40b z40l z40c H41 =>
 wPt s3 fun i42 k43 =>
 wSt i42 (k43 + 6) [(.slice z40b z40l z40c)] H41 fun H44 =>
 f63_J4 K1 R [(.pointer s0), s1, (.pointer s2), (.pointer s3), (.int .i64 s4), s5, (.int .i64 s6), s7, s8, s9, s10, s11, s12, s13, s14, s15, s16, s17, s18, s19, s20, s21, s22, s23, s24, s25, s26, s27, s28, s29, s30, s31, s32, s33, s34, s35, s36, s37, s38, s39, s40, s41, s42, s43, s44, s45, s46, s47, s48, s49, s50, s51, s52, s53, s54, s55, s56, s57, s58, s59, s60, s61, s62, s63, s64, (.pointer (some ⟨i1, (k2 + 6), none⟩)), (.slice z39b z39l z39c), (.pointer s0), (.agg #[(.int .i64 n25), (.string t26), (.slice z27b z27l z27c), (.slice z28b z28l z28c)]), (.slice (some ⟨i37, 0, none⟩) 1 0), (.slice z40b z40l z40c), (.pointer (some ⟨i42, (k43 + 6), none⟩)), s72] H44)) (fun v23 H22 => R (.panic v23) H22))
theorem f63_J3_eq (s0 : Option Addr) (s1 : Value) (s2 s3 : Option Addr) (s4 : Int) (s5 : Value) (s6 : Int) (s7 s8 s9 s10 s11 s12 s13 s14 s15 s16 s17 s18 s19 s20 s21 s22 s23 s24 s25 s26 s27 s28 s29 s30 s31 s32 s33 s34 s35 s36 s37 s38 s39 s40 s41 s42 s43 s44 s45 s46 s47 s48 s49 s50 s51 s52 s53 s54 s55 s56 s57 s58 s59 s60 s61 s62 s63 s64 s65 s66 s67 s68 s69 s70 s71 s72 : Value) (H : AH) (K1 : List Value → AH → Prop) (R : AEnd → AH → Prop) : f63_J3 K1 R [(.pointer s0), s1, (.pointer s2), (.pointer s3), (.int .i64 s4), s5, (.int .i64 s6), s7, s8, s9, s10, s11, s12, s13, s14, s15, s16, s17, s18, s19, s20, s21, s22, s23, s24, s25, s26, s27, s28, s29, s30, s31, s32, s33, s34, s35, s36, s37, s38, s39, s40, s41, s42, s43, s44, s45, s46, s47, s48, s49, s50, s51, s52, s53, s54, s55, s56, s57, s58, s59, s60, s61, s62, s63, s64, s65, s66, s67, s68, s69, s70, s71, s72] H = f63_J3_B s0 s1 s2 s3 s4 s5 s6 s7 s8 s9 s10 s11 s12 s13 s14 s15 s16 s17 s18 s19 s20 s21 s22 s23 s24 s25 s26 s27 s28 s29 s30 s31 s32 s33 s34 s35 s36 s37 s38 s39 s40 s41 s42 s43 s44 s45 s46 s47 s48 s49 s50 s51 s52 s53 s54 s55 s56 s57 s58 s59 s60 s61 s62 s63 s64 s72 H K1 R := by kernel_rfl
-- join 2: live 0:G, 2:., 3:C, 4:o, 6:e, 62:?
def f63_J2_B (s0 : Option Addr) (s1 : Value) (s2 s3 : Option Addr) (s4 : Int) (s5 : Value) (s6 : Int) (s7 s8 s9 s10 s11 s12 s13 s14 s15 s16 s17 s18 s19 s20 s21 s22 s23 s24 s25 s26 s27 s28 s29 s30 s31 s32 s33 s34 s35 s36 s37 s38 s39 s40 s41 s42 s43 s44 s45 s46 s47 s48 s49 s50 s51 s52 s53 s54 s55 s56 s57 s58 s59 s60 s61 : Value) (s62 : Bool) (s63 s64 s65 s66 s67 s68 s69 s70 s71 s72 : Value) (H : AH) (K1 : List Value → AH → Prop) (R : AEnd → AH → Prop) : Prop :=
 wIf s62
 (f63_J3 K1 R [(.pointer s0), s1, (.pointer s2), (.pointer s3), (.int .i64 s4), s5, (.int .i64 s6), s7, s8, s9, s10, s11, s12, s13, s14, s15, s16, s17, s18, s19, s20, s21, s22, s23, s24, s25, s26, s27, s28, s29, s30, s31, s32, s33, s34, s35, s36, s37, s38, s39, s40, s41, s42, s43, s44, s45, s46, s47, s48, s49, s50, s51, s52, s53, s54, s55, s56, s57, s58, s59, s60, s61, (.bool true), s63, s64, s65, s66, s67, s68, s69, s70, s71, s72] H)
 (wPt s3 fun i45 k46 =>
 ldI .i64 i45 k46 H fun n47 =>
 ldS i45 (k46 + 1) H fun t48 =>
 ldS i45 (k46 + 2) H fun t49 =>
 ldI .i64 i45 (k46 + 3) H fun n50 =>
 ldL i45 (k46 + 4) H fun z51b z51l z51c =>
 ldL i45 (k46 + 5) H fun z52b z52l z52c =>
 ldL i45 (k46 + 6) H fun z53b z53l z53c =>
 wPt s2 fun i55 k56 =>
 wSt i55 k56 [(.int .i64 n47), (.string t48), (.string t49), (.int .i64 n50), (.slice z51b z51l z51c), (.slice z52b z52l z52c), (.slice z53b z53l z53c)] H fun H54 =>
 wPt s2 fun i57 k58 =>
 ldI .i64 i57 k58 H54 fun n59 =>
 ldS i57 (k58 + 1) H54 fun t60 =>
 ldS i57 (k58 + 2) H54 fun t61 =>
 ldI .i64 i57 (k58 + 3) H54 fun n62 =>
 ldL i57 (k58 + 4) H54 fun z63b z63l z63c =>
 ldL i57 (k58 + 5) H54 fun z64b z64l z64c =>
 ldL i57 (k58 + 6) H54 fun z65b z65l z65c =>
 R (.ret (.agg #[(.int .i64 n59), (.string t60), (.string t61), (.int .i64 n62), (.slice z63b z63l z63c), (.slice z64b z64l z64c), (.slice z65b z65l z65c)])) H54)
theorem f63_J2_eq (s0 : Option Addr) (s1 : Value) (s2 s3 : Option Addr) (s4 : Int) (s5 : Value) (s6 : Int) (s7 s8 s9 s10 s11 s12 s13 s14 s15 s16 s17 s18 s19 s20 s21 s22 s23 s24 s25 s26 s27 s28 s29 s30 s31 s32 s33 s34 s35 s36 s37 s38 s39 s40 s41 s42 s43 s44 s45 s46 s47 s48 s49 s50 s51 s52 s53 s54 s55 s56 s57 s58 s59 s60 s61 : Value) (s62 : Bool) (s63 s64 s65 s66 s67 s68 s69 s70 s71 s72 : Value) (H : AH) (K1 : List Value → AH → Prop) (R : AEnd → AH → Prop) : f63_J2 K1 R [(.pointer s0), s1, (.pointer s2), (.pointer s3), (.int .i64 s4), s5, (.int .i64 s6), s7, s8, s9, s10, s11, s12, s13, s14, s15, s16, s17, s18, s19, s20, s21, s22, s23, s24, s25, s26, s27, s28, s29, s30, s31, s32, s33, s34, s35, s36, s37, s38, s39, s40, s41, s42, s43, s44, s45, s46, s47, s48, s49, s50, s51, s52, s53, s54, s55, s56, s57, s58, s59, s60, s61, (.bool s62), s63, s64, s65, s66, s67, s68, s69, s70, s71, s72] H = f63_J2_B s0 s1 s2 s3 s4 s5 s6 s7 s8 s9 s10 s11 s12 s13 s14 s15 s16 s17 s18 s19 s20 s21 s22 s23 s24 s25 s26 s27 s28 s29 s30 s31 s32 s33 s34 s35 s36 s37 s38 s39 s40 s41 s42 s43 s44 s45 s46 s47 s48 s49 s50 s51 s52 s53 s54 s55 s56 s57 s58 s59 s60 s61 s62 s63 s64 s65 s66 s67 s68 s69 s70 s71 s72 H K1 R := by kernel_rfl
-- join 1: live 0:G, 2:., 3:C
def f63_J1_B (s0 : Option Addr) (s1 : Value) (s2 s3 : Option Addr) (s5 s7 s8 s9 s10 s11 s12 s13 s14 s15 s16 s17 s18 s19 s20 s21 s22 s23 s24 s25 s26 s27 s28 s29 s30 s31 s32 s33 s34 s35 s36 s37 s38 s39 s40 s41 s42 s43 s44 s45 s46 s47 s52 s53 s54 s55 s56 s57 s58 s59 s60 s61 s62 s63 s64 s65 s66 s67 s68 s69 s70 s71 s72 : Value) (H : AH) (R : AEnd → AH → Prop) : Prop :=
 wPt s0 fun i66 k67 =>
 wCall Try.prog 83 [(.pointer (some ⟨i66, k67, none⟩)), (.int .i64 4096)] H (fun r68 H69 =>
 opI .i64 r68 fun n72 =>
 f63_L1 R [(.pointer s0), s1, (.pointer s2), (.pointer s3), (.int .i64 n72), s5, (.int .i64 0), s7, s8, s9, s10, s11, s12, s13, s14, s15, s16, s17, s18, s19, s20, s21, s22, s23, s24, s25, s26, s27, s28, s29, s30, s31, s32, s33, s34, s35, s36, s37, s38, s39, s40, s41, s42, s43, s44, s45, s46, s47, (.pointer s0), (.pointer (some ⟨i66, k67, none⟩)), (.pointer (some ⟨i66, k67, none⟩)), (.int .i64 n72), s52, s53, s54, s55, s56, s57, s58, s59, s60, s61, s62, s63, s64, s65, s66, s67, s68, s69, s70, s71, s72] H69) (fun v71 H70 => R (.panic v71) H70)
theorem f63_J1_eq (s0 : Option Addr) (s1 : Value) (s2 s3 : Option Addr) (s4 s5 s6 s7 s8 s9 s10 s11 s12 s13 s14 s15 s16 s17 s18 s19 s20 s21 s22 s23 s24 s25 s26 s27 s28 s29 s30 s31 s32 s33 s34 s35 s36 s37 s38 s39 s40 s41 s42 s43 s44 s45 s46 s47 s48 s49 s50 s51 s52 s53 s54 s55 s56 s57 s58 s59 s60 s61 s62 s63 s64 s65 s66 s67 s68 s69 s70 s71 s72 : Value) (H : AH) (R : AEnd → AH → Prop) : f63_J1 R [(.pointer s0), s1, (.pointer s2), (.pointer s3), s4, s5, s6, s7, s8, s9, s10, s11, s12, s13, s14, s15, s16, s17, s18, s19, s20, s21, s22, s23, s24, s25, s26, s27, s28, s29, s30, s31, s32, s33, s34, s35, s36, s37, s38, s39, s40, s41, s42, s43, s44, s45, s46, s47, s48, s49, s50, s51, s52, s53, s54, s55, s56, s57, s58, s59, s60, s61, s62, s63, s64, s65, s66, s67, s68, s69, s70, s71, s72] H = f63_J1_B s0 s1 s2 s3 s5 s7 s8 s9 s10 s11 s12 s13 s14 s15 s16 s17 s18 s19 s20 s21 s22 s23 s24 s25 s26 s27 s28 s29 s30 s31 s32 s33 s34 s35 s36 s37 s38 s39 s40 s41 s42 s43 s44 s45 s46 s47 s52 s53 s54 s55 s56 s57 s58 s59 s60 s61 s62 s63 s64 s65 s66 s67 s68 s69 s70 s71 s72 H R := by kernel_rfl
-- join 0: live 0:G, 2:., 3:C, 4:o, 5:d
def f63_J0_B (s0 : Option Addr) (s1 : Value) (s2 s3 : Option Addr) (s4 s5 : Int) (s6 s7 s8 s9 s10 s11 s12 s13 s14 s15 s16 s17 s18 s19 s20 s21 s22 s23 s24 s25 s26 s27 s28 s29 s30 s31 s32 s33 s34 s35 s36 s39 s40 s41 s42 s43 s44 s45 s46 s47 s48 s49 s50 s51 s52 s53 s54 s55 s56 s57 s58 s59 s60 s61 s62 s63 s64 s65 s66 s67 s68 s69 s70 s71 s72 : Value) (H : AH) (K0 : List Value → AH → Prop) (R : AEnd → AH → Prop) : Prop :=
 K0 [(.pointer s0), s1, (.pointer s2), (.pointer s3), (.int .i64 s4), (.int .i64 (IntKind.i64.wrap (s5 + 1))), s6, s7, s8, s9, s10, s11, s12, s13, s14, s15, s16, s17, s18, s19, s20, s21, s22, s23, s24, s25, s26, s27, s28, s29, s30, s31, s32, s33, s34, s35, s36, (.int .i64 s5), (.int .i64 (IntKind.i64.wrap (s5 + 1))), s39, s40, s41, s42, s43, s44, s45, s46, s47, s48, s49, s50, s51, s52, s53, s54, s55, s56, s57, s58, s59, s60, s61, s62, s63, s64, s65, s66, s67, s68, s69, s70, s71, s72] H
theorem f63_J0_eq (s0 : Option Addr) (s1 : Value) (s2 s3 : Option Addr) (s4 s5 : Int) (s6 s7 s8 s9 s10 s11 s12 s13 s14 s15 s16 s17 s18 s19 s20 s21 s22 s23 s24 s25 s26 s27 s28 s29 s30 s31 s32 s33 s34 s35 s36 s37 s38 s39 s40 s41 s42 s43 s44 s45 s46 s47 s48 s49 s50 s51 s52 s53 s54 s55 s56 s57 s58 s59 s60 s61 s62 s63 s64 s65 s66 s67 s68 s69 s70 s71 s72 : Value) (H : AH) (K0 : List Value → AH → Prop) (R : AEnd → AH → Prop) : f63_J0 K0 R [(.pointer s0), s1, (.pointer s2), (.pointer s3), (.int .i64 s4), (.int .i64 s5), s6, s7, s8, s9, s10, s11, s12, s13, s14, s15, s16, s17, s18, s19, s20, s21, s22, s23, s24, s25, s26, s27, s28, s29, s30, s31, s32, s33, s34, s35, s36, s37, s38, s39, s40, s41, s42, s43, s44, s45, s46, s47, s48, s49, s50, s51, s52, s53, s54, s55, s56, s57, s58, s59, s60, s61, s62, s63, s64, s65, s66, s67, s68, s69, s70, s71, s72] H = f63_J0_B s0 s1 s2 s3 s4 s5 s6 s7 s8 s9 s10 s11 s12 s13 s14 s15 s16 s17 s18 s19 s20 s21 s22 s23 s24 s25 s26 s27 s28 s29 s30 s31 s32 s33 s34 s35 s36 s39 s40 s41 s42 s43 s44 s45 s46 s47 s48 s49 s50 s51 s52 s53 s54 s55 s56 s57 s58 s59 s60 s61 s62 s63 s64 s65 s66 s67 s68 s69 s70 s71 s72 H K0 R := by kernel_rfl
def f63_R0 (s0 : Option Addr) (s1 : Value) (s2 s3 : Option Addr) (s4 s5 : Int) (s6 s7 s8 s9 s10 s11 s12 s13 s14 s15 s16 s17 s18 s19 s20 s21 s22 s23 s24 s25 s26 s27 s28 s29 s30 s31 s32 s33 s34 s35 s36 s37 s38 s39 s40 s41 s42 s43 s44 s45 s46 s47 s48 s49 s50 s51 s52 s53 s54 s55 s56 s57 s58 s59 s60 s61 s62 s63 s64 s65 s66 s67 s68 s69 s70 s71 s72 : Value) (H : AH) (K0 : List Value → AH → Prop) (R : AEnd → AH → Prop) : Prop :=
 wIf (decide (s5 < s4))
 (wPt s3 fun i73 k74 =>
 wPt s0 fun i75 k76 =>
 (ldL i73 (k74 + 5) H fun z77b z77l z77c =>
 wCall Try.prog 83 [(.pointer (some ⟨i75, k76, none⟩)), (.int .i64 1000)] H (fun r78 H79 =>
 opI .i64 r78 fun n82 =>
 wBs [(.int .i64 n82)] 1 H79 fun i83 H84 =>
 wAppL 3 1 8 z77b z77l z77c (some ⟨i83, 0, none⟩) 1 0 H84 fun z85b z85l z85c H86 =>
 wPt s3 fun i87 k88 =>
 wSt i87 (k88 + 5) [(.slice z85b z85l z85c)] H86 fun H89 =>
 f63_J0 K0 R [(.pointer s0), s1, (.pointer s2), (.pointer s3), (.int .i64 s4), (.int .i64 s5), s6, s7, s8, s9, s10, s11, s12, s13, s14, s15, s16, s17, s18, s19, s20, s21, s22, s23, s24, s25, s26, s27, s28, s29, s30, s31, s32, s33, (.int .i64 s5), (.int .i64 s4), (.bool true), s37, s38, (.pointer (some ⟨i73, (k74 + 5), none⟩)), (.slice z77b z77l z77c), (.pointer s0), (.pointer (some ⟨i75, k76, none⟩)), (.pointer (some ⟨i75, k76, none⟩)), (.int .i64 n82), (.slice (some ⟨i83, 0, none⟩) 1 0), (.slice z85b z85l z85c), (.pointer (some ⟨i87, (k88 + 5), none⟩)), s48, s49, s50, s51, s52, s53, s54, s55, s56, s57, s58, s59, s60, s61, s62, s63, s64, s65, s66, s67, s68, s69, s70, s71, s72] H89) (fun v81 H80 => R (.panic v81) H80)) ∧
 (wCall Try.prog 83 [(.pointer (some ⟨i75, k76, none⟩)), (.int .i64 1000)] H (fun r90 H91 =>
 opI .i64 r90 fun n94 =>
 (ldL i73 (k74 + 5) H91 fun z95b z95l z95c =>
 wBs [(.int .i64 n94)] 1 H91 fun i96 H97 =>
 wAppL 3 1 8 z95b z95l z95c (some ⟨i96, 0, none⟩) 1 0 H97 fun z98b z98l z98c H99 =>
 wPt s3 fun i100 k101 =>
 wSt i100 (k101 + 5) [(.slice z98b z98l z98c)] H99 fun H102 =>
 f63_J0 K0 R [(.pointer s0), s1, (.pointer s2), (.pointer s3), (.int .i64 s4), (.int .i64 s5), s6, s7, s8, s9, s10, s11, s12, s13, s14, s15, s16, s17, s18, s19, s20, s21, s22, s23, s24, s25, s26, s27, s28, s29, s30, s31, s32, s33, (.int .i64 s5), (.int .i64 s4), (.bool true), s37, s38, (.pointer (some ⟨i73, (k74 + 5), none⟩)), (.slice z95b z95l z95c), (.pointer s0), (.pointer (some ⟨i75, k76, none⟩)), (.pointer (some ⟨i75, k76, none⟩)), (.int .i64 n94), (.slice (some ⟨i96, 0, none⟩) 1 0), (.slice z98b z98l z98c), (.pointer (some ⟨i100, (k101 + 5), none⟩)), s48, s49, s50, s51, s52, s53, s54, s55, s56, s57, s58, s59, s60, s61, s62, s63, s64, s65, s66, s67, s68, s69, s70, s71, s72] H102) ∧
 (wBs [(.int .i64 n94)] 1 H91 fun i103 H104 =>
 ldL i73 (k74 + 5) H104 fun z105b z105l z105c =>
 wAppL 3 1 8 z105b z105l z105c (some ⟨i103, 0, none⟩) 1 0 H104 fun z106b z106l z106c H107 =>
 wPt s3 fun i108 k109 =>
 wSt i108 (k109 + 5) [(.slice z106b z106l z106c)] H107 fun H110 =>
 f63_J0 K0 R [(.pointer s0), s1, (.pointer s2), (.pointer s3), (.int .i64 s4), (.int .i64 s5), s6, s7, s8, s9, s10, s11, s12, s13, s14, s15, s16, s17, s18, s19, s20, s21, s22, s23, s24, s25, s26, s27, s28, s29, s30, s31, s32, s33, (.int .i64 s5), (.int .i64 s4), (.bool true), s37, s38, (.pointer (some ⟨i73, (k74 + 5), none⟩)), (.slice z105b z105l z105c), (.pointer s0), (.pointer (some ⟨i75, k76, none⟩)), (.pointer (some ⟨i75, k76, none⟩)), (.int .i64 n94), (.slice (some ⟨i103, 0, none⟩) 1 0), (.slice z106b z106l z106c), (.pointer (some ⟨i108, (k109 + 5), none⟩)), s48, s49, s50, s51, s52, s53, s54, s55, s56, s57, s58, s59, s60, s61, s62, s63, s64, s65, s66, s67, s68, s69, s70, s71, s72] H110)) (fun v93 H92 => R (.panic v93) H92)))
 (f63_J1 R [(.pointer s0), s1, (.pointer s2), (.pointer s3), (.int .i64 s4), (.int .i64 s5), s6, s7, s8, s9, s10, s11, s12, s13, s14, s15, s16, s17, s18, s19, s20, s21, s22, s23, s24, s25, s26, s27, s28, s29, s30, s31, s32, s33, (.int .i64 s5), (.int .i64 s4), (.bool false), s37, s38, s39, s40, s41, s42, s43, s44, s45, s46, s47, s48, s49, s50, s51, s52, s53, s54, s55, s56, s57, s58, s59, s60, s61, s62, s63, s64, s65, s66, s67, s68, s69, s70, s71, s72] H)
theorem f63_R0_eq (s0 : Option Addr) (s1 : Value) (s2 s3 : Option Addr) (s4 s5 : Int) (s6 s7 s8 s9 s10 s11 s12 s13 s14 s15 s16 s17 s18 s19 s20 s21 s22 s23 s24 s25 s26 s27 s28 s29 s30 s31 s32 s33 s34 s35 s36 s37 s38 s39 s40 s41 s42 s43 s44 s45 s46 s47 s48 s49 s50 s51 s52 s53 s54 s55 s56 s57 s58 s59 s60 s61 s62 s63 s64 s65 s66 s67 s68 s69 s70 s71 s72 : Value) (H : AH) (K0 : List Value → AH → Prop) (R : AEnd → AH → Prop) : awpF Try.prog (codeAt f63_c [1, 1, 1, 1, 1, 1, 1, 1, 0, 1, 0, 0]) (thenF K0 (f63_Q0 R)) [(.pointer s0), s1, (.pointer s2), (.pointer s3), (.int .i64 s4), (.int .i64 s5), s6, s7, s8, s9, s10, s11, s12, s13, s14, s15, s16, s17, s18, s19, s20, s21, s22, s23, s24, s25, s26, s27, s28, s29, s30, s31, s32, s33, s34, s35, s36, s37, s38, s39, s40, s41, s42, s43, s44, s45, s46, s47, s48, s49, s50, s51, s52, s53, s54, s55, s56, s57, s58, s59, s60, s61, s62, s63, s64, s65, s66, s67, s68, s69, s70, s71, s72] H = f63_R0 s0 s1 s2 s3 s4 s5 s6 s7 s8 s9 s10 s11 s12 s13 s14 s15 s16 s17 s18 s19 s20 s21 s22 s23 s24 s25 s26 s27 s28 s29 s30 s31 s32 s33 s34 s35 s36 s37 s38 s39 s40 s41 s42 s43 s44 s45 s46 s47 s48 s49 s50 s51 s52 s53 s54 s55 s56 s57 s58 s59 s60 s61 s62 s63 s64 s65 s66 s67 s68 s69 s70 s71 s72 H K0 R := by kernel_rfl
def f63_I0 (s0 : Option Addr) (s1 : Value) (s2 s3 : Option Addr) (s4 : Int) (s6 s7 s8 s9 s10 s11 s12 s13 s14 s15 s16 s17 s18 s19 s20 s21 s22 s23 s24 s25 s26 s27 s28 s29 s30 s31 s32 s33 s48 s49 s50 s51 s52 s53 s54 s55 s56 s57 s58 s59 s60 s61 s62 s63 s64 s65 s66 s67 s68 s69 s70 s71 s72 : Value) (J : Nat → Int → AH → Prop) (n : Nat) (tm : List Value) (H : AH) : Prop := ∃ (s5 : Int) (s34 s35 s36 s37 s38 s39 s40 s41 s42 s43 s44 s45 s46 s47 : Value), tm = [(.pointer s0), s1, (.pointer s2), (.pointer s3), (.int .i64 s4), (.int .i64 s5), s6, s7, s8, s9, s10, s11, s12, s13, s14, s15, s16, s17, s18, s19, s20, s21, s22, s23, s24, s25, s26, s27, s28, s29, s30, s31, s32, s33, s34, s35, s36, s37, s38, s39, s40, s41, s42, s43, s44, s45, s46, s47, s48, s49, s50, s51, s52, s53, s54, s55, s56, s57, s58, s59, s60, s61, s62, s63, s64, s65, s66, s67, s68, s69, s70, s71, s72] ∧ J n s5 H
theorem f63_I0_mk {s0 : Option Addr} {s1 : Value} {s2 : Option Addr} {s3 : Option Addr} {s4 : Int} {s5 : Int} {s6 : Value} {s7 : Value} {s8 : Value} {s9 : Value} {s10 : Value} {s11 : Value} {s12 : Value} {s13 : Value} {s14 : Value} {s15 : Value} {s16 : Value} {s17 : Value} {s18 : Value} {s19 : Value} {s20 : Value} {s21 : Value} {s22 : Value} {s23 : Value} {s24 : Value} {s25 : Value} {s26 : Value} {s27 : Value} {s28 : Value} {s29 : Value} {s30 : Value} {s31 : Value} {s32 : Value} {s33 : Value} {s34 : Value} {s35 : Value} {s36 : Value} {s37 : Value} {s38 : Value} {s39 : Value} {s40 : Value} {s41 : Value} {s42 : Value} {s43 : Value} {s44 : Value} {s45 : Value} {s46 : Value} {s47 : Value} {s48 : Value} {s49 : Value} {s50 : Value} {s51 : Value} {s52 : Value} {s53 : Value} {s54 : Value} {s55 : Value} {s56 : Value} {s57 : Value} {s58 : Value} {s59 : Value} {s60 : Value} {s61 : Value} {s62 : Value} {s63 : Value} {s64 : Value} {s65 : Value} {s66 : Value} {s67 : Value} {s68 : Value} {s69 : Value} {s70 : Value} {s71 : Value} {s72 : Value} {J : Nat → Int → AH → Prop} {n : Nat} {H : AH} (h : J n s5 H) : f63_I0 s0 s1 s2 s3 s4 s6 s7 s8 s9 s10 s11 s12 s13 s14 s15 s16 s17 s18 s19 s20 s21 s22 s23 s24 s25 s26 s27 s28 s29 s30 s31 s32 s33 s48 s49 s50 s51 s52 s53 s54 s55 s56 s57 s58 s59 s60 s61 s62 s63 s64 s65 s66 s67 s68 s69 s70 s71 s72 J n [(.pointer s0), s1, (.pointer s2), (.pointer s3), (.int .i64 s4), (.int .i64 s5), s6, s7, s8, s9, s10, s11, s12, s13, s14, s15, s16, s17, s18, s19, s20, s21, s22, s23, s24, s25, s26, s27, s28, s29, s30, s31, s32, s33, s34, s35, s36, s37, s38, s39, s40, s41, s42, s43, s44, s45, s46, s47, s48, s49, s50, s51, s52, s53, s54, s55, s56, s57, s58, s59, s60, s61, s62, s63, s64, s65, s66, s67, s68, s69, s70, s71, s72] H := ⟨_, _, _, _, _, _, _, _, _, _, _, _, _, _, _, rfl, h⟩
-- loop 0: carried 5:d
theorem f63_L0_rule {s0 : Option Addr} {s1 : Value} {s2 : Option Addr} {s3 : Option Addr} {s4 : Int} {s5 : Int} {s6 : Value} {s7 : Value} {s8 : Value} {s9 : Value} {s10 : Value} {s11 : Value} {s12 : Value} {s13 : Value} {s14 : Value} {s15 : Value} {s16 : Value} {s17 : Value} {s18 : Value} {s19 : Value} {s20 : Value} {s21 : Value} {s22 : Value} {s23 : Value} {s24 : Value} {s25 : Value} {s26 : Value} {s27 : Value} {s28 : Value} {s29 : Value} {s30 : Value} {s31 : Value} {s32 : Value} {s33 : Value} {s34 : Value} {s35 : Value} {s36 : Value} {s37 : Value} {s38 : Value} {s39 : Value} {s40 : Value} {s41 : Value} {s42 : Value} {s43 : Value} {s44 : Value} {s45 : Value} {s46 : Value} {s47 : Value} {s48 : Value} {s49 : Value} {s50 : Value} {s51 : Value} {s52 : Value} {s53 : Value} {s54 : Value} {s55 : Value} {s56 : Value} {s57 : Value} {s58 : Value} {s59 : Value} {s60 : Value} {s61 : Value} {s62 : Value} {s63 : Value} {s64 : Value} {s65 : Value} {s66 : Value} {s67 : Value} {s68 : Value} {s69 : Value} {s70 : Value} {s71 : Value} {s72 : Value} {H : AH} {R : AEnd → AH → Prop} (J : Nat → Int → AH → Prop) (n : Nat) (h0 : J n s5 H)
  (step : ∀ (n : Nat) (s5 : Int) (H : AH), J n s5 H → ∀ (s34 s35 s36 s37 s38 s39 s40 s41 s42 s43 s44 s45 s46 s47 : Value), f63_R0 s0 s1 s2 s3 s4 s5 s6 s7 s8 s9 s10 s11 s12 s13 s14 s15 s16 s17 s18 s19 s20 s21 s22 s23 s24 s25 s26 s27 s28 s29 s30 s31 s32 s33 s34 s35 s36 s37 s38 s39 s40 s41 s42 s43 s44 s45 s46 s47 s48 s49 s50 s51 s52 s53 s54 s55 s56 s57 s58 s59 s60 s61 s62 s63 s64 s65 s66 s67 s68 s69 s70 s71 s72 H (fun tm H => ∃ m, m < n ∧ f63_I0 s0 s1 s2 s3 s4 s6 s7 s8 s9 s10 s11 s12 s13 s14 s15 s16 s17 s18 s19 s20 s21 s22 s23 s24 s25 s26 s27 s28 s29 s30 s31 s32 s33 s48 s49 s50 s51 s52 s53 s54 s55 s56 s57 s58 s59 s60 s61 s62 s63 s64 s65 s66 s67 s68 s69 s70 s71 s72 J m tm H) R) : f63_L0 R [(.pointer s0), s1, (.pointer s2), (.pointer s3), (.int .i64 s4), (.int .i64 s5), s6, s7, s8, s9, s10, s11, s12, s13, s14, s15, s16, s17, s18, s19, s20, s21, s22, s23, s24, s25, s26, s27, s28, s29, s30, s31, s32, s33, s34, s35, s36, s37, s38, s39, s40, s41, s42, s43, s44, s45, s46, s47, s48, s49, s50, s51, s52, s53, s54, s55, s56, s57, s58, s59, s60, s61, s62, s63, s64, s65, s66, s67, s68, s69, s70, s71, s72] H :=
  awpF_loop (f63_I0 s0 s1 s2 s3 s4 s6 s7 s8 s9 s10 s11 s12 s13 s14 s15 s16 s17 s18 s19 s20 s21 s22 s23 s24 s25 s26 s27 s28 s29 s30 s31 s32 s33 s48 s49 s50 s51 s52 s53 s54 s55 s56 s57 s58 s59 s60 s61 s62 s63 s64 s65 s66 s67 s68 s69 s70 s71 s72 J) n (f63_I0_mk h0) (by
    intro n tm H hh
    exact Exists.elim hh fun s5 hh => Exists.elim hh fun s34 hh => Exists.elim hh fun s35 hh => Exists.elim hh fun s36 hh => Exists.elim hh fun s37 hh => Exists.elim hh fun s38 hh => Exists.elim hh fun s39 hh => Exists.elim hh fun s40 hh => Exists.elim hh fun s41 hh => Exists.elim hh fun s42 hh => Exists.elim hh fun s43 hh => Exists.elim hh fun s44 hh => Exists.elim hh fun s45 hh => Exists.elim hh fun s46 hh => Exists.elim hh fun s47 hh => And.elim (fun e h =>
     (by subst e; exact Eq.mpr (f63_R0_eq s0 s1 s2 s3 s4 s5 s6 s7 s8 s9 s10 s11 s12 s13 s14 s15 s16 s17 s18 s19 s20 s21 s22 s23 s24 s25 s26 s27 s28 s29 s30 s31 s32 s33 s34 s35 s36 s37 s38 s39 s40 s41 s42 s43 s44 s45 s46 s47 s48 s49 s50 s51 s52 s53 s54 s55 s56 s57 s58 s59 s60 s61 s62 s63 s64 s65 s66 s67 s68 s69 s70 s71 s72 H _ R) (step n s5 H h s34 s35 s36 s37 s38 s39 s40 s41 s42 s43 s44 s45 s46 s47))) hh)
def f63_R1 (s0 : Option Addr) (s1 : Value) (s2 s3 : Option Addr) (s4 : Int) (s5 : Value) (s6 : Int) (s7 s8 s9 s10 s11 s12 s13 s14 s15 s16 s17 s18 s19 s20 s21 s22 s23 s24 s25 s26 s27 s28 s29 s30 s31 s32 s33 s34 s35 s36 s37 s38 s39 s40 s41 s42 s43 s44 s45 s46 s47 s48 s49 s50 s51 s52 s53 s54 s55 s56 s57 s58 s59 s60 s61 s62 s63 s64 s65 s66 s67 s68 s69 s70 s71 s72 : Value) (H : AH) (K1 : List Value → AH → Prop) (R : AEnd → AH → Prop) : Prop :=
 wIf (decide (s6 < s4))
 (wPt s0 fun i111 k112 =>
 ldI .i64 i111 (k112 + 2) H fun n113 =>
 f63_J2 K1 R [(.pointer s0), s1, (.pointer s2), (.pointer s3), (.int .i64 s4), s5, (.int .i64 s6), s7, s8, s9, s10, s11, s12, s13, s14, s15, s16, s17, s18, s19, s20, s21, s22, s23, s24, s25, s26, s27, s28, s29, s30, s31, s32, s33, s34, s35, s36, s37, s38, s39, s40, s41, s42, s43, s44, s45, s46, s47, s48, s49, s50, s51, (.int .i64 s6), (.int .i64 s4), (.bool (decide (s6 < s4))), (.bool true), (.pointer s0), (.pointer (some ⟨i111, k112, none⟩)), (.pointer (some ⟨i111, k112, none⟩)), (.pointer (some ⟨i111, (k112 + 2), none⟩)), (.int .i64 n113), (.bool (decide (n113 = 0))), (.bool (decide (n113 = 0))), s63, s64, s65, s66, s67, s68, s69, s70, s71, s72] H)
 (f63_J2 K1 R [(.pointer s0), s1, (.pointer s2), (.pointer s3), (.int .i64 s4), s5, (.int .i64 s6), s7, s8, s9, s10, s11, s12, s13, s14, s15, s16, s17, s18, s19, s20, s21, s22, s23, s24, s25, s26, s27, s28, s29, s30, s31, s32, s33, s34, s35, s36, s37, s38, s39, s40, s41, s42, s43, s44, s45, s46, s47, s48, s49, s50, s51, (.int .i64 s6), (.int .i64 s4), (.bool (decide (s6 < s4))), (.bool false), undef, undef, undef, undef, undef, undef, (.bool false), s63, s64, s65, s66, s67, s68, s69, s70, s71, s72] H)
theorem f63_R1_eq (s0 : Option Addr) (s1 : Value) (s2 s3 : Option Addr) (s4 : Int) (s5 : Value) (s6 : Int) (s7 s8 s9 s10 s11 s12 s13 s14 s15 s16 s17 s18 s19 s20 s21 s22 s23 s24 s25 s26 s27 s28 s29 s30 s31 s32 s33 s34 s35 s36 s37 s38 s39 s40 s41 s42 s43 s44 s45 s46 s47 s48 s49 s50 s51 s52 s53 s54 s55 s56 s57 s58 s59 s60 s61 s62 s63 s64 s65 s66 s67 s68 s69 s70 s71 s72 : Value) (H : AH) (K1 : List Value → AH → Prop) (R : AEnd → AH → Prop) : awpF Try.prog (codeAt f63_c [1, 1, 1, 1, 1, 1, 1, 1, 1, 1, 0, 1, 0, 0]) (thenF K1 (f63_Q1 R)) [(.pointer s0), s1, (.pointer s2), (.pointer s3), (.int .i64 s4), s5, (.int .i64 s6), s7, s8, s9, s10, s11, s12, s13, s14, s15, s16, s17, s18, s19, s20, s21, s22, s23, s24, s25, s26, s27, s28, s29, s30, s31, s32, s33, s34, s35, s36, s37, s38, s39, s40, s41, s42, s43, s44, s45, s46, s47, s48, s49, s50, s51, s52, s53, s54, s55, s56, s57, s58, s59, s60, s61, s62, s63, s64, s65, s66, s67, s68, s69, s70, s71, s72] H = f63_R1 s0 s1 s2 s3 s4 s5 s6 s7 s8 s9 s10 s11 s12 s13 s14 s15 s16 s17 s18 s19 s20 s21 s22 s23 s24 s25 s26 s27 s28 s29 s30 s31 s32 s33 s34 s35 s36 s37 s38 s39 s40 s41 s42 s43 s44 s45 s46 s47 s48 s49 s50 s51 s52 s53 s54 s55 s56 s57 s58 s59 s60 s61 s62 s63 s64 s65 s66 s67 s68 s69 s70 s71 s72 H K1 R := by kernel_rfl
def f63_I1 (s0 : Option Addr) (s1 : Value) (s2 s3 : Option Addr) (s4 : Int) (s5 s7 s8 s9 s10 s11 s12 s13 s14 s15 s16 s17 s18 s19 s20 s21 s22 s23 s24 s25 s26 s27 s28 s29 s30 s31 s32 s33 s34 s35 s36 s37 s38 s39 s40 s41 s42 s43 s44 s45 s46 s47 s48 s49 s50 s51 s72 : Value) (J : Nat → Int → AH → Prop) (n : Nat) (tm : List Value) (H : AH) : Prop := ∃ (s6 : Int) (s52 s53 s54 s55 s56 s57 s58 s59 s60 s61 s62 s63 s64 s65 s66 s67 s68 s69 s70 s71 : Value), tm = [(.pointer s0), s1, (.pointer s2), (.pointer s3), (.int .i64 s4), s5, (.int .i64 s6), s7, s8, s9, s10, s11, s12, s13, s14, s15, s16, s17, s18, s19, s20, s21, s22, s23, s24, s25, s26, s27, s28, s29, s30, s31, s32, s33, s34, s35, s36, s37, s38, s39, s40, s41, s42, s43, s44, s45, s46, s47, s48, s49, s50, s51, s52, s53, s54, s55, s56, s57, s58, s59, s60, s61, s62, s63, s64, s65, s66, s67, s68, s69, s70, s71, s72] ∧ J n s6 H
theorem f63_I1_mk {s0 : Option Addr} {s1 : Value} {s2 : Option Addr} {s3 : Option Addr} {s4 : Int} {s5 : Value} {s6 : Int} {s7 : Value} {s8 : Value} {s9 : Value} {s10 : Value} {s11 : Value} {s12 : Value} {s13 : Value} {s14 : Value} {s15 : Value} {s16 : Value} {s17 : Value} {s18 : Value} {s19 : Value} {s20 : Value} {s21 : Value} {s22 : Value} {s23 : Value} {s24 : Value} {s25 : Value} {s26 : Value} {s27 : Value} {s28 : Value} {s29 : Value} {s30 : Value} {s31 : Value} {s32 : Value} {s33 : Value} {s34 : Value} {s35 : Value} {s36 : Value} {s37 : Value} {s38 : Value} {s39 : Value} {s40 : Value} {s41 : Value} {s42 : Value} {s43 : Value} {s44 : Value} {s45 : Value} {s46 : Value} {s47 : Value} {s48 : Value} {s49 : Value} {s50 : Value} {s51 : Value} {s52 : Value} {s53 : Value} {s54 : Value} {s55 : Value} {s56 : Value} {s57 : Value} {s58 : Value} {s59 : Value} {s60 : Value} {s61 : Value} {s62 : Value} {s63 : Value} {s64 : Value} {s65 : Value} {s66 : Value} {s67 : Value} {s68 : Value} {s69 : Value} {s70 : Value} {s71 : Value} {s72 : Value} {J : Nat → Int → AH → Prop} {n : Nat} {H : AH} (h : J n s6 H) : f63_I1 s0 s1 s2 s3 s4 s5 s7 s8 s9 s10 s11 s12 s13 s14 s15 s16 s17 s18 s19 s20 s21 s22 s23 s24 s25 s26 s27 s28 s29 s30 s31 s32 s33 s34 s35 s36 s37 s38 s39 s40 s41 s42 s43 s44 s45 s46 s47 s48 s49 s50 s51 s72 J n [(.pointer s0), s1, (.pointer s2), (.pointer s3), (.int .i64 s4), s5, (.int .i64 s6), s7, s8, s9, s10, s11, s12, s13, s14, s15, s16, s17, s18, s19, s20, s21, s22, s23, s24, s25, s26, s27, s28, s29, s30, s31, s32, s33, s34, s35, s36, s37, s38, s39, s40, s41, s42, s43, s44, s45, s46, s47, s48, s49, s50, s51, s52, s53, s54, s55, s56, s57, s58, s59, s60, s61, s62, s63, s64, s65, s66, s67, s68, s69, s70, s71, s72] H := ⟨_, _, _, _, _, _, _, _, _, _, _, _, _, _, _, _, _, _, _, _, _, rfl, h⟩
-- loop 1: carried 6:e
theorem f63_L1_rule {s0 : Option Addr} {s1 : Value} {s2 : Option Addr} {s3 : Option Addr} {s4 : Int} {s5 : Value} {s6 : Int} {s7 : Value} {s8 : Value} {s9 : Value} {s10 : Value} {s11 : Value} {s12 : Value} {s13 : Value} {s14 : Value} {s15 : Value} {s16 : Value} {s17 : Value} {s18 : Value} {s19 : Value} {s20 : Value} {s21 : Value} {s22 : Value} {s23 : Value} {s24 : Value} {s25 : Value} {s26 : Value} {s27 : Value} {s28 : Value} {s29 : Value} {s30 : Value} {s31 : Value} {s32 : Value} {s33 : Value} {s34 : Value} {s35 : Value} {s36 : Value} {s37 : Value} {s38 : Value} {s39 : Value} {s40 : Value} {s41 : Value} {s42 : Value} {s43 : Value} {s44 : Value} {s45 : Value} {s46 : Value} {s47 : Value} {s48 : Value} {s49 : Value} {s50 : Value} {s51 : Value} {s52 : Value} {s53 : Value} {s54 : Value} {s55 : Value} {s56 : Value} {s57 : Value} {s58 : Value} {s59 : Value} {s60 : Value} {s61 : Value} {s62 : Value} {s63 : Value} {s64 : Value} {s65 : Value} {s66 : Value} {s67 : Value} {s68 : Value} {s69 : Value} {s70 : Value} {s71 : Value} {s72 : Value} {H : AH} {R : AEnd → AH → Prop} (J : Nat → Int → AH → Prop) (n : Nat) (h0 : J n s6 H)
  (step : ∀ (n : Nat) (s6 : Int) (H : AH), J n s6 H → ∀ (s52 s53 s54 s55 s56 s57 s58 s59 s60 s61 s62 s63 s64 s65 s66 s67 s68 s69 s70 s71 : Value), f63_R1 s0 s1 s2 s3 s4 s5 s6 s7 s8 s9 s10 s11 s12 s13 s14 s15 s16 s17 s18 s19 s20 s21 s22 s23 s24 s25 s26 s27 s28 s29 s30 s31 s32 s33 s34 s35 s36 s37 s38 s39 s40 s41 s42 s43 s44 s45 s46 s47 s48 s49 s50 s51 s52 s53 s54 s55 s56 s57 s58 s59 s60 s61 s62 s63 s64 s65 s66 s67 s68 s69 s70 s71 s72 H (fun tm H => ∃ m, m < n ∧ f63_I1 s0 s1 s2 s3 s4 s5 s7 s8 s9 s10 s11 s12 s13 s14 s15 s16 s17 s18 s19 s20 s21 s22 s23 s24 s25 s26 s27 s28 s29 s30 s31 s32 s33 s34 s35 s36 s37 s38 s39 s40 s41 s42 s43 s44 s45 s46 s47 s48 s49 s50 s51 s72 J m tm H) R) : f63_L1 R [(.pointer s0), s1, (.pointer s2), (.pointer s3), (.int .i64 s4), s5, (.int .i64 s6), s7, s8, s9, s10, s11, s12, s13, s14, s15, s16, s17, s18, s19, s20, s21, s22, s23, s24, s25, s26, s27, s28, s29, s30, s31, s32, s33, s34, s35, s36, s37, s38, s39, s40, s41, s42, s43, s44, s45, s46, s47, s48, s49, s50, s51, s52, s53, s54, s55, s56, s57, s58, s59, s60, s61, s62, s63, s64, s65, s66, s67, s68, s69, s70, s71, s72] H :=
  awpF_loop (f63_I1 s0 s1 s2 s3 s4 s5 s7 s8 s9 s10 s11 s12 s13 s14 s15 s16 s17 s18 s19 s20 s21 s22 s23 s24 s25 s26 s27 s28 s29 s30 s31 s32 s33 s34 s35 s36 s37 s38 s39 s40 s41 s42 s43 s44 s45 s46 s47 s48 s49 s50 s51 s72 J) n (f63_I1_mk h0) (by
    intro n tm H hh
    exact Exists.elim hh fun s6 hh => Exists.elim hh fun s52 hh => Exists.elim hh fun s53 hh => Exists.elim hh fun s54 hh => Exists.elim hh fun s55 hh => Exists.elim hh fun s56 hh => Exists.elim hh fun s57 hh => Exists.elim hh fun s58 hh => Exists.elim hh fun s59 hh => Exists.elim hh fun s60 hh => Exists.elim hh fun s61 hh => Exists.elim hh fun s62 hh => Exists.elim hh fun s63 hh => Exists.elim hh fun s64 hh => Exists.elim hh fun s65 hh => Exists.elim hh fun s66 hh => Exists.elim hh fun s67 hh => Exists.elim hh fun s68 hh => Exists.elim hh fun s69 hh => Exists.elim hh fun s70 hh => Exists.elim hh fun s71 hh => And.elim (fun e h =>
     (by subst e; exact Eq.mpr (f63_R1_eq s0 s1 s2 s3 s4 s5 s6 s7 s8 s9 s10 s11 s12 s13 s14 s15 s16 s17 s18 s19 s20 s21 s22 s23 s24 s25 s26 s27 s28 s29 s30 s31 s32 s33 s34 s35 s36 s37 s38 s39 s40 s41 s42 s43 s44 s45 s46 s47 s48 s49 s50 s51 s52 s53 s54 s55 s56 s57 s58 s59 s60 s61 s62 s63 s64 s65 s66 s67 s68 s69 s70 s71 s72 H _ R) (step n s6 H h s52 s53 s54 s55 s56 s57 s58 s59 s60 s61 s62 s63 s64 s65 s66 s67 s68 s69 s70 s71))) hh)
def f63_B (x0 : Option Addr) (H : AH) (R : AEnd → AH → Prop) : Prop :=
 wNew [(.int .i64 0), (.string ({ data := #[] })), (.string ({ data := #[] })), (.int .i64 0), (.slice none 0 0), (.slice none 0 0), (.slice none 0 0)] H fun i114 H115 =>
 wNew [(.int .i64 0), (.string ({ data := #[] })), (.string ({ data := #[] })), (.int .i64 0), (.slice none 0 0), (.slice none 0 0), (.slice none 0 0)] H115 fun i116 H117 =>
 wPt x0 fun i118 k119 =>
 wCall Try.prog 82 [(.pointer (some ⟨i118, k119, none⟩))] H117 (fun r120 H121 =>
 opI .i64 r120 fun n124 =>
 wSt i116 0 [(.int .i64 n124)] H121 fun H125 =>
 wPt x0 fun i126 k127 =>
 wCall Try.prog 82 [(.pointer (some ⟨i126, k127, none⟩))] H125 (fun r128 H129 =>
 opI .i64 r128 fun n132 =>
 wSt i116 3 [(.int .i64 n132)] H129 fun H133 =>
 wPt x0 fun i134 k135 =>
 wCall Try.prog 86 [(.pointer (some ⟨i134, k135, none⟩)), (.int .i64 24)] H133 (fun r136 H137 =>
 opS r136 fun t140 =>
 wSt i116 1 [(.string t140)] H137 fun H141 =>
 wPt x0 fun i142 k143 =>
 wCall Try.prog 86 [(.pointer (some ⟨i142, k143, none⟩)), (.int .i64 24)] H141 (fun r144 H145 =>
 opS r144 fun t148 =>
 wSt i116 2 [(.string t148)] H145 fun H149 =>
 wCall Try.prog 87 [(.pointer x0)] H149 (fun r150 H151 =>
 opL r150 fun z154b z154l z154c =>
 wSt i116 4 [(.slice z154b z154l z154c)] H151 fun H155 =>
 wPt x0 fun i156 k157 =>
 wCall Try.prog 83 [(.pointer (some ⟨i156, k157, none⟩)), (.int .i64 16)] H155 (fun r158 H159 =>
 opI .i64 r158 fun n162 =>
 f63_L0 R [(.pointer x0), undef, (.pointer (some ⟨i114, 0, none⟩)), (.pointer (some ⟨i116, 0, none⟩)), (.int .i64 n162), (.int .i64 0), undef, (.pointer x0), (.pointer (some ⟨i118, k119, none⟩)), (.pointer (some ⟨i118, k119, none⟩)), (.int .i64 n124), (.pointer (some ⟨i116, 0, none⟩)), (.pointer x0), (.pointer (some ⟨i126, k127, none⟩)), (.pointer (some ⟨i126, k127, none⟩)), (.int .i64 n132), (.pointer (some ⟨i116, 3, none⟩)), (.pointer x0), (.pointer (some ⟨i134, k135, none⟩)), (.pointer (some ⟨i134, k135, none⟩)), (.string t140), (.pointer (some ⟨i116, 1, none⟩)), (.pointer x0), (.pointer (some ⟨i142, k143, none⟩)), (.pointer (some ⟨i142, k143, none⟩)), (.string t148), (.pointer (some ⟨i116, 2, none⟩)), (.pointer x0), (.slice z154b z154l z154c), (.pointer (some ⟨i116, 4, none⟩)), (.pointer x0), (.pointer (some ⟨i156, k157, none⟩)), (.pointer (some ⟨i156, k157, none⟩)), (.int .i64 n162), undef, undef, undef, undef, undef, undef, undef, undef, undef, undef, undef, undef, undef, undef, undef, undef, undef, undef, undef, undef, undef, undef, undef, undef, undef, undef, undef, undef, undef, undef, undef, undef, undef, undef, undef, undef, undef, undef, undef] H159) (fun v161 H160 => R (.panic v161) H160)) (fun v153 H152 => R (.panic v153) H152)) (fun v147 H146 => R (.panic v147) H146)) (fun v139 H138 => R (.panic v139) H138)) (fun v131 H130 => R (.panic v131) H130)) (fun v123 H122 => R (.panic v123) H122)
theorem f63_eq (x0 : Option Addr) (H : AH) (R : AEnd → AH → Prop) : awpF Try.prog f63_c (aPost Try.prog Try.f63 R) (([(.pointer x0)] : List Value) ++ List.replicate (Try.f63.ntmps - (([(.pointer x0)] : List Value)).length) undef) H = f63_B x0 H R := by kernel_rfl
theorem f63_call (x0 : Option Addr) (H : AH) (R : AEnd → AH → Prop) (h : f63_B x0 H R) : ACall Try.prog 63 ([(.pointer x0)] : List Value) H R :=
  acall_of mixed Try.func63 (by kernel_rfl : Try.f63.body = some f63_c) (by kernel_rfl) (by kernel_rfl) (awp_of (Eq.mpr (f63_eq x0 H R) h))

/-! f87: (*switchyard/switchyardref13.Reading).row -/
noncomputable def f87_c : Code := Try.f87.body.getD .skip
noncomputable def f87_X0 (R : AEnd → AH → Prop) : AExit → List Value → AH → Prop := thenF (fun tm H => hold (awpF Try.prog (codeAt f87_c [1, 1, 1, 1]) (aPost Try.prog Try.f87 R) tm H)) (aPost Try.prog Try.f87 R)
noncomputable def f87_X1 (R : AEnd → AH → Prop) : AExit → List Value → AH → Prop := inBlockF 0 (f87_X0 R)
noncomputable def f87_Q0 (R : AEnd → AH → Prop) : AExit → List Value → AH → Prop := (f87_X1 R)
def f87_L0 (R : AEnd → AH → Prop) (tm : List Value) (H : AH) : Prop := awpF Try.prog (codeAt f87_c [1, 1, 1, 0, 1, 0]) (f87_Q0 R) tm H
def f87_R0 (s0 : Option Addr) (s1 s2 : Value) (s3b : Option Addr) (s3l s3c : Nat) (s4 s5 : Int) (s6 s7 s8 s9 s10 s11 s12 s13 s14 s15 s16 s17 s18 s19 s20 : Value) (H : AH) (K0 : List Value → AH → Prop) (R : AEnd → AH → Prop) : Prop :=
 wIf (decide (s5 < s4))
 (wCall Try.prog 56 [(.pointer s0)] H (fun r1 H2 =>
 opA 4 r1 fun l5 =>
 opI .i64 (l5.headD undef) fun n6 =>
 opI .i64 (l5.tail.headD undef) fun n7 =>
 opS (l5.tail.tail.headD undef) fun t8 =>
 opL (l5.tail.tail.tail.headD undef) fun z9b z9l z9c =>
 wBs [(.int .i64 n6), (.int .i64 n7), (.string t8), (.slice z9b z9l z9c)] 4 H2 fun i10 H11 =>
 wAppL 24 4 56 s3b s3l s3c (some ⟨i10, 0, none⟩) 1 0 H11 fun z12b z12l z12c H13 =>
 K0 [(.pointer s0), s1, s2, (.slice z12b z12l z12c), (.int .i64 s4), (.int .i64 (IntKind.i64.wrap (s5 + 1))), s6, s7, s8, s9, (.int .i64 s5), (.int .i64 s4), (.bool true), (.int .i64 s5), (.int .i64 (IntKind.i64.wrap (s5 + 1))), (.slice s3b s3l s3c), (.pointer s0), (.agg #[(.int .i64 n6), (.int .i64 n7), (.string t8), (.slice z9b z9l z9c)]), (.slice (some ⟨i10, 0, none⟩) 1 0), (.slice z12b z12l z12c), s20] H13) (fun v4 H3 => R (.panic v4) H3))
 (R (.ret (.slice s3b s3l s3c)) H)
theorem f87_R0_eq (s0 : Option Addr) (s1 s2 : Value) (s3b : Option Addr) (s3l s3c : Nat) (s4 s5 : Int) (s6 s7 s8 s9 s10 s11 s12 s13 s14 s15 s16 s17 s18 s19 s20 : Value) (H : AH) (K0 : List Value → AH → Prop) (R : AEnd → AH → Prop) : awpF Try.prog (codeAt f87_c [1, 1, 1, 0, 1, 0, 0]) (thenF K0 (f87_Q0 R)) [(.pointer s0), s1, s2, (.slice s3b s3l s3c), (.int .i64 s4), (.int .i64 s5), s6, s7, s8, s9, s10, s11, s12, s13, s14, s15, s16, s17, s18, s19, s20] H = f87_R0 s0 s1 s2 s3b s3l s3c s4 s5 s6 s7 s8 s9 s10 s11 s12 s13 s14 s15 s16 s17 s18 s19 s20 H K0 R := by kernel_rfl
def f87_I0 (s0 : Option Addr) (s1 s2 : Value) (s4 : Int) (s6 s7 s8 s9 s20 : Value) (J : Nat → Option Addr → Nat → Nat → Int → AH → Prop) (n : Nat) (tm : List Value) (H : AH) : Prop := ∃ (s3b : Option Addr) (s3l s3c : Nat) (s5 : Int) (s10 s11 s12 s13 s14 s15 s16 s17 s18 s19 : Value), tm = [(.pointer s0), s1, s2, (.slice s3b s3l s3c), (.int .i64 s4), (.int .i64 s5), s6, s7, s8, s9, s10, s11, s12, s13, s14, s15, s16, s17, s18, s19, s20] ∧ J n s3b s3l s3c s5 H
theorem f87_I0_mk {s0 : Option Addr} {s1 : Value} {s2 : Value} {s3b : Option Addr} {s3l : Nat} {s3c : Nat} {s4 : Int} {s5 : Int} {s6 : Value} {s7 : Value} {s8 : Value} {s9 : Value} {s10 : Value} {s11 : Value} {s12 : Value} {s13 : Value} {s14 : Value} {s15 : Value} {s16 : Value} {s17 : Value} {s18 : Value} {s19 : Value} {s20 : Value} {J : Nat → Option Addr → Nat → Nat → Int → AH → Prop} {n : Nat} {H : AH} (h : J n s3b s3l s3c s5 H) : f87_I0 s0 s1 s2 s4 s6 s7 s8 s9 s20 J n [(.pointer s0), s1, s2, (.slice s3b s3l s3c), (.int .i64 s4), (.int .i64 s5), s6, s7, s8, s9, s10, s11, s12, s13, s14, s15, s16, s17, s18, s19, s20] H := ⟨_, _, _, _, _, _, _, _, _, _, _, _, _, _, rfl, h⟩
-- loop 0: carried 3:out, 5:i
theorem f87_L0_rule {s0 : Option Addr} {s1 : Value} {s2 : Value} {s3b : Option Addr} {s3l : Nat} {s3c : Nat} {s4 : Int} {s5 : Int} {s6 : Value} {s7 : Value} {s8 : Value} {s9 : Value} {s10 : Value} {s11 : Value} {s12 : Value} {s13 : Value} {s14 : Value} {s15 : Value} {s16 : Value} {s17 : Value} {s18 : Value} {s19 : Value} {s20 : Value} {H : AH} {R : AEnd → AH → Prop} (J : Nat → Option Addr → Nat → Nat → Int → AH → Prop) (n : Nat) (h0 : J n s3b s3l s3c s5 H)
  (step : ∀ (n : Nat) (s3b : Option Addr) (s3l s3c : Nat) (s5 : Int) (H : AH), J n s3b s3l s3c s5 H → ∀ (s10 s11 s12 s13 s14 s15 s16 s17 s18 s19 : Value), f87_R0 s0 s1 s2 s3b s3l s3c s4 s5 s6 s7 s8 s9 s10 s11 s12 s13 s14 s15 s16 s17 s18 s19 s20 H (fun tm H => ∃ m, m < n ∧ f87_I0 s0 s1 s2 s4 s6 s7 s8 s9 s20 J m tm H) R) : f87_L0 R [(.pointer s0), s1, s2, (.slice s3b s3l s3c), (.int .i64 s4), (.int .i64 s5), s6, s7, s8, s9, s10, s11, s12, s13, s14, s15, s16, s17, s18, s19, s20] H :=
  awpF_loop (f87_I0 s0 s1 s2 s4 s6 s7 s8 s9 s20 J) n (f87_I0_mk h0) (by
    intro n tm H hh
    exact Exists.elim hh fun s3b hh => Exists.elim hh fun s3l hh => Exists.elim hh fun s3c hh => Exists.elim hh fun s5 hh => Exists.elim hh fun s10 hh => Exists.elim hh fun s11 hh => Exists.elim hh fun s12 hh => Exists.elim hh fun s13 hh => Exists.elim hh fun s14 hh => Exists.elim hh fun s15 hh => Exists.elim hh fun s16 hh => Exists.elim hh fun s17 hh => Exists.elim hh fun s18 hh => Exists.elim hh fun s19 hh => And.elim (fun e h =>
     (by subst e; exact Eq.mpr (f87_R0_eq s0 s1 s2 s3b s3l s3c s4 s5 s6 s7 s8 s9 s10 s11 s12 s13 s14 s15 s16 s17 s18 s19 s20 H _ R) (step n s3b s3l s3c s5 H h s10 s11 s12 s13 s14 s15 s16 s17 s18 s19))) hh)
def f87_B (x0 : Option Addr) (H : AH) (R : AEnd → AH → Prop) : Prop :=
 wPt x0 fun i14 k15 =>
 wCall Try.prog 83 [(.pointer (some ⟨i14, k15, none⟩)), (.int .i64 16)] H (fun r16 H17 =>
 opI .i64 r16 fun n20 =>
 f87_L0 R [(.pointer x0), undef, (.slice none 0 0), (.slice none 0 0), (.int .i64 n20), (.int .i64 0), (.pointer x0), (.pointer (some ⟨i14, k15, none⟩)), (.pointer (some ⟨i14, k15, none⟩)), (.int .i64 n20), undef, undef, undef, undef, undef, undef, undef, undef, undef, undef, undef] H17) (fun v19 H18 => R (.panic v19) H18)
theorem f87_eq (x0 : Option Addr) (H : AH) (R : AEnd → AH → Prop) : awpF Try.prog f87_c (aPost Try.prog Try.f87 R) (([(.pointer x0)] : List Value) ++ List.replicate (Try.f87.ntmps - (([(.pointer x0)] : List Value)).length) undef) H = f87_B x0 H R := by kernel_rfl
theorem f87_call (x0 : Option Addr) (H : AH) (R : AEnd → AH → Prop) (h : f87_B x0 H R) : ACall Try.prog 87 ([(.pointer x0)] : List Value) H R :=
  acall_of mixed Try.func87 (by kernel_rfl : Try.f87.body = some f87_c) (by kernel_rfl) (by kernel_rfl) (awp_of (Eq.mpr (f87_eq x0 H R) h))

/-! f18: switchyard/switchyardref13.GetValue -/
noncomputable def f18_c : Code := Try.f18.body.getD .skip
def f18_B (x0 : ByteArray) (H : AH) (R : AEnd → AH → Prop) : Prop :=
 wNew [(.int .i64 0), (.int .i64 0), (.string ({ data := #[] })), (.slice none 0 0)] H fun i1 H2 =>
 wNew [(.string x0), (.int .i64 0), (.int .i64 0)] H2 fun i3 H4 =>
 wCall Try.prog 56 [(.pointer (some ⟨i3, 0, none⟩))] H4 (fun r5 H6 =>
 opA 4 r5 fun l9 =>
 opI .i64 (l9.headD undef) fun n10 =>
 opI .i64 (l9.tail.headD undef) fun n11 =>
 opS (l9.tail.tail.headD undef) fun t12 =>
 opL (l9.tail.tail.tail.headD undef) fun z13b z13l z13c =>
 wNew [(.int .i64 0), (.int .i64 0), (.string ({ data := #[] })), (.slice none 0 0)] H6 fun i14 H15 =>
 wSt i14 0 [(.int .i64 n10), (.int .i64 n11), (.string t12), (.slice z13b z13l z13c)] H15 fun H16 =>
 wCall Try.prog 57 [(.pointer (some ⟨i3, 0, none⟩))] H16 (fun r17 H18 =>
 opI .i64 r17 fun n21 =>
 wIf (!decide (n21 = 0))
 (wSt i1 0 [(.int .i64 0), (.int .i64 0), (.string ({ data := #[] })), (.slice none 0 0)] H18 fun H22 =>
 wPt (some ⟨i1, 0, none⟩) fun i23 k24 =>
 ldI .i64 i23 k24 H22 fun n25 =>
 ldI .i64 i23 (k24 + 1) H22 fun n26 =>
 ldS i23 (k24 + 2) H22 fun t27 =>
 ldL i23 (k24 + 3) H22 fun z28b z28l z28c =>
 R (.ret (.tuple #[(.agg #[(.int .i64 n25), (.int .i64 n26), (.string t27), (.slice z28b z28l z28c)]), (.int .i64 n21)])) H22)
 (ldI .i64 i14 0 H18 fun n29 =>
 ldI .i64 i14 1 H18 fun n30 =>
 ldS i14 2 H18 fun t31 =>
 ldL i14 3 H18 fun z32b z32l z32c =>
 wSt i1 0 [(.int .i64 n29), (.int .i64 n30), (.string t31), (.slice z32b z32l z32c)] H18 fun H33 =>
 wPt (some ⟨i1, 0, none⟩) fun i34 k35 =>
 ldI .i64 i34 k35 H33 fun n36 =>
 ldI .i64 i34 (k35 + 1) H33 fun n37 =>
 ldS i34 (k35 + 2) H33 fun t38 =>
 ldL i34 (k35 + 3) H33 fun z39b z39l z39c =>
 R (.ret (.tuple #[(.agg #[(.int .i64 n36), (.int .i64 n37), (.string t38), (.slice z39b z39l z39c)]), (.int .i64 0)])) H33)) (fun v20 H19 => R (.panic v20) H19)) (fun v8 H7 => R (.panic v8) H7)
theorem f18_eq (x0 : ByteArray) (H : AH) (R : AEnd → AH → Prop) : awpF Try.prog f18_c (aPost Try.prog Try.f18 R) (([(.string x0)] : List Value) ++ List.replicate (Try.f18.ntmps - (([(.string x0)] : List Value)).length) undef) H = f18_B x0 H R := by kernel_rfl
theorem f18_call (x0 : ByteArray) (H : AH) (R : AEnd → AH → Prop) (h : f18_B x0 H R) : ACall Try.prog 18 ([(.string x0)] : List Value) H R :=
  acall_of mixed Try.func18 (by kernel_rfl : Try.f18.body = some f18_c) (by kernel_rfl) (by kernel_rfl) (awp_of (Eq.mpr (f18_eq x0 H R) h))

/-! f20: switchyard/switchyardref13.GetMail -/
noncomputable def f20_c : Code := Try.f20.body.getD .skip
def f20_B (x0 : ByteArray) (H : AH) (R : AEnd → AH → Prop) : Prop :=
 wNew [(.int .i64 0), (.string ({ data := #[] })), (.slice none 0 0), (.slice none 0 0)] H fun i1 H2 =>
 wNew [(.string x0), (.int .i64 0), (.int .i64 0)] H2 fun i3 H4 =>
 wCall Try.prog 60 [(.pointer (some ⟨i3, 0, none⟩))] H4 (fun r5 H6 =>
 opA 4 r5 fun l9 =>
 opI .i64 (l9.headD undef) fun n10 =>
 opS (l9.tail.headD undef) fun t11 =>
 opL (l9.tail.tail.headD undef) fun z12b z12l z12c =>
 opL (l9.tail.tail.tail.headD undef) fun z13b z13l z13c =>
 wNew [(.int .i64 0), (.string ({ data := #[] })), (.slice none 0 0), (.slice none 0 0)] H6 fun i14 H15 =>
 wSt i14 0 [(.int .i64 n10), (.string t11), (.slice z12b z12l z12c), (.slice z13b z13l z13c)] H15 fun H16 =>
 wCall Try.prog 57 [(.pointer (some ⟨i3, 0, none⟩))] H16 (fun r17 H18 =>
 opI .i64 r17 fun n21 =>
 wIf (!decide (n21 = 0))
 (wSt i1 0 [(.int .i64 0), (.string ({ data := #[] })), (.slice none 0 0), (.slice none 0 0)] H18 fun H22 =>
 wPt (some ⟨i1, 0, none⟩) fun i23 k24 =>
 ldI .i64 i23 k24 H22 fun n25 =>
 ldS i23 (k24 + 1) H22 fun t26 =>
 ldL i23 (k24 + 2) H22 fun z27b z27l z27c =>
 ldL i23 (k24 + 3) H22 fun z28b z28l z28c =>
 R (.ret (.tuple #[(.agg #[(.int .i64 n25), (.string t26), (.slice z27b z27l z27c), (.slice z28b z28l z28c)]), (.int .i64 n21)])) H22)
 (ldI .i64 i14 0 H18 fun n29 =>
 ldS i14 1 H18 fun t30 =>
 ldL i14 2 H18 fun z31b z31l z31c =>
 ldL i14 3 H18 fun z32b z32l z32c =>
 wSt i1 0 [(.int .i64 n29), (.string t30), (.slice z31b z31l z31c), (.slice z32b z32l z32c)] H18 fun H33 =>
 wPt (some ⟨i1, 0, none⟩) fun i34 k35 =>
 ldI .i64 i34 k35 H33 fun n36 =>
 ldS i34 (k35 + 1) H33 fun t37 =>
 ldL i34 (k35 + 2) H33 fun z38b z38l z38c =>
 ldL i34 (k35 + 3) H33 fun z39b z39l z39c =>
 R (.ret (.tuple #[(.agg #[(.int .i64 n36), (.string t37), (.slice z38b z38l z38c), (.slice z39b z39l z39c)]), (.int .i64 0)])) H33)) (fun v20 H19 => R (.panic v20) H19)) (fun v8 H7 => R (.panic v8) H7)
theorem f20_eq (x0 : ByteArray) (H : AH) (R : AEnd → AH → Prop) : awpF Try.prog f20_c (aPost Try.prog Try.f20 R) (([(.string x0)] : List Value) ++ List.replicate (Try.f20.ntmps - (([(.string x0)] : List Value)).length) undef) H = f20_B x0 H R := by kernel_rfl
theorem f20_call (x0 : ByteArray) (H : AH) (R : AEnd → AH → Prop) (h : f20_B x0 H R) : ACall Try.prog 20 ([(.string x0)] : List Value) H R :=
  acall_of mixed Try.func20 (by kernel_rfl : Try.f20.body = some f20_c) (by kernel_rfl) (by kernel_rfl) (awp_of (Eq.mpr (f20_eq x0 H R) h))

/-! f22: switchyard/switchyardref13.GetItem -/
noncomputable def f22_c : Code := Try.f22.body.getD .skip
def f22_B (x0 : ByteArray) (H : AH) (R : AEnd → AH → Prop) : Prop :=
 wNew [(.int .i64 0), (.string ({ data := #[] })), (.string ({ data := #[] })), (.int .i64 0), (.slice none 0 0), (.slice none 0 0), (.slice none 0 0)] H fun i1 H2 =>
 wNew [(.string x0), (.int .i64 0), (.int .i64 0)] H2 fun i3 H4 =>
 wCall Try.prog 63 [(.pointer (some ⟨i3, 0, none⟩))] H4 (fun r5 H6 =>
 opA 7 r5 fun l9 =>
 opI .i64 (l9.headD undef) fun n10 =>
 opS (l9.tail.headD undef) fun t11 =>
 opS (l9.tail.tail.headD undef) fun t12 =>
 opI .i64 (l9.tail.tail.tail.headD undef) fun n13 =>
 opL (l9.tail.tail.tail.tail.headD undef) fun z14b z14l z14c =>
 opL (l9.tail.tail.tail.tail.tail.headD undef) fun z15b z15l z15c =>
 opL (l9.tail.tail.tail.tail.tail.tail.headD undef) fun z16b z16l z16c =>
 wNew [(.int .i64 0), (.string ({ data := #[] })), (.string ({ data := #[] })), (.int .i64 0), (.slice none 0 0), (.slice none 0 0), (.slice none 0 0)] H6 fun i17 H18 =>
 wSt i17 0 [(.int .i64 n10), (.string t11), (.string t12), (.int .i64 n13), (.slice z14b z14l z14c), (.slice z15b z15l z15c), (.slice z16b z16l z16c)] H18 fun H19 =>
 wCall Try.prog 57 [(.pointer (some ⟨i3, 0, none⟩))] H19 (fun r20 H21 =>
 opI .i64 r20 fun n24 =>
 wIf (!decide (n24 = 0))
 (wSt i1 0 [(.int .i64 0), (.string ({ data := #[] })), (.string ({ data := #[] })), (.int .i64 0), (.slice none 0 0), (.slice none 0 0), (.slice none 0 0)] H21 fun H25 =>
 wPt (some ⟨i1, 0, none⟩) fun i26 k27 =>
 ldI .i64 i26 k27 H25 fun n28 =>
 ldS i26 (k27 + 1) H25 fun t29 =>
 ldS i26 (k27 + 2) H25 fun t30 =>
 ldI .i64 i26 (k27 + 3) H25 fun n31 =>
 ldL i26 (k27 + 4) H25 fun z32b z32l z32c =>
 ldL i26 (k27 + 5) H25 fun z33b z33l z33c =>
 ldL i26 (k27 + 6) H25 fun z34b z34l z34c =>
 R (.ret (.tuple #[(.agg #[(.int .i64 n28), (.string t29), (.string t30), (.int .i64 n31), (.slice z32b z32l z32c), (.slice z33b z33l z33c), (.slice z34b z34l z34c)]), (.int .i64 n24)])) H25)
 (ldI .i64 i17 0 H21 fun n35 =>
 ldS i17 1 H21 fun t36 =>
 ldS i17 2 H21 fun t37 =>
 ldI .i64 i17 3 H21 fun n38 =>
 ldL i17 4 H21 fun z39b z39l z39c =>
 ldL i17 5 H21 fun z40b z40l z40c =>
 ldL i17 6 H21 fun z41b z41l z41c =>
 wSt i1 0 [(.int .i64 n35), (.string t36), (.string t37), (.int .i64 n38), (.slice z39b z39l z39c), (.slice z40b z40l z40c), (.slice z41b z41l z41c)] H21 fun H42 =>
 wPt (some ⟨i1, 0, none⟩) fun i43 k44 =>
 ldI .i64 i43 k44 H42 fun n45 =>
 ldS i43 (k44 + 1) H42 fun t46 =>
 ldS i43 (k44 + 2) H42 fun t47 =>
 ldI .i64 i43 (k44 + 3) H42 fun n48 =>
 ldL i43 (k44 + 4) H42 fun z49b z49l z49c =>
 ldL i43 (k44 + 5) H42 fun z50b z50l z50c =>
 ldL i43 (k44 + 6) H42 fun z51b z51l z51c =>
 R (.ret (.tuple #[(.agg #[(.int .i64 n45), (.string t46), (.string t47), (.int .i64 n48), (.slice z49b z49l z49c), (.slice z50b z50l z50c), (.slice z51b z51l z51c)]), (.int .i64 0)])) H42)) (fun v23 H22 => R (.panic v23) H22)) (fun v8 H7 => R (.panic v8) H7)
theorem f22_eq (x0 : ByteArray) (H : AH) (R : AEnd → AH → Prop) : awpF Try.prog f22_c (aPost Try.prog Try.f22 R) (([(.string x0)] : List Value) ++ List.replicate (Try.f22.ntmps - (([(.string x0)] : List Value)).length) undef) H = f22_B x0 H R := by kernel_rfl
theorem f22_call (x0 : ByteArray) (H : AH) (R : AEnd → AH → Prop) (h : f22_B x0 H R) : ACall Try.prog 22 ([(.string x0)] : List Value) H R :=
  acall_of mixed Try.func22 (by kernel_rfl : Try.f22.body = some f22_c) (by kernel_rfl) (by kernel_rfl) (awp_of (Eq.mpr (f22_eq x0 H R) h))

/-! f42: switchyard/switchyardref13.GetDead -/
/-! f44: switchyard/switchyardref13.GetEvent -/
/-! f46: switchyard/switchyardref13.GetSub -/
end Go.Proofs.Ytfghglacfjncmaa
