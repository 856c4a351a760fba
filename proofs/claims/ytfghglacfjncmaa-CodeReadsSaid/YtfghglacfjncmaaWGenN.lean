/- Bodies of functions as nested rules: printed by genw.py, a program of this claim. -/
import Derived.Test.YtfghglacfjncmaaWTy
namespace Go.Proofs.Ytfghglacfjncmaa
open Go.RowKit
set_option linter.unusedVariables false
set_option maxRecDepth 100000

/-! f57: (*switchyard/switchyardref02.Reader).End -/
noncomputable def f57_c : Code := Try.f57.body.getD .skip
noncomputable def f57_X0 (R : AEnd → AH → Prop) : AExit → List Value → AH → Prop := thenF (fun tm H => hold (awpF Try.prog (codeAt f57_c [1, 1]) (aPost Try.prog Try.f57 R) tm H)) (aPost Try.prog Try.f57 R)
def f57_J0 (R : AEnd → AH → Prop) (tm : List Value) (H : AH) : Prop := hold (awpF Try.prog (codeAt f57_c [1, 0, 1]) ((f57_X0 R)) tm H)
def f57_J1 (R : AEnd → AH → Prop) (tm : List Value) (H : AH) : Prop := hold (awpF Try.prog (codeAt f57_c [1, 1]) ((aPost Try.prog Try.f57 R)) tm H)
-- join 1: live 0:r
def f57_J1_B (s0 : Option Addr) (H : AH) (R : AEnd → AH → Prop) : Prop :=
 wPt s0 fun i1 k2 =>
 ldI .i64 i1 (k2 + 2) H fun n3 =>
 R (.ret (.int .i64 n3)) H
theorem f57_J1_eq (s0 : Option Addr) (s1 s2 s3 s4 s5 s6 s7 s8 s9 s10 s11 s12 s13 s14 s15 s16 s17 s18 s19 s20 s21 s22 s23 : Value) (H : AH) (R : AEnd → AH → Prop) : f57_J1 R [(.pointer s0), s1, s2, s3, s4, s5, s6, s7, s8, s9, s10, s11, s12, s13, s14, s15, s16, s17, s18, s19, s20, s21, s22, s23] H = f57_J1_B s0 H R := by kernel_rfl
-- join 0: live 0:r, 19:
def f57_J0_B (s0 : Option Addr) (s1 s2 s3 s4 s5 s6 s7 s8 s9 s10 s11 s12 s13 s14 s15 s16 s17 s18 : Value) (s19 : Bool) (s20 s21 s22 s23 : Value) (H : AH) (R : AEnd → AH → Prop) : Prop :=
 wIf s19
 (R (.ret (.int .i64 4)) H)
 (f57_J1 R [(.pointer s0), s1, s2, s3, s4, s5, s6, s7, s8, s9, s10, s11, s12, s13, s14, s15, s16, s17, s18, (.bool false), s20, s21, s22, s23] H)
theorem f57_J0_eq (s0 : Option Addr) (s1 s2 s3 s4 s5 s6 s7 s8 s9 s10 s11 s12 s13 s14 s15 s16 s17 s18 : Value) (s19 : Bool) (s20 s21 s22 s23 : Value) (H : AH) (R : AEnd → AH → Prop) : f57_J0 R [(.pointer s0), s1, s2, s3, s4, s5, s6, s7, s8, s9, s10, s11, s12, s13, s14, s15, s16, s17, s18, (.bool s19), s20, s21, s22, s23] H = f57_J0_B s0 s1 s2 s3 s4 s5 s6 s7 s8 s9 s10 s11 s12 s13 s14 s15 s16 s17 s18 s19 s20 s21 s22 s23 H R := by kernel_rfl
def f57_B (x0 : Option Addr) (H : AH) (R : AEnd → AH → Prop) : Prop :=
 wPt x0 fun i4 k5 =>
 ldI .i64 i4 (k5 + 2) H fun n6 =>
 wIf (decide (n6 = 0))
 (wPt x0 fun i7 k8 =>
 wPt x0 fun i9 k10 =>
 (ldI .i64 i7 (k8 + 1) H fun n11 =>
 ldS i9 k10 H fun t12 =>
 f57_J0 R [(.pointer x0), undef, (.int .i64 0), (.pointer x0), (.pointer (some ⟨i4, k5, none⟩)), (.pointer (some ⟨i4, (k5 + 2), none⟩)), (.int .i64 n6), (.bool (decide (n6 = 0))), (.bool true), (.pointer x0), (.pointer (some ⟨i7, k8, none⟩)), (.pointer (some ⟨i7, (k8 + 1), none⟩)), (.int .i64 n11), (.pointer x0), (.pointer (some ⟨i9, k10, none⟩)), (.pointer (some ⟨i9, k10, none⟩)), (.string t12), (.int .i64 (t12.size : Int)), (.bool (decide (n11 < (t12.size : Int)))), (.bool (decide (n11 < (t12.size : Int)))), undef, undef, undef, undef] H) ∧
 (ldS i9 k10 H fun t13 =>
 ldI .i64 i7 (k8 + 1) H fun n14 =>
 f57_J0 R [(.pointer x0), undef, (.int .i64 0), (.pointer x0), (.pointer (some ⟨i4, k5, none⟩)), (.pointer (some ⟨i4, (k5 + 2), none⟩)), (.int .i64 n6), (.bool (decide (n6 = 0))), (.bool true), (.pointer x0), (.pointer (some ⟨i7, k8, none⟩)), (.pointer (some ⟨i7, (k8 + 1), none⟩)), (.int .i64 n14), (.pointer x0), (.pointer (some ⟨i9, k10, none⟩)), (.pointer (some ⟨i9, k10, none⟩)), (.string t13), (.int .i64 (t13.size : Int)), (.bool (decide (n14 < (t13.size : Int)))), (.bool (decide (n14 < (t13.size : Int)))), undef, undef, undef, undef] H))
 ((f57_J0 R [(.pointer x0), undef, (.int .i64 0), (.pointer x0), (.pointer (some ⟨i4, k5, none⟩)), (.pointer (some ⟨i4, (k5 + 2), none⟩)), (.int .i64 n6), (.bool (decide (n6 = 0))), (.bool false), undef, undef, undef, undef, undef, undef, undef, undef, undef, undef, (.bool false), undef, undef, undef, undef] H) ∧
 (f57_J0 R [(.pointer x0), undef, (.int .i64 0), (.pointer x0), (.pointer (some ⟨i4, k5, none⟩)), (.pointer (some ⟨i4, (k5 + 2), none⟩)), (.int .i64 n6), (.bool (decide (n6 = 0))), (.bool false), undef, undef, undef, undef, undef, undef, undef, undef, undef, undef, (.bool false), undef, undef, undef, undef] H))
theorem f57_eq (x0 : Option Addr) (H : AH) (R : AEnd → AH → Prop) : awpF Try.prog f57_c (aPost Try.prog Try.f57 R) (([(.pointer x0)] : List Value) ++ List.replicate (Try.f57.ntmps - (([(.pointer x0)] : List Value)).length) undef) H = f57_B x0 H R := by kernel_rfl
theorem f57_call (x0 : Option Addr) (H : AH) (R : AEnd → AH → Prop) (h : f57_B x0 H R) : ACall Try.prog 57 ([(.pointer x0)] : List Value) H R :=
  acall_of mixed Try.func57 (by kernel_rfl : Try.f57.body = some f57_c) (by kernel_rfl) (by kernel_rfl) (awp_of (Eq.mpr (f57_eq x0 H R) h))

/-! f82: (*switchyard/switchyardref02.Reader).Number -/
noncomputable def f82_c : Code := Try.f82.body.getD .skip
def f82_B (x0 : Option Addr) (H : AH) (R : AEnd → AH → Prop) : Prop :=
 wCall Try.prog 124 [(.pointer x0)] H (fun r1 H2 =>
 opI .u64 r1 fun n5 =>
 wIf (decide ((Int.tmod n5 2) = 1))
 (R (.ret (.int .i64 (IntKind.i64.wrap ((IntKind.i64.wrap (0 - (IntKind.i64.wrap (IntKind.u64.wrap (Int.tdiv n5 2))))) - 1)))) H2)
 (R (.ret (.int .i64 (IntKind.i64.wrap (IntKind.u64.wrap (Int.tdiv n5 2))))) H2)) (fun v4 H3 => R (.panic v4) H3)
theorem f82_eq (x0 : Option Addr) (H : AH) (R : AEnd → AH → Prop) : awpF Try.prog f82_c (aPost Try.prog Try.f82 R) (([(.pointer x0)] : List Value) ++ List.replicate (Try.f82.ntmps - (([(.pointer x0)] : List Value)).length) undef) H = f82_B x0 H R := by kernel_rfl
theorem f82_call (x0 : Option Addr) (H : AH) (R : AEnd → AH → Prop) (h : f82_B x0 H R) : ACall Try.prog 82 ([(.pointer x0)] : List Value) H R :=
  acall_of mixed Try.func82 (by kernel_rfl : Try.f82.body = some f82_c) (by kernel_rfl) (by kernel_rfl) (awp_of (Eq.mpr (f82_eq x0 H R) h))

/-! f83: (*switchyard/switchyardref02.Reader).Small -/
noncomputable def f83_c : Code := Try.f83.body.getD .skip
noncomputable def f83_X0 (R : AEnd → AH → Prop) : AExit → List Value → AH → Prop := thenF (fun tm H => hold (awpF Try.prog (codeAt f83_c [1, 1, 1, 1]) (aPost Try.prog Try.f83 R) tm H)) (aPost Try.prog Try.f83 R)
def f83_J0 (R : AEnd → AH → Prop) (tm : List Value) (H : AH) : Prop := hold (awpF Try.prog (codeAt f83_c [1, 1, 1, 0, 1]) ((f83_X0 R)) tm H)
def f83_J1 (R : AEnd → AH → Prop) (tm : List Value) (H : AH) : Prop := hold (awpF Try.prog (codeAt f83_c [1, 1, 1, 1]) ((aPost Try.prog Try.f83 R)) tm H)
-- join 1: live 0:r, 5:n, 6:end, 7:e
def f83_J1_B (s0 : Option Addr) (s5 s6 s7 : Int) (H : AH) (R : AEnd → AH → Prop) : Prop :=
 wIf (!decide (s7 = 0))
 (wPt s0 fun i1 k2 =>
 wSt i1 (k2 + 2) [(.int .i64 s7)] H fun H3 =>
 R (.ret (.int .i64 0)) H3)
 (wPt s0 fun i4 k5 =>
 wSt i4 (k5 + 1) [(.int .i64 s6)] H fun H6 =>
 R (.ret (.int .i64 (IntKind.i64.wrap s5))) H6)
theorem f83_J1_eq (s0 : Option Addr) (s1 s2 s3 s4 : Value) (s5 s6 s7 : Int) (s8 s9 s10 s11 s12 s13 s14 s15 s16 s17 s18 s19 s20 s21 s22 s23 s24 s25 s26 s27 s28 s29 s30 s31 s32 s33 s34 s35 s36 s37 s38 s39 s40 s41 s42 : Value) (H : AH) (R : AEnd → AH → Prop) : f83_J1 R [(.pointer s0), s1, s2, s3, s4, (.int .u64 s5), (.int .i64 s6), (.int .i64 s7), s8, s9, s10, s11, s12, s13, s14, s15, s16, s17, s18, s19, s20, s21, s22, s23, s24, s25, s26, s27, s28, s29, s30, s31, s32, s33, s34, s35, s36, s37, s38, s39, s40, s41, s42] H = f83_J1_B s0 s5 s6 s7 H R := by kernel_rfl
-- join 0: live 0:r, 5:n, 6:end, 7:e, 30:
def f83_J0_B (s0 : Option Addr) (s1 s2 s3 s4 : Value) (s5 s6 s7 : Int) (s8 s9 s10 s11 s12 s13 s14 s15 s16 s17 s18 s19 s20 s21 s22 s23 s24 s25 s26 s27 s28 s29 : Value) (s30 : Bool) (s31 s32 s33 s34 s35 s36 s37 s38 s39 s40 s41 s42 : Value) (H : AH) (R : AEnd → AH → Prop) : Prop :=
 wIf s30
 (f83_J1 R [(.pointer s0), s1, s2, s3, s4, (.int .u64 s5), (.int .i64 s6), (.int .i64 5), s8, s9, s10, s11, s12, s13, s14, s15, s16, s17, s18, s19, s20, s21, s22, s23, s24, s25, s26, s27, s28, s29, (.bool true), s31, s32, s33, s34, s35, s36, s37, s38, s39, s40, s41, s42] H)
 (f83_J1 R [(.pointer s0), s1, s2, s3, s4, (.int .u64 s5), (.int .i64 s6), (.int .i64 s7), s8, s9, s10, s11, s12, s13, s14, s15, s16, s17, s18, s19, s20, s21, s22, s23, s24, s25, s26, s27, s28, s29, (.bool false), s31, s32, s33, s34, s35, s36, s37, s38, s39, s40, s41, s42] H)
theorem f83_J0_eq (s0 : Option Addr) (s1 s2 s3 s4 : Value) (s5 s6 s7 : Int) (s8 s9 s10 s11 s12 s13 s14 s15 s16 s17 s18 s19 s20 s21 s22 s23 s24 s25 s26 s27 s28 s29 : Value) (s30 : Bool) (s31 s32 s33 s34 s35 s36 s37 s38 s39 s40 s41 s42 : Value) (H : AH) (R : AEnd → AH → Prop) : f83_J0 R [(.pointer s0), s1, s2, s3, s4, (.int .u64 s5), (.int .i64 s6), (.int .i64 s7), s8, s9, s10, s11, s12, s13, s14, s15, s16, s17, s18, s19, s20, s21, s22, s23, s24, s25, s26, s27, s28, s29, (.bool s30), s31, s32, s33, s34, s35, s36, s37, s38, s39, s40, s41, s42] H = f83_J0_B s0 s1 s2 s3 s4 s5 s6 s7 s8 s9 s10 s11 s12 s13 s14 s15 s16 s17 s18 s19 s20 s21 s22 s23 s24 s25 s26 s27 s28 s29 s30 s31 s32 s33 s34 s35 s36 s37 s38 s39 s40 s41 s42 H R := by kernel_rfl
def f83_B (x0 : Option Addr) (x1 : Int) (H : AH) (R : AEnd → AH → Prop) : Prop :=
 wPt x0 fun i7 k8 =>
 ldI .i64 i7 (k8 + 2) H fun n9 =>
 wIf (!decide (n9 = 0))
 (R (.ret (.int .i64 0)) H)
 (wCall Try.prog 125 [(.pointer x0)] H (fun r10 H11 =>
 opT 3 r10 fun l14 =>
 opI .u64 (l14.headD undef) fun n15 =>
 opI .i64 (l14.tail.headD undef) fun n16 =>
 opI .i64 (l14.tail.tail.headD undef) fun n17 =>
 wIf (decide (n17 = 0))
 (wIf (decide (x1 < 0))
 (f83_J0 R [(.pointer x0), (.int .i64 x1), undef, undef, (.int .i64 0), (.int .u64 n15), (.int .i64 n16), (.int .i64 n17), (.pointer x0), (.pointer (some ⟨i7, k8, none⟩)), (.pointer (some ⟨i7, (k8 + 2), none⟩)), (.int .i64 n9), (.bool false), (.tuple #[(.int .u64 n15), (.int .i64 n16), (.int .i64 n17)]), (.pointer x0), (.tuple #[(.int .u64 n15), (.int .i64 n16), (.int .i64 n17)]), (.int .u64 n15), (.int .i64 n16), (.int .i64 n17), (.int .i64 n17), (.bool (decide (n17 = 0))), (.bool true), (.int .i64 x1), (.bool (decide (x1 < 0))), (.bool true), undef, undef, undef, undef, (.bool true), (.bool true), undef, undef, undef, undef, undef, undef, undef, undef, undef, undef, undef, undef] H11)
 (f83_J0 R [(.pointer x0), (.int .i64 x1), undef, undef, (.int .i64 0), (.int .u64 n15), (.int .i64 n16), (.int .i64 n17), (.pointer x0), (.pointer (some ⟨i7, k8, none⟩)), (.pointer (some ⟨i7, (k8 + 2), none⟩)), (.int .i64 n9), (.bool false), (.tuple #[(.int .u64 n15), (.int .i64 n16), (.int .i64 n17)]), (.pointer x0), (.tuple #[(.int .u64 n15), (.int .i64 n16), (.int .i64 n17)]), (.int .u64 n15), (.int .i64 n16), (.int .i64 n17), (.int .i64 n17), (.bool (decide (n17 = 0))), (.bool true), (.int .i64 x1), (.bool (decide (x1 < 0))), (.bool false), (.int .u64 n15), (.int .i64 x1), (.int .u64 (IntKind.u64.wrap x1)), (.bool (decide (n15 > (IntKind.u64.wrap x1)))), (.bool (decide (n15 > (IntKind.u64.wrap x1)))), (.bool (decide (n15 > (IntKind.u64.wrap x1)))), undef, undef, undef, undef, undef, undef, undef, undef, undef, undef, undef, undef] H11))
 (f83_J0 R [(.pointer x0), (.int .i64 x1), undef, undef, (.int .i64 0), (.int .u64 n15), (.int .i64 n16), (.int .i64 n17), (.pointer x0), (.pointer (some ⟨i7, k8, none⟩)), (.pointer (some ⟨i7, (k8 + 2), none⟩)), (.int .i64 n9), (.bool false), (.tuple #[(.int .u64 n15), (.int .i64 n16), (.int .i64 n17)]), (.pointer x0), (.tuple #[(.int .u64 n15), (.int .i64 n16), (.int .i64 n17)]), (.int .u64 n15), (.int .i64 n16), (.int .i64 n17), (.int .i64 n17), (.bool (decide (n17 = 0))), (.bool false), undef, undef, undef, undef, undef, undef, undef, undef, (.bool false), undef, undef, undef, undef, undef, undef, undef, undef, undef, undef, undef, undef] H11)) (fun v13 H12 => R (.panic v13) H12))
theorem f83_eq (x0 : Option Addr) (x1 : Int) (H : AH) (R : AEnd → AH → Prop) : awpF Try.prog f83_c (aPost Try.prog Try.f83 R) (([(.pointer x0), (.int .i64 x1)] : List Value) ++ List.replicate (Try.f83.ntmps - (([(.pointer x0), (.int .i64 x1)] : List Value)).length) undef) H = f83_B x0 x1 H R := by kernel_rfl
theorem f83_call (x0 : Option Addr) (x1 : Int) (H : AH) (R : AEnd → AH → Prop) (h : f83_B x0 x1 H R) : ACall Try.prog 83 ([(.pointer x0), (.int .i64 x1)] : List Value) H R :=
  acall_of mixed Try.func83 (by kernel_rfl : Try.f83.body = some f83_c) (by kernel_rfl) (by kernel_rfl) (awp_of (Eq.mpr (f83_eq x0 x1 H R) h))

/-! f86: (*switchyard/switchyardref02.Reader).Text -/
noncomputable def f86_c : Code := Try.f86.body.getD .skip
noncomputable def f86_X0 (R : AEnd → AH → Prop) : AExit → List Value → AH → Prop := thenF (fun tm H => hold (awpF Try.prog (codeAt f86_c [1, 1, 1, 1]) (aPost Try.prog Try.f86 R) tm H)) (aPost Try.prog Try.f86 R)
def f86_J0 (R : AEnd → AH → Prop) (tm : List Value) (H : AH) : Prop := hold (awpF Try.prog (codeAt f86_c [1, 1, 1, 0, 1]) ((f86_X0 R)) tm H)
def f86_J1 (R : AEnd → AH → Prop) (tm : List Value) (H : AH) : Prop := hold (awpF Try.prog (codeAt f86_c [1, 1, 1, 1]) ((aPost Try.prog Try.f86 R)) tm H)
noncomputable def f86_X1 (R : AEnd → AH → Prop) : AExit → List Value → AH → Prop := thenF (fun tm H => hold (awpF Try.prog (codeAt f86_c [1, 1, 1, 1, 1]) (aPost Try.prog Try.f86 R) tm H)) (aPost Try.prog Try.f86 R)
def f86_J2 (R : AEnd → AH → Prop) (tm : List Value) (H : AH) : Prop := hold (awpF Try.prog (codeAt f86_c [1, 1, 1, 1, 0, 1]) ((f86_X1 R)) tm H)
def f86_J3 (R : AEnd → AH → Prop) (tm : List Value) (H : AH) : Prop := hold (awpF Try.prog (codeAt f86_c [1, 1, 1, 1, 1]) ((aPost Try.prog Try.f86 R)) tm H)
-- join 3: live 0:G, 5:d, 6:e, 7:.
def f86_J3_B (s0 : Option Addr) (s5 s6 s7 : Int) (H : AH) (R : AEnd → AH → Prop) : Prop :=
 wIf (!decide (s7 = 0))
 (wPt s0 fun i1 k2 =>
 wSt i1 (k2 + 2) [(.int .i64 s7)] H fun H3 =>
 R (.ret (.string ({ data := #[] }))) H3)
 (wPt s0 fun i4 k5 =>
 wSt i4 (k5 + 1) [(.int .i64 (IntKind.i64.wrap (s6 + (IntKind.i64.wrap s5))))] H fun H6 =>
 wPt s0 fun i7 k8 =>
 wPt s0 fun i9 k10 =>
 ldS i7 k8 H6 fun t11 =>
 ldI .i64 i9 (k10 + 1) H6 fun n12 =>
 wSlS t11 s6 n12 fun t13 =>
 R (.ret (.string t13)) H6)
theorem f86_J3_eq (s0 : Option Addr) (s1 s2 s3 s4 : Value) (s5 s6 s7 : Int) (s8 s9 s10 s11 s12 s13 s14 s15 s16 s17 s18 s19 s20 s21 s22 s23 s24 s25 s26 s27 s28 s29 s30 s31 s32 s33 s34 s35 s36 s37 s38 s39 s40 s41 s42 s43 s44 s45 s46 s47 s48 s49 s50 s51 s52 s53 s54 s55 s56 s57 s58 s59 s60 s61 s62 s63 s64 s65 s66 s67 : Value) (H : AH) (R : AEnd → AH → Prop) : f86_J3 R [(.pointer s0), s1, s2, s3, s4, (.int .u64 s5), (.int .i64 s6), (.int .i64 s7), s8, s9, s10, s11, s12, s13, s14, s15, s16, s17, s18, s19, s20, s21, s22, s23, s24, s25, s26, s27, s28, s29, s30, s31, s32, s33, s34, s35, s36, s37, s38, s39, s40, s41, s42, s43, s44, s45, s46, s47, s48, s49, s50, s51, s52, s53, s54, s55, s56, s57, s58, s59, s60, s61, s62, s63, s64, s65, s66, s67] H = f86_J3_B s0 s5 s6 s7 H R := by kernel_rfl
-- join 2: live 0:G, 5:d, 6:e, 7:., 44:?
def f86_J2_B (s0 : Option Addr) (s1 s2 s3 s4 : Value) (s5 s6 s7 : Int) (s8 s9 s10 s11 s12 s13 s14 s15 s16 s17 s18 s19 s20 s21 s22 s23 s24 s25 s26 s27 s28 s29 s30 s31 s32 s33 s34 s35 s36 s37 s38 s39 s40 s41 s42 s43 : Value) (s44 : Bool) (s45 s46 s47 s48 s49 s50 s51 s52 s53 s54 s55 s56 s57 s58 s59 s60 s61 s62 s63 s64 s65 s66 s67 : Value) (H : AH) (R : AEnd → AH → Prop) : Prop :=
 wIf s44
 (f86_J3 R [(.pointer s0), s1, s2, s3, s4, (.int .u64 s5), (.int .i64 s6), (.int .i64 3), s8, s9, s10, s11, s12, s13, s14, s15, s16, s17, s18, s19, s20, s21, s22, s23, s24, s25, s26, s27, s28, s29, s30, s31, s32, s33, s34, s35, s36, s37, s38, s39, s40, s41, s42, s43, (.bool true), s45, s46, s47, s48, s49, s50, s51, s52, s53, s54, s55, s56, s57, s58, s59, s60, s61, s62, s63, s64, s65, s66, s67] H)
 (f86_J3 R [(.pointer s0), s1, s2, s3, s4, (.int .u64 s5), (.int .i64 s6), (.int .i64 s7), s8, s9, s10, s11, s12, s13, s14, s15, s16, s17, s18, s19, s20, s21, s22, s23, s24, s25, s26, s27, s28, s29, s30, s31, s32, s33, s34, s35, s36, s37, s38, s39, s40, s41, s42, s43, (.bool false), s45, s46, s47, s48, s49, s50, s51, s52, s53, s54, s55, s56, s57, s58, s59, s60, s61, s62, s63, s64, s65, s66, s67] H)
theorem f86_J2_eq (s0 : Option Addr) (s1 s2 s3 s4 : Value) (s5 s6 s7 : Int) (s8 s9 s10 s11 s12 s13 s14 s15 s16 s17 s18 s19 s20 s21 s22 s23 s24 s25 s26 s27 s28 s29 s30 s31 s32 s33 s34 s35 s36 s37 s38 s39 s40 s41 s42 s43 : Value) (s44 : Bool) (s45 s46 s47 s48 s49 s50 s51 s52 s53 s54 s55 s56 s57 s58 s59 s60 s61 s62 s63 s64 s65 s66 s67 : Value) (H : AH) (R : AEnd → AH → Prop) : f86_J2 R [(.pointer s0), s1, s2, s3, s4, (.int .u64 s5), (.int .i64 s6), (.int .i64 s7), s8, s9, s10, s11, s12, s13, s14, s15, s16, s17, s18, s19, s20, s21, s22, s23, s24, s25, s26, s27, s28, s29, s30, s31, s32, s33, s34, s35, s36, s37, s38, s39, s40, s41, s42, s43, (.bool s44), s45, s46, s47, s48, s49, s50, s51, s52, s53, s54, s55, s56, s57, s58, s59, s60, s61, s62, s63, s64, s65, s66, s67] H = f86_J2_B s0 s1 s2 s3 s4 s5 s6 s7 s8 s9 s10 s11 s12 s13 s14 s15 s16 s17 s18 s19 s20 s21 s22 s23 s24 s25 s26 s27 s28 s29 s30 s31 s32 s33 s34 s35 s36 s37 s38 s39 s40 s41 s42 s43 s44 s45 s46 s47 s48 s49 s50 s51 s52 s53 s54 s55 s56 s57 s58 s59 s60 s61 s62 s63 s64 s65 s66 s67 H R := by kernel_rfl
-- join 1: live 0:G, 5:d, 6:e, 7:.
def f86_J1_B (s0 : Option Addr) (s1 s2 s3 s4 : Value) (s5 s6 s7 : Int) (s8 s9 s10 s11 s12 s13 s14 s15 s16 s17 s18 s19 s20 s21 s22 s23 s24 s25 s26 s27 s28 s29 s30 s45 s46 s47 s48 s49 s50 s51 s52 s53 s54 s55 s56 s57 s58 s59 s60 s61 s62 s63 s64 s65 s66 s67 : Value) (H : AH) (R : AEnd → AH → Prop) : Prop :=
 wIf (decide (s7 = 0))
 (wPt s0 fun i14 k15 =>
 ldS i14 k15 H fun t16 =>
 f86_J2 R [(.pointer s0), s1, s2, s3, s4, (.int .u64 s5), (.int .i64 s6), (.int .i64 s7), s8, s9, s10, s11, s12, s13, s14, s15, s16, s17, s18, s19, s20, s21, s22, s23, s24, s25, s26, s27, s28, s29, s30, (.int .i64 s7), (.bool (decide (s7 = 0))), (.bool true), (.int .u64 s5), (.pointer s0), (.pointer (some ⟨i14, k15, none⟩)), (.pointer (some ⟨i14, k15, none⟩)), (.string t16), (.int .i64 (t16.size : Int)), (.int .i64 s6), (.int .i64 (IntKind.i64.wrap ((t16.size : Int) - s6))), (.int .u64 (IntKind.u64.wrap (IntKind.i64.wrap ((t16.size : Int) - s6)))), (.bool (decide (s5 > (IntKind.u64.wrap (IntKind.i64.wrap ((t16.size : Int) - s6)))))), (.bool (decide (s5 > (IntKind.u64.wrap (IntKind.i64.wrap ((t16.size : Int) - s6)))))), s45, s46, s47, s48, s49, s50, s51, s52, s53, s54, s55, s56, s57, s58, s59, s60, s61, s62, s63, s64, s65, s66, s67] H)
 (f86_J2 R [(.pointer s0), s1, s2, s3, s4, (.int .u64 s5), (.int .i64 s6), (.int .i64 s7), s8, s9, s10, s11, s12, s13, s14, s15, s16, s17, s18, s19, s20, s21, s22, s23, s24, s25, s26, s27, s28, s29, s30, (.int .i64 s7), (.bool (decide (s7 = 0))), (.bool false), undef, undef, undef, undef, undef, undef, undef, undef, undef, undef, (.bool false), s45, s46, s47, s48, s49, s50, s51, s52, s53, s54, s55, s56, s57, s58, s59, s60, s61, s62, s63, s64, s65, s66, s67] H)
theorem f86_J1_eq (s0 : Option Addr) (s1 s2 s3 s4 : Value) (s5 s6 s7 : Int) (s8 s9 s10 s11 s12 s13 s14 s15 s16 s17 s18 s19 s20 s21 s22 s23 s24 s25 s26 s27 s28 s29 s30 s31 s32 s33 s34 s35 s36 s37 s38 s39 s40 s41 s42 s43 s44 s45 s46 s47 s48 s49 s50 s51 s52 s53 s54 s55 s56 s57 s58 s59 s60 s61 s62 s63 s64 s65 s66 s67 : Value) (H : AH) (R : AEnd → AH → Prop) : f86_J1 R [(.pointer s0), s1, s2, s3, s4, (.int .u64 s5), (.int .i64 s6), (.int .i64 s7), s8, s9, s10, s11, s12, s13, s14, s15, s16, s17, s18, s19, s20, s21, s22, s23, s24, s25, s26, s27, s28, s29, s30, s31, s32, s33, s34, s35, s36, s37, s38, s39, s40, s41, s42, s43, s44, s45, s46, s47, s48, s49, s50, s51, s52, s53, s54, s55, s56, s57, s58, s59, s60, s61, s62, s63, s64, s65, s66, s67] H = f86_J1_B s0 s1 s2 s3 s4 s5 s6 s7 s8 s9 s10 s11 s12 s13 s14 s15 s16 s17 s18 s19 s20 s21 s22 s23 s24 s25 s26 s27 s28 s29 s30 s45 s46 s47 s48 s49 s50 s51 s52 s53 s54 s55 s56 s57 s58 s59 s60 s61 s62 s63 s64 s65 s66 s67 H R := by kernel_rfl
-- join 0: live 0:G, 5:d, 6:e, 7:., 30:?
def f86_J0_B (s0 : Option Addr) (s1 s2 s3 s4 : Value) (s5 s6 s7 : Int) (s8 s9 s10 s11 s12 s13 s14 s15 s16 s17 s18 s19 s20 s21 s22 s23 s24 s25 s26 s27 s28 s29 : Value) (s30 : Bool) (s31 s32 s33 s34 s35 s36 s37 s38 s39 s40 s41 s42 s43 s44 s45 s46 s47 s48 s49 s50 s51 s52 s53 s54 s55 s56 s57 s58 s59 s60 s61 s62 s63 s64 s65 s66 s67 : Value) (H : AH) (R : AEnd → AH → Prop) : Prop :=
 wIf s30
 (f86_J1 R [(.pointer s0), s1, s2, s3, s4, (.int .u64 s5), (.int .i64 s6), (.int .i64 5), s8, s9, s10, s11, s12, s13, s14, s15, s16, s17, s18, s19, s20, s21, s22, s23, s24, s25, s26, s27, s28, s29, (.bool true), s31, s32, s33, s34, s35, s36, s37, s38, s39, s40, s41, s42, s43, s44, s45, s46, s47, s48, s49, s50, s51, s52, s53, s54, s55, s56, s57, s58, s59, s60, s61, s62, s63, s64, s65, s66, s67] H)
 (f86_J1 R [(.pointer s0), s1, s2, s3, s4, (.int .u64 s5), (.int .i64 s6), (.int .i64 s7), s8, s9, s10, s11, s12, s13, s14, s15, s16, s17, s18, s19, s20, s21, s22, s23, s24, s25, s26, s27, s28, s29, (.bool false), s31, s32, s33, s34, s35, s36, s37, s38, s39, s40, s41, s42, s43, s44, s45, s46, s47, s48, s49, s50, s51, s52, s53, s54, s55, s56, s57, s58, s59, s60, s61, s62, s63, s64, s65, s66, s67] H)
theorem f86_J0_eq (s0 : Option Addr) (s1 s2 s3 s4 : Value) (s5 s6 s7 : Int) (s8 s9 s10 s11 s12 s13 s14 s15 s16 s17 s18 s19 s20 s21 s22 s23 s24 s25 s26 s27 s28 s29 : Value) (s30 : Bool) (s31 s32 s33 s34 s35 s36 s37 s38 s39 s40 s41 s42 s43 s44 s45 s46 s47 s48 s49 s50 s51 s52 s53 s54 s55 s56 s57 s58 s59 s60 s61 s62 s63 s64 s65 s66 s67 : Value) (H : AH) (R : AEnd → AH → Prop) : f86_J0 R [(.pointer s0), s1, s2, s3, s4, (.int .u64 s5), (.int .i64 s6), (.int .i64 s7), s8, s9, s10, s11, s12, s13, s14, s15, s16, s17, s18, s19, s20, s21, s22, s23, s24, s25, s26, s27, s28, s29, (.bool s30), s31, s32, s33, s34, s35, s36, s37, s38, s39, s40, s41, s42, s43, s44, s45, s46, s47, s48, s49, s50, s51, s52, s53, s54, s55, s56, s57, s58, s59, s60, s61, s62, s63, s64, s65, s66, s67] H = f86_J0_B s0 s1 s2 s3 s4 s5 s6 s7 s8 s9 s10 s11 s12 s13 s14 s15 s16 s17 s18 s19 s20 s21 s22 s23 s24 s25 s26 s27 s28 s29 s30 s31 s32 s33 s34 s35 s36 s37 s38 s39 s40 s41 s42 s43 s44 s45 s46 s47 s48 s49 s50 s51 s52 s53 s54 s55 s56 s57 s58 s59 s60 s61 s62 s63 s64 s65 s66 s67 H R := by kernel_rfl
def f86_B (x0 : Option Addr) (x1 : Int) (H : AH) (R : AEnd → AH → Prop) : Prop :=
 wPt x0 fun i17 k18 =>
 ldI .i64 i17 (k18 + 2) H fun n19 =>
 wIf (!decide (n19 = 0))
 (R (.ret (.string ({ data := #[] }))) H)
 (wCall Try.prog 125 [(.pointer x0)] H (fun r20 H21 =>
 opT 3 r20 fun l24 =>
 opI .u64 (l24.headD undef) fun n25 =>
 opI .i64 (l24.tail.headD undef) fun n26 =>
 opI .i64 (l24.tail.tail.headD undef) fun n27 =>
 wIf (decide (n27 = 0))
 (wIf (decide (x1 < 0))
 (f86_J0 R [(.pointer x0), (.int .i64 x1), undef, undef, (.string ({ data := #[] })), (.int .u64 n25), (.int .i64 n26), (.int .i64 n27), (.pointer x0), (.pointer (some ⟨i17, k18, none⟩)), (.pointer (some ⟨i17, (k18 + 2), none⟩)), (.int .i64 n19), (.bool false), (.tuple #[(.int .u64 n25), (.int .i64 n26), (.int .i64 n27)]), (.pointer x0), (.tuple #[(.int .u64 n25), (.int .i64 n26), (.int .i64 n27)]), (.int .u64 n25), (.int .i64 n26), (.int .i64 n27), (.int .i64 n27), (.bool (decide (n27 = 0))), (.bool true), (.int .i64 x1), (.bool (decide (x1 < 0))), (.bool true), undef, undef, undef, undef, (.bool true), (.bool true), undef, undef, undef, undef, undef, undef, undef, undef, undef, undef, undef, undef, undef, undef, undef, undef, undef, undef, undef, undef, undef, undef, undef, undef, undef, undef, undef, undef, undef, undef, undef, undef, undef, undef, undef, undef, undef] H21)
 (f86_J0 R [(.pointer x0), (.int .i64 x1), undef, undef, (.string ({ data := #[] })), (.int .u64 n25), (.int .i64 n26), (.int .i64 n27), (.pointer x0), (.pointer (some ⟨i17, k18, none⟩)), (.pointer (some ⟨i17, (k18 + 2), none⟩)), (.int .i64 n19), (.bool false), (.tuple #[(.int .u64 n25), (.int .i64 n26), (.int .i64 n27)]), (.pointer x0), (.tuple #[(.int .u64 n25), (.int .i64 n26), (.int .i64 n27)]), (.int .u64 n25), (.int .i64 n26), (.int .i64 n27), (.int .i64 n27), (.bool (decide (n27 = 0))), (.bool true), (.int .i64 x1), (.bool (decide (x1 < 0))), (.bool false), (.int .u64 n25), (.int .i64 x1), (.int .u64 (IntKind.u64.wrap x1)), (.bool (decide (n25 > (IntKind.u64.wrap x1)))), (.bool (decide (n25 > (IntKind.u64.wrap x1)))), (.bool (decide (n25 > (IntKind.u64.wrap x1)))), undef, undef, undef, undef, undef, undef, undef, undef, undef, undef, undef, undef, undef, undef, undef, undef, undef, undef, undef, undef, undef, undef, undef, undef, undef, undef, undef, undef, undef, undef, undef, undef, undef, undef, undef, undef, undef] H21))
 (f86_J0 R [(.pointer x0), (.int .i64 x1), undef, undef, (.string ({ data := #[] })), (.int .u64 n25), (.int .i64 n26), (.int .i64 n27), (.pointer x0), (.pointer (some ⟨i17, k18, none⟩)), (.pointer (some ⟨i17, (k18 + 2), none⟩)), (.int .i64 n19), (.bool false), (.tuple #[(.int .u64 n25), (.int .i64 n26), (.int .i64 n27)]), (.pointer x0), (.tuple #[(.int .u64 n25), (.int .i64 n26), (.int .i64 n27)]), (.int .u64 n25), (.int .i64 n26), (.int .i64 n27), (.int .i64 n27), (.bool (decide (n27 = 0))), (.bool false), undef, undef, undef, undef, undef, undef, undef, undef, (.bool false), undef, undef, undef, undef, undef, undef, undef, undef, undef, undef, undef, undef, undef, undef, undef, undef, undef, undef, undef, undef, undef, undef, undef, undef, undef, undef, undef, undef, undef, undef, undef, undef, undef, undef, undef, undef, undef] H21)) (fun v23 H22 => R (.panic v23) H22))
theorem f86_eq (x0 : Option Addr) (x1 : Int) (H : AH) (R : AEnd → AH → Prop) : awpF Try.prog f86_c (aPost Try.prog Try.f86 R) (([(.pointer x0), (.int .i64 x1)] : List Value) ++ List.replicate (Try.f86.ntmps - (([(.pointer x0), (.int .i64 x1)] : List Value)).length) undef) H = f86_B x0 x1 H R := by kernel_rfl
theorem f86_call (x0 : Option Addr) (x1 : Int) (H : AH) (R : AEnd → AH → Prop) (h : f86_B x0 x1 H R) : ACall Try.prog 86 ([(.pointer x0), (.int .i64 x1)] : List Value) H R :=
  acall_of mixed Try.func86 (by kernel_rfl : Try.f86.body = some f86_c) (by kernel_rfl) (by kernel_rfl) (awp_of (Eq.mpr (f86_eq x0 x1 H R) h))

/-! f112: (*switchyard/switchyardref02.Reader).Byte -/
noncomputable def f112_c : Code := Try.f112.body.getD .skip
noncomputable def f112_X0 (R : AEnd → AH → Prop) : AExit → List Value → AH → Prop := thenF (fun tm H => hold (awpF Try.prog (codeAt f112_c [1, 1]) (aPost Try.prog Try.f112 R) tm H)) (aPost Try.prog Try.f112 R)
def f112_J0 (R : AEnd → AH → Prop) (tm : List Value) (H : AH) : Prop := hold (awpF Try.prog (codeAt f112_c [1, 0, 1]) ((f112_X0 R)) tm H)
def f112_J1 (R : AEnd → AH → Prop) (tm : List Value) (H : AH) : Prop := hold (awpF Try.prog (codeAt f112_c [1, 1]) ((aPost Try.prog Try.f112 R)) tm H)
-- join 1: live 0:r
def f112_J1_B (s0 : Option Addr) (H : AH) (R : AEnd → AH → Prop) : Prop :=
 wPt s0 fun i1 k2 =>
 ldI .i64 i1 (k2 + 2) H fun n3 =>
 wIf (!decide (n3 = 0))
 (R (.ret (.int .i64 0)) H)
 (wPt s0 fun i4 k5 =>
 ldI .i64 i4 (k5 + 1) H fun n6 =>
 wPt s0 fun i7 k8 =>
 wSt i7 (k8 + 1) [(.int .i64 (IntKind.i64.wrap (n6 + 1)))] H fun H9 =>
 wPt s0 fun i10 k11 =>
 wPt s0 fun i12 k13 =>
 ldS i10 k11 H9 fun t14 =>
 ldI .i64 i12 (k13 + 1) H9 fun n15 =>
 wIxS t14 (IntKind.i64.wrap (n15 - 1)) fun n16 =>
 R (.ret (.int .i64 (IntKind.i64.wrap n16))) H9)
theorem f112_J1_eq (s0 : Option Addr) (s1 s2 s3 s4 s5 s6 s7 s8 s9 s10 s11 s12 s13 s14 s15 s16 s17 s18 s19 s20 s21 s22 s23 s24 s25 s26 s27 s28 s29 s30 s31 s32 s33 s34 s35 s36 s37 s38 s39 s40 s41 s42 s43 s44 s45 : Value) (H : AH) (R : AEnd → AH → Prop) : f112_J1 R [(.pointer s0), s1, s2, s3, s4, s5, s6, s7, s8, s9, s10, s11, s12, s13, s14, s15, s16, s17, s18, s19, s20, s21, s22, s23, s24, s25, s26, s27, s28, s29, s30, s31, s32, s33, s34, s35, s36, s37, s38, s39, s40, s41, s42, s43, s44, s45] H = f112_J1_B s0 H R := by kernel_rfl
-- join 0: live 0:r, 19:
def f112_J0_B (s0 : Option Addr) (s1 s2 s3 s4 s5 s6 s7 s8 s9 s10 s11 s12 s13 s14 s15 s16 s17 s18 : Value) (s19 : Bool) (s20 s21 s22 s23 s24 s25 s26 s27 s28 s29 s30 s31 s32 s33 s34 s35 s36 s37 s38 s39 s40 s41 s42 s43 s44 s45 : Value) (H : AH) (R : AEnd → AH → Prop) : Prop :=
 wIf s19
 (wPt s0 fun i17 k18 =>
 wSt i17 (k18 + 2) [(.int .i64 3)] H fun H19 =>
 f112_J1 R [(.pointer s0), s1, s2, s3, s4, s5, s6, s7, s8, s9, s10, s11, s12, s13, s14, s15, s16, s17, s18, (.bool true), (.pointer s0), (.pointer (some ⟨i17, k18, none⟩)), (.pointer (some ⟨i17, (k18 + 2), none⟩)), s23, s24, s25, s26, s27, s28, s29, s30, s31, s32, s33, s34, s35, s36, s37, s38, s39, s40, s41, s42, s43, s44, s45] H19)
 (f112_J1 R [(.pointer s0), s1, s2, s3, s4, s5, s6, s7, s8, s9, s10, s11, s12, s13, s14, s15, s16, s17, s18, (.bool false), s20, s21, s22, s23, s24, s25, s26, s27, s28, s29, s30, s31, s32, s33, s34, s35, s36, s37, s38, s39, s40, s41, s42, s43, s44, s45] H)
theorem f112_J0_eq (s0 : Option Addr) (s1 s2 s3 s4 s5 s6 s7 s8 s9 s10 s11 s12 s13 s14 s15 s16 s17 s18 : Value) (s19 : Bool) (s20 s21 s22 s23 s24 s25 s26 s27 s28 s29 s30 s31 s32 s33 s34 s35 s36 s37 s38 s39 s40 s41 s42 s43 s44 s45 : Value) (H : AH) (R : AEnd → AH → Prop) : f112_J0 R [(.pointer s0), s1, s2, s3, s4, s5, s6, s7, s8, s9, s10, s11, s12, s13, s14, s15, s16, s17, s18, (.bool s19), s20, s21, s22, s23, s24, s25, s26, s27, s28, s29, s30, s31, s32, s33, s34, s35, s36, s37, s38, s39, s40, s41, s42, s43, s44, s45] H = f112_J0_B s0 s1 s2 s3 s4 s5 s6 s7 s8 s9 s10 s11 s12 s13 s14 s15 s16 s17 s18 s19 s20 s21 s22 s23 s24 s25 s26 s27 s28 s29 s30 s31 s32 s33 s34 s35 s36 s37 s38 s39 s40 s41 s42 s43 s44 s45 H R := by kernel_rfl
def f112_B (x0 : Option Addr) (H : AH) (R : AEnd → AH → Prop) : Prop :=
 wPt x0 fun i20 k21 =>
 ldI .i64 i20 (k21 + 2) H fun n22 =>
 wIf (decide (n22 = 0))
 (wPt x0 fun i23 k24 =>
 wPt x0 fun i25 k26 =>
 (ldI .i64 i23 (k24 + 1) H fun n27 =>
 ldS i25 k26 H fun t28 =>
 f112_J0 R [(.pointer x0), undef, (.int .i64 0), (.pointer x0), (.pointer (some ⟨i20, k21, none⟩)), (.pointer (some ⟨i20, (k21 + 2), none⟩)), (.int .i64 n22), (.bool (decide (n22 = 0))), (.bool true), (.pointer x0), (.pointer (some ⟨i23, k24, none⟩)), (.pointer (some ⟨i23, (k24 + 1), none⟩)), (.int .i64 n27), (.pointer x0), (.pointer (some ⟨i25, k26, none⟩)), (.pointer (some ⟨i25, k26, none⟩)), (.string t28), (.int .i64 (t28.size : Int)), (.bool (decide (n27 ≥ (t28.size : Int)))), (.bool (decide (n27 ≥ (t28.size : Int)))), undef, undef, undef, undef, undef, undef, undef, undef, undef, undef, undef, undef, undef, undef, undef, undef, undef, undef, undef, undef, undef, undef, undef, undef, undef, undef] H) ∧
 (ldS i25 k26 H fun t29 =>
 ldI .i64 i23 (k24 + 1) H fun n30 =>
 f112_J0 R [(.pointer x0), undef, (.int .i64 0), (.pointer x0), (.pointer (some ⟨i20, k21, none⟩)), (.pointer (some ⟨i20, (k21 + 2), none⟩)), (.int .i64 n22), (.bool (decide (n22 = 0))), (.bool true), (.pointer x0), (.pointer (some ⟨i23, k24, none⟩)), (.pointer (some ⟨i23, (k24 + 1), none⟩)), (.int .i64 n30), (.pointer x0), (.pointer (some ⟨i25, k26, none⟩)), (.pointer (some ⟨i25, k26, none⟩)), (.string t29), (.int .i64 (t29.size : Int)), (.bool (decide (n30 ≥ (t29.size : Int)))), (.bool (decide (n30 ≥ (t29.size : Int)))), undef, undef, undef, undef, undef, undef, undef, undef, undef, undef, undef, undef, undef, undef, undef, undef, undef, undef, undef, undef, undef, undef, undef, undef, undef, undef] H))
 ((f112_J0 R [(.pointer x0), undef, (.int .i64 0), (.pointer x0), (.pointer (some ⟨i20, k21, none⟩)), (.pointer (some ⟨i20, (k21 + 2), none⟩)), (.int .i64 n22), (.bool (decide (n22 = 0))), (.bool false), undef, undef, undef, undef, undef, undef, undef, undef, undef, undef, (.bool false), undef, undef, undef, undef, undef, undef, undef, undef, undef, undef, undef, undef, undef, undef, undef, undef, undef, undef, undef, undef, undef, undef, undef, undef, undef, undef] H) ∧
 (f112_J0 R [(.pointer x0), undef, (.int .i64 0), (.pointer x0), (.pointer (some ⟨i20, k21, none⟩)), (.pointer (some ⟨i20, (k21 + 2), none⟩)), (.int .i64 n22), (.bool (decide (n22 = 0))), (.bool false), undef, undef, undef, undef, undef, undef, undef, undef, undef, undef, (.bool false), undef, undef, undef, undef, undef, undef, undef, undef, undef, undef, undef, undef, undef, undef, undef, undef, undef, undef, undef, undef, undef, undef, undef, undef, undef, undef] H))
theorem f112_eq (x0 : Option Addr) (H : AH) (R : AEnd → AH → Prop) : awpF Try.prog f112_c (aPost Try.prog Try.f112 R) (([(.pointer x0)] : List Value) ++ List.replicate (Try.f112.ntmps - (([(.pointer x0)] : List Value)).length) undef) H = f112_B x0 H R := by kernel_rfl
theorem f112_call (x0 : Option Addr) (H : AH) (R : AEnd → AH → Prop) (h : f112_B x0 H R) : ACall Try.prog 112 ([(.pointer x0)] : List Value) H R :=
  acall_of mixed Try.func112 (by kernel_rfl : Try.f112.body = some f112_c) (by kernel_rfl) (by kernel_rfl) (awp_of (Eq.mpr (f112_eq x0 H R) h))

/-! f113: (*switchyard/switchyardref02.Reader).Truth -/
noncomputable def f113_c : Code := Try.f113.body.getD .skip
noncomputable def f113_X0 (R : AEnd → AH → Prop) : AExit → List Value → AH → Prop := thenF (fun tm H => hold (awpF Try.prog (codeAt f113_c [1, 1]) (aPost Try.prog Try.f113 R) tm H)) (aPost Try.prog Try.f113 R)
def f113_J0 (R : AEnd → AH → Prop) (tm : List Value) (H : AH) : Prop := hold (awpF Try.prog (codeAt f113_c [1, 0, 1]) ((f113_X0 R)) tm H)
def f113_J1 (R : AEnd → AH → Prop) (tm : List Value) (H : AH) : Prop := hold (awpF Try.prog (codeAt f113_c [1, 1]) ((aPost Try.prog Try.f113 R)) tm H)
-- join 1: live 0:r
def f113_J1_B (s0 : Option Addr) (H : AH) (R : AEnd → AH → Prop) : Prop :=
 wCall Try.prog 112 [(.pointer s0)] H (fun r1 H2 =>
 opI .i64 r1 fun n5 =>
 R (.ret (.bool (decide (n5 = 1)))) H2) (fun v4 H3 => R (.panic v4) H3)
theorem f113_J1_eq (s0 : Option Addr) (s1 s2 s3 s4 s5 s6 s7 s8 s9 s10 s11 s12 s13 s14 s15 s16 s17 s18 s19 s20 s21 s22 s23 s24 s25 s26 s27 s28 s29 s30 s31 s32 s33 s34 s35 s36 s37 : Value) (H : AH) (R : AEnd → AH → Prop) : f113_J1 R [(.pointer s0), s1, s2, s3, s4, s5, s6, s7, s8, s9, s10, s11, s12, s13, s14, s15, s16, s17, s18, s19, s20, s21, s22, s23, s24, s25, s26, s27, s28, s29, s30, s31, s32, s33, s34, s35, s36, s37] H = f113_J1_B s0 H R := by kernel_rfl
-- join 0: live 0:r, 31:
def f113_J0_B (s0 : Option Addr) (s1 s2 s3 s4 s5 s6 s7 s8 s9 s10 s11 s12 s13 s14 s15 s16 s17 s18 s19 s20 s21 s22 s23 s24 s25 s26 s27 s28 s29 s30 : Value) (s31 : Bool) (s32 s33 s34 s35 s36 s37 : Value) (H : AH) (R : AEnd → AH → Prop) : Prop :=
 wIf s31
 (wPt s0 fun i6 k7 =>
 wSt i6 (k7 + 2) [(.int .i64 4)] H fun H8 =>
 f113_J1 R [(.pointer s0), s1, s2, s3, s4, s5, s6, s7, s8, s9, s10, s11, s12, s13, s14, s15, s16, s17, s18, s19, s20, s21, s22, s23, s24, s25, s26, s27, s28, s29, s30, (.bool true), (.pointer s0), (.pointer (some ⟨i6, k7, none⟩)), (.pointer (some ⟨i6, (k7 + 2), none⟩)), s35, s36, s37] H8)
 (f113_J1 R [(.pointer s0), s1, s2, s3, s4, s5, s6, s7, s8, s9, s10, s11, s12, s13, s14, s15, s16, s17, s18, s19, s20, s21, s22, s23, s24, s25, s26, s27, s28, s29, s30, (.bool false), s32, s33, s34, s35, s36, s37] H)
theorem f113_J0_eq (s0 : Option Addr) (s1 s2 s3 s4 s5 s6 s7 s8 s9 s10 s11 s12 s13 s14 s15 s16 s17 s18 s19 s20 s21 s22 s23 s24 s25 s26 s27 s28 s29 s30 : Value) (s31 : Bool) (s32 s33 s34 s35 s36 s37 : Value) (H : AH) (R : AEnd → AH → Prop) : f113_J0 R [(.pointer s0), s1, s2, s3, s4, s5, s6, s7, s8, s9, s10, s11, s12, s13, s14, s15, s16, s17, s18, s19, s20, s21, s22, s23, s24, s25, s26, s27, s28, s29, s30, (.bool s31), s32, s33, s34, s35, s36, s37] H = f113_J0_B s0 s1 s2 s3 s4 s5 s6 s7 s8 s9 s10 s11 s12 s13 s14 s15 s16 s17 s18 s19 s20 s21 s22 s23 s24 s25 s26 s27 s28 s29 s30 s31 s32 s33 s34 s35 s36 s37 H R := by kernel_rfl
def f113_B (x0 : Option Addr) (H : AH) (R : AEnd → AH → Prop) : Prop :=
 wPt x0 fun i9 k10 =>
 ldI .i64 i9 (k10 + 2) H fun n11 =>
 wIf (decide (n11 = 0))
 (wPt x0 fun i12 k13 =>
 wPt x0 fun i14 k15 =>
 (ldI .i64 i12 (k13 + 1) H fun n16 =>
 ldS i14 k15 H fun t17 =>
 wIf (decide (n16 < (t17.size : Int)))
 (wPt x0 fun i18 k19 =>
 wPt x0 fun i20 k21 =>
 (ldS i18 k19 H fun t22 =>
 ldI .i64 i20 (k21 + 1) H fun n23 =>
 wIxS t22 n23 fun n24 =>
 f113_J0 R [(.pointer x0), undef, (.bool false), (.pointer x0), (.pointer (some ⟨i9, k10, none⟩)), (.pointer (some ⟨i9, (k10 + 2), none⟩)), (.int .i64 n11), (.bool (decide (n11 = 0))), (.bool true), (.pointer x0), (.pointer (some ⟨i12, k13, none⟩)), (.pointer (some ⟨i12, (k13 + 1), none⟩)), (.int .i64 n16), (.pointer x0), (.pointer (some ⟨i14, k15, none⟩)), (.pointer (some ⟨i14, k15, none⟩)), (.string t17), (.int .i64 (t17.size : Int)), (.bool (decide (n16 < (t17.size : Int)))), (.bool (decide (n16 < (t17.size : Int)))), (.bool true), (.pointer x0), (.pointer (some ⟨i18, k19, none⟩)), (.pointer (some ⟨i18, k19, none⟩)), (.string t22), (.pointer x0), (.pointer (some ⟨i20, k21, none⟩)), (.pointer (some ⟨i20, (k21 + 1), none⟩)), (.int .i64 n23), (.int .u8 n24), (.bool (decide (n24 > 1))), (.bool (decide (n24 > 1))), undef, undef, undef, undef, undef, undef] H) ∧
 (ldI .i64 i20 (k21 + 1) H fun n25 =>
 ldS i18 k19 H fun t26 =>
 wIxS t26 n25 fun n27 =>
 f113_J0 R [(.pointer x0), undef, (.bool false), (.pointer x0), (.pointer (some ⟨i9, k10, none⟩)), (.pointer (some ⟨i9, (k10 + 2), none⟩)), (.int .i64 n11), (.bool (decide (n11 = 0))), (.bool true), (.pointer x0), (.pointer (some ⟨i12, k13, none⟩)), (.pointer (some ⟨i12, (k13 + 1), none⟩)), (.int .i64 n16), (.pointer x0), (.pointer (some ⟨i14, k15, none⟩)), (.pointer (some ⟨i14, k15, none⟩)), (.string t17), (.int .i64 (t17.size : Int)), (.bool (decide (n16 < (t17.size : Int)))), (.bool (decide (n16 < (t17.size : Int)))), (.bool true), (.pointer x0), (.pointer (some ⟨i18, k19, none⟩)), (.pointer (some ⟨i18, k19, none⟩)), (.string t26), (.pointer x0), (.pointer (some ⟨i20, k21, none⟩)), (.pointer (some ⟨i20, (k21 + 1), none⟩)), (.int .i64 n25), (.int .u8 n27), (.bool (decide (n27 > 1))), (.bool (decide (n27 > 1))), undef, undef, undef, undef, undef, undef] H))
 ((f113_J0 R [(.pointer x0), undef, (.bool false), (.pointer x0), (.pointer (some ⟨i9, k10, none⟩)), (.pointer (some ⟨i9, (k10 + 2), none⟩)), (.int .i64 n11), (.bool (decide (n11 = 0))), (.bool true), (.pointer x0), (.pointer (some ⟨i12, k13, none⟩)), (.pointer (some ⟨i12, (k13 + 1), none⟩)), (.int .i64 n16), (.pointer x0), (.pointer (some ⟨i14, k15, none⟩)), (.pointer (some ⟨i14, k15, none⟩)), (.string t17), (.int .i64 (t17.size : Int)), (.bool (decide (n16 < (t17.size : Int)))), (.bool (decide (n16 < (t17.size : Int)))), (.bool false), undef, undef, undef, undef, undef, undef, undef, undef, undef, undef, (.bool false), undef, undef, undef, undef, undef, undef] H) ∧
 (f113_J0 R [(.pointer x0), undef, (.bool false), (.pointer x0), (.pointer (some ⟨i9, k10, none⟩)), (.pointer (some ⟨i9, (k10 + 2), none⟩)), (.int .i64 n11), (.bool (decide (n11 = 0))), (.bool true), (.pointer x0), (.pointer (some ⟨i12, k13, none⟩)), (.pointer (some ⟨i12, (k13 + 1), none⟩)), (.int .i64 n16), (.pointer x0), (.pointer (some ⟨i14, k15, none⟩)), (.pointer (some ⟨i14, k15, none⟩)), (.string t17), (.int .i64 (t17.size : Int)), (.bool (decide (n16 < (t17.size : Int)))), (.bool (decide (n16 < (t17.size : Int)))), (.bool false), undef, undef, undef, undef, undef, undef, undef, undef, undef, undef, (.bool false), undef, undef, undef, undef, undef, undef] H))) ∧
 (ldS i14 k15 H fun t28 =>
 ldI .i64 i12 (k13 + 1) H fun n29 =>
 wIf (decide (n29 < (t28.size : Int)))
 (wPt x0 fun i30 k31 =>
 wPt x0 fun i32 k33 =>
 (ldS i30 k31 H fun t34 =>
 ldI .i64 i32 (k33 + 1) H fun n35 =>
 wIxS t34 n35 fun n36 =>
 f113_J0 R [(.pointer x0), undef, (.bool false), (.pointer x0), (.pointer (some ⟨i9, k10, none⟩)), (.pointer (some ⟨i9, (k10 + 2), none⟩)), (.int .i64 n11), (.bool (decide (n11 = 0))), (.bool true), (.pointer x0), (.pointer (some ⟨i12, k13, none⟩)), (.pointer (some ⟨i12, (k13 + 1), none⟩)), (.int .i64 n29), (.pointer x0), (.pointer (some ⟨i14, k15, none⟩)), (.pointer (some ⟨i14, k15, none⟩)), (.string t28), (.int .i64 (t28.size : Int)), (.bool (decide (n29 < (t28.size : Int)))), (.bool (decide (n29 < (t28.size : Int)))), (.bool true), (.pointer x0), (.pointer (some ⟨i30, k31, none⟩)), (.pointer (some ⟨i30, k31, none⟩)), (.string t34), (.pointer x0), (.pointer (some ⟨i32, k33, none⟩)), (.pointer (some ⟨i32, (k33 + 1), none⟩)), (.int .i64 n35), (.int .u8 n36), (.bool (decide (n36 > 1))), (.bool (decide (n36 > 1))), undef, undef, undef, undef, undef, undef] H) ∧
 (ldI .i64 i32 (k33 + 1) H fun n37 =>
 ldS i30 k31 H fun t38 =>
 wIxS t38 n37 fun n39 =>
 f113_J0 R [(.pointer x0), undef, (.bool false), (.pointer x0), (.pointer (some ⟨i9, k10, none⟩)), (.pointer (some ⟨i9, (k10 + 2), none⟩)), (.int .i64 n11), (.bool (decide (n11 = 0))), (.bool true), (.pointer x0), (.pointer (some ⟨i12, k13, none⟩)), (.pointer (some ⟨i12, (k13 + 1), none⟩)), (.int .i64 n29), (.pointer x0), (.pointer (some ⟨i14, k15, none⟩)), (.pointer (some ⟨i14, k15, none⟩)), (.string t28), (.int .i64 (t28.size : Int)), (.bool (decide (n29 < (t28.size : Int)))), (.bool (decide (n29 < (t28.size : Int)))), (.bool true), (.pointer x0), (.pointer (some ⟨i30, k31, none⟩)), (.pointer (some ⟨i30, k31, none⟩)), (.string t38), (.pointer x0), (.pointer (some ⟨i32, k33, none⟩)), (.pointer (some ⟨i32, (k33 + 1), none⟩)), (.int .i64 n37), (.int .u8 n39), (.bool (decide (n39 > 1))), (.bool (decide (n39 > 1))), undef, undef, undef, undef, undef, undef] H))
 ((f113_J0 R [(.pointer x0), undef, (.bool false), (.pointer x0), (.pointer (some ⟨i9, k10, none⟩)), (.pointer (some ⟨i9, (k10 + 2), none⟩)), (.int .i64 n11), (.bool (decide (n11 = 0))), (.bool true), (.pointer x0), (.pointer (some ⟨i12, k13, none⟩)), (.pointer (some ⟨i12, (k13 + 1), none⟩)), (.int .i64 n29), (.pointer x0), (.pointer (some ⟨i14, k15, none⟩)), (.pointer (some ⟨i14, k15, none⟩)), (.string t28), (.int .i64 (t28.size : Int)), (.bool (decide (n29 < (t28.size : Int)))), (.bool (decide (n29 < (t28.size : Int)))), (.bool false), undef, undef, undef, undef, undef, undef, undef, undef, undef, undef, (.bool false), undef, undef, undef, undef, undef, undef] H) ∧
 (f113_J0 R [(.pointer x0), undef, (.bool false), (.pointer x0), (.pointer (some ⟨i9, k10, none⟩)), (.pointer (some ⟨i9, (k10 + 2), none⟩)), (.int .i64 n11), (.bool (decide (n11 = 0))), (.bool true), (.pointer x0), (.pointer (some ⟨i12, k13, none⟩)), (.pointer (some ⟨i12, (k13 + 1), none⟩)), (.int .i64 n29), (.pointer x0), (.pointer (some ⟨i14, k15, none⟩)), (.pointer (some ⟨i14, k15, none⟩)), (.string t28), (.int .i64 (t28.size : Int)), (.bool (decide (n29 < (t28.size : Int)))), (.bool (decide (n29 < (t28.size : Int)))), (.bool false), undef, undef, undef, undef, undef, undef, undef, undef, undef, undef, (.bool false), undef, undef, undef, undef, undef, undef] H))))
 (((f113_J0 R [(.pointer x0), undef, (.bool false), (.pointer x0), (.pointer (some ⟨i9, k10, none⟩)), (.pointer (some ⟨i9, (k10 + 2), none⟩)), (.int .i64 n11), (.bool (decide (n11 = 0))), (.bool false), undef, undef, undef, undef, undef, undef, undef, undef, undef, undef, (.bool false), (.bool false), undef, undef, undef, undef, undef, undef, undef, undef, undef, undef, (.bool false), undef, undef, undef, undef, undef, undef] H) ∧
 (f113_J0 R [(.pointer x0), undef, (.bool false), (.pointer x0), (.pointer (some ⟨i9, k10, none⟩)), (.pointer (some ⟨i9, (k10 + 2), none⟩)), (.int .i64 n11), (.bool (decide (n11 = 0))), (.bool false), undef, undef, undef, undef, undef, undef, undef, undef, undef, undef, (.bool false), (.bool false), undef, undef, undef, undef, undef, undef, undef, undef, undef, undef, (.bool false), undef, undef, undef, undef, undef, undef] H)) ∧
 ((f113_J0 R [(.pointer x0), undef, (.bool false), (.pointer x0), (.pointer (some ⟨i9, k10, none⟩)), (.pointer (some ⟨i9, (k10 + 2), none⟩)), (.int .i64 n11), (.bool (decide (n11 = 0))), (.bool false), undef, undef, undef, undef, undef, undef, undef, undef, undef, undef, (.bool false), (.bool false), undef, undef, undef, undef, undef, undef, undef, undef, undef, undef, (.bool false), undef, undef, undef, undef, undef, undef] H) ∧
 (f113_J0 R [(.pointer x0), undef, (.bool false), (.pointer x0), (.pointer (some ⟨i9, k10, none⟩)), (.pointer (some ⟨i9, (k10 + 2), none⟩)), (.int .i64 n11), (.bool (decide (n11 = 0))), (.bool false), undef, undef, undef, undef, undef, undef, undef, undef, undef, undef, (.bool false), (.bool false), undef, undef, undef, undef, undef, undef, undef, undef, undef, undef, (.bool false), undef, undef, undef, undef, undef, undef] H)))
theorem f113_eq (x0 : Option Addr) (H : AH) (R : AEnd → AH → Prop) : awpF Try.prog f113_c (aPost Try.prog Try.f113 R) (([(.pointer x0)] : List Value) ++ List.replicate (Try.f113.ntmps - (([(.pointer x0)] : List Value)).length) undef) H = f113_B x0 H R := by kernel_rfl
theorem f113_call (x0 : Option Addr) (H : AH) (R : AEnd → AH → Prop) (h : f113_B x0 H R) : ACall Try.prog 113 ([(.pointer x0)] : List Value) H R :=
  acall_of mixed Try.func113 (by kernel_rfl : Try.f113.body = some f113_c) (by kernel_rfl) (by kernel_rfl) (awp_of (Eq.mpr (f113_eq x0 H R) h))

/-! f114: (*switchyard/switchyardref13.Reading).form -/
noncomputable def f114_c : Code := Try.f114.body.getD .skip
def f114_B (x0 : Option Addr) (H : AH) (R : AEnd → AH → Prop) : Prop :=
 wPt x0 fun i1 k2 =>
 ldI .i64 i1 (k2 + 2) H fun n3 =>
 wIf (decide (n3 = 0))
 (wPt x0 fun i4 k5 =>
 wSt i4 (k5 + 2) [(.int .i64 4)] H fun H6 =>
 R (.ret (.tuple #[])) H6)
 (R (.ret (.tuple #[])) H)
theorem f114_eq (x0 : Option Addr) (H : AH) (R : AEnd → AH → Prop) : awpF Try.prog f114_c (aPost Try.prog Try.f114 R) (([(.pointer x0)] : List Value) ++ List.replicate (Try.f114.ntmps - (([(.pointer x0)] : List Value)).length) undef) H = f114_B x0 H R := by kernel_rfl
theorem f114_call (x0 : Option Addr) (H : AH) (R : AEnd → AH → Prop) (h : f114_B x0 H R) : ACall Try.prog 114 ([(.pointer x0)] : List Value) H R :=
  acall_of mixed Try.func114 (by kernel_rfl : Try.f114.body = some f114_c) (by kernel_rfl) (by kernel_rfl) (awp_of (Eq.mpr (f114_eq x0 H R) h))

/-! f124: (*switchyard/switchyardref02.Reader).Count -/
noncomputable def f124_c : Code := Try.f124.body.getD .skip
def f124_B (x0 : Option Addr) (H : AH) (R : AEnd → AH → Prop) : Prop :=
 wPt x0 fun i1 k2 =>
 ldI .i64 i1 (k2 + 2) H fun n3 =>
 wIf (!decide (n3 = 0))
 (R (.ret (.int .u64 0)) H)
 (wCall Try.prog 125 [(.pointer x0)] H (fun r4 H5 =>
 opT 3 r4 fun l8 =>
 opI .u64 (l8.headD undef) fun n9 =>
 opI .i64 (l8.tail.headD undef) fun n10 =>
 opI .i64 (l8.tail.tail.headD undef) fun n11 =>
 wIf (!decide (n11 = 0))
 (wPt x0 fun i12 k13 =>
 wSt i12 (k13 + 2) [(.int .i64 n11)] H5 fun H14 =>
 R (.ret (.int .u64 0)) H14)
 (wPt x0 fun i15 k16 =>
 wSt i15 (k16 + 1) [(.int .i64 n10)] H5 fun H17 =>
 R (.ret (.int .u64 n9)) H17)) (fun v7 H6 => R (.panic v7) H6))
theorem f124_eq (x0 : Option Addr) (H : AH) (R : AEnd → AH → Prop) : awpF Try.prog f124_c (aPost Try.prog Try.f124 R) (([(.pointer x0)] : List Value) ++ List.replicate (Try.f124.ntmps - (([(.pointer x0)] : List Value)).length) undef) H = f124_B x0 H R := by kernel_rfl
theorem f124_call (x0 : Option Addr) (H : AH) (R : AEnd → AH → Prop) (h : f124_B x0 H R) : ACall Try.prog 124 ([(.pointer x0)] : List Value) H R :=
  acall_of mixed Try.func124 (by kernel_rfl : Try.f124.body = some f124_c) (by kernel_rfl) (by kernel_rfl) (awp_of (Eq.mpr (f124_eq x0 H R) h))

/-! f125: (*switchyard/switchyardref02.Reader).count -/
noncomputable def f125_c : Code := Try.f125.body.getD .skip
noncomputable def f125_X0 (R : AEnd → AH → Prop) : AExit → List Value → AH → Prop := thenF (fun tm H => hold (awpF Try.prog (codeAt f125_c [1, 1, 1]) (aPost Try.prog Try.f125 R) tm H)) (aPost Try.prog Try.f125 R)
noncomputable def f125_X1 (R : AEnd → AH → Prop) : AExit → List Value → AH → Prop := inBlockF 0 (f125_X0 R)
noncomputable def f125_Q0 (R : AEnd → AH → Prop) : AExit → List Value → AH → Prop := (f125_X1 R)
def f125_L0 (R : AEnd → AH → Prop) (tm : List Value) (H : AH) : Prop := awpF Try.prog (codeAt f125_c [1, 1, 0, 1, 0]) (f125_Q0 R) tm H
noncomputable def f125_X2 (K0 : List Value → AH → Prop) (R : AEnd → AH → Prop) : AExit → List Value → AH → Prop := thenF (fun tm H => hold (awpF Try.prog (codeAt f125_c [1, 1, 0, 1, 0, 0, 1, 1]) (thenF K0 (f125_Q0 R)) tm H)) (thenF K0 (f125_Q0 R))
noncomputable def f125_X3 (K0 : List Value → AH → Prop) (R : AEnd → AH → Prop) : AExit → List Value → AH → Prop := inBlockF 1 (f125_X2 K0 R)
noncomputable def f125_X4 (K0 : List Value → AH → Prop) (R : AEnd → AH → Prop) : AExit → List Value → AH → Prop := thenF (fun tm H => hold (awpF Try.prog (codeAt f125_c [1, 1, 0, 1, 0, 0, 1, 0, 0, 1]) (f125_X3 K0 R) tm H)) (f125_X3 K0 R)
def f125_J0 (K0 : List Value → AH → Prop) (R : AEnd → AH → Prop) (tm : List Value) (H : AH) : Prop := hold (awpF Try.prog (codeAt f125_c [1, 1, 0, 1, 0, 0, 1, 0, 0, 0, 1]) ((f125_X4 K0 R)) tm H)
def f125_J1 (K0 : List Value → AH → Prop) (R : AEnd → AH → Prop) (tm : List Value) (H : AH) : Prop := hold (awpF Try.prog (codeAt f125_c [1, 1, 0, 1, 0, 0, 1, 0, 0, 1]) ((f125_X3 K0 R)) tm H)
def f125_J2 (K0 : List Value → AH → Prop) (R : AEnd → AH → Prop) (tm : List Value) (H : AH) : Prop := hold (awpF Try.prog (codeAt f125_c [1, 1, 0, 1, 0, 0, 1, 0, 0, 1, 1]) ((f125_X3 K0 R)) tm H)
noncomputable def f125_X5 (K0 : List Value → AH → Prop) (R : AEnd → AH → Prop) : AExit → List Value → AH → Prop := thenF (fun tm H => hold (awpF Try.prog (codeAt f125_c [1, 1, 0, 1, 0, 0, 1, 0, 0, 1, 1, 1]) (f125_X3 K0 R) tm H)) (f125_X3 K0 R)
def f125_J3 (K0 : List Value → AH → Prop) (R : AEnd → AH → Prop) (tm : List Value) (H : AH) : Prop := hold (awpF Try.prog (codeAt f125_c [1, 1, 0, 1, 0, 0, 1, 0, 0, 1, 1, 0, 1]) ((f125_X5 K0 R)) tm H)
def f125_J4 (K0 : List Value → AH → Prop) (R : AEnd → AH → Prop) (tm : List Value) (H : AH) : Prop := hold (awpF Try.prog (codeAt f125_c [1, 1, 0, 1, 0, 0, 1, 0, 0, 1, 1, 1]) ((f125_X3 K0 R)) tm H)
noncomputable def f125_X6 (K0 : List Value → AH → Prop) (R : AEnd → AH → Prop) : AExit → List Value → AH → Prop := thenF (fun tm H => hold (awpF Try.prog (codeAt f125_c [1, 1, 0, 1, 0, 0, 1, 0, 0, 1, 1, 1, 1, 1, 0, 1]) (f125_X3 K0 R) tm H)) (f125_X3 K0 R)
def f125_J5 (K0 : List Value → AH → Prop) (R : AEnd → AH → Prop) (tm : List Value) (H : AH) : Prop := hold (awpF Try.prog (codeAt f125_c [1, 1, 0, 1, 0, 0, 1, 0, 0, 1, 1, 1, 1, 1, 0, 0, 1]) ((f125_X6 K0 R)) tm H)
def f125_J6 (K0 : List Value → AH → Prop) (R : AEnd → AH → Prop) (tm : List Value) (H : AH) : Prop := hold (awpF Try.prog (codeAt f125_c [1, 1, 0, 1, 0, 0, 1, 0, 0, 1, 1, 1, 1, 1, 0, 1]) ((f125_X3 K0 R)) tm H)
def f125_J7 (K0 : List Value → AH → Prop) (R : AEnd → AH → Prop) (tm : List Value) (H : AH) : Prop := hold (awpF Try.prog (codeAt f125_c [1, 1, 0, 1, 0, 0, 1, 1]) ((thenF K0 (f125_Q0 R))) tm H)
def f125_J8 (R : AEnd → AH → Prop) (tm : List Value) (H : AH) : Prop := hold (awpF Try.prog (codeAt f125_c [1, 1, 1]) ((aPost Try.prog Try.f125 R)) tm H)
-- join 8: live 
-- join 7: live 0:G, 5:d, 6:e
def f125_J7_B (s0 : Option Addr) (s1 s2 s3 s4 : Value) (s5 s6 : Int) (s7 s8 s9 s12 s13 s14 s15 s16 s17 s18 s19 s20 s21 s22 s23 s24 s25 s26 s27 s28 s29 s30 s31 s32 s33 s34 s35 s36 s37 s38 s39 s40 s41 s42 s43 s44 s45 s46 s47 s48 s49 s50 s51 s52 s53 s54 s55 s56 s57 s58 s59 s60 s61 s62 s63 s64 s65 s66 s67 s68 s69 s70 s71 s72 s73 s74 s75 s76 s77 s78 : Value) (H : AH) (K0 : List Value → AH → Prop) (R : AEnd → AH → Prop) : Prop :=
 K0 [(.pointer s0), s1, s2, s3, s4, (.int .u64 s5), (.int .i64 (IntKind.i64.wrap (s6 + 1))), s7, s8, s9, (.int .i64 s6), (.int .i64 (IntKind.i64.wrap (s6 + 1))), s12, s13, s14, s15, s16, s17, s18, s19, s20, s21, s22, s23, s24, s25, s26, s27, s28, s29, s30, s31, s32, s33, s34, s35, s36, s37, s38, s39, s40, s41, s42, s43, s44, s45, s46, s47, s48, s49, s50, s51, s52, s53, s54, s55, s56, s57, s58, s59, s60, s61, s62, s63, s64, s65, s66, s67, s68, s69, s70, s71, s72, s73, s74, s75, s76, s77, s78] H
theorem f125_J7_eq (s0 : Option Addr) (s1 s2 s3 s4 : Value) (s5 s6 : Int) (s7 s8 s9 s10 s11 s12 s13 s14 s15 s16 s17 s18 s19 s20 s21 s22 s23 s24 s25 s26 s27 s28 s29 s30 s31 s32 s33 s34 s35 s36 s37 s38 s39 s40 s41 s42 s43 s44 s45 s46 s47 s48 s49 s50 s51 s52 s53 s54 s55 s56 s57 s58 s59 s60 s61 s62 s63 s64 s65 s66 s67 s68 s69 s70 s71 s72 s73 s74 s75 s76 s77 s78 : Value) (H : AH) (K0 : List Value → AH → Prop) (R : AEnd → AH → Prop) : f125_J7 K0 R [(.pointer s0), s1, s2, s3, s4, (.int .u64 s5), (.int .i64 s6), s7, s8, s9, s10, s11, s12, s13, s14, s15, s16, s17, s18, s19, s20, s21, s22, s23, s24, s25, s26, s27, s28, s29, s30, s31, s32, s33, s34, s35, s36, s37, s38, s39, s40, s41, s42, s43, s44, s45, s46, s47, s48, s49, s50, s51, s52, s53, s54, s55, s56, s57, s58, s59, s60, s61, s62, s63, s64, s65, s66, s67, s68, s69, s70, s71, s72, s73, s74, s75, s76, s77, s78] H = f125_J7_B s0 s1 s2 s3 s4 s5 s6 s7 s8 s9 s12 s13 s14 s15 s16 s17 s18 s19 s20 s21 s22 s23 s24 s25 s26 s27 s28 s29 s30 s31 s32 s33 s34 s35 s36 s37 s38 s39 s40 s41 s42 s43 s44 s45 s46 s47 s48 s49 s50 s51 s52 s53 s54 s55 s56 s57 s58 s59 s60 s61 s62 s63 s64 s65 s66 s67 s68 s69 s70 s71 s72 s73 s74 s75 s76 s77 s78 H K0 R := by kernel_rfl
-- join 6: live 0:G, 5:d, 6:e
def f125_J6_B (s0 : Option Addr) (s5 s6 : Int) (H : AH) (K0 : List Value → AH → Prop) (R : AEnd → AH → Prop) : Prop :=
 wPt s0 fun i1 k2 =>
 ldI .i64 i1 (k2 + 1) H fun n3 =>
 R (.ret (.tuple #[(.int .u64 s5), (.int .i64 (IntKind.i64.wrap ((IntKind.i64.wrap (n3 + s6)) + 1))), (.int .i64 0)])) H
theorem f125_J6_eq (s0 : Option Addr) (s1 s2 s3 s4 : Value) (s5 s6 : Int) (s7 s8 s9 s10 s11 s12 s13 s14 s15 s16 s17 s18 s19 s20 s21 s22 s23 s24 s25 s26 s27 s28 s29 s30 s31 s32 s33 s34 s35 s36 s37 s38 s39 s40 s41 s42 s43 s44 s45 s46 s47 s48 s49 s50 s51 s52 s53 s54 s55 s56 s57 s58 s59 s60 s61 s62 s63 s64 s65 s66 s67 s68 s69 s70 s71 s72 s73 s74 s75 s76 s77 s78 : Value) (H : AH) (K0 : List Value → AH → Prop) (R : AEnd → AH → Prop) : f125_J6 K0 R [(.pointer s0), s1, s2, s3, s4, (.int .u64 s5), (.int .i64 s6), s7, s8, s9, s10, s11, s12, s13, s14, s15, s16, s17, s18, s19, s20, s21, s22, s23, s24, s25, s26, s27, s28, s29, s30, s31, s32, s33, s34, s35, s36, s37, s38, s39, s40, s41, s42, s43, s44, s45, s46, s47, s48, s49, s50, s51, s52, s53, s54, s55, s56, s57, s58, s59, s60, s61, s62, s63, s64, s65, s66, s67, s68, s69, s70, s71, s72, s73, s74, s75, s76, s77, s78] H = f125_J6_B s0 s5 s6 H K0 R := by kernel_rfl
-- join 5: live 0:G, 5:d, 6:e, 70:?
def f125_J5_B (s0 : Option Addr) (s1 s2 s3 s4 : Value) (s5 s6 : Int) (s7 s8 s9 s10 s11 s12 s13 s14 s15 s16 s17 s18 s19 s20 s21 s22 s23 s24 s25 s26 s27 s28 s29 s30 s31 s32 s33 s34 s35 s36 s37 s38 s39 s40 s41 s42 s43 s44 s45 s46 s47 s48 s49 s50 s51 s52 s53 s54 s55 s56 s57 s58 s59 s60 s61 s62 s63 s64 s65 s66 s67 s68 s69 : Value) (s70 : Bool) (s71 s72 s73 s74 s75 s76 s77 s78 : Value) (H : AH) (K0 : List Value → AH → Prop) (R : AEnd → AH → Prop) : Prop :=
 wIf s70
 (R (.ret (.tuple #[(.int .u64 0), (.int .i64 0), (.int .i64 4)])) H)
 (f125_J6 K0 R [(.pointer s0), s1, s2, s3, s4, (.int .u64 s5), (.int .i64 s6), s7, s8, s9, s10, s11, s12, s13, s14, s15, s16, s17, s18, s19, s20, s21, s22, s23, s24, s25, s26, s27, s28, s29, s30, s31, s32, s33, s34, s35, s36, s37, s38, s39, s40, s41, s42, s43, s44, s45, s46, s47, s48, s49, s50, s51, s52, s53, s54, s55, s56, s57, s58, s59, s60, s61, s62, s63, s64, s65, s66, s67, s68, s69, (.bool false), s71, s72, s73, s74, s75, s76, s77, s78] H)
theorem f125_J5_eq (s0 : Option Addr) (s1 s2 s3 s4 : Value) (s5 s6 : Int) (s7 s8 s9 s10 s11 s12 s13 s14 s15 s16 s17 s18 s19 s20 s21 s22 s23 s24 s25 s26 s27 s28 s29 s30 s31 s32 s33 s34 s35 s36 s37 s38 s39 s40 s41 s42 s43 s44 s45 s46 s47 s48 s49 s50 s51 s52 s53 s54 s55 s56 s57 s58 s59 s60 s61 s62 s63 s64 s65 s66 s67 s68 s69 : Value) (s70 : Bool) (s71 s72 s73 s74 s75 s76 s77 s78 : Value) (H : AH) (K0 : List Value → AH → Prop) (R : AEnd → AH → Prop) : f125_J5 K0 R [(.pointer s0), s1, s2, s3, s4, (.int .u64 s5), (.int .i64 s6), s7, s8, s9, s10, s11, s12, s13, s14, s15, s16, s17, s18, s19, s20, s21, s22, s23, s24, s25, s26, s27, s28, s29, s30, s31, s32, s33, s34, s35, s36, s37, s38, s39, s40, s41, s42, s43, s44, s45, s46, s47, s48, s49, s50, s51, s52, s53, s54, s55, s56, s57, s58, s59, s60, s61, s62, s63, s64, s65, s66, s67, s68, s69, (.bool s70), s71, s72, s73, s74, s75, s76, s77, s78] H = f125_J5_B s0 s1 s2 s3 s4 s5 s6 s7 s8 s9 s10 s11 s12 s13 s14 s15 s16 s17 s18 s19 s20 s21 s22 s23 s24 s25 s26 s27 s28 s29 s30 s31 s32 s33 s34 s35 s36 s37 s38 s39 s40 s41 s42 s43 s44 s45 s46 s47 s48 s49 s50 s51 s52 s53 s54 s55 s56 s57 s58 s59 s60 s61 s62 s63 s64 s65 s66 s67 s68 s69 s70 s71 s72 s73 s74 s75 s76 s77 s78 H K0 R := by kernel_rfl
-- join 4: live 0:G, 5:d, 6:e, 7:.
def f125_J4_B (s0 : Option Addr) (s1 s2 s3 s4 : Value) (s5 s6 s7 : Int) (s8 s9 s10 s11 s12 s13 s14 s15 s16 s17 s18 s19 s20 s21 s22 s23 s24 s25 s26 s27 s28 s29 s30 s31 s32 s33 s34 s35 s36 s37 s38 s39 s40 s41 s52 s53 s54 s55 s56 s57 s58 s59 s60 s61 s62 s63 s64 s65 s66 s67 s68 s69 s70 s71 s72 s73 s74 s75 s76 s77 s78 : Value) (H : AH) (K0 : List Value → AH → Prop) (R : AEnd → AH → Prop) : Prop :=
 wNn (IntKind.u64.wrap (IntKind.i64.wrap (7 * s6)))
 (wIf (decide (s7 < 128))
 (wPt s0 fun i4 k5 =>
 wPt s0 fun i6 k7 =>
 wPt s0 fun i8 k9 =>
 ldS i4 k5 H fun t10 =>
 ldI .i64 i6 (k7 + 1) H fun n11 =>
 ldI .i64 i8 (k9 + 1) H fun n12 =>
 wSlS t10 n11 (IntKind.i64.wrap ((IntKind.i64.wrap (n12 + s6)) + 1)) fun t13 =>
 wCall Try.prog 70 [(.int .u64 (IntKind.u64.wrap (s5 + (IntKind.u64.wrap ((Int.tmod s7 128) * (2 ^ (min (Int.toNat (IntKind.u64.wrap (IntKind.i64.wrap (7 * s6)))) IntKind.u64.bits)))))))] H (fun r14 H15 =>
 opS r14 fun t18 =>
 wPin i8 (k9 + 1) [(.int .i64 n12)] H15 <|
 wPin i6 (k7 + 1) [(.int .i64 n11)] H15 <|
 wPin i4 k5 [(.string t10)] H15 <|
 f125_J5 K0 R [(.pointer s0), s1, s2, s3, s4, (.int .u64 (IntKind.u64.wrap (s5 + (IntKind.u64.wrap ((Int.tmod s7 128) * (2 ^ (min (Int.toNat (IntKind.u64.wrap (IntKind.i64.wrap (7 * s6)))) IntKind.u64.bits))))))), (.int .i64 s6), (.int .u64 s7), s8, s9, s10, s11, s12, s13, s14, s15, s16, s17, s18, s19, s20, s21, s22, s23, s24, s25, s26, s27, s28, s29, s30, s31, s32, s33, s34, s35, s36, s37, s38, s39, s40, s41, (.int .u64 s5), (.int .u64 s7), (.int .u64 (Int.tmod s7 128)), (.int .i64 s6), (.int .i64 (IntKind.i64.wrap (7 * s6))), (.int .u64 (IntKind.u64.wrap (IntKind.i64.wrap (7 * s6)))), (.int .u64 (IntKind.u64.wrap ((Int.tmod s7 128) * (2 ^ (min (Int.toNat (IntKind.u64.wrap (IntKind.i64.wrap (7 * s6)))) IntKind.u64.bits))))), (.int .u64 (IntKind.u64.wrap (s5 + (IntKind.u64.wrap ((Int.tmod s7 128) * (2 ^ (min (Int.toNat (IntKind.u64.wrap (IntKind.i64.wrap (7 * s6)))) IntKind.u64.bits))))))), (.int .u64 s7), (.bool true), (.int .u64 (IntKind.u64.wrap (s5 + (IntKind.u64.wrap ((Int.tmod s7 128) * (2 ^ (min (Int.toNat (IntKind.u64.wrap (IntKind.i64.wrap (7 * s6)))) IntKind.u64.bits))))))), (.string t18), (.pointer s0), (.pointer (some ⟨i4, k5, none⟩)), (.pointer (some ⟨i4, k5, none⟩)), (.string t10), (.pointer s0), (.pointer (some ⟨i6, k7, none⟩)), (.pointer (some ⟨i6, (k7 + 1), none⟩)), (.int .i64 n11), (.pointer s0), (.pointer (some ⟨i8, k9, none⟩)), (.pointer (some ⟨i8, (k9 + 1), none⟩)), (.int .i64 n12), (.int .i64 s6), (.int .i64 (IntKind.i64.wrap (n12 + s6))), (.int .i64 (IntKind.i64.wrap ((IntKind.i64.wrap (n12 + s6)) + 1))), (.string t13), (.bool (!decide (t18 = t13))), s71, s72, s73, s74, s75, s76, s77, s78] H15) (fun v17 H16 => R (.panic v17) H16))
 (f125_J7 K0 R [(.pointer s0), s1, s2, s3, s4, (.int .u64 (IntKind.u64.wrap (s5 + (IntKind.u64.wrap ((Int.tmod s7 128) * (2 ^ (min (Int.toNat (IntKind.u64.wrap (IntKind.i64.wrap (7 * s6)))) IntKind.u64.bits))))))), (.int .i64 s6), (.int .u64 s7), s8, s9, s10, s11, s12, s13, s14, s15, s16, s17, s18, s19, s20, s21, s22, s23, s24, s25, s26, s27, s28, s29, s30, s31, s32, s33, s34, s35, s36, s37, s38, s39, s40, s41, (.int .u64 s5), (.int .u64 s7), (.int .u64 (Int.tmod s7 128)), (.int .i64 s6), (.int .i64 (IntKind.i64.wrap (7 * s6))), (.int .u64 (IntKind.u64.wrap (IntKind.i64.wrap (7 * s6)))), (.int .u64 (IntKind.u64.wrap ((Int.tmod s7 128) * (2 ^ (min (Int.toNat (IntKind.u64.wrap (IntKind.i64.wrap (7 * s6)))) IntKind.u64.bits))))), (.int .u64 (IntKind.u64.wrap (s5 + (IntKind.u64.wrap ((Int.tmod s7 128) * (2 ^ (min (Int.toNat (IntKind.u64.wrap (IntKind.i64.wrap (7 * s6)))) IntKind.u64.bits))))))), (.int .u64 s7), (.bool false), s52, s53, s54, s55, s56, s57, s58, s59, s60, s61, s62, s63, s64, s65, s66, s67, s68, s69, s70, s71, s72, s73, s74, s75, s76, s77, s78] H))
theorem f125_J4_eq (s0 : Option Addr) (s1 s2 s3 s4 : Value) (s5 s6 s7 : Int) (s8 s9 s10 s11 s12 s13 s14 s15 s16 s17 s18 s19 s20 s21 s22 s23 s24 s25 s26 s27 s28 s29 s30 s31 s32 s33 s34 s35 s36 s37 s38 s39 s40 s41 s42 s43 s44 s45 s46 s47 s48 s49 s50 s51 s52 s53 s54 s55 s56 s57 s58 s59 s60 s61 s62 s63 s64 s65 s66 s67 s68 s69 s70 s71 s72 s73 s74 s75 s76 s77 s78 : Value) (H : AH) (K0 : List Value → AH → Prop) (R : AEnd → AH → Prop) : f125_J4 K0 R [(.pointer s0), s1, s2, s3, s4, (.int .u64 s5), (.int .i64 s6), (.int .u64 s7), s8, s9, s10, s11, s12, s13, s14, s15, s16, s17, s18, s19, s20, s21, s22, s23, s24, s25, s26, s27, s28, s29, s30, s31, s32, s33, s34, s35, s36, s37, s38, s39, s40, s41, s42, s43, s44, s45, s46, s47, s48, s49, s50, s51, s52, s53, s54, s55, s56, s57, s58, s59, s60, s61, s62, s63, s64, s65, s66, s67, s68, s69, s70, s71, s72, s73, s74, s75, s76, s77, s78] H = f125_J4_B s0 s1 s2 s3 s4 s5 s6 s7 s8 s9 s10 s11 s12 s13 s14 s15 s16 s17 s18 s19 s20 s21 s22 s23 s24 s25 s26 s27 s28 s29 s30 s31 s32 s33 s34 s35 s36 s37 s38 s39 s40 s41 s52 s53 s54 s55 s56 s57 s58 s59 s60 s61 s62 s63 s64 s65 s66 s67 s68 s69 s70 s71 s72 s73 s74 s75 s76 s77 s78 H K0 R := by kernel_rfl
-- join 3: live 0:G, 5:d, 6:e, 7:., 41:?
def f125_J3_B (s0 : Option Addr) (s1 s2 s3 s4 : Value) (s5 s6 s7 : Int) (s8 s9 s10 s11 s12 s13 s14 s15 s16 s17 s18 s19 s20 s21 s22 s23 s24 s25 s26 s27 s28 s29 s30 s31 s32 s33 s34 s35 s36 s37 s38 s39 s40 : Value) (s41 : Bool) (s42 s43 s44 s45 s46 s47 s48 s49 s50 s51 s52 s53 s54 s55 s56 s57 s58 s59 s60 s61 s62 s63 s64 s65 s66 s67 s68 s69 s70 s71 s72 s73 s74 s75 s76 s77 s78 : Value) (H : AH) (K0 : List Value → AH → Prop) (R : AEnd → AH → Prop) : Prop :=
 wIf s41
 (R (.ret (.tuple #[(.int .u64 0), (.int .i64 0), (.int .i64 4)])) H)
 (f125_J4 K0 R [(.pointer s0), s1, s2, s3, s4, (.int .u64 s5), (.int .i64 s6), (.int .u64 s7), s8, s9, s10, s11, s12, s13, s14, s15, s16, s17, s18, s19, s20, s21, s22, s23, s24, s25, s26, s27, s28, s29, s30, s31, s32, s33, s34, s35, s36, s37, s38, s39, s40, (.bool false), s42, s43, s44, s45, s46, s47, s48, s49, s50, s51, s52, s53, s54, s55, s56, s57, s58, s59, s60, s61, s62, s63, s64, s65, s66, s67, s68, s69, s70, s71, s72, s73, s74, s75, s76, s77, s78] H)
theorem f125_J3_eq (s0 : Option Addr) (s1 s2 s3 s4 : Value) (s5 s6 s7 : Int) (s8 s9 s10 s11 s12 s13 s14 s15 s16 s17 s18 s19 s20 s21 s22 s23 s24 s25 s26 s27 s28 s29 s30 s31 s32 s33 s34 s35 s36 s37 s38 s39 s40 : Value) (s41 : Bool) (s42 s43 s44 s45 s46 s47 s48 s49 s50 s51 s52 s53 s54 s55 s56 s57 s58 s59 s60 s61 s62 s63 s64 s65 s66 s67 s68 s69 s70 s71 s72 s73 s74 s75 s76 s77 s78 : Value) (H : AH) (K0 : List Value → AH → Prop) (R : AEnd → AH → Prop) : f125_J3 K0 R [(.pointer s0), s1, s2, s3, s4, (.int .u64 s5), (.int .i64 s6), (.int .u64 s7), s8, s9, s10, s11, s12, s13, s14, s15, s16, s17, s18, s19, s20, s21, s22, s23, s24, s25, s26, s27, s28, s29, s30, s31, s32, s33, s34, s35, s36, s37, s38, s39, s40, (.bool s41), s42, s43, s44, s45, s46, s47, s48, s49, s50, s51, s52, s53, s54, s55, s56, s57, s58, s59, s60, s61, s62, s63, s64, s65, s66, s67, s68, s69, s70, s71, s72, s73, s74, s75, s76, s77, s78] H = f125_J3_B s0 s1 s2 s3 s4 s5 s6 s7 s8 s9 s10 s11 s12 s13 s14 s15 s16 s17 s18 s19 s20 s21 s22 s23 s24 s25 s26 s27 s28 s29 s30 s31 s32 s33 s34 s35 s36 s37 s38 s39 s40 s41 s42 s43 s44 s45 s46 s47 s48 s49 s50 s51 s52 s53 s54 s55 s56 s57 s58 s59 s60 s61 s62 s63 s64 s65 s66 s67 s68 s69 s70 s71 s72 s73 s74 s75 s76 s77 s78 H K0 R := by kernel_rfl
-- join 2: live 0:G, 5:d, 6:e, 7:.
def f125_J2_B (s0 : Option Addr) (s1 s2 s3 s4 : Value) (s5 s6 s7 : Int) (s8 s9 s10 s11 s12 s13 s14 s15 s16 s17 s18 s19 s20 s21 s22 s23 s24 s25 s26 s27 s28 s29 s30 s31 s32 s33 s34 s35 s42 s43 s44 s45 s46 s47 s48 s49 s50 s51 s52 s53 s54 s55 s56 s57 s58 s59 s60 s61 s62 s63 s64 s65 s66 s67 s68 s69 s70 s71 s72 s73 s74 s75 s76 s77 s78 : Value) (H : AH) (K0 : List Value → AH → Prop) (R : AEnd → AH → Prop) : Prop :=
 wIf (decide (s6 = 9))
 (f125_J3 K0 R [(.pointer s0), s1, s2, s3, s4, (.int .u64 s5), (.int .i64 s6), (.int .u64 s7), s8, s9, s10, s11, s12, s13, s14, s15, s16, s17, s18, s19, s20, s21, s22, s23, s24, s25, s26, s27, s28, s29, s30, s31, s32, s33, s34, s35, (.int .i64 s6), (.bool (decide (s6 = 9))), (.bool true), (.int .u64 s7), (.bool (decide (s7 > 1))), (.bool (decide (s7 > 1))), s42, s43, s44, s45, s46, s47, s48, s49, s50, s51, s52, s53, s54, s55, s56, s57, s58, s59, s60, s61, s62, s63, s64, s65, s66, s67, s68, s69, s70, s71, s72, s73, s74, s75, s76, s77, s78] H)
 (f125_J3 K0 R [(.pointer s0), s1, s2, s3, s4, (.int .u64 s5), (.int .i64 s6), (.int .u64 s7), s8, s9, s10, s11, s12, s13, s14, s15, s16, s17, s18, s19, s20, s21, s22, s23, s24, s25, s26, s27, s28, s29, s30, s31, s32, s33, s34, s35, (.int .i64 s6), (.bool (decide (s6 = 9))), (.bool false), undef, undef, (.bool false), s42, s43, s44, s45, s46, s47, s48, s49, s50, s51, s52, s53, s54, s55, s56, s57, s58, s59, s60, s61, s62, s63, s64, s65, s66, s67, s68, s69, s70, s71, s72, s73, s74, s75, s76, s77, s78] H)
theorem f125_J2_eq (s0 : Option Addr) (s1 s2 s3 s4 : Value) (s5 s6 s7 : Int) (s8 s9 s10 s11 s12 s13 s14 s15 s16 s17 s18 s19 s20 s21 s22 s23 s24 s25 s26 s27 s28 s29 s30 s31 s32 s33 s34 s35 s36 s37 s38 s39 s40 s41 s42 s43 s44 s45 s46 s47 s48 s49 s50 s51 s52 s53 s54 s55 s56 s57 s58 s59 s60 s61 s62 s63 s64 s65 s66 s67 s68 s69 s70 s71 s72 s73 s74 s75 s76 s77 s78 : Value) (H : AH) (K0 : List Value → AH → Prop) (R : AEnd → AH → Prop) : f125_J2 K0 R [(.pointer s0), s1, s2, s3, s4, (.int .u64 s5), (.int .i64 s6), (.int .u64 s7), s8, s9, s10, s11, s12, s13, s14, s15, s16, s17, s18, s19, s20, s21, s22, s23, s24, s25, s26, s27, s28, s29, s30, s31, s32, s33, s34, s35, s36, s37, s38, s39, s40, s41, s42, s43, s44, s45, s46, s47, s48, s49, s50, s51, s52, s53, s54, s55, s56, s57, s58, s59, s60, s61, s62, s63, s64, s65, s66, s67, s68, s69, s70, s71, s72, s73, s74, s75, s76, s77, s78] H = f125_J2_B s0 s1 s2 s3 s4 s5 s6 s7 s8 s9 s10 s11 s12 s13 s14 s15 s16 s17 s18 s19 s20 s21 s22 s23 s24 s25 s26 s27 s28 s29 s30 s31 s32 s33 s34 s35 s42 s43 s44 s45 s46 s47 s48 s49 s50 s51 s52 s53 s54 s55 s56 s57 s58 s59 s60 s61 s62 s63 s64 s65 s66 s67 s68 s69 s70 s71 s72 s73 s74 s75 s76 s77 s78 H K0 R := by kernel_rfl
-- join 1: live 0:G, 5:d, 6:e
def f125_J1_B (s0 : Option Addr) (s1 s2 s3 s4 : Value) (s5 s6 : Int) (s8 s9 s10 s11 s12 s13 s14 s15 s16 s17 s18 s19 s20 s21 s22 s23 s36 s37 s38 s39 s40 s41 s42 s43 s44 s45 s46 s47 s48 s49 s50 s51 s52 s53 s54 s55 s56 s57 s58 s59 s60 s61 s62 s63 s64 s65 s66 s67 s68 s69 s70 s71 s72 s73 s74 s75 s76 s77 s78 : Value) (H : AH) (K0 : List Value → AH → Prop) (R : AEnd → AH → Prop) : Prop :=
 wPt s0 fun i19 k20 =>
 wPt s0 fun i21 k22 =>
 ldS i19 k20 H fun t23 =>
 ldI .i64 i21 (k22 + 1) H fun n24 =>
 wIxS t23 (IntKind.i64.wrap (n24 + s6)) fun n25 =>
 f125_J2 K0 R [(.pointer s0), s1, s2, s3, s4, (.int .u64 s5), (.int .i64 s6), (.int .u64 (IntKind.u64.wrap n25)), s8, s9, s10, s11, s12, s13, s14, s15, s16, s17, s18, s19, s20, s21, s22, s23, (.pointer s0), (.pointer (some ⟨i19, k20, none⟩)), (.pointer (some ⟨i19, k20, none⟩)), (.string t23), (.pointer s0), (.pointer (some ⟨i21, k22, none⟩)), (.pointer (some ⟨i21, (k22 + 1), none⟩)), (.int .i64 n24), (.int .i64 s6), (.int .i64 (IntKind.i64.wrap (n24 + s6))), (.int .u8 n25), (.int .u64 (IntKind.u64.wrap n25)), s36, s37, s38, s39, s40, s41, s42, s43, s44, s45, s46, s47, s48, s49, s50, s51, s52, s53, s54, s55, s56, s57, s58, s59, s60, s61, s62, s63, s64, s65, s66, s67, s68, s69, s70, s71, s72, s73, s74, s75, s76, s77, s78] H
theorem f125_J1_eq (s0 : Option Addr) (s1 s2 s3 s4 : Value) (s5 s6 : Int) (s7 s8 s9 s10 s11 s12 s13 s14 s15 s16 s17 s18 s19 s20 s21 s22 s23 s24 s25 s26 s27 s28 s29 s30 s31 s32 s33 s34 s35 s36 s37 s38 s39 s40 s41 s42 s43 s44 s45 s46 s47 s48 s49 s50 s51 s52 s53 s54 s55 s56 s57 s58 s59 s60 s61 s62 s63 s64 s65 s66 s67 s68 s69 s70 s71 s72 s73 s74 s75 s76 s77 s78 : Value) (H : AH) (K0 : List Value → AH → Prop) (R : AEnd → AH → Prop) : f125_J1 K0 R [(.pointer s0), s1, s2, s3, s4, (.int .u64 s5), (.int .i64 s6), s7, s8, s9, s10, s11, s12, s13, s14, s15, s16, s17, s18, s19, s20, s21, s22, s23, s24, s25, s26, s27, s28, s29, s30, s31, s32, s33, s34, s35, s36, s37, s38, s39, s40, s41, s42, s43, s44, s45, s46, s47, s48, s49, s50, s51, s52, s53, s54, s55, s56, s57, s58, s59, s60, s61, s62, s63, s64, s65, s66, s67, s68, s69, s70, s71, s72, s73, s74, s75, s76, s77, s78] H = f125_J1_B s0 s1 s2 s3 s4 s5 s6 s8 s9 s10 s11 s12 s13 s14 s15 s16 s17 s18 s19 s20 s21 s22 s23 s36 s37 s38 s39 s40 s41 s42 s43 s44 s45 s46 s47 s48 s49 s50 s51 s52 s53 s54 s55 s56 s57 s58 s59 s60 s61 s62 s63 s64 s65 s66 s67 s68 s69 s70 s71 s72 s73 s74 s75 s76 s77 s78 H K0 R := by kernel_rfl
-- join 0: live 0:G, 5:d, 6:e, 23:?
def f125_J0_B (s0 : Option Addr) (s1 s2 s3 s4 : Value) (s5 s6 : Int) (s7 s8 s9 s10 s11 s12 s13 s14 s15 s16 s17 s18 s19 s20 s21 s22 : Value) (s23 : Bool) (s24 s25 s26 s27 s28 s29 s30 s31 s32 s33 s34 s35 s36 s37 s38 s39 s40 s41 s42 s43 s44 s45 s46 s47 s48 s49 s50 s51 s52 s53 s54 s55 s56 s57 s58 s59 s60 s61 s62 s63 s64 s65 s66 s67 s68 s69 s70 s71 s72 s73 s74 s75 s76 s77 s78 : Value) (H : AH) (K0 : List Value → AH → Prop) (R : AEnd → AH → Prop) : Prop :=
 wIf s23
 (R (.ret (.tuple #[(.int .u64 0), (.int .i64 0), (.int .i64 3)])) H)
 (f125_J1 K0 R [(.pointer s0), s1, s2, s3, s4, (.int .u64 s5), (.int .i64 s6), s7, s8, s9, s10, s11, s12, s13, s14, s15, s16, s17, s18, s19, s20, s21, s22, (.bool false), s24, s25, s26, s27, s28, s29, s30, s31, s32, s33, s34, s35, s36, s37, s38, s39, s40, s41, s42, s43, s44, s45, s46, s47, s48, s49, s50, s51, s52, s53, s54, s55, s56, s57, s58, s59, s60, s61, s62, s63, s64, s65, s66, s67, s68, s69, s70, s71, s72, s73, s74, s75, s76, s77, s78] H)
theorem f125_J0_eq (s0 : Option Addr) (s1 s2 s3 s4 : Value) (s5 s6 : Int) (s7 s8 s9 s10 s11 s12 s13 s14 s15 s16 s17 s18 s19 s20 s21 s22 : Value) (s23 : Bool) (s24 s25 s26 s27 s28 s29 s30 s31 s32 s33 s34 s35 s36 s37 s38 s39 s40 s41 s42 s43 s44 s45 s46 s47 s48 s49 s50 s51 s52 s53 s54 s55 s56 s57 s58 s59 s60 s61 s62 s63 s64 s65 s66 s67 s68 s69 s70 s71 s72 s73 s74 s75 s76 s77 s78 : Value) (H : AH) (K0 : List Value → AH → Prop) (R : AEnd → AH → Prop) : f125_J0 K0 R [(.pointer s0), s1, s2, s3, s4, (.int .u64 s5), (.int .i64 s6), s7, s8, s9, s10, s11, s12, s13, s14, s15, s16, s17, s18, s19, s20, s21, s22, (.bool s23), s24, s25, s26, s27, s28, s29, s30, s31, s32, s33, s34, s35, s36, s37, s38, s39, s40, s41, s42, s43, s44, s45, s46, s47, s48, s49, s50, s51, s52, s53, s54, s55, s56, s57, s58, s59, s60, s61, s62, s63, s64, s65, s66, s67, s68, s69, s70, s71, s72, s73, s74, s75, s76, s77, s78] H = f125_J0_B s0 s1 s2 s3 s4 s5 s6 s7 s8 s9 s10 s11 s12 s13 s14 s15 s16 s17 s18 s19 s20 s21 s22 s23 s24 s25 s26 s27 s28 s29 s30 s31 s32 s33 s34 s35 s36 s37 s38 s39 s40 s41 s42 s43 s44 s45 s46 s47 s48 s49 s50 s51 s52 s53 s54 s55 s56 s57 s58 s59 s60 s61 s62 s63 s64 s65 s66 s67 s68 s69 s70 s71 s72 s73 s74 s75 s76 s77 s78 H K0 R := by kernel_rfl
def f125_R0 (s0 : Option Addr) (s1 s2 s3 s4 : Value) (s5 s6 : Int) (s7 s8 s9 s10 s11 s12 s13 s14 s15 s16 s17 s18 s19 s20 s21 s22 s23 s24 s25 s26 s27 s28 s29 s30 s31 s32 s33 s34 s35 s36 s37 s38 s39 s40 s41 s42 s43 s44 s45 s46 s47 s48 s49 s50 s51 s52 s53 s54 s55 s56 s57 s58 s59 s60 s61 s62 s63 s64 s65 s66 s67 s68 s69 s70 s71 s72 s73 s74 s75 s76 s77 s78 : Value) (H : AH) (K0 : List Value → AH → Prop) (R : AEnd → AH → Prop) : Prop :=
 wIf (decide (s6 < 10))
 (wPt s0 fun i26 k27 =>
 wPt s0 fun i28 k29 =>
 ldI .i64 i26 (k27 + 1) H fun n30 =>
 ldS i28 k29 H fun t31 =>
 f125_J0 K0 R [(.pointer s0), s1, s2, s3, s4, (.int .u64 s5), (.int .i64 s6), s7, (.int .i64 s6), (.bool true), s10, s11, (.pointer s0), (.pointer (some ⟨i26, k27, none⟩)), (.pointer (some ⟨i26, (k27 + 1), none⟩)), (.int .i64 n30), (.int .i64 s6), (.int .i64 (IntKind.i64.wrap (n30 + s6))), (.pointer s0), (.pointer (some ⟨i28, k29, none⟩)), (.pointer (some ⟨i28, k29, none⟩)), (.string t31), (.int .i64 (t31.size : Int)), (.bool (decide ((IntKind.i64.wrap (n30 + s6)) ≥ (t31.size : Int)))), s24, s25, s26, s27, s28, s29, s30, s31, s32, s33, s34, s35, s36, s37, s38, s39, s40, s41, s42, s43, s44, s45, s46, s47, s48, s49, s50, s51, s52, s53, s54, s55, s56, s57, s58, s59, s60, s61, s62, s63, s64, s65, s66, s67, s68, s69, s70, s71, s72, s73, s74, s75, s76, s77, s78] H)
 (f125_J8 R [(.pointer s0), s1, s2, s3, s4, (.int .u64 s5), (.int .i64 s6), s7, (.int .i64 s6), (.bool false), s10, s11, s12, s13, s14, s15, s16, s17, s18, s19, s20, s21, s22, s23, s24, s25, s26, s27, s28, s29, s30, s31, s32, s33, s34, s35, s36, s37, s38, s39, s40, s41, s42, s43, s44, s45, s46, s47, s48, s49, s50, s51, s52, s53, s54, s55, s56, s57, s58, s59, s60, s61, s62, s63, s64, s65, s66, s67, s68, s69, s70, s71, s72, s73, s74, s75, s76, s77, s78] H)
theorem f125_R0_eq (s0 : Option Addr) (s1 s2 s3 s4 : Value) (s5 s6 : Int) (s7 s8 s9 s10 s11 s12 s13 s14 s15 s16 s17 s18 s19 s20 s21 s22 s23 s24 s25 s26 s27 s28 s29 s30 s31 s32 s33 s34 s35 s36 s37 s38 s39 s40 s41 s42 s43 s44 s45 s46 s47 s48 s49 s50 s51 s52 s53 s54 s55 s56 s57 s58 s59 s60 s61 s62 s63 s64 s65 s66 s67 s68 s69 s70 s71 s72 s73 s74 s75 s76 s77 s78 : Value) (H : AH) (K0 : List Value → AH → Prop) (R : AEnd → AH → Prop) : awpF Try.prog (codeAt f125_c [1, 1, 0, 1, 0, 0]) (thenF K0 (f125_Q0 R)) [(.pointer s0), s1, s2, s3, s4, (.int .u64 s5), (.int .i64 s6), s7, s8, s9, s10, s11, s12, s13, s14, s15, s16, s17, s18, s19, s20, s21, s22, s23, s24, s25, s26, s27, s28, s29, s30, s31, s32, s33, s34, s35, s36, s37, s38, s39, s40, s41, s42, s43, s44, s45, s46, s47, s48, s49, s50, s51, s52, s53, s54, s55, s56, s57, s58, s59, s60, s61, s62, s63, s64, s65, s66, s67, s68, s69, s70, s71, s72, s73, s74, s75, s76, s77, s78] H = f125_R0 s0 s1 s2 s3 s4 s5 s6 s7 s8 s9 s10 s11 s12 s13 s14 s15 s16 s17 s18 s19 s20 s21 s22 s23 s24 s25 s26 s27 s28 s29 s30 s31 s32 s33 s34 s35 s36 s37 s38 s39 s40 s41 s42 s43 s44 s45 s46 s47 s48 s49 s50 s51 s52 s53 s54 s55 s56 s57 s58 s59 s60 s61 s62 s63 s64 s65 s66 s67 s68 s69 s70 s71 s72 s73 s74 s75 s76 s77 s78 H K0 R := by kernel_rfl
def f125_I0 (s0 : Option Addr) (s1 : Value) (J : Nat → Int → Int → AH → Prop) (n : Nat) (tm : List Value) (H : AH) : Prop := ∃ (s2 s3 s4 : Value) (s5 s6 : Int) (s7 s8 s9 s10 s11 s12 s13 s14 s15 s16 s17 s18 s19 s20 s21 s22 s23 s24 s25 s26 s27 s28 s29 s30 s31 s32 s33 s34 s35 s36 s37 s38 s39 s40 s41 s42 s43 s44 s45 s46 s47 s48 s49 s50 s51 s52 s53 s54 s55 s56 s57 s58 s59 s60 s61 s62 s63 s64 s65 s66 s67 s68 s69 s70 s71 s72 s73 s74 s75 s76 s77 s78 : Value), tm = [(.pointer s0), s1, s2, s3, s4, (.int .u64 s5), (.int .i64 s6), s7, s8, s9, s10, s11, s12, s13, s14, s15, s16, s17, s18, s19, s20, s21, s22, s23, s24, s25, s26, s27, s28, s29, s30, s31, s32, s33, s34, s35, s36, s37, s38, s39, s40, s41, s42, s43, s44, s45, s46, s47, s48, s49, s50, s51, s52, s53, s54, s55, s56, s57, s58, s59, s60, s61, s62, s63, s64, s65, s66, s67, s68, s69, s70, s71, s72, s73, s74, s75, s76, s77, s78] ∧ J n s5 s6 H
theorem f125_I0_mk {s0 : Option Addr} {s1 : Value} {s2 : Value} {s3 : Value} {s4 : Value} {s5 : Int} {s6 : Int} {s7 : Value} {s8 : Value} {s9 : Value} {s10 : Value} {s11 : Value} {s12 : Value} {s13 : Value} {s14 : Value} {s15 : Value} {s16 : Value} {s17 : Value} {s18 : Value} {s19 : Value} {s20 : Value} {s21 : Value} {s22 : Value} {s23 : Value} {s24 : Value} {s25 : Value} {s26 : Value} {s27 : Value} {s28 : Value} {s29 : Value} {s30 : Value} {s31 : Value} {s32 : Value} {s33 : Value} {s34 : Value} {s35 : Value} {s36 : Value} {s37 : Value} {s38 : Value} {s39 : Value} {s40 : Value} {s41 : Value} {s42 : Value} {s43 : Value} {s44 : Value} {s45 : Value} {s46 : Value} {s47 : Value} {s48 : Value} {s49 : Value} {s50 : Value} {s51 : Value} {s52 : Value} {s53 : Value} {s54 : Value} {s55 : Value} {s56 : Value} {s57 : Value} {s58 : Value} {s59 : Value} {s60 : Value} {s61 : Value} {s62 : Value} {s63 : Value} {s64 : Value} {s65 : Value} {s66 : Value} {s67 : Value} {s68 : Value} {s69 : Value} {s70 : Value} {s71 : Value} {s72 : Value} {s73 : Value} {s74 : Value} {s75 : Value} {s76 : Value} {s77 : Value} {s78 : Value} {J : Nat → Int → Int → AH → Prop} {n : Nat} {H : AH} (h : J n s5 s6 H) : f125_I0 s0 s1 J n [(.pointer s0), s1, s2, s3, s4, (.int .u64 s5), (.int .i64 s6), s7, s8, s9, s10, s11, s12, s13, s14, s15, s16, s17, s18, s19, s20, s21, s22, s23, s24, s25, s26, s27, s28, s29, s30, s31, s32, s33, s34, s35, s36, s37, s38, s39, s40, s41, s42, s43, s44, s45, s46, s47, s48, s49, s50, s51, s52, s53, s54, s55, s56, s57, s58, s59, s60, s61, s62, s63, s64, s65, s66, s67, s68, s69, s70, s71, s72, s73, s74, s75, s76, s77, s78] H := ⟨_, _, _, _, _, _, _, _, _, _, _, _, _, _, _, _, _, _, _, _, _, _, _, _, _, _, _, _, _, _, _, _, _, _, _, _, _, _, _, _, _, _, _, _, _, _, _, _, _, _, _, _, _, _, _, _, _, _, _, _, _, _, _, _, _, _, _, _, _, _, _, _, _, _, _, _, _, rfl, h⟩
-- loop 0: carried 5:d, 6:e
theorem f125_L0_rule {s0 : Option Addr} {s1 : Value} {s2 : Value} {s3 : Value} {s4 : Value} {s5 : Int} {s6 : Int} {s7 : Value} {s8 : Value} {s9 : Value} {s10 : Value} {s11 : Value} {s12 : Value} {s13 : Value} {s14 : Value} {s15 : Value} {s16 : Value} {s17 : Value} {s18 : Value} {s19 : Value} {s20 : Value} {s21 : Value} {s22 : Value} {s23 : Value} {s24 : Value} {s25 : Value} {s26 : Value} {s27 : Value} {s28 : Value} {s29 : Value} {s30 : Value} {s31 : Value} {s32 : Value} {s33 : Value} {s34 : Value} {s35 : Value} {s36 : Value} {s37 : Value} {s38 : Value} {s39 : Value} {s40 : Value} {s41 : Value} {s42 : Value} {s43 : Value} {s44 : Value} {s45 : Value} {s46 : Value} {s47 : Value} {s48 : Value} {s49 : Value} {s50 : Value} {s51 : Value} {s52 : Value} {s53 : Value} {s54 : Value} {s55 : Value} {s56 : Value} {s57 : Value} {s58 : Value} {s59 : Value} {s60 : Value} {s61 : Value} {s62 : Value} {s63 : Value} {s64 : Value} {s65 : Value} {s66 : Value} {s67 : Value} {s68 : Value} {s69 : Value} {s70 : Value} {s71 : Value} {s72 : Value} {s73 : Value} {s74 : Value} {s75 : Value} {s76 : Value} {s77 : Value} {s78 : Value} {H : AH} {R : AEnd → AH → Prop} (J : Nat → Int → Int → AH → Prop) (n : Nat) (h0 : J n s5 s6 H)
  (step : ∀ (n : Nat) (s5 s6 : Int) (H : AH), J n s5 s6 H → ∀ (s2 s3 s4 s7 s8 s9 s10 s11 s12 s13 s14 s15 s16 s17 s18 s19 s20 s21 s22 s23 s24 s25 s26 s27 s28 s29 s30 s31 s32 s33 s34 s35 s36 s37 s38 s39 s40 s41 s42 s43 s44 s45 s46 s47 s48 s49 s50 s51 s52 s53 s54 s55 s56 s57 s58 s59 s60 s61 s62 s63 s64 s65 s66 s67 s68 s69 s70 s71 s72 s73 s74 s75 s76 s77 s78 : Value), f125_R0 s0 s1 s2 s3 s4 s5 s6 s7 s8 s9 s10 s11 s12 s13 s14 s15 s16 s17 s18 s19 s20 s21 s22 s23 s24 s25 s26 s27 s28 s29 s30 s31 s32 s33 s34 s35 s36 s37 s38 s39 s40 s41 s42 s43 s44 s45 s46 s47 s48 s49 s50 s51 s52 s53 s54 s55 s56 s57 s58 s59 s60 s61 s62 s63 s64 s65 s66 s67 s68 s69 s70 s71 s72 s73 s74 s75 s76 s77 s78 H (fun tm H => ∃ m, m < n ∧ f125_I0 s0 s1 J m tm H) R) : f125_L0 R [(.pointer s0), s1, s2, s3, s4, (.int .u64 s5), (.int .i64 s6), s7, s8, s9, s10, s11, s12, s13, s14, s15, s16, s17, s18, s19, s20, s21, s22, s23, s24, s25, s26, s27, s28, s29, s30, s31, s32, s33, s34, s35, s36, s37, s38, s39, s40, s41, s42, s43, s44, s45, s46, s47, s48, s49, s50, s51, s52, s53, s54, s55, s56, s57, s58, s59, s60, s61, s62, s63, s64, s65, s66, s67, s68, s69, s70, s71, s72, s73, s74, s75, s76, s77, s78] H :=
  awpF_loop (f125_I0 s0 s1 J) n (f125_I0_mk h0) (by
    intro n tm H hh
    exact Exists.elim hh fun s2 hh => Exists.elim hh fun s3 hh => Exists.elim hh fun s4 hh => Exists.elim hh fun s5 hh => Exists.elim hh fun s6 hh => Exists.elim hh fun s7 hh => Exists.elim hh fun s8 hh => Exists.elim hh fun s9 hh => Exists.elim hh fun s10 hh => Exists.elim hh fun s11 hh => Exists.elim hh fun s12 hh => Exists.elim hh fun s13 hh => Exists.elim hh fun s14 hh => Exists.elim hh fun s15 hh => Exists.elim hh fun s16 hh => Exists.elim hh fun s17 hh => Exists.elim hh fun s18 hh => Exists.elim hh fun s19 hh => Exists.elim hh fun s20 hh => Exists.elim hh fun s21 hh => Exists.elim hh fun s22 hh => Exists.elim hh fun s23 hh => Exists.elim hh fun s24 hh => Exists.elim hh fun s25 hh => Exists.elim hh fun s26 hh => Exists.elim hh fun s27 hh => Exists.elim hh fun s28 hh => Exists.elim hh fun s29 hh => Exists.elim hh fun s30 hh => Exists.elim hh fun s31 hh => Exists.elim hh fun s32 hh => Exists.elim hh fun s33 hh => Exists.elim hh fun s34 hh => Exists.elim hh fun s35 hh => Exists.elim hh fun s36 hh => Exists.elim hh fun s37 hh => Exists.elim hh fun s38 hh => Exists.elim hh fun s39 hh => Exists.elim hh fun s40 hh => Exists.elim hh fun s41 hh => Exists.elim hh fun s42 hh => Exists.elim hh fun s43 hh => Exists.elim hh fun s44 hh => Exists.elim hh fun s45 hh => Exists.elim hh fun s46 hh => Exists.elim hh fun s47 hh => Exists.elim hh fun s48 hh => Exists.elim hh fun s49 hh => Exists.elim hh fun s50 hh => Exists.elim hh fun s51 hh => Exists.elim hh fun s52 hh => Exists.elim hh fun s53 hh => Exists.elim hh fun s54 hh => Exists.elim hh fun s55 hh => Exists.elim hh fun s56 hh => Exists.elim hh fun s57 hh => Exists.elim hh fun s58 hh => Exists.elim hh fun s59 hh => Exists.elim hh fun s60 hh => Exists.elim hh fun s61 hh => Exists.elim hh fun s62 hh => Exists.elim hh fun s63 hh => Exists.elim hh fun s64 hh => Exists.elim hh fun s65 hh => Exists.elim hh fun s66 hh => Exists.elim hh fun s67 hh => Exists.elim hh fun s68 hh => Exists.elim hh fun s69 hh => Exists.elim hh fun s70 hh => Exists.elim hh fun s71 hh => Exists.elim hh fun s72 hh => Exists.elim hh fun s73 hh => Exists.elim hh fun s74 hh => Exists.elim hh fun s75 hh => Exists.elim hh fun s76 hh => Exists.elim hh fun s77 hh => Exists.elim hh fun s78 hh => And.elim (fun e h =>
     (by subst e; exact Eq.mpr (f125_R0_eq s0 s1 s2 s3 s4 s5 s6 s7 s8 s9 s10 s11 s12 s13 s14 s15 s16 s17 s18 s19 s20 s21 s22 s23 s24 s25 s26 s27 s28 s29 s30 s31 s32 s33 s34 s35 s36 s37 s38 s39 s40 s41 s42 s43 s44 s45 s46 s47 s48 s49 s50 s51 s52 s53 s54 s55 s56 s57 s58 s59 s60 s61 s62 s63 s64 s65 s66 s67 s68 s69 s70 s71 s72 s73 s74 s75 s76 s77 s78 H _ R) (step n s5 s6 H h s2 s3 s4 s7 s8 s9 s10 s11 s12 s13 s14 s15 s16 s17 s18 s19 s20 s21 s22 s23 s24 s25 s26 s27 s28 s29 s30 s31 s32 s33 s34 s35 s36 s37 s38 s39 s40 s41 s42 s43 s44 s45 s46 s47 s48 s49 s50 s51 s52 s53 s54 s55 s56 s57 s58 s59 s60 s61 s62 s63 s64 s65 s66 s67 s68 s69 s70 s71 s72 s73 s74 s75 s76 s77 s78))) hh)
def f125_B (x0 : Option Addr) (H : AH) (R : AEnd → AH → Prop) : Prop :=
 f125_L0 R [(.pointer x0), undef, (.int .u64 0), (.int .i64 0), (.int .i64 0), (.int .u64 0), (.int .i64 0), undef, undef, undef, undef, undef, undef, undef, undef, undef, undef, undef, undef, undef, undef, undef, undef, undef, undef, undef, undef, undef, undef, undef, undef, undef, undef, undef, undef, undef, undef, undef, undef, undef, undef, undef, undef, undef, undef, undef, undef, undef, undef, undef, undef, undef, undef, undef, undef, undef, undef, undef, undef, undef, undef, undef, undef, undef, undef, undef, undef, undef, undef, undef, undef, undef, undef, undef, undef, undef, undef, undef, undef] H
theorem f125_eq (x0 : Option Addr) (H : AH) (R : AEnd → AH → Prop) : awpF Try.prog f125_c (aPost Try.prog Try.f125 R) (([(.pointer x0)] : List Value) ++ List.replicate (Try.f125.ntmps - (([(.pointer x0)] : List Value)).length) undef) H = f125_B x0 H R := by kernel_rfl
theorem f125_call (x0 : Option Addr) (H : AH) (R : AEnd → AH → Prop) (h : f125_B x0 H R) : ACall Try.prog 125 ([(.pointer x0)] : List Value) H R :=
  acall_of mixed Try.func125 (by kernel_rfl : Try.f125.body = some f125_c) (by kernel_rfl) (by kernel_rfl) (awp_of (Eq.mpr (f125_eq x0 H R) h))

/-! f56: (*switchyard/switchyardref13.Reading).value -/
noncomputable def f56_c : Code := Try.f56.body.getD .skip
noncomputable def f56_X0 (R : AEnd → AH → Prop) : AExit → List Value → AH → Prop := thenF (fun tm H => hold (awpF Try.prog (codeAt f56_c [1, 1, 1, 1]) (aPost Try.prog Try.f56 R) tm H)) (aPost Try.prog Try.f56 R)
noncomputable def f56_X1 (R : AEnd → AH → Prop) : AExit → List Value → AH → Prop := inBlockF 0 (f56_X0 R)
noncomputable def f56_X2 (R : AEnd → AH → Prop) : AExit → List Value → AH → Prop := inBlockF 1 (f56_X1 R)
noncomputable def f56_Q0 (R : AEnd → AH → Prop) : AExit → List Value → AH → Prop := (f56_X2 R)
def f56_L0 (R : AEnd → AH → Prop) (tm : List Value) (H : AH) : Prop := awpF Try.prog (codeAt f56_c [1, 1, 1, 0, 1, 0, 1, 1, 1, 1, 1, 1, 1, 1, 1, 0, 1, 1, 0]) (f56_Q0 R) tm H
def f56_J0 (K0 : List Value → AH → Prop) (R : AEnd → AH → Prop) (tm : List Value) (H : AH) : Prop := hold (awpF Try.prog (codeAt f56_c [1, 1, 1, 0, 1, 0, 1, 1, 1, 1, 1, 1, 1, 1, 1, 0, 1, 1, 0, 0, 1, 1]) ((thenF K0 (f56_Q0 R))) tm H)
def f56_J1 (R : AEnd → AH → Prop) (tm : List Value) (H : AH) : Prop := hold (awpF Try.prog (codeAt f56_c [1, 1, 1, 1]) ((aPost Try.prog Try.f56 R)) tm H)
-- join 1: live 0:G, 2:., 3:C
def f56_J1_B (s0 s2 s3 : Option Addr) (H : AH) (R : AEnd → AH → Prop) : Prop :=
 wPt s3 fun i1 k2 =>
 ldI .i64 i1 k2 H fun n3 =>
 ldI .i64 i1 (k2 + 1) H fun n4 =>
 ldS i1 (k2 + 2) H fun t5 =>
 ldL i1 (k2 + 3) H fun z6b z6l z6c =>
 wCall Try.prog 27 [(.agg #[(.int .i64 n3), (.int .i64 n4), (.string t5), (.slice z6b z6l z6c)])] H (fun r7 H8 =>
 opB r7 fun b11 =>
 wIf (!b11)
 (wCall Try.prog 114 [(.pointer s0)] H8 (fun r12 H13 =>
 wPt s3 fun i16 k17 =>
 ldI .i64 i16 k17 H13 fun n18 =>
 ldI .i64 i16 (k17 + 1) H13 fun n19 =>
 ldS i16 (k17 + 2) H13 fun t20 =>
 ldL i16 (k17 + 3) H13 fun z21b z21l z21c =>
 wPt s2 fun i23 k24 =>
 wSt i23 k24 [(.int .i64 n18), (.int .i64 n19), (.string t20), (.slice z21b z21l z21c)] H13 fun H22 =>
 wPt s2 fun i25 k26 =>
 ldI .i64 i25 k26 H22 fun n27 =>
 ldI .i64 i25 (k26 + 1) H22 fun n28 =>
 ldS i25 (k26 + 2) H22 fun t29 =>
 ldL i25 (k26 + 3) H22 fun z30b z30l z30c =>
 R (.ret (.agg #[(.int .i64 n27), (.int .i64 n28), (.string t29), (.slice z30b z30l z30c)])) H22) (fun v15 H14 => R (.panic v15) H14))
 (wPt s3 fun i31 k32 =>
 ldI .i64 i31 k32 H8 fun n33 =>
 ldI .i64 i31 (k32 + 1) H8 fun n34 =>
 ldS i31 (k32 + 2) H8 fun t35 =>
 ldL i31 (k32 + 3) H8 fun z36b z36l z36c =>
 wPt s2 fun i38 k39 =>
 wSt i38 k39 [(.int .i64 n33), (.int .i64 n34), (.string t35), (.slice z36b z36l z36c)] H8 fun H37 =>
 wPt s2 fun i40 k41 =>
 ldI .i64 i40 k41 H37 fun n42 =>
 ldI .i64 i40 (k41 + 1) H37 fun n43 =>
 ldS i40 (k41 + 2) H37 fun t44 =>
 ldL i40 (k41 + 3) H37 fun z45b z45l z45c =>
 R (.ret (.agg #[(.int .i64 n42), (.int .i64 n43), (.string t44), (.slice z45b z45l z45c)])) H37)) (fun v10 H9 => R (.panic v10) H9)
theorem f56_J1_eq (s0 : Option Addr) (s1 : Value) (s2 s3 : Option Addr) (s4 s5 s6 s7 s8 s9 s10 s11 s12 s13 s14 s15 s16 s17 s18 s19 s20 s21 s22 s23 s24 s25 s26 s27 s28 s29 s30 s31 s32 s33 s34 s35 s36 s37 s38 s39 s40 s41 s42 s43 s44 s45 s46 s47 s48 s49 s50 s51 s52 s53 s54 s55 s56 s57 s58 s59 s60 s61 s62 s63 s64 s65 s66 s67 s68 s69 s70 s71 s72 s73 : Value) (H : AH) (R : AEnd → AH → Prop) : f56_J1 R [(.pointer s0), s1, (.pointer s2), (.pointer s3), s4, s5, s6, s7, s8, s9, s10, s11, s12, s13, s14, s15, s16, s17, s18, s19, s20, s21, s22, s23, s24, s25, s26, s27, s28, s29, s30, s31, s32, s33, s34, s35, s36, s37, s38, s39, s40, s41, s42, s43, s44, s45, s46, s47, s48, s49, s50, s51, s52, s53, s54, s55, s56, s57, s58, s59, s60, s61, s62, s63, s64, s65, s66, s67, s68, s69, s70, s71, s72, s73] H = f56_J1_B s0 s2 s3 H R := by kernel_rfl
-- join 0: live 0:G, 2:., 3:C, 4:o, 5:d
def f56_J0_B (s0 : Option Addr) (s1 : Value) (s2 s3 : Option Addr) (s4 s5 : Int) (s6 s7 s8 s9 s10 s11 s12 s13 s14 s15 s16 s17 s18 s19 s20 s21 s22 s23 s24 s25 s26 s27 s28 s29 s30 s31 s32 s33 s34 s35 s36 s37 s38 s39 s40 s41 s42 s43 s44 s45 s46 s47 s48 s49 s50 s51 s52 s53 s54 s55 s56 s59 s60 s61 s62 s63 s64 s65 s66 s67 s68 s69 s70 s71 s72 s73 : Value) (H : AH) (K0 : List Value → AH → Prop) (R : AEnd → AH → Prop) : Prop :=
 K0 [(.pointer s0), s1, (.pointer s2), (.pointer s3), (.int .i64 s4), (.int .i64 (IntKind.i64.wrap (s5 + 1))), s6, s7, s8, s9, s10, s11, s12, s13, s14, s15, s16, s17, s18, s19, s20, s21, s22, s23, s24, s25, s26, s27, s28, s29, s30, s31, s32, s33, s34, s35, s36, s37, s38, s39, s40, s41, s42, s43, s44, s45, s46, s47, s48, s49, s50, s51, s52, s53, s54, s55, s56, (.int .i64 s5), (.int .i64 (IntKind.i64.wrap (s5 + 1))), s59, s60, s61, s62, s63, s64, s65, s66, s67, s68, s69, s70, s71, s72, s73] H
theorem f56_J0_eq (s0 : Option Addr) (s1 : Value) (s2 s3 : Option Addr) (s4 s5 : Int) (s6 s7 s8 s9 s10 s11 s12 s13 s14 s15 s16 s17 s18 s19 s20 s21 s22 s23 s24 s25 s26 s27 s28 s29 s30 s31 s32 s33 s34 s35 s36 s37 s38 s39 s40 s41 s42 s43 s44 s45 s46 s47 s48 s49 s50 s51 s52 s53 s54 s55 s56 s57 s58 s59 s60 s61 s62 s63 s64 s65 s66 s67 s68 s69 s70 s71 s72 s73 : Value) (H : AH) (K0 : List Value → AH → Prop) (R : AEnd → AH → Prop) : f56_J0 K0 R [(.pointer s0), s1, (.pointer s2), (.pointer s3), (.int .i64 s4), (.int .i64 s5), s6, s7, s8, s9, s10, s11, s12, s13, s14, s15, s16, s17, s18, s19, s20, s21, s22, s23, s24, s25, s26, s27, s28, s29, s30, s31, s32, s33, s34, s35, s36, s37, s38, s39, s40, s41, s42, s43, s44, s45, s46, s47, s48, s49, s50, s51, s52, s53, s54, s55, s56, s57, s58, s59, s60, s61, s62, s63, s64, s65, s66, s67, s68, s69, s70, s71, s72, s73] H = f56_J0_B s0 s1 s2 s3 s4 s5 s6 s7 s8 s9 s10 s11 s12 s13 s14 s15 s16 s17 s18 s19 s20 s21 s22 s23 s24 s25 s26 s27 s28 s29 s30 s31 s32 s33 s34 s35 s36 s37 s38 s39 s40 s41 s42 s43 s44 s45 s46 s47 s48 s49 s50 s51 s52 s53 s54 s55 s56 s59 s60 s61 s62 s63 s64 s65 s66 s67 s68 s69 s70 s71 s72 s73 H K0 R := by kernel_rfl
def f56_R0 (s0 : Option Addr) (s1 : Value) (s2 s3 : Option Addr) (s4 s5 : Int) (s6 s7 s8 s9 s10 s11 s12 s13 s14 s15 s16 s17 s18 s19 s20 s21 s22 s23 s24 s25 s26 s27 s28 s29 s30 s31 s32 s33 s34 s35 s36 s37 s38 s39 s40 s41 s42 s43 s44 s45 s46 s47 s48 s49 s50 s51 s52 s53 s54 s55 s56 s57 s58 s59 s60 s61 s62 s63 s64 s65 s66 s67 s68 s69 s70 s71 s72 s73 : Value) (H : AH) (K0 : List Value → AH → Prop) (R : AEnd → AH → Prop) : Prop :=
 wIf (decide (s5 < s4))
 (wPt s3 fun i46 k47 =>
 wPt s0 fun i48 k49 =>
 (ldL i46 (k47 + 3) H fun z50b z50l z50c =>
 wCall Try.prog 82 [(.pointer (some ⟨i48, k49, none⟩))] H (fun r51 H52 =>
 opI .i64 r51 fun n55 =>
 wBs [(.int .i64 n55)] 1 H52 fun i56 H57 =>
 wAppL 2 1 8 z50b z50l z50c (some ⟨i56, 0, none⟩) 1 0 H57 fun z58b z58l z58c H59 =>
 wPt s3 fun i60 k61 =>
 wSt i60 (k61 + 3) [(.slice z58b z58l z58c)] H59 fun H62 =>
 f56_J0 K0 R [(.pointer s0), s1, (.pointer s2), (.pointer s3), (.int .i64 s4), (.int .i64 s5), s6, s7, s8, s9, s10, s11, s12, s13, s14, s15, s16, s17, s18, s19, s20, s21, s22, s23, s24, s25, s26, s27, s28, s29, s30, s31, s32, s33, s34, s35, s36, s37, s38, s39, s40, s41, s42, s43, s44, s45, s46, s47, s48, s49, s50, s51, s52, s53, (.int .i64 s5), (.int .i64 s4), (.bool true), s57, s58, (.pointer (some ⟨i46, (k47 + 3), none⟩)), (.slice z50b z50l z50c), (.pointer s0), (.pointer (some ⟨i48, k49, none⟩)), (.pointer (some ⟨i48, k49, none⟩)), (.int .i64 n55), (.slice (some ⟨i56, 0, none⟩) 1 0), (.slice z58b z58l z58c), (.pointer (some ⟨i60, (k61 + 3), none⟩)), s68, s69, s70, s71, s72, s73] H62) (fun v54 H53 => R (.panic v54) H53)) ∧
 (wCall Try.prog 82 [(.pointer (some ⟨i48, k49, none⟩))] H (fun r63 H64 =>
 opI .i64 r63 fun n67 =>
 (ldL i46 (k47 + 3) H64 fun z68b z68l z68c =>
 wBs [(.int .i64 n67)] 1 H64 fun i69 H70 =>
 wAppL 2 1 8 z68b z68l z68c (some ⟨i69, 0, none⟩) 1 0 H70 fun z71b z71l z71c H72 =>
 wPt s3 fun i73 k74 =>
 wSt i73 (k74 + 3) [(.slice z71b z71l z71c)] H72 fun H75 =>
 f56_J0 K0 R [(.pointer s0), s1, (.pointer s2), (.pointer s3), (.int .i64 s4), (.int .i64 s5), s6, s7, s8, s9, s10, s11, s12, s13, s14, s15, s16, s17, s18, s19, s20, s21, s22, s23, s24, s25, s26, s27, s28, s29, s30, s31, s32, s33, s34, s35, s36, s37, s38, s39, s40, s41, s42, s43, s44, s45, s46, s47, s48, s49, s50, s51, s52, s53, (.int .i64 s5), (.int .i64 s4), (.bool true), s57, s58, (.pointer (some ⟨i46, (k47 + 3), none⟩)), (.slice z68b z68l z68c), (.pointer s0), (.pointer (some ⟨i48, k49, none⟩)), (.pointer (some ⟨i48, k49, none⟩)), (.int .i64 n67), (.slice (some ⟨i69, 0, none⟩) 1 0), (.slice z71b z71l z71c), (.pointer (some ⟨i73, (k74 + 3), none⟩)), s68, s69, s70, s71, s72, s73] H75) ∧
 (wBs [(.int .i64 n67)] 1 H64 fun i76 H77 =>
 ldL i46 (k47 + 3) H77 fun z78b z78l z78c =>
 wAppL 2 1 8 z78b z78l z78c (some ⟨i76, 0, none⟩) 1 0 H77 fun z79b z79l z79c H80 =>
 wPt s3 fun i81 k82 =>
 wSt i81 (k82 + 3) [(.slice z79b z79l z79c)] H80 fun H83 =>
 f56_J0 K0 R [(.pointer s0), s1, (.pointer s2), (.pointer s3), (.int .i64 s4), (.int .i64 s5), s6, s7, s8, s9, s10, s11, s12, s13, s14, s15, s16, s17, s18, s19, s20, s21, s22, s23, s24, s25, s26, s27, s28, s29, s30, s31, s32, s33, s34, s35, s36, s37, s38, s39, s40, s41, s42, s43, s44, s45, s46, s47, s48, s49, s50, s51, s52, s53, (.int .i64 s5), (.int .i64 s4), (.bool true), s57, s58, (.pointer (some ⟨i46, (k47 + 3), none⟩)), (.slice z78b z78l z78c), (.pointer s0), (.pointer (some ⟨i48, k49, none⟩)), (.pointer (some ⟨i48, k49, none⟩)), (.int .i64 n67), (.slice (some ⟨i76, 0, none⟩) 1 0), (.slice z79b z79l z79c), (.pointer (some ⟨i81, (k82 + 3), none⟩)), s68, s69, s70, s71, s72, s73] H83)) (fun v66 H65 => R (.panic v66) H65)))
 (f56_J1 R [(.pointer s0), s1, (.pointer s2), (.pointer s3), (.int .i64 s4), (.int .i64 s5), s6, s7, s8, s9, s10, s11, s12, s13, s14, s15, s16, s17, s18, s19, s20, s21, s22, s23, s24, s25, s26, s27, s28, s29, s30, s31, s32, s33, s34, s35, s36, s37, s38, s39, s40, s41, s42, s43, s44, s45, s46, s47, s48, s49, s50, s51, s52, s53, (.int .i64 s5), (.int .i64 s4), (.bool false), s57, s58, s59, s60, s61, s62, s63, s64, s65, s66, s67, s68, s69, s70, s71, s72, s73] H)
theorem f56_R0_eq (s0 : Option Addr) (s1 : Value) (s2 s3 : Option Addr) (s4 s5 : Int) (s6 s7 s8 s9 s10 s11 s12 s13 s14 s15 s16 s17 s18 s19 s20 s21 s22 s23 s24 s25 s26 s27 s28 s29 s30 s31 s32 s33 s34 s35 s36 s37 s38 s39 s40 s41 s42 s43 s44 s45 s46 s47 s48 s49 s50 s51 s52 s53 s54 s55 s56 s57 s58 s59 s60 s61 s62 s63 s64 s65 s66 s67 s68 s69 s70 s71 s72 s73 : Value) (H : AH) (K0 : List Value → AH → Prop) (R : AEnd → AH → Prop) : awpF Try.prog (codeAt f56_c [1, 1, 1, 0, 1, 0, 1, 1, 1, 1, 1, 1, 1, 1, 1, 0, 1, 1, 0, 0]) (thenF K0 (f56_Q0 R)) [(.pointer s0), s1, (.pointer s2), (.pointer s3), (.int .i64 s4), (.int .i64 s5), s6, s7, s8, s9, s10, s11, s12, s13, s14, s15, s16, s17, s18, s19, s20, s21, s22, s23, s24, s25, s26, s27, s28, s29, s30, s31, s32, s33, s34, s35, s36, s37, s38, s39, s40, s41, s42, s43, s44, s45, s46, s47, s48, s49, s50, s51, s52, s53, s54, s55, s56, s57, s58, s59, s60, s61, s62, s63, s64, s65, s66, s67, s68, s69, s70, s71, s72, s73] H = f56_R0 s0 s1 s2 s3 s4 s5 s6 s7 s8 s9 s10 s11 s12 s13 s14 s15 s16 s17 s18 s19 s20 s21 s22 s23 s24 s25 s26 s27 s28 s29 s30 s31 s32 s33 s34 s35 s36 s37 s38 s39 s40 s41 s42 s43 s44 s45 s46 s47 s48 s49 s50 s51 s52 s53 s54 s55 s56 s57 s58 s59 s60 s61 s62 s63 s64 s65 s66 s67 s68 s69 s70 s71 s72 s73 H K0 R := by kernel_rfl
def f56_I0 (s0 : Option Addr) (s1 : Value) (s2 s3 : Option Addr) (s4 : Int) (s6 s7 s8 s9 s10 s11 s12 s13 s14 s15 s16 s17 s18 s19 s20 s21 s22 s23 s24 s25 s26 s27 s28 s29 s30 s31 s32 s33 s34 s35 s36 s37 s38 s39 s40 s41 s42 s43 s44 s45 s46 s47 s48 s49 s50 s51 s52 s53 s68 s69 s70 s71 s72 s73 : Value) (J : Nat → Int → AH → Prop) (n : Nat) (tm : List Value) (H : AH) : Prop := ∃ (s5 : Int) (s54 s55 s56 s57 s58 s59 s60 s61 s62 s63 s64 s65 s66 s67 : Value), tm = [(.pointer s0), s1, (.pointer s2), (.pointer s3), (.int .i64 s4), (.int .i64 s5), s6, s7, s8, s9, s10, s11, s12, s13, s14, s15, s16, s17, s18, s19, s20, s21, s22, s23, s24, s25, s26, s27, s28, s29, s30, s31, s32, s33, s34, s35, s36, s37, s38, s39, s40, s41, s42, s43, s44, s45, s46, s47, s48, s49, s50, s51, s52, s53, s54, s55, s56, s57, s58, s59, s60, s61, s62, s63, s64, s65, s66, s67, s68, s69, s70, s71, s72, s73] ∧ J n s5 H
theorem f56_I0_mk {s0 : Option Addr} {s1 : Value} {s2 : Option Addr} {s3 : Option Addr} {s4 : Int} {s5 : Int} {s6 : Value} {s7 : Value} {s8 : Value} {s9 : Value} {s10 : Value} {s11 : Value} {s12 : Value} {s13 : Value} {s14 : Value} {s15 : Value} {s16 : Value} {s17 : Value} {s18 : Value} {s19 : Value} {s20 : Value} {s21 : Value} {s22 : Value} {s23 : Value} {s24 : Value} {s25 : Value} {s26 : Value} {s27 : Value} {s28 : Value} {s29 : Value} {s30 : Value} {s31 : Value} {s32 : Value} {s33 : Value} {s34 : Value} {s35 : Value} {s36 : Value} {s37 : Value} {s38 : Value} {s39 : Value} {s40 : Value} {s41 : Value} {s42 : Value} {s43 : Value} {s44 : Value} {s45 : Value} {s46 : Value} {s47 : Value} {s48 : Value} {s49 : Value} {s50 : Value} {s51 : Value} {s52 : Value} {s53 : Value} {s54 : Value} {s55 : Value} {s56 : Value} {s57 : Value} {s58 : Value} {s59 : Value} {s60 : Value} {s61 : Value} {s62 : Value} {s63 : Value} {s64 : Value} {s65 : Value} {s66 : Value} {s67 : Value} {s68 : Value} {s69 : Value} {s70 : Value} {s71 : Value} {s72 : Value} {s73 : Value} {J : Nat → Int → AH → Prop} {n : Nat} {H : AH} (h : J n s5 H) : f56_I0 s0 s1 s2 s3 s4 s6 s7 s8 s9 s10 s11 s12 s13 s14 s15 s16 s17 s18 s19 s20 s21 s22 s23 s24 s25 s26 s27 s28 s29 s30 s31 s32 s33 s34 s35 s36 s37 s38 s39 s40 s41 s42 s43 s44 s45 s46 s47 s48 s49 s50 s51 s52 s53 s68 s69 s70 s71 s72 s73 J n [(.pointer s0), s1, (.pointer s2), (.pointer s3), (.int .i64 s4), (.int .i64 s5), s6, s7, s8, s9, s10, s11, s12, s13, s14, s15, s16, s17, s18, s19, s20, s21, s22, s23, s24, s25, s26, s27, s28, s29, s30, s31, s32, s33, s34, s35, s36, s37, s38, s39, s40, s41, s42, s43, s44, s45, s46, s47, s48, s49, s50, s51, s52, s53, s54, s55, s56, s57, s58, s59, s60, s61, s62, s63, s64, s65, s66, s67, s68, s69, s70, s71, s72, s73] H := ⟨_, _, _, _, _, _, _, _, _, _, _, _, _, _, _, rfl, h⟩
-- loop 0: carried 5:d
theorem f56_L0_rule {s0 : Option Addr} {s1 : Value} {s2 : Option Addr} {s3 : Option Addr} {s4 : Int} {s5 : Int} {s6 : Value} {s7 : Value} {s8 : Value} {s9 : Value} {s10 : Value} {s11 : Value} {s12 : Value} {s13 : Value} {s14 : Value} {s15 : Value} {s16 : Value} {s17 : Value} {s18 : Value} {s19 : Value} {s20 : Value} {s21 : Value} {s22 : Value} {s23 : Value} {s24 : Value} {s25 : Value} {s26 : Value} {s27 : Value} {s28 : Value} {s29 : Value} {s30 : Value} {s31 : Value} {s32 : Value} {s33 : Value} {s34 : Value} {s35 : Value} {s36 : Value} {s37 : Value} {s38 : Value} {s39 : Value} {s40 : Value} {s41 : Value} {s42 : Value} {s43 : Value} {s44 : Value} {s45 : Value} {s46 : Value} {s47 : Value} {s48 : Value} {s49 : Value} {s50 : Value} {s51 : Value} {s52 : Value} {s53 : Value} {s54 : Value} {s55 : Value} {s56 : Value} {s57 : Value} {s58 : Value} {s59 : Value} {s60 : Value} {s61 : Value} {s62 : Value} {s63 : Value} {s64 : Value} {s65 : Value} {s66 : Value} {s67 : Value} {s68 : Value} {s69 : Value} {s70 : Value} {s71 : Value} {s72 : Value} {s73 : Value} {H : AH} {R : AEnd → AH → Prop} (J : Nat → Int → AH → Prop) (n : Nat) (h0 : J n s5 H)
  (step : ∀ (n : Nat) (s5 : Int) (H : AH), J n s5 H → ∀ (s54 s55 s56 s57 s58 s59 s60 s61 s62 s63 s64 s65 s66 s67 : Value), f56_R0 s0 s1 s2 s3 s4 s5 s6 s7 s8 s9 s10 s11 s12 s13 s14 s15 s16 s17 s18 s19 s20 s21 s22 s23 s24 s25 s26 s27 s28 s29 s30 s31 s32 s33 s34 s35 s36 s37 s38 s39 s40 s41 s42 s43 s44 s45 s46 s47 s48 s49 s50 s51 s52 s53 s54 s55 s56 s57 s58 s59 s60 s61 s62 s63 s64 s65 s66 s67 s68 s69 s70 s71 s72 s73 H (fun tm H => ∃ m, m < n ∧ f56_I0 s0 s1 s2 s3 s4 s6 s7 s8 s9 s10 s11 s12 s13 s14 s15 s16 s17 s18 s19 s20 s21 s22 s23 s24 s25 s26 s27 s28 s29 s30 s31 s32 s33 s34 s35 s36 s37 s38 s39 s40 s41 s42 s43 s44 s45 s46 s47 s48 s49 s50 s51 s52 s53 s68 s69 s70 s71 s72 s73 J m tm H) R) : f56_L0 R [(.pointer s0), s1, (.pointer s2), (.pointer s3), (.int .i64 s4), (.int .i64 s5), s6, s7, s8, s9, s10, s11, s12, s13, s14, s15, s16, s17, s18, s19, s20, s21, s22, s23, s24, s25, s26, s27, s28, s29, s30, s31, s32, s33, s34, s35, s36, s37, s38, s39, s40, s41, s42, s43, s44, s45, s46, s47, s48, s49, s50, s51, s52, s53, s54, s55, s56, s57, s58, s59, s60, s61, s62, s63, s64, s65, s66, s67, s68, s69, s70, s71, s72, s73] H :=
  awpF_loop (f56_I0 s0 s1 s2 s3 s4 s6 s7 s8 s9 s10 s11 s12 s13 s14 s15 s16 s17 s18 s19 s20 s21 s22 s23 s24 s25 s26 s27 s28 s29 s30 s31 s32 s33 s34 s35 s36 s37 s38 s39 s40 s41 s42 s43 s44 s45 s46 s47 s48 s49 s50 s51 s52 s53 s68 s69 s70 s71 s72 s73 J) n (f56_I0_mk h0) (by
    intro n tm H hh
    exact Exists.elim hh fun s5 hh => Exists.elim hh fun s54 hh => Exists.elim hh fun s55 hh => Exists.elim hh fun s56 hh => Exists.elim hh fun s57 hh => Exists.elim hh fun s58 hh => Exists.elim hh fun s59 hh => Exists.elim hh fun s60 hh => Exists.elim hh fun s61 hh => Exists.elim hh fun s62 hh => Exists.elim hh fun s63 hh => Exists.elim hh fun s64 hh => Exists.elim hh fun s65 hh => Exists.elim hh fun s66 hh => Exists.elim hh fun s67 hh => And.elim (fun e h =>
     (by subst e; exact Eq.mpr (f56_R0_eq s0 s1 s2 s3 s4 s5 s6 s7 s8 s9 s10 s11 s12 s13 s14 s15 s16 s17 s18 s19 s20 s21 s22 s23 s24 s25 s26 s27 s28 s29 s30 s31 s32 s33 s34 s35 s36 s37 s38 s39 s40 s41 s42 s43 s44 s45 s46 s47 s48 s49 s50 s51 s52 s53 s54 s55 s56 s57 s58 s59 s60 s61 s62 s63 s64 s65 s66 s67 s68 s69 s70 s71 s72 s73 H _ R) (step n s5 H h s54 s55 s56 s57 s58 s59 s60 s61 s62 s63 s64 s65 s66 s67))) hh)
def f56_B (x0 : Option Addr) (H : AH) (R : AEnd → AH → Prop) : Prop :=
 wNew [(.int .i64 0), (.int .i64 0), (.string ({ data := #[] })), (.slice none 0 0)] H fun i84 H85 =>
 wPt x0 fun i86 k87 =>
 wCall Try.prog 112 [(.pointer (some ⟨i86, k87, none⟩))] H85 (fun r88 H89 =>
 opI .i64 r88 fun n92 =>
 wNew [(.int .i64 0), (.int .i64 0), (.string ({ data := #[] })), (.slice none 0 0)] H89 fun i93 H94 =>
 wSt i93 0 [(.int .i64 n92), (.int .i64 0), (.string ({ data := #[] })), (.slice none 0 0)] H94 fun H95 =>
 wPt x0 fun i96 k97 =>
 ldI .i64 i96 (k97 + 2) H95 fun n98 =>
 wIf (!decide (n98 = 0))
 (wSt i84 0 [(.int .i64 0), (.int .i64 0), (.string ({ data := #[] })), (.slice none 0 0)] H95 fun H99 =>
 wPt (some ⟨i84, 0, none⟩) fun i100 k101 =>
 ldI .i64 i100 k101 H99 fun n102 =>
 ldI .i64 i100 (k101 + 1) H99 fun n103 =>
 ldS i100 (k101 + 2) H99 fun t104 =>
 ldL i100 (k101 + 3) H99 fun z105b z105l z105c =>
 R (.ret (.agg #[(.int .i64 n102), (.int .i64 n103), (.string t104), (.slice z105b z105l z105c)])) H99)
 (ldI .i64 i93 0 H95 fun n106 =>
 wIf (decide (n106 = 1))
 (wPt x0 fun i107 k108 =>
 wCall Try.prog 82 [(.pointer (some ⟨i107, k108, none⟩))] H95 (fun r109 H110 =>
 opI .i64 r109 fun n113 =>
 wSt i93 1 [(.int .i64 n113)] H110 fun H114 =>
 f56_J1 R [(.pointer x0), undef, (.pointer (some ⟨i84, 0, none⟩)), (.pointer (some ⟨i93, 0, none⟩)), undef, undef, (.pointer x0), (.pointer (some ⟨i86, k87, none⟩)), (.pointer (some ⟨i86, k87, none⟩)), (.int .i64 n92), (.agg #[(.int .i64 n92), (.int .i64 0), (.string ({ data := #[] })), (.slice none 0 0)]), (.pointer x0), (.pointer (some ⟨i96, k97, none⟩)), (.pointer (some ⟨i96, k97, none⟩)), (.pointer (some ⟨i96, (k97 + 2), none⟩)), (.int .i64 n98), (.bool false), undef, (.pointer (some ⟨i93, 0, none⟩)), (.int .i64 n106), (.bool true), (.bool (decide (n106 = 1))), (.pointer x0), (.pointer (some ⟨i107, k108, none⟩)), (.pointer (some ⟨i107, k108, none⟩)), (.int .i64 n113), (.pointer (some ⟨i93, 1, none⟩)), undef, undef, undef, undef, undef, undef, undef, undef, undef, undef, undef, undef, undef, undef, undef, undef, undef, undef, undef, undef, undef, undef, undef, undef, undef, undef, undef, undef, undef, undef, undef, undef, undef, undef, undef, undef, undef, undef, undef, undef, undef, undef, undef, undef, undef, undef, undef] H114) (fun v112 H111 => R (.panic v112) H111))
 (wIf (decide (n106 = 2))
 (wPt x0 fun i115 k116 =>
 wCall Try.prog 113 [(.pointer (some ⟨i115, k116, none⟩))] H95 (fun r117 H118 =>
 opB r117 fun b121 =>
 wIf b121
 (wSt i93 1 [(.int .i64 1)] H118 fun H122 =>
 f56_J1 R [(.pointer x0), undef, (.pointer (some ⟨i84, 0, none⟩)), (.pointer (some ⟨i93, 0, none⟩)), undef, undef, (.pointer x0), (.pointer (some ⟨i86, k87, none⟩)), (.pointer (some ⟨i86, k87, none⟩)), (.int .i64 n92), (.agg #[(.int .i64 n92), (.int .i64 0), (.string ({ data := #[] })), (.slice none 0 0)]), (.pointer x0), (.pointer (some ⟨i96, k97, none⟩)), (.pointer (some ⟨i96, k97, none⟩)), (.pointer (some ⟨i96, (k97 + 2), none⟩)), (.int .i64 n98), (.bool false), undef, (.pointer (some ⟨i93, 0, none⟩)), (.int .i64 n106), (.bool false), (.bool (decide (n106 = 1))), undef, undef, undef, undef, undef, (.bool true), (.bool (decide (n106 = 2))), (.pointer x0), (.pointer (some ⟨i115, k116, none⟩)), (.pointer (some ⟨i115, k116, none⟩)), (.bool true), (.pointer (some ⟨i93, 1, none⟩)), undef, undef, undef, undef, undef, undef, undef, undef, undef, undef, undef, undef, undef, undef, undef, undef, undef, undef, undef, undef, undef, undef, undef, undef, undef, undef, undef, undef, undef, undef, undef, undef, undef, undef, undef, undef, undef, undef, undef, undef] H122)
 (f56_J1 R [(.pointer x0), undef, (.pointer (some ⟨i84, 0, none⟩)), (.pointer (some ⟨i93, 0, none⟩)), undef, undef, (.pointer x0), (.pointer (some ⟨i86, k87, none⟩)), (.pointer (some ⟨i86, k87, none⟩)), (.int .i64 n92), (.agg #[(.int .i64 n92), (.int .i64 0), (.string ({ data := #[] })), (.slice none 0 0)]), (.pointer x0), (.pointer (some ⟨i96, k97, none⟩)), (.pointer (some ⟨i96, k97, none⟩)), (.pointer (some ⟨i96, (k97 + 2), none⟩)), (.int .i64 n98), (.bool false), undef, (.pointer (some ⟨i93, 0, none⟩)), (.int .i64 n106), (.bool false), (.bool (decide (n106 = 1))), undef, undef, undef, undef, undef, (.bool true), (.bool (decide (n106 = 2))), (.pointer x0), (.pointer (some ⟨i115, k116, none⟩)), (.pointer (some ⟨i115, k116, none⟩)), (.bool false), undef, undef, undef, undef, undef, undef, undef, undef, undef, undef, undef, undef, undef, undef, undef, undef, undef, undef, undef, undef, undef, undef, undef, undef, undef, undef, undef, undef, undef, undef, undef, undef, undef, undef, undef, undef, undef, undef, undef, undef, undef] H118)) (fun v120 H119 => R (.panic v120) H119))
 (wIf (decide (n106 = 3))
 (wPt x0 fun i123 k124 =>
 wCall Try.prog 86 [(.pointer (some ⟨i123, k124, none⟩)), (.int .i64 64)] H95 (fun r125 H126 =>
 opS r125 fun t129 =>
 wSt i93 2 [(.string t129)] H126 fun H130 =>
 f56_J1 R [(.pointer x0), undef, (.pointer (some ⟨i84, 0, none⟩)), (.pointer (some ⟨i93, 0, none⟩)), undef, undef, (.pointer x0), (.pointer (some ⟨i86, k87, none⟩)), (.pointer (some ⟨i86, k87, none⟩)), (.int .i64 n92), (.agg #[(.int .i64 n92), (.int .i64 0), (.string ({ data := #[] })), (.slice none 0 0)]), (.pointer x0), (.pointer (some ⟨i96, k97, none⟩)), (.pointer (some ⟨i96, k97, none⟩)), (.pointer (some ⟨i96, (k97 + 2), none⟩)), (.int .i64 n98), (.bool false), undef, (.pointer (some ⟨i93, 0, none⟩)), (.int .i64 n106), (.bool false), (.bool (decide (n106 = 1))), undef, undef, undef, undef, undef, (.bool false), (.bool (decide (n106 = 2))), undef, undef, undef, undef, undef, (.bool true), (.bool (decide (n106 = 3))), (.pointer x0), (.pointer (some ⟨i123, k124, none⟩)), (.pointer (some ⟨i123, k124, none⟩)), (.string t129), (.pointer (some ⟨i93, 2, none⟩)), undef, undef, undef, undef, undef, undef, undef, undef, undef, undef, undef, undef, undef, undef, undef, undef, undef, undef, undef, undef, undef, undef, undef, undef, undef, undef, undef, undef, undef, undef, undef, undef, undef] H130) (fun v128 H127 => R (.panic v128) H127))
 (wIf (decide (n106 = 4))
 (wPt x0 fun i131 k132 =>
 wCall Try.prog 86 [(.pointer (some ⟨i131, k132, none⟩)), (.int .i64 24)] H95 (fun r133 H134 =>
 opS r133 fun t137 =>
 wSt i93 2 [(.string t137)] H134 fun H138 =>
 f56_J1 R [(.pointer x0), undef, (.pointer (some ⟨i84, 0, none⟩)), (.pointer (some ⟨i93, 0, none⟩)), undef, undef, (.pointer x0), (.pointer (some ⟨i86, k87, none⟩)), (.pointer (some ⟨i86, k87, none⟩)), (.int .i64 n92), (.agg #[(.int .i64 n92), (.int .i64 0), (.string ({ data := #[] })), (.slice none 0 0)]), (.pointer x0), (.pointer (some ⟨i96, k97, none⟩)), (.pointer (some ⟨i96, k97, none⟩)), (.pointer (some ⟨i96, (k97 + 2), none⟩)), (.int .i64 n98), (.bool false), undef, (.pointer (some ⟨i93, 0, none⟩)), (.int .i64 n106), (.bool false), (.bool (decide (n106 = 1))), undef, undef, undef, undef, undef, (.bool false), (.bool (decide (n106 = 2))), undef, undef, undef, undef, undef, (.bool false), (.bool (decide (n106 = 3))), undef, undef, undef, undef, undef, (.bool true), (.bool (decide (n106 = 4))), (.pointer x0), (.pointer (some ⟨i131, k132, none⟩)), (.pointer (some ⟨i131, k132, none⟩)), (.string t137), (.pointer (some ⟨i93, 2, none⟩)), undef, undef, undef, undef, undef, undef, undef, undef, undef, undef, undef, undef, undef, undef, undef, undef, undef, undef, undef, undef, undef, undef, undef, undef, undef, undef] H138) (fun v136 H135 => R (.panic v136) H135))
 (wIf (decide (n106 = 5))
 (wPt x0 fun i139 k140 =>
 wCall Try.prog 83 [(.pointer (some ⟨i139, k140, none⟩)), (.int .i64 16)] H95 (fun r141 H142 =>
 opI .i64 r141 fun n145 =>
 f56_L0 R [(.pointer x0), undef, (.pointer (some ⟨i84, 0, none⟩)), (.pointer (some ⟨i93, 0, none⟩)), (.int .i64 n145), (.int .i64 0), (.pointer x0), (.pointer (some ⟨i86, k87, none⟩)), (.pointer (some ⟨i86, k87, none⟩)), (.int .i64 n92), (.agg #[(.int .i64 n92), (.int .i64 0), (.string ({ data := #[] })), (.slice none 0 0)]), (.pointer x0), (.pointer (some ⟨i96, k97, none⟩)), (.pointer (some ⟨i96, k97, none⟩)), (.pointer (some ⟨i96, (k97 + 2), none⟩)), (.int .i64 n98), (.bool false), undef, (.pointer (some ⟨i93, 0, none⟩)), (.int .i64 n106), (.bool false), (.bool (decide (n106 = 1))), undef, undef, undef, undef, undef, (.bool false), (.bool (decide (n106 = 2))), undef, undef, undef, undef, undef, (.bool false), (.bool (decide (n106 = 3))), undef, undef, undef, undef, undef, (.bool false), (.bool (decide (n106 = 4))), undef, undef, undef, undef, undef, (.bool true), (.bool (decide (n106 = 5))), (.pointer x0), (.pointer (some ⟨i139, k140, none⟩)), (.pointer (some ⟨i139, k140, none⟩)), (.int .i64 n145), undef, undef, undef, undef, undef, undef, undef, undef, undef, undef, undef, undef, undef, undef, undef, undef, undef, undef, undef, undef] H142) (fun v144 H143 => R (.panic v144) H143))
 (f56_J1 R [(.pointer x0), undef, (.pointer (some ⟨i84, 0, none⟩)), (.pointer (some ⟨i93, 0, none⟩)), undef, undef, (.pointer x0), (.pointer (some ⟨i86, k87, none⟩)), (.pointer (some ⟨i86, k87, none⟩)), (.int .i64 n92), (.agg #[(.int .i64 n92), (.int .i64 0), (.string ({ data := #[] })), (.slice none 0 0)]), (.pointer x0), (.pointer (some ⟨i96, k97, none⟩)), (.pointer (some ⟨i96, k97, none⟩)), (.pointer (some ⟨i96, (k97 + 2), none⟩)), (.int .i64 n98), (.bool false), undef, (.pointer (some ⟨i93, 0, none⟩)), (.int .i64 n106), (.bool false), (.bool (decide (n106 = 1))), undef, undef, undef, undef, undef, (.bool false), (.bool (decide (n106 = 2))), undef, undef, undef, undef, undef, (.bool false), (.bool (decide (n106 = 3))), undef, undef, undef, undef, undef, (.bool false), (.bool (decide (n106 = 4))), undef, undef, undef, undef, undef, (.bool false), (.bool (decide (n106 = 5))), undef, undef, undef, undef, undef, undef, undef, undef, undef, undef, undef, undef, undef, undef, undef, undef, undef, undef, undef, undef, undef, undef, undef, undef] H95))))))) (fun v91 H90 => R (.panic v91) H90)
theorem f56_eq (x0 : Option Addr) (H : AH) (R : AEnd → AH → Prop) : awpF Try.prog f56_c (aPost Try.prog Try.f56 R) (([(.pointer x0)] : List Value) ++ List.replicate (Try.f56.ntmps - (([(.pointer x0)] : List Value)).length) undef) H = f56_B x0 H R := by kernel_rfl
theorem f56_call (x0 : Option Addr) (H : AH) (R : AEnd → AH → Prop) (h : f56_B x0 H R) : ACall Try.prog 56 ([(.pointer x0)] : List Value) H R :=
  acall_of mixed Try.func56 (by kernel_rfl : Try.f56.body = some f56_c) (by kernel_rfl) (by kernel_rfl) (awp_of (Eq.mpr (f56_eq x0 H R) h))

/-! f60: (*switchyard/switchyardref13.Reading).mail -/
noncomputable def f60_c : Code := Try.f60.body.getD .skip
def f60_B (x0 : Option Addr) (H : AH) (R : AEnd → AH → Prop) : Prop :=
 wNew [(.int .i64 0), (.string ({ data := #[] })), (.slice none 0 0), (.slice none 0 0)] H fun i1 H2 =>
 wPt x0 fun i3 k4 =>
 wCall Try.prog 82 [(.pointer (some ⟨i3, k4, none⟩))] H2 (fun r5 H6 =>
 opI .i64 r5 fun n9 =>
 wPt x0 fun i10 k11 =>
 wCall Try.prog 86 [(.pointer (some ⟨i10, k11, none⟩)), (.int .i64 24)] H6 (fun r12 H13 =>
 opS r12 fun t16 =>
 wCall Try.prog 87 [(.pointer x0)] H13 (fun r17 H18 =>
 opL r17 fun z21b z21l z21c =>
 wCall Try.prog 87 [(.pointer x0)] H18 (fun r22 H23 =>
 opL r22 fun z26b z26l z26c =>
 wSt i1 0 [(.int .i64 n9), (.string t16), (.slice z21b z21l z21c), (.slice z26b z26l z26c)] H23 fun H27 =>
 wPt (some ⟨i1, 0, none⟩) fun i28 k29 =>
 ldI .i64 i28 k29 H27 fun n30 =>
 ldS i28 (k29 + 1) H27 fun t31 =>
 ldL i28 (k29 + 2) H27 fun z32b z32l z32c =>
 ldL i28 (k29 + 3) H27 fun z33b z33l z33c =>
 R (.ret (.agg #[(.int .i64 n30), (.string t31), (.slice z32b z32l z32c), (.slice z33b z33l z33c)])) H27) (fun v25 H24 => R (.panic v25) H24)) (fun v20 H19 => R (.panic v20) H19)) (fun v15 H14 => R (.panic v15) H14)) (fun v8 H7 => R (.panic v8) H7)
theorem f60_eq (x0 : Option Addr) (H : AH) (R : AEnd → AH → Prop) : awpF Try.prog f60_c (aPost Try.prog Try.f60 R) (([(.pointer x0)] : List Value) ++ List.replicate (Try.f60.ntmps - (([(.pointer x0)] : List Value)).length) undef) H = f60_B x0 H R := by kernel_rfl
theorem f60_call (x0 : Option Addr) (H : AH) (R : AEnd → AH → Prop) (h : f60_B x0 H R) : ACall Try.prog 60 ([(.pointer x0)] : List Value) H R :=
  acall_of mixed Try.func60 (by kernel_rfl : Try.f60.body = some f60_c) (by kernel_rfl) (by kernel_rfl) (awp_of (Eq.mpr (f60_eq x0 H R) h))

/-! f63: (*switchyard/switchyardref13.Reading).item -/
-- join 4: live 0:G, 2:., 3:C, 4:o, 6:e
-- join 3: live 0:G, 2:., 3:C, 4:o, 6:e
-- join 2: live 0:G, 2:., 3:C, 4:o, 6:e, 62:?
-- join 1: live 0:G, 2:., 3:C
-- join 0: live 0:G, 2:., 3:C, 4:o, 5:d
-- loop 0: carried 5:d
-- loop 1: carried 6:e
/-! f87: (*switchyard/switchyardref13.Reading).row -/
noncomputable def f87_c : Code := Try.f87.body.getD .skip
noncomputable def f87_X0 (R : AEnd → AH → Prop) : AExit → List Value → AH → Prop := thenF (fun tm H => hold (awpF Try.prog (codeAt f87_c [1, 1, 1, 1]) (aPost Try.prog Try.f87 R) tm H)) (aPost Try.prog Try.f87 R)
noncomputable def f87_X1 (R : AEnd → AH → Prop) : AExit → List Value → AH → Prop := inBlockF 0 (f87_X0 R)
noncomputable def f87_Q0 (R : AEnd → AH → Prop) : AExit → List Value → AH → Prop := (f87_X1 R)
def f87_L0 (R : AEnd → AH → Prop) (tm : List Value) (H : AH) : Prop := awpF Try.prog (codeAt f87_c [1, 1, 1, 0, 1, 0]) (f87_Q0 R) tm H
def f87_R0 (s0 : Option Addr) (s1 s2 : Value) (s3b : Option Addr) (s3l s3c : Nat) (s4 s5 : Int) (s6 s7 s8 s9 s10 s11 s12 s13 s14 s15 s16 s17 s18 s19 s20 : Value) (H : AH) (K0 : List Value → AH → Prop) (R : AEnd → AH → Prop) : Prop :=
 wIf (decide (s5 < s4))
 (wCall Try.prog 56 [(.pointer s0)] H (fun r1 H2 =>
 opA 4 r1 fun l5 =>
 opI .i64 (l5.headD undef) fun n6 =>
 opI .i64 (l5.tail.headD undef) fun n7 =>
 opS (l5.tail.tail.headD undef) fun t8 =>
 opL (l5.tail.tail.tail.headD undef) fun z9b z9l z9c =>
 wBs [(.int .i64 n6), (.int .i64 n7), (.string t8), (.slice z9b z9l z9c)] 4 H2 fun i10 H11 =>
 wAppL 24 4 56 s3b s3l s3c (some ⟨i10, 0, none⟩) 1 0 H11 fun z12b z12l z12c H13 =>
 K0 [(.pointer s0), s1, s2, (.slice z12b z12l z12c), (.int .i64 s4), (.int .i64 (IntKind.i64.wrap (s5 + 1))), s6, s7, s8, s9, (.int .i64 s5), (.int .i64 s4), (.bool true), (.int .i64 s5), (.int .i64 (IntKind.i64.wrap (s5 + 1))), (.slice s3b s3l s3c), (.pointer s0), (.agg #[(.int .i64 n6), (.int .i64 n7), (.string t8), (.slice z9b z9l z9c)]), (.slice (some ⟨i10, 0, none⟩) 1 0), (.slice z12b z12l z12c), s20] H13) (fun v4 H3 => R (.panic v4) H3))
 (R (.ret (.slice s3b s3l s3c)) H)
theorem f87_R0_eq (s0 : Option Addr) (s1 s2 : Value) (s3b : Option Addr) (s3l s3c : Nat) (s4 s5 : Int) (s6 s7 s8 s9 s10 s11 s12 s13 s14 s15 s16 s17 s18 s19 s20 : Value) (H : AH) (K0 : List Value → AH → Prop) (R : AEnd → AH → Prop) : awpF Try.prog (codeAt f87_c [1, 1, 1, 0, 1, 0, 0]) (thenF K0 (f87_Q0 R)) [(.pointer s0), s1, s2, (.slice s3b s3l s3c), (.int .i64 s4), (.int .i64 s5), s6, s7, s8, s9, s10, s11, s12, s13, s14, s15, s16, s17, s18, s19, s20] H = f87_R0 s0 s1 s2 s3b s3l s3c s4 s5 s6 s7 s8 s9 s10 s11 s12 s13 s14 s15 s16 s17 s18 s19 s20 H K0 R := by kernel_rfl
def f87_I0 (s0 : Option Addr) (s1 s2 : Value) (s4 : Int) (s6 s7 s8 s9 s20 : Value) (J : Nat → Option Addr → Nat → Nat → Int → AH → Prop) (n : Nat) (tm : List Value) (H : AH) : Prop := ∃ (s3b : Option Addr) (s3l s3c : Nat) (s5 : Int) (s10 s11 s12 s13 s14 s15 s16 s17 s18 s19 : Value), tm = [(.pointer s0), s1, s2, (.slice s3b s3l s3c), (.int .i64 s4), (.int .i64 s5), s6, s7, s8, s9, s10, s11, s12, s13, s14, s15, s16, s17, s18, s19, s20] ∧ J n s3b s3l s3c s5 H
theorem f87_I0_mk {s0 : Option Addr} {s1 : Value} {s2 : Value} {s3b : Option Addr} {s3l : Nat} {s3c : Nat} {s4 : Int} {s5 : Int} {s6 : Value} {s7 : Value} {s8 : Value} {s9 : Value} {s10 : Value} {s11 : Value} {s12 : Value} {s13 : Value} {s14 : Value} {s15 : Value} {s16 : Value} {s17 : Value} {s18 : Value} {s19 : Value} {s20 : Value} {J : Nat → Option Addr → Nat → Nat → Int → AH → Prop} {n : Nat} {H : AH} (h : J n s3b s3l s3c s5 H) : f87_I0 s0 s1 s2 s4 s6 s7 s8 s9 s20 J n [(.pointer s0), s1, s2, (.slice s3b s3l s3c), (.int .i64 s4), (.int .i64 s5), s6, s7, s8, s9, s10, s11, s12, s13, s14, s15, s16, s17, s18, s19, s20] H := ⟨_, _, _, _, _, _, _, _, _, _, _, _, _, _, rfl, h⟩
-- loop 0: carried 3:out, 5:i
theorem f87_L0_rule {s0 : Option Addr} {s1 : Value} {s2 : Value} {s3b : Option Addr} {s3l : Nat} {s3c : Nat} {s4 : Int} {s5 : Int} {s6 : Value} {s7 : Value} {s8 : Value} {s9 : Value} {s10 : Value} {s11 : Value} {s12 : Value} {s13 : Value} {s14 : Value} {s15 : Value} {s16 : Value} {s17 : Value} {s18 : Value} {s19 : Value} {s20 : Value} {H : AH} {R : AEnd → AH → Prop} (J : Nat → Option Addr → Nat → Nat → Int → AH → Prop) (n : Nat) (h0 : J n s3b s3l s3c s5 H)
  (step : ∀ (n : Nat) (s3b : Option Addr) (s3l s3c : Nat) (s5 : Int) (H : AH), J n s3b s3l s3c s5 H → ∀ (s10 s11 s12 s13 s14 s15 s16 s17 s18 s19 : Value), f87_R0 s0 s1 s2 s3b s3l s3c s4 s5 s6 s7 s8 s9 s10 s11 s12 s13 s14 s15 s16 s17 s18 s19 s20 H (fun tm H => ∃ m, m < n ∧ f87_I0 s0 s1 s2 s4 s6 s7 s8 s9 s20 J m tm H) R) : f87_L0 R [(.pointer s0), s1, s2, (.slice s3b s3l s3c), (.int .i64 s4), (.int .i64 s5), s6, s7, s8, s9, s10, s11, s12, s13, s14, s15, s16, s17, s18, s19, s20] H :=
  awpF_loop (f87_I0 s0 s1 s2 s4 s6 s7 s8 s9 s20 J) n (f87_I0_mk h0) (by
    intro n tm H hh
    exact Exists.elim hh fun s3b hh => Exists.elim hh fun s3l hh => Exists.elim hh fun s3c hh => Exists.elim hh fun s5 hh => Exists.elim hh fun s10 hh => Exists.elim hh fun s11 hh => Exists.elim hh fun s12 hh => Exists.elim hh fun s13 hh => Exists.elim hh fun s14 hh => Exists.elim hh fun s15 hh => Exists.elim hh fun s16 hh => Exists.elim hh fun s17 hh => Exists.elim hh fun s18 hh => Exists.elim hh fun s19 hh => And.elim (fun e h =>
     (by subst e; exact Eq.mpr (f87_R0_eq s0 s1 s2 s3b s3l s3c s4 s5 s6 s7 s8 s9 s10 s11 s12 s13 s14 s15 s16 s17 s18 s19 s20 H _ R) (step n s3b s3l s3c s5 H h s10 s11 s12 s13 s14 s15 s16 s17 s18 s19))) hh)
def f87_B (x0 : Option Addr) (H : AH) (R : AEnd → AH → Prop) : Prop :=
 wPt x0 fun i14 k15 =>
 wCall Try.prog 83 [(.pointer (some ⟨i14, k15, none⟩)), (.int .i64 16)] H (fun r16 H17 =>
 opI .i64 r16 fun n20 =>
 f87_L0 R [(.pointer x0), undef, (.slice none 0 0), (.slice none 0 0), (.int .i64 n20), (.int .i64 0), (.pointer x0), (.pointer (some ⟨i14, k15, none⟩)), (.pointer (some ⟨i14, k15, none⟩)), (.int .i64 n20), undef, undef, undef, undef, undef, undef, undef, undef, undef, undef, undef] H17) (fun v19 H18 => R (.panic v19) H18)
theorem f87_eq (x0 : Option Addr) (H : AH) (R : AEnd → AH → Prop) : awpF Try.prog f87_c (aPost Try.prog Try.f87 R) (([(.pointer x0)] : List Value) ++ List.replicate (Try.f87.ntmps - (([(.pointer x0)] : List Value)).length) undef) H = f87_B x0 H R := by kernel_rfl
theorem f87_call (x0 : Option Addr) (H : AH) (R : AEnd → AH → Prop) (h : f87_B x0 H R) : ACall Try.prog 87 ([(.pointer x0)] : List Value) H R :=
  acall_of mixed Try.func87 (by kernel_rfl : Try.f87.body = some f87_c) (by kernel_rfl) (by kernel_rfl) (awp_of (Eq.mpr (f87_eq x0 H R) h))

/-! f18: switchyard/switchyardref13.GetValue -/
/-! f20: switchyard/switchyardref13.GetMail -/
/-! f22: switchyard/switchyardref13.GetItem -/
/-! f42: switchyard/switchyardref13.GetDead -/
noncomputable def f42_c : Code := Try.f42.body.getD .skip
def f42_B (x0 : ByteArray) (H : AH) (R : AEnd → AH → Prop) : Prop :=
 wNew [(.int .i64 0), (.int .i64 0), (.string ({ data := #[] })), (.slice none 0 0), (.slice none 0 0), (.int .i64 0)] H fun i1 H2 =>
 wNew [(.string x0), (.int .i64 0), (.int .i64 0)] H2 fun i3 H4 =>
 wCall Try.prog 82 [(.pointer (some ⟨i3, 0, none⟩))] H4 (fun r5 H6 =>
 opI .i64 r5 fun n9 =>
 wNew [(.int .i64 0), (.int .i64 0), (.string ({ data := #[] })), (.slice none 0 0), (.slice none 0 0), (.int .i64 0)] H6 fun i10 H11 =>
 wSt i10 0 [(.int .i64 n9), (.int .i64 0), (.string ({ data := #[] })), (.slice none 0 0), (.slice none 0 0), (.int .i64 0)] H11 fun H12 =>
 wCall Try.prog 60 [(.pointer (some ⟨i3, 0, none⟩))] H12 (fun r13 H14 =>
 opA 4 r13 fun l17 =>
 opI .i64 (l17.headD undef) fun n18 =>
 opS (l17.tail.headD undef) fun t19 =>
 opL (l17.tail.tail.headD undef) fun z20b z20l z20c =>
 opL (l17.tail.tail.tail.headD undef) fun z21b z21l z21c =>
 wSt i10 1 [(.int .i64 n18), (.string t19), (.slice z20b z20l z20c), (.slice z21b z21l z21c)] H14 fun H22 =>
 wCall Try.prog 83 [(.pointer (some ⟨i3, 0, none⟩)), (.int .i64 5)] H22 (fun r23 H24 =>
 opI .i64 r23 fun n27 =>
 wSt i10 5 [(.int .i64 n27)] H24 fun H28 =>
 wCall Try.prog 57 [(.pointer (some ⟨i3, 0, none⟩))] H28 (fun r29 H30 =>
 opI .i64 r29 fun n33 =>
 wIf (!decide (n33 = 0))
 (wSt i1 0 [(.int .i64 0), (.int .i64 0), (.string ({ data := #[] })), (.slice none 0 0), (.slice none 0 0), (.int .i64 0)] H30 fun H34 =>
 wPt (some ⟨i1, 0, none⟩) fun i35 k36 =>
 ldI .i64 i35 k36 H34 fun n37 =>
 ldI .i64 i35 (k36 + 1) H34 fun n38 =>
 ldS i35 (k36 + 2) H34 fun t39 =>
 ldL i35 (k36 + 3) H34 fun z40b z40l z40c =>
 ldL i35 (k36 + 4) H34 fun z41b z41l z41c =>
 ldI .i64 i35 (k36 + 5) H34 fun n42 =>
 R (.ret (.tuple #[(.agg #[(.int .i64 n37), (.int .i64 n38), (.string t39), (.slice z40b z40l z40c), (.slice z41b z41l z41c), (.int .i64 n42)]), (.int .i64 n33)])) H34)
 (ldI .i64 i10 0 H30 fun n43 =>
 ldI .i64 i10 1 H30 fun n44 =>
 ldS i10 2 H30 fun t45 =>
 ldL i10 3 H30 fun z46b z46l z46c =>
 ldL i10 4 H30 fun z47b z47l z47c =>
 ldI .i64 i10 5 H30 fun n48 =>
 wSt i1 0 [(.int .i64 n43), (.int .i64 n44), (.string t45), (.slice z46b z46l z46c), (.slice z47b z47l z47c), (.int .i64 n48)] H30 fun H49 =>
 wPt (some ⟨i1, 0, none⟩) fun i50 k51 =>
 ldI .i64 i50 k51 H49 fun n52 =>
 ldI .i64 i50 (k51 + 1) H49 fun n53 =>
 ldS i50 (k51 + 2) H49 fun t54 =>
 ldL i50 (k51 + 3) H49 fun z55b z55l z55c =>
 ldL i50 (k51 + 4) H49 fun z56b z56l z56c =>
 ldI .i64 i50 (k51 + 5) H49 fun n57 =>
 R (.ret (.tuple #[(.agg #[(.int .i64 n52), (.int .i64 n53), (.string t54), (.slice z55b z55l z55c), (.slice z56b z56l z56c), (.int .i64 n57)]), (.int .i64 0)])) H49)) (fun v32 H31 => R (.panic v32) H31)) (fun v26 H25 => R (.panic v26) H25)) (fun v16 H15 => R (.panic v16) H15)) (fun v8 H7 => R (.panic v8) H7)
theorem f42_eq (x0 : ByteArray) (H : AH) (R : AEnd → AH → Prop) : awpF Try.prog f42_c (aPost Try.prog Try.f42 R) (([(.string x0)] : List Value) ++ List.replicate (Try.f42.ntmps - (([(.string x0)] : List Value)).length) undef) H = f42_B x0 H R := by kernel_rfl
theorem f42_call (x0 : ByteArray) (H : AH) (R : AEnd → AH → Prop) (h : f42_B x0 H R) : ACall Try.prog 42 ([(.string x0)] : List Value) H R :=
  acall_of mixed Try.func42 (by kernel_rfl : Try.f42.body = some f42_c) (by kernel_rfl) (by kernel_rfl) (awp_of (Eq.mpr (f42_eq x0 H R) h))

/-! f44: switchyard/switchyardref13.GetEvent -/
noncomputable def f44_c : Code := Try.f44.body.getD .skip
def f44_B (x0 : ByteArray) (H : AH) (R : AEnd → AH → Prop) : Prop :=
 wNew [(.int .i64 0), (.int .i64 0), (.string ({ data := #[] })), (.int .i64 0), (.string ({ data := #[] })), (.string ({ data := #[] })), (.slice none 0 0)] H fun i1 H2 =>
 wNew [(.string x0), (.int .i64 0), (.int .i64 0)] H2 fun i3 H4 =>
 wCall Try.prog 82 [(.pointer (some ⟨i3, 0, none⟩))] H4 (fun r5 H6 =>
 opI .i64 r5 fun n9 =>
 wNew [(.int .i64 0), (.int .i64 0), (.string ({ data := #[] })), (.int .i64 0), (.string ({ data := #[] })), (.string ({ data := #[] })), (.slice none 0 0)] H6 fun i10 H11 =>
 wSt i10 0 [(.int .i64 n9), (.int .i64 0), (.string ({ data := #[] })), (.int .i64 0), (.string ({ data := #[] })), (.string ({ data := #[] })), (.slice none 0 0)] H11 fun H12 =>
 wCall Try.prog 82 [(.pointer (some ⟨i3, 0, none⟩))] H12 (fun r13 H14 =>
 opI .i64 r13 fun n17 =>
 wSt i10 1 [(.int .i64 n17)] H14 fun H18 =>
 wCall Try.prog 82 [(.pointer (some ⟨i3, 0, none⟩))] H18 (fun r19 H20 =>
 opI .i64 r19 fun n23 =>
 wSt i10 3 [(.int .i64 n23)] H20 fun H24 =>
 wCall Try.prog 86 [(.pointer (some ⟨i3, 0, none⟩)), (.int .i64 24)] H24 (fun r25 H26 =>
 opS r25 fun t29 =>
 wSt i10 2 [(.string t29)] H26 fun H30 =>
 wCall Try.prog 86 [(.pointer (some ⟨i3, 0, none⟩)), (.int .i64 24)] H30 (fun r31 H32 =>
 opS r31 fun t35 =>
 wSt i10 4 [(.string t35)] H32 fun H36 =>
 wCall Try.prog 86 [(.pointer (some ⟨i3, 0, none⟩)), (.int .i64 24)] H36 (fun r37 H38 =>
 opS r37 fun t41 =>
 wSt i10 5 [(.string t41)] H38 fun H42 =>
 wCall Try.prog 87 [(.pointer (some ⟨i3, 0, none⟩))] H42 (fun r43 H44 =>
 opL r43 fun z47b z47l z47c =>
 wSt i10 6 [(.slice z47b z47l z47c)] H44 fun H48 =>
 wCall Try.prog 57 [(.pointer (some ⟨i3, 0, none⟩))] H48 (fun r49 H50 =>
 opI .i64 r49 fun n53 =>
 wIf (!decide (n53 = 0))
 (wSt i1 0 [(.int .i64 0), (.int .i64 0), (.string ({ data := #[] })), (.int .i64 0), (.string ({ data := #[] })), (.string ({ data := #[] })), (.slice none 0 0)] H50 fun H54 =>
 wPt (some ⟨i1, 0, none⟩) fun i55 k56 =>
 ldI .i64 i55 k56 H54 fun n57 =>
 ldI .i64 i55 (k56 + 1) H54 fun n58 =>
 ldS i55 (k56 + 2) H54 fun t59 =>
 ldI .i64 i55 (k56 + 3) H54 fun n60 =>
 ldS i55 (k56 + 4) H54 fun t61 =>
 ldS i55 (k56 + 5) H54 fun t62 =>
 ldL i55 (k56 + 6) H54 fun z63b z63l z63c =>
 R (.ret (.tuple #[(.agg #[(.int .i64 n57), (.int .i64 n58), (.string t59), (.int .i64 n60), (.string t61), (.string t62), (.slice z63b z63l z63c)]), (.int .i64 n53)])) H54)
 (ldI .i64 i10 0 H50 fun n64 =>
 ldI .i64 i10 1 H50 fun n65 =>
 ldS i10 2 H50 fun t66 =>
 ldI .i64 i10 3 H50 fun n67 =>
 ldS i10 4 H50 fun t68 =>
 ldS i10 5 H50 fun t69 =>
 ldL i10 6 H50 fun z70b z70l z70c =>
 wSt i1 0 [(.int .i64 n64), (.int .i64 n65), (.string t66), (.int .i64 n67), (.string t68), (.string t69), (.slice z70b z70l z70c)] H50 fun H71 =>
 wPt (some ⟨i1, 0, none⟩) fun i72 k73 =>
 ldI .i64 i72 k73 H71 fun n74 =>
 ldI .i64 i72 (k73 + 1) H71 fun n75 =>
 ldS i72 (k73 + 2) H71 fun t76 =>
 ldI .i64 i72 (k73 + 3) H71 fun n77 =>
 ldS i72 (k73 + 4) H71 fun t78 =>
 ldS i72 (k73 + 5) H71 fun t79 =>
 ldL i72 (k73 + 6) H71 fun z80b z80l z80c =>
 R (.ret (.tuple #[(.agg #[(.int .i64 n74), (.int .i64 n75), (.string t76), (.int .i64 n77), (.string t78), (.string t79), (.slice z80b z80l z80c)]), (.int .i64 0)])) H71)) (fun v52 H51 => R (.panic v52) H51)) (fun v46 H45 => R (.panic v46) H45)) (fun v40 H39 => R (.panic v40) H39)) (fun v34 H33 => R (.panic v34) H33)) (fun v28 H27 => R (.panic v28) H27)) (fun v22 H21 => R (.panic v22) H21)) (fun v16 H15 => R (.panic v16) H15)) (fun v8 H7 => R (.panic v8) H7)
theorem f44_eq (x0 : ByteArray) (H : AH) (R : AEnd → AH → Prop) : awpF Try.prog f44_c (aPost Try.prog Try.f44 R) (([(.string x0)] : List Value) ++ List.replicate (Try.f44.ntmps - (([(.string x0)] : List Value)).length) undef) H = f44_B x0 H R := by kernel_rfl
theorem f44_call (x0 : ByteArray) (H : AH) (R : AEnd → AH → Prop) (h : f44_B x0 H R) : ACall Try.prog 44 ([(.string x0)] : List Value) H R :=
  acall_of mixed Try.func44 (by kernel_rfl : Try.f44.body = some f44_c) (by kernel_rfl) (by kernel_rfl) (awp_of (Eq.mpr (f44_eq x0 H R) h))

/-! f46: switchyard/switchyardref13.GetSub -/
noncomputable def f46_c : Code := Try.f46.body.getD .skip
def f46_B (x0 : ByteArray) (H : AH) (R : AEnd → AH → Prop) : Prop :=
 wNew [(.int .i64 0), (.string ({ data := #[] })), (.int .i64 0)] H fun i1 H2 =>
 wNew [(.string x0), (.int .i64 0), (.int .i64 0)] H2 fun i3 H4 =>
 wCall Try.prog 82 [(.pointer (some ⟨i3, 0, none⟩))] H4 (fun r5 H6 =>
 opI .i64 r5 fun n9 =>
 wNew [(.int .i64 0), (.string ({ data := #[] })), (.int .i64 0)] H6 fun i10 H11 =>
 wSt i10 0 [(.int .i64 n9), (.string ({ data := #[] })), (.int .i64 0)] H11 fun H12 =>
 wCall Try.prog 82 [(.pointer (some ⟨i3, 0, none⟩))] H12 (fun r13 H14 =>
 opI .i64 r13 fun n17 =>
 wSt i10 2 [(.int .i64 n17)] H14 fun H18 =>
 wCall Try.prog 86 [(.pointer (some ⟨i3, 0, none⟩)), (.int .i64 24)] H18 (fun r19 H20 =>
 opS r19 fun t23 =>
 wSt i10 1 [(.string t23)] H20 fun H24 =>
 wCall Try.prog 57 [(.pointer (some ⟨i3, 0, none⟩))] H24 (fun r25 H26 =>
 opI .i64 r25 fun n29 =>
 wIf (!decide (n29 = 0))
 (wSt i1 0 [(.int .i64 0), (.string ({ data := #[] })), (.int .i64 0)] H26 fun H30 =>
 wPt (some ⟨i1, 0, none⟩) fun i31 k32 =>
 ldI .i64 i31 k32 H30 fun n33 =>
 ldS i31 (k32 + 1) H30 fun t34 =>
 ldI .i64 i31 (k32 + 2) H30 fun n35 =>
 R (.ret (.tuple #[(.agg #[(.int .i64 n33), (.string t34), (.int .i64 n35)]), (.int .i64 n29)])) H30)
 (ldI .i64 i10 0 H26 fun n36 =>
 ldS i10 1 H26 fun t37 =>
 ldI .i64 i10 2 H26 fun n38 =>
 wSt i1 0 [(.int .i64 n36), (.string t37), (.int .i64 n38)] H26 fun H39 =>
 wPt (some ⟨i1, 0, none⟩) fun i40 k41 =>
 ldI .i64 i40 k41 H39 fun n42 =>
 ldS i40 (k41 + 1) H39 fun t43 =>
 ldI .i64 i40 (k41 + 2) H39 fun n44 =>
 R (.ret (.tuple #[(.agg #[(.int .i64 n42), (.string t43), (.int .i64 n44)]), (.int .i64 0)])) H39)) (fun v28 H27 => R (.panic v28) H27)) (fun v22 H21 => R (.panic v22) H21)) (fun v16 H15 => R (.panic v16) H15)) (fun v8 H7 => R (.panic v8) H7)
theorem f46_eq (x0 : ByteArray) (H : AH) (R : AEnd → AH → Prop) : awpF Try.prog f46_c (aPost Try.prog Try.f46 R) (([(.string x0)] : List Value) ++ List.replicate (Try.f46.ntmps - (([(.string x0)] : List Value)).length) undef) H = f46_B x0 H R := by kernel_rfl
theorem f46_call (x0 : ByteArray) (H : AH) (R : AEnd → AH → Prop) (h : f46_B x0 H R) : ACall Try.prog 46 ([(.string x0)] : List Value) H R :=
  acall_of mixed Try.func46 (by kernel_rfl : Try.f46.body = some f46_c) (by kernel_rfl) (by kernel_rfl) (awp_of (Eq.mpr (f46_eq x0 H R) h))

end Go.Proofs.Ytfghglacfjncmaa
