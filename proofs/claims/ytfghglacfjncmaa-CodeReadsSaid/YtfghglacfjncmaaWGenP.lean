/- Bodies of functions as nested rules: printed by genw.py, a program of this claim. -/
import Derived.Test.YtfghglacfjncmaaWTy
namespace Go.Proofs.Ytfghglacfjncmaa
open Go.RowKit
set_option linter.unusedVariables false
set_option maxRecDepth 100000

/-! f104: switchyard/pack.New -/
noncomputable def f104_c : Code := Try.f104.body.getD .skip
def f104_B (x0 : ByteArray) (H : AH) (R : AEnd → AH → Prop) : Prop :=
 wNew [(.string x0), (.int .i64 0)] H fun i1 H2 =>
 R (.ret (.pointer (some ⟨i1, 0, none⟩))) H2
theorem f104_eq (x0 : ByteArray) (H : AH) (R : AEnd → AH → Prop) : awpF Try.prog f104_c (aPost Try.prog Try.f104 R) (([(.string x0)] : List Value) ++ List.replicate (Try.f104.ntmps - (([(.string x0)] : List Value)).length) undef) H = f104_B x0 H R := by kernel_rfl
theorem f104_call (x0 : ByteArray) (H : AH) (R : AEnd → AH → Prop) (h : f104_B x0 H R) : ACall Try.prog 104 ([(.string x0)] : List Value) H R :=
  acall_of mixed Try.func104 (by kernel_rfl : Try.f104.body = some f104_c) (by kernel_rfl) (by kernel_rfl) (awp_of (Eq.mpr (f104_eq x0 H R) h))

/-! f105: (*switchyard/pack.Reader).End -/
noncomputable def f105_c : Code := Try.f105.body.getD .skip
noncomputable def f105_X0 (R : AEnd → AH → Prop) : AExit → List Value → AH → Prop := thenF (fun tm H => hold (awpF Try.prog (codeAt f105_c [1, 1]) (aPost Try.prog Try.f105 R) tm H)) (aPost Try.prog Try.f105 R)
def f105_J0 (R : AEnd → AH → Prop) (tm : List Value) (H : AH) : Prop := hold (awpF Try.prog (codeAt f105_c [1, 0, 1, 1]) ((f105_X0 R)) tm H)
-- join 0: live 3:e, 14:
def f105_J0_B (s3 : Int) (s14 : Bool) (H : AH) (R : AEnd → AH → Prop) : Prop :=
 wIf s14
 (R (.ret (.int .i64 s3)) H)
 (R (.ret (.int .i64 4)) H)
theorem f105_J0_eq (s0 s1 s2 : Value) (s3 : Int) (s4 s5 s6 s7 s8 s9 s10 s11 s12 s13 : Value) (s14 : Bool) (s15 : Value) (H : AH) (R : AEnd → AH → Prop) : f105_J0 R [s0, s1, s2, (.int .i64 s3), s4, s5, s6, s7, s8, s9, s10, s11, s12, s13, (.bool s14), s15] H = f105_J0_B s3 s14 H R := by kernel_rfl
def f105_B (x0 : Option Addr) (H : AH) (R : AEnd → AH → Prop) : Prop :=
 wCall Try.prog 132 [(.pointer x0)] H (fun r1 H2 =>
 opI .i64 r1 fun n5 =>
 wIf (!decide (n5 = 0))
 (f105_J0 R [(.pointer x0), undef, (.int .i64 0), (.int .i64 n5), (.pointer x0), (.int .i64 n5), (.int .i64 n5), (.bool (!decide (n5 = 0))), (.bool true), undef, undef, undef, undef, undef, (.bool true), undef] H2)
 (wPt x0 fun i6 k7 =>
 ldS i6 k7 H2 fun t8 =>
 f105_J0 R [(.pointer x0), undef, (.int .i64 0), (.int .i64 n5), (.pointer x0), (.int .i64 n5), (.int .i64 n5), (.bool (!decide (n5 = 0))), (.bool false), (.pointer x0), (.pointer (some ⟨i6, k7, none⟩)), (.pointer (some ⟨i6, k7, none⟩)), (.string t8), (.bool (decide (t8 = ({ data := #[] })))), (.bool (decide (t8 = ({ data := #[] })))), undef] H2)) (fun v4 H3 => R (.panic v4) H3)
theorem f105_eq (x0 : Option Addr) (H : AH) (R : AEnd → AH → Prop) : awpF Try.prog f105_c (aPost Try.prog Try.f105 R) (([(.pointer x0)] : List Value) ++ List.replicate (Try.f105.ntmps - (([(.pointer x0)] : List Value)).length) undef) H = f105_B x0 H R := by kernel_rfl
theorem f105_call (x0 : Option Addr) (H : AH) (R : AEnd → AH → Prop) (h : f105_B x0 H R) : ACall Try.prog 105 ([(.pointer x0)] : List Value) H R :=
  acall_of mixed Try.func105 (by kernel_rfl : Try.f105.body = some f105_c) (by kernel_rfl) (by kernel_rfl) (awp_of (Eq.mpr (f105_eq x0 H R) h))

/-! f106: (*switchyard/pack.Reader).Byte -/
noncomputable def f106_c : Code := Try.f106.body.getD .skip
def f106_B (x0 : Option Addr) (H : AH) (R : AEnd → AH → Prop) : Prop :=
 wCall Try.prog 133 [(.pointer x0)] H (fun r1 H2 =>
 opB r1 fun b5 =>
 wIf b5
 (R (.ret (.int .i64 0)) H2)
 (wPt x0 fun i6 k7 =>
 ldS i6 k7 H2 fun t8 =>
 wIf (decide (t8 = ({ data := #[] })))
 (wCall Try.prog 134 [(.pointer x0), (.int .i64 3)] H2 (fun r9 H10 =>
 R (.ret (.int .i64 0)) H10) (fun v12 H11 => R (.panic v12) H11))
 (wPt x0 fun i13 k14 =>
 ldS i13 k14 H2 fun t15 =>
 wIxS t15 0 fun n16 =>
 wPt x0 fun i17 k18 =>
 ldS i17 k18 H2 fun t19 =>
 wSlS t19 1 t19.size fun t20 =>
 wPt x0 fun i21 k22 =>
 wSt i21 k22 [(.string t20)] H2 fun H23 =>
 R (.ret (.int .i64 (IntKind.i64.wrap n16))) H23))) (fun v4 H3 => R (.panic v4) H3)
theorem f106_eq (x0 : Option Addr) (H : AH) (R : AEnd → AH → Prop) : awpF Try.prog f106_c (aPost Try.prog Try.f106 R) (([(.pointer x0)] : List Value) ++ List.replicate (Try.f106.ntmps - (([(.pointer x0)] : List Value)).length) undef) H = f106_B x0 H R := by kernel_rfl
theorem f106_call (x0 : Option Addr) (H : AH) (R : AEnd → AH → Prop) (h : f106_B x0 H R) : ACall Try.prog 106 ([(.pointer x0)] : List Value) H R :=
  acall_of mixed Try.func106 (by kernel_rfl : Try.f106.body = some f106_c) (by kernel_rfl) (by kernel_rfl) (awp_of (Eq.mpr (f106_eq x0 H R) h))

/-! f109: (*switchyard/pack.Reader).Truth -/
noncomputable def f109_c : Code := Try.f109.body.getD .skip
noncomputable def f109_X0 (R : AEnd → AH → Prop) : AExit → List Value → AH → Prop := thenF (fun tm H => hold (awpF Try.prog (codeAt f109_c [1, 1]) (aPost Try.prog Try.f109 R) tm H)) (aPost Try.prog Try.f109 R)
def f109_J0 (R : AEnd → AH → Prop) (tm : List Value) (H : AH) : Prop := hold (awpF Try.prog (codeAt f109_c [1, 0, 1]) ((f109_X0 R)) tm H)
def f109_J1 (R : AEnd → AH → Prop) (tm : List Value) (H : AH) : Prop := hold (awpF Try.prog (codeAt f109_c [1, 1]) ((aPost Try.prog Try.f109 R)) tm H)
-- join 1: live 0:r
def f109_J1_B (s0 : Option Addr) (H : AH) (R : AEnd → AH → Prop) : Prop :=
 wCall Try.prog 106 [(.pointer s0)] H (fun r1 H2 =>
 opI .i64 r1 fun n5 =>
 R (.ret (.bool (decide (n5 = 1)))) H2) (fun v4 H3 => R (.panic v4) H3)
theorem f109_J1_eq (s0 : Option Addr) (s1 s2 s3 s4 s5 s6 s7 s8 s9 s10 s11 s12 s13 s14 s15 s16 s17 s18 s19 s20 s21 s22 s23 s24 s25 : Value) (H : AH) (R : AEnd → AH → Prop) : f109_J1 R [(.pointer s0), s1, s2, s3, s4, s5, s6, s7, s8, s9, s10, s11, s12, s13, s14, s15, s16, s17, s18, s19, s20, s21, s22, s23, s24, s25] H = f109_J1_B s0 H R := by kernel_rfl
-- join 0: live 0:r, 20:
def f109_J0_B (s0 : Option Addr) (s1 s2 s3 s4 s5 s6 s7 s8 s9 s10 s11 s12 s13 s14 s15 s16 s17 s18 s19 : Value) (s20 : Bool) (s21 s22 s23 s24 s25 : Value) (H : AH) (R : AEnd → AH → Prop) : Prop :=
 wIf s20
 (wCall Try.prog 134 [(.pointer s0), (.int .i64 4)] H (fun r6 H7 =>
 f109_J1 R [(.pointer s0), s1, s2, s3, s4, s5, s6, s7, s8, s9, s10, s11, s12, s13, s14, s15, s16, s17, s18, s19, (.bool true), (.pointer s0), r6, s23, s24, s25] H7) (fun v9 H8 => R (.panic v9) H8))
 (f109_J1 R [(.pointer s0), s1, s2, s3, s4, s5, s6, s7, s8, s9, s10, s11, s12, s13, s14, s15, s16, s17, s18, s19, (.bool false), s21, s22, s23, s24, s25] H)
theorem f109_J0_eq (s0 : Option Addr) (s1 s2 s3 s4 s5 s6 s7 s8 s9 s10 s11 s12 s13 s14 s15 s16 s17 s18 s19 : Value) (s20 : Bool) (s21 s22 s23 s24 s25 : Value) (H : AH) (R : AEnd → AH → Prop) : f109_J0 R [(.pointer s0), s1, s2, s3, s4, s5, s6, s7, s8, s9, s10, s11, s12, s13, s14, s15, s16, s17, s18, s19, (.bool s20), s21, s22, s23, s24, s25] H = f109_J0_B s0 s1 s2 s3 s4 s5 s6 s7 s8 s9 s10 s11 s12 s13 s14 s15 s16 s17 s18 s19 s20 s21 s22 s23 s24 s25 H R := by kernel_rfl
def f109_B (x0 : Option Addr) (H : AH) (R : AEnd → AH → Prop) : Prop :=
 wCall Try.prog 133 [(.pointer x0)] H (fun r10 H11 =>
 opB r10 fun b14 =>
 wIf (!b14)
 (wPt x0 fun i15 k16 =>
 ldS i15 k16 H11 fun t17 =>
 wIf (!decide (t17 = ({ data := #[] })))
 (wPt x0 fun i18 k19 =>
 ldS i18 k19 H11 fun t20 =>
 wIxS t20 0 fun n21 =>
 f109_J0 R [(.pointer x0), undef, (.bool false), (.pointer x0), (.bool b14), (.bool (!b14)), (.bool true), (.pointer x0), (.pointer (some ⟨i15, k16, none⟩)), (.pointer (some ⟨i15, k16, none⟩)), (.string t17), (.bool (!decide (t17 = ({ data := #[] })))), (.bool (!decide (t17 = ({ data := #[] })))), (.bool true), (.pointer x0), (.pointer (some ⟨i18, k19, none⟩)), (.pointer (some ⟨i18, k19, none⟩)), (.string t20), (.int .u8 n21), (.bool (decide (n21 > 1))), (.bool (decide (n21 > 1))), undef, undef, undef, undef, undef] H11)
 (f109_J0 R [(.pointer x0), undef, (.bool false), (.pointer x0), (.bool b14), (.bool (!b14)), (.bool true), (.pointer x0), (.pointer (some ⟨i15, k16, none⟩)), (.pointer (some ⟨i15, k16, none⟩)), (.string t17), (.bool (!decide (t17 = ({ data := #[] })))), (.bool (!decide (t17 = ({ data := #[] })))), (.bool false), undef, undef, undef, undef, undef, undef, (.bool false), undef, undef, undef, undef, undef] H11))
 (f109_J0 R [(.pointer x0), undef, (.bool false), (.pointer x0), (.bool b14), (.bool (!b14)), (.bool false), undef, undef, undef, undef, undef, (.bool false), (.bool false), undef, undef, undef, undef, undef, undef, (.bool false), undef, undef, undef, undef, undef] H11)) (fun v13 H12 => R (.panic v13) H12)
theorem f109_eq (x0 : Option Addr) (H : AH) (R : AEnd → AH → Prop) : awpF Try.prog f109_c (aPost Try.prog Try.f109 R) (([(.pointer x0)] : List Value) ++ List.replicate (Try.f109.ntmps - (([(.pointer x0)] : List Value)).length) undef) H = f109_B x0 H R := by kernel_rfl
theorem f109_call (x0 : Option Addr) (H : AH) (R : AEnd → AH → Prop) (h : f109_B x0 H R) : ACall Try.prog 109 ([(.pointer x0)] : List Value) H R :=
  acall_of mixed Try.func109 (by kernel_rfl : Try.f109.body = some f109_c) (by kernel_rfl) (by kernel_rfl) (awp_of (Eq.mpr (f109_eq x0 H R) h))

/-! f132: (*switchyard/pack.Reader).Bad -/
noncomputable def f132_c : Code := Try.f132.body.getD .skip
def f132_B (x0 : Option Addr) (H : AH) (R : AEnd → AH → Prop) : Prop :=
 wIf x0.isNone
 (R (.ret (.int .i64 1)) H)
 (wPt x0 fun i1 k2 =>
 ldI .i64 i1 (k2 + 1) H fun n3 =>
 R (.ret (.int .i64 n3)) H)
theorem f132_eq (x0 : Option Addr) (H : AH) (R : AEnd → AH → Prop) : awpF Try.prog f132_c (aPost Try.prog Try.f132 R) (([(.pointer x0)] : List Value) ++ List.replicate (Try.f132.ntmps - (([(.pointer x0)] : List Value)).length) undef) H = f132_B x0 H R := by kernel_rfl
theorem f132_call (x0 : Option Addr) (H : AH) (R : AEnd → AH → Prop) (h : f132_B x0 H R) : ACall Try.prog 132 ([(.pointer x0)] : List Value) H R :=
  acall_of mixed Try.func132 (by kernel_rfl : Try.f132.body = some f132_c) (by kernel_rfl) (by kernel_rfl) (awp_of (Eq.mpr (f132_eq x0 H R) h))

/-! f133: (*switchyard/pack.Reader).off -/
noncomputable def f133_c : Code := Try.f133.body.getD .skip
def f133_B (x0 : Option Addr) (H : AH) (R : AEnd → AH → Prop) : Prop :=
 wIf x0.isNone
 (R (.ret (.bool true)) H)
 (wPt x0 fun i1 k2 =>
 ldI .i64 i1 (k2 + 1) H fun n3 =>
 R (.ret (.bool (!decide (n3 = 0)))) H)
theorem f133_eq (x0 : Option Addr) (H : AH) (R : AEnd → AH → Prop) : awpF Try.prog f133_c (aPost Try.prog Try.f133 R) (([(.pointer x0)] : List Value) ++ List.replicate (Try.f133.ntmps - (([(.pointer x0)] : List Value)).length) undef) H = f133_B x0 H R := by kernel_rfl
theorem f133_call (x0 : Option Addr) (H : AH) (R : AEnd → AH → Prop) (h : f133_B x0 H R) : ACall Try.prog 133 ([(.pointer x0)] : List Value) H R :=
  acall_of mixed Try.func133 (by kernel_rfl : Try.f133.body = some f133_c) (by kernel_rfl) (by kernel_rfl) (awp_of (Eq.mpr (f133_eq x0 H R) h))

/-! f134: (*switchyard/pack.Reader).fail -/
noncomputable def f134_c : Code := Try.f134.body.getD .skip
def f134_B (x0 : Option Addr) (x1 : Int) (H : AH) (R : AEnd → AH → Prop) : Prop :=
 wPt x0 fun i1 k2 =>
 wSt i1 k2 [(.string ({ data := #[] }))] H fun H3 =>
 wPt x0 fun i4 k5 =>
 wSt i4 (k5 + 1) [(.int .i64 x1)] H3 fun H6 =>
 R (.ret (.tuple #[])) H6
theorem f134_eq (x0 : Option Addr) (x1 : Int) (H : AH) (R : AEnd → AH → Prop) : awpF Try.prog f134_c (aPost Try.prog Try.f134 R) (([(.pointer x0), (.int .i64 x1)] : List Value) ++ List.replicate (Try.f134.ntmps - (([(.pointer x0), (.int .i64 x1)] : List Value)).length) undef) H = f134_B x0 x1 H R := by kernel_rfl
theorem f134_call (x0 : Option Addr) (x1 : Int) (H : AH) (R : AEnd → AH → Prop) (h : f134_B x0 x1 H R) : ACall Try.prog 134 ([(.pointer x0), (.int .i64 x1)] : List Value) H R :=
  acall_of mixed Try.func134 (by kernel_rfl : Try.f134.body = some f134_c) (by kernel_rfl) (by kernel_rfl) (awp_of (Eq.mpr (f134_eq x0 x1 H R) h))

/-! f135: (*switchyard/pack.Reader).Number -/
noncomputable def f135_c : Code := Try.f135.body.getD .skip
def f135_B (x0 : Option Addr) (H : AH) (R : AEnd → AH → Prop) : Prop :=
 wCall Try.prog 139 [(.pointer x0)] H (fun r1 H2 =>
 opI .u64 r1 fun n5 =>
 R (.ret (.int .i64 (IntKind.i64.wrap ((BitVec.ofInt IntKind.i64.bits (IntKind.i64.wrap (Int.fdiv n5 (2 ^ (min (Int.toNat 1) IntKind.u64.bits))))) ^^^ (BitVec.ofInt IntKind.i64.bits (IntKind.i64.wrap (0 - (IntKind.i64.wrap (IntKind.u64.wrap ((BitVec.ofInt IntKind.u64.bits n5) &&& (BitVec.ofInt IntKind.u64.bits 1)).toNat)))))).toNat))) H2) (fun v4 H3 => R (.panic v4) H3)
theorem f135_eq (x0 : Option Addr) (H : AH) (R : AEnd → AH → Prop) : awpF Try.prog f135_c (aPost Try.prog Try.f135 R) (([(.pointer x0)] : List Value) ++ List.replicate (Try.f135.ntmps - (([(.pointer x0)] : List Value)).length) undef) H = f135_B x0 H R := by kernel_rfl
theorem f135_call (x0 : Option Addr) (H : AH) (R : AEnd → AH → Prop) (h : f135_B x0 H R) : ACall Try.prog 135 ([(.pointer x0)] : List Value) H R :=
  acall_of mixed Try.func135 (by kernel_rfl : Try.f135.body = some f135_c) (by kernel_rfl) (by kernel_rfl) (awp_of (Eq.mpr (f135_eq x0 H R) h))

/-! f136: (*switchyard/pack.Reader).Text -/
noncomputable def f136_c : Code := Try.f136.body.getD .skip
noncomputable def f136_X0 (R : AEnd → AH → Prop) : AExit → List Value → AH → Prop := thenF (fun tm H => hold (awpF Try.prog (codeAt f136_c [1, 1, 1, 1]) (aPost Try.prog Try.f136 R) tm H)) (aPost Try.prog Try.f136 R)
noncomputable def f136_X1 (R : AEnd → AH → Prop) : AExit → List Value → AH → Prop := inBlockF 0 (f136_X0 R)
def f136_J0 (R : AEnd → AH → Prop) (tm : List Value) (H : AH) : Prop := hold (awpF Try.prog (codeAt f136_c [1, 1, 1, 0, 0, 1, 1, 1]) ((f136_X1 R)) tm H)
def f136_J1 (R : AEnd → AH → Prop) (tm : List Value) (H : AH) : Prop := hold (awpF Try.prog (codeAt f136_c [1, 1, 1, 1]) ((aPost Try.prog Try.f136 R)) tm H)
-- join 1: live 0:G, 5:d, 6:e, 7:.
def f136_J1_B (s0 : Option Addr) (s5 s6 s7 : Int) (H : AH) (R : AEnd → AH → Prop) : Prop :=
 wIf (!decide (s7 = 0))
 (wCall Try.prog 134 [(.pointer s0), (.int .i64 s7)] H (fun r1 H2 =>
 R (.ret (.string ({ data := #[] }))) H2) (fun v4 H3 => R (.panic v4) H3))
 (wPt s0 fun i5 k6 =>
 ldS i5 k6 H fun t7 =>
 wSlS t7 s6 (IntKind.i64.wrap (s6 + (IntKind.i64.wrap s5))) fun t8 =>
 wPt s0 fun i9 k10 =>
 ldS i9 k10 H fun t11 =>
 wSlS t11 (IntKind.i64.wrap (s6 + (IntKind.i64.wrap s5))) t11.size fun t12 =>
 wPt s0 fun i13 k14 =>
 wSt i13 k14 [(.string t12)] H fun H15 =>
 R (.ret (.string t8)) H15)
theorem f136_J1_eq (s0 : Option Addr) (s1 s2 s3 s4 : Value) (s5 s6 s7 : Int) (s8 s9 s10 s11 s12 s13 s14 s15 s16 s17 s18 s19 s20 s21 s22 s23 s24 s25 s26 s27 s28 s29 s30 s31 s32 s33 s34 s35 s36 s37 s38 s39 s40 s41 s42 s43 s44 s45 s46 s47 s48 s49 s50 s51 s52 s53 s54 s55 s56 s57 s58 s59 s60 s61 s62 s63 s64 s65 s66 s67 : Value) (H : AH) (R : AEnd → AH → Prop) : f136_J1 R [(.pointer s0), s1, s2, s3, s4, (.int .u64 s5), (.int .i64 s6), (.int .i64 s7), s8, s9, s10, s11, s12, s13, s14, s15, s16, s17, s18, s19, s20, s21, s22, s23, s24, s25, s26, s27, s28, s29, s30, s31, s32, s33, s34, s35, s36, s37, s38, s39, s40, s41, s42, s43, s44, s45, s46, s47, s48, s49, s50, s51, s52, s53, s54, s55, s56, s57, s58, s59, s60, s61, s62, s63, s64, s65, s66, s67] H = f136_J1_B s0 s5 s6 s7 H R := by kernel_rfl
-- join 0: live 0:G, 5:d, 6:e, 7:., 20:?
def f136_J0_B (s0 : Option Addr) (s1 s2 s3 s4 : Value) (s5 s6 s7 : Int) (s8 s9 s10 s11 s12 s13 s14 s15 s16 s17 s18 s19 : Value) (s20 : Bool) (s21 s22 s23 s24 s25 s26 s27 s28 s29 s30 s31 s32 s33 s34 s35 s36 s37 s38 s39 s40 s41 s42 s43 s44 s45 s46 s47 s48 s49 s50 s51 s52 s53 s54 s55 s56 s57 s58 s59 s60 s61 s62 s63 s64 s65 s66 s67 : Value) (H : AH) (R : AEnd → AH → Prop) : Prop :=
 wIf s20
 (f136_J1 R [(.pointer s0), s1, s2, s3, s4, (.int .u64 s5), (.int .i64 s6), (.int .i64 5), s8, s9, s10, s11, s12, s13, s14, s15, s16, s17, s18, s19, (.bool true), s21, s22, s23, s24, s25, s26, s27, s28, s29, s30, s31, s32, s33, s34, s35, s36, s37, s38, s39, s40, s41, s42, s43, s44, s45, s46, s47, s48, s49, s50, s51, s52, s53, s54, s55, s56, s57, s58, s59, s60, s61, s62, s63, s64, s65, s66, s67] H)
 (wPt s0 fun i16 k17 =>
 ldS i16 k17 H fun t18 =>
 wIf (decide (s5 > (IntKind.u64.wrap (IntKind.i64.wrap ((t18.size : Int) - s6)))))
 (f136_J1 R [(.pointer s0), s1, s2, s3, s4, (.int .u64 s5), (.int .i64 s6), (.int .i64 3), s8, s9, s10, s11, s12, s13, s14, s15, s16, s17, s18, s19, (.bool false), s21, s22, s23, s24, s25, s26, s27, s28, (.bool true), (.int .u64 s5), (.pointer s0), (.pointer (some ⟨i16, k17, none⟩)), (.pointer (some ⟨i16, k17, none⟩)), (.string t18), (.int .i64 (t18.size : Int)), (.int .i64 s6), (.int .i64 (IntKind.i64.wrap ((t18.size : Int) - s6))), (.int .u64 (IntKind.u64.wrap (IntKind.i64.wrap ((t18.size : Int) - s6)))), (.bool (decide (s5 > (IntKind.u64.wrap (IntKind.i64.wrap ((t18.size : Int) - s6)))))), s40, s41, s42, s43, s44, s45, s46, s47, s48, s49, s50, s51, s52, s53, s54, s55, s56, s57, s58, s59, s60, s61, s62, s63, s64, s65, s66, s67] H)
 (f136_J1 R [(.pointer s0), s1, s2, s3, s4, (.int .u64 s5), (.int .i64 s6), (.int .i64 s7), s8, s9, s10, s11, s12, s13, s14, s15, s16, s17, s18, s19, (.bool false), s21, s22, s23, s24, s25, s26, s27, s28, (.bool false), (.int .u64 s5), (.pointer s0), (.pointer (some ⟨i16, k17, none⟩)), (.pointer (some ⟨i16, k17, none⟩)), (.string t18), (.int .i64 (t18.size : Int)), (.int .i64 s6), (.int .i64 (IntKind.i64.wrap ((t18.size : Int) - s6))), (.int .u64 (IntKind.u64.wrap (IntKind.i64.wrap ((t18.size : Int) - s6)))), (.bool (decide (s5 > (IntKind.u64.wrap (IntKind.i64.wrap ((t18.size : Int) - s6)))))), s40, s41, s42, s43, s44, s45, s46, s47, s48, s49, s50, s51, s52, s53, s54, s55, s56, s57, s58, s59, s60, s61, s62, s63, s64, s65, s66, s67] H))
theorem f136_J0_eq (s0 : Option Addr) (s1 s2 s3 s4 : Value) (s5 s6 s7 : Int) (s8 s9 s10 s11 s12 s13 s14 s15 s16 s17 s18 s19 : Value) (s20 : Bool) (s21 s22 s23 s24 s25 s26 s27 s28 s29 s30 s31 s32 s33 s34 s35 s36 s37 s38 s39 s40 s41 s42 s43 s44 s45 s46 s47 s48 s49 s50 s51 s52 s53 s54 s55 s56 s57 s58 s59 s60 s61 s62 s63 s64 s65 s66 s67 : Value) (H : AH) (R : AEnd → AH → Prop) : f136_J0 R [(.pointer s0), s1, s2, s3, s4, (.int .u64 s5), (.int .i64 s6), (.int .i64 s7), s8, s9, s10, s11, s12, s13, s14, s15, s16, s17, s18, s19, (.bool s20), s21, s22, s23, s24, s25, s26, s27, s28, s29, s30, s31, s32, s33, s34, s35, s36, s37, s38, s39, s40, s41, s42, s43, s44, s45, s46, s47, s48, s49, s50, s51, s52, s53, s54, s55, s56, s57, s58, s59, s60, s61, s62, s63, s64, s65, s66, s67] H = f136_J0_B s0 s1 s2 s3 s4 s5 s6 s7 s8 s9 s10 s11 s12 s13 s14 s15 s16 s17 s18 s19 s20 s21 s22 s23 s24 s25 s26 s27 s28 s29 s30 s31 s32 s33 s34 s35 s36 s37 s38 s39 s40 s41 s42 s43 s44 s45 s46 s47 s48 s49 s50 s51 s52 s53 s54 s55 s56 s57 s58 s59 s60 s61 s62 s63 s64 s65 s66 s67 H R := by kernel_rfl
def f136_B (x0 : Option Addr) (x1 : Int) (H : AH) (R : AEnd → AH → Prop) : Prop :=
 wCall Try.prog 133 [(.pointer x0)] H (fun r19 H20 =>
 opB r19 fun b23 =>
 wIf b23
 (R (.ret (.string ({ data := #[] }))) H20)
 (wCall Try.prog 140 [(.pointer x0)] H20 (fun r24 H25 =>
 opT 3 r24 fun l28 =>
 opI .u64 (l28.headD undef) fun n29 =>
 opI .i64 (l28.tail.headD undef) fun n30 =>
 opI .i64 (l28.tail.tail.headD undef) fun n31 =>
 wIf (!decide (n31 = 0))
 (f136_J1 R [(.pointer x0), (.int .i64 x1), undef, undef, (.string ({ data := #[] })), (.int .u64 n29), (.int .i64 n30), (.int .i64 n31), undef, (.pointer x0), (.bool false), (.tuple #[(.int .u64 n29), (.int .i64 n30), (.int .i64 n31)]), (.pointer x0), (.tuple #[(.int .u64 n29), (.int .i64 n30), (.int .i64 n31)]), (.int .u64 n29), (.int .i64 n30), (.int .i64 n31), (.bool true), (.int .i64 n31), (.bool (!decide (n31 = 0))), undef, undef, undef, undef, undef, undef, undef, undef, undef, undef, undef, undef, undef, undef, undef, undef, undef, undef, undef, undef, undef, undef, undef, undef, undef, undef, undef, undef, undef, undef, undef, undef, undef, undef, undef, undef, undef, undef, undef, undef, undef, undef, undef, undef, undef, undef, undef, undef] H25)
 (wIf (decide (x1 < 0))
 (f136_J0 R [(.pointer x0), (.int .i64 x1), undef, undef, (.string ({ data := #[] })), (.int .u64 n29), (.int .i64 n30), (.int .i64 n31), undef, (.pointer x0), (.bool false), (.tuple #[(.int .u64 n29), (.int .i64 n30), (.int .i64 n31)]), (.pointer x0), (.tuple #[(.int .u64 n29), (.int .i64 n30), (.int .i64 n31)]), (.int .u64 n29), (.int .i64 n30), (.int .i64 n31), (.bool false), (.int .i64 n31), (.bool (!decide (n31 = 0))), (.bool true), (.int .i64 x1), (.bool (decide (x1 < 0))), (.bool true), undef, undef, undef, undef, (.bool true), undef, undef, undef, undef, undef, undef, undef, undef, undef, undef, undef, undef, undef, undef, undef, undef, undef, undef, undef, undef, undef, undef, undef, undef, undef, undef, undef, undef, undef, undef, undef, undef, undef, undef, undef, undef, undef, undef, undef] H25)
 (f136_J0 R [(.pointer x0), (.int .i64 x1), undef, undef, (.string ({ data := #[] })), (.int .u64 n29), (.int .i64 n30), (.int .i64 n31), undef, (.pointer x0), (.bool false), (.tuple #[(.int .u64 n29), (.int .i64 n30), (.int .i64 n31)]), (.pointer x0), (.tuple #[(.int .u64 n29), (.int .i64 n30), (.int .i64 n31)]), (.int .u64 n29), (.int .i64 n30), (.int .i64 n31), (.bool false), (.int .i64 n31), (.bool (!decide (n31 = 0))), (.bool (decide (n29 > (IntKind.u64.wrap x1)))), (.int .i64 x1), (.bool (decide (x1 < 0))), (.bool false), (.int .u64 n29), (.int .i64 x1), (.int .u64 (IntKind.u64.wrap x1)), (.bool (decide (n29 > (IntKind.u64.wrap x1)))), (.bool (decide (n29 > (IntKind.u64.wrap x1)))), undef, undef, undef, undef, undef, undef, undef, undef, undef, undef, undef, undef, undef, undef, undef, undef, undef, undef, undef, undef, undef, undef, undef, undef, undef, undef, undef, undef, undef, undef, undef, undef, undef, undef, undef, undef, undef, undef, undef] H25))) (fun v27 H26 => R (.panic v27) H26))) (fun v22 H21 => R (.panic v22) H21)
theorem f136_eq (x0 : Option Addr) (x1 : Int) (H : AH) (R : AEnd → AH → Prop) : awpF Try.prog f136_c (aPost Try.prog Try.f136 R) (([(.pointer x0), (.int .i64 x1)] : List Value) ++ List.replicate (Try.f136.ntmps - (([(.pointer x0), (.int .i64 x1)] : List Value)).length) undef) H = f136_B x0 x1 H R := by kernel_rfl
theorem f136_call (x0 : Option Addr) (x1 : Int) (H : AH) (R : AEnd → AH → Prop) (h : f136_B x0 x1 H R) : ACall Try.prog 136 ([(.pointer x0), (.int .i64 x1)] : List Value) H R :=
  acall_of mixed Try.func136 (by kernel_rfl : Try.f136.body = some f136_c) (by kernel_rfl) (by kernel_rfl) (awp_of (Eq.mpr (f136_eq x0 x1 H R) h))

/-! f137: (*switchyard/pack.Reader).Small -/
noncomputable def f137_c : Code := Try.f137.body.getD .skip
noncomputable def f137_X0 (R : AEnd → AH → Prop) : AExit → List Value → AH → Prop := thenF (fun tm H => hold (awpF Try.prog (codeAt f137_c [1, 1, 1, 1]) (aPost Try.prog Try.f137 R) tm H)) (aPost Try.prog Try.f137 R)
def f137_J0 (R : AEnd → AH → Prop) (tm : List Value) (H : AH) : Prop := hold (awpF Try.prog (codeAt f137_c [1, 1, 1, 0, 1]) ((f137_X0 R)) tm H)
def f137_J1 (R : AEnd → AH → Prop) (tm : List Value) (H : AH) : Prop := hold (awpF Try.prog (codeAt f137_c [1, 1, 1, 1]) ((aPost Try.prog Try.f137 R)) tm H)
-- join 1: live 0:r, 5:n, 6:k, 7:e
def f137_J1_B (s0 : Option Addr) (s5 s6 s7 : Int) (H : AH) (R : AEnd → AH → Prop) : Prop :=
 wIf (!decide (s7 = 0))
 (wCall Try.prog 134 [(.pointer s0), (.int .i64 s7)] H (fun r1 H2 =>
 R (.ret (.int .i64 0)) H2) (fun v4 H3 => R (.panic v4) H3))
 (wPt s0 fun i5 k6 =>
 ldS i5 k6 H fun t7 =>
 wSlS t7 s6 t7.size fun t8 =>
 wPt s0 fun i9 k10 =>
 wSt i9 k10 [(.string t8)] H fun H11 =>
 R (.ret (.int .i64 (IntKind.i64.wrap s5))) H11)
theorem f137_J1_eq (s0 : Option Addr) (s1 s2 s3 s4 : Value) (s5 s6 s7 : Int) (s8 s9 s10 s11 s12 s13 s14 s15 s16 s17 s18 s19 s20 s21 s22 s23 s24 s25 s26 s27 s28 s29 s30 s31 s32 s33 s34 s35 s36 s37 s38 s39 s40 s41 s42 s43 : Value) (H : AH) (R : AEnd → AH → Prop) : f137_J1 R [(.pointer s0), s1, s2, s3, s4, (.int .u64 s5), (.int .i64 s6), (.int .i64 s7), s8, s9, s10, s11, s12, s13, s14, s15, s16, s17, s18, s19, s20, s21, s22, s23, s24, s25, s26, s27, s28, s29, s30, s31, s32, s33, s34, s35, s36, s37, s38, s39, s40, s41, s42, s43] H = f137_J1_B s0 s5 s6 s7 H R := by kernel_rfl
-- join 0: live 0:r, 5:n, 6:k, 7:e, 27:
def f137_J0_B (s0 : Option Addr) (s1 s2 s3 s4 : Value) (s5 s6 s7 : Int) (s8 s9 s10 s11 s12 s13 s14 s15 s16 s17 s18 s19 s20 s21 s22 s23 s24 s25 s26 : Value) (s27 : Bool) (s28 s29 s30 s31 s32 s33 s34 s35 s36 s37 s38 s39 s40 s41 s42 s43 : Value) (H : AH) (R : AEnd → AH → Prop) : Prop :=
 wIf s27
 (f137_J1 R [(.pointer s0), s1, s2, s3, s4, (.int .u64 s5), (.int .i64 s6), (.int .i64 5), s8, s9, s10, s11, s12, s13, s14, s15, s16, s17, s18, s19, s20, s21, s22, s23, s24, s25, s26, (.bool true), s28, s29, s30, s31, s32, s33, s34, s35, s36, s37, s38, s39, s40, s41, s42, s43] H)
 (f137_J1 R [(.pointer s0), s1, s2, s3, s4, (.int .u64 s5), (.int .i64 s6), (.int .i64 s7), s8, s9, s10, s11, s12, s13, s14, s15, s16, s17, s18, s19, s20, s21, s22, s23, s24, s25, s26, (.bool false), s28, s29, s30, s31, s32, s33, s34, s35, s36, s37, s38, s39, s40, s41, s42, s43] H)
theorem f137_J0_eq (s0 : Option Addr) (s1 s2 s3 s4 : Value) (s5 s6 s7 : Int) (s8 s9 s10 s11 s12 s13 s14 s15 s16 s17 s18 s19 s20 s21 s22 s23 s24 s25 s26 : Value) (s27 : Bool) (s28 s29 s30 s31 s32 s33 s34 s35 s36 s37 s38 s39 s40 s41 s42 s43 : Value) (H : AH) (R : AEnd → AH → Prop) : f137_J0 R [(.pointer s0), s1, s2, s3, s4, (.int .u64 s5), (.int .i64 s6), (.int .i64 s7), s8, s9, s10, s11, s12, s13, s14, s15, s16, s17, s18, s19, s20, s21, s22, s23, s24, s25, s26, (.bool s27), s28, s29, s30, s31, s32, s33, s34, s35, s36, s37, s38, s39, s40, s41, s42, s43] H = f137_J0_B s0 s1 s2 s3 s4 s5 s6 s7 s8 s9 s10 s11 s12 s13 s14 s15 s16 s17 s18 s19 s20 s21 s22 s23 s24 s25 s26 s27 s28 s29 s30 s31 s32 s33 s34 s35 s36 s37 s38 s39 s40 s41 s42 s43 H R := by kernel_rfl
def f137_B (x0 : Option Addr) (x1 : Int) (H : AH) (R : AEnd → AH → Prop) : Prop :=
 wCall Try.prog 133 [(.pointer x0)] H (fun r12 H13 =>
 opB r12 fun b16 =>
 wIf b16
 (R (.ret (.int .i64 0)) H13)
 (wCall Try.prog 140 [(.pointer x0)] H13 (fun r17 H18 =>
 opT 3 r17 fun l21 =>
 opI .u64 (l21.headD undef) fun n22 =>
 opI .i64 (l21.tail.headD undef) fun n23 =>
 opI .i64 (l21.tail.tail.headD undef) fun n24 =>
 wIf (decide (n24 = 0))
 (wIf (decide (x1 < 0))
 (f137_J0 R [(.pointer x0), (.int .i64 x1), undef, undef, (.int .i64 0), (.int .u64 n22), (.int .i64 n23), (.int .i64 n24), (.pointer x0), (.bool false), (.tuple #[(.int .u64 n22), (.int .i64 n23), (.int .i64 n24)]), (.pointer x0), (.tuple #[(.int .u64 n22), (.int .i64 n23), (.int .i64 n24)]), (.int .u64 n22), (.int .i64 n23), (.int .i64 n24), (.int .i64 n24), (.bool (decide (n24 = 0))), (.bool true), (.int .i64 x1), (.bool (decide (x1 < 0))), (.bool true), undef, undef, undef, undef, (.bool true), (.bool true), undef, undef, undef, undef, undef, undef, undef, undef, undef, undef, undef, undef, undef, undef, undef, undef] H18)
 (f137_J0 R [(.pointer x0), (.int .i64 x1), undef, undef, (.int .i64 0), (.int .u64 n22), (.int .i64 n23), (.int .i64 n24), (.pointer x0), (.bool false), (.tuple #[(.int .u64 n22), (.int .i64 n23), (.int .i64 n24)]), (.pointer x0), (.tuple #[(.int .u64 n22), (.int .i64 n23), (.int .i64 n24)]), (.int .u64 n22), (.int .i64 n23), (.int .i64 n24), (.int .i64 n24), (.bool (decide (n24 = 0))), (.bool true), (.int .i64 x1), (.bool (decide (x1 < 0))), (.bool false), (.int .u64 n22), (.int .i64 x1), (.int .u64 (IntKind.u64.wrap x1)), (.bool (decide (n22 > (IntKind.u64.wrap x1)))), (.bool (decide (n22 > (IntKind.u64.wrap x1)))), (.bool (decide (n22 > (IntKind.u64.wrap x1)))), undef, undef, undef, undef, undef, undef, undef, undef, undef, undef, undef, undef, undef, undef, undef, undef] H18))
 (f137_J0 R [(.pointer x0), (.int .i64 x1), undef, undef, (.int .i64 0), (.int .u64 n22), (.int .i64 n23), (.int .i64 n24), (.pointer x0), (.bool false), (.tuple #[(.int .u64 n22), (.int .i64 n23), (.int .i64 n24)]), (.pointer x0), (.tuple #[(.int .u64 n22), (.int .i64 n23), (.int .i64 n24)]), (.int .u64 n22), (.int .i64 n23), (.int .i64 n24), (.int .i64 n24), (.bool (decide (n24 = 0))), (.bool false), undef, undef, undef, undef, undef, undef, undef, undef, (.bool false), undef, undef, undef, undef, undef, undef, undef, undef, undef, undef, undef, undef, undef, undef, undef, undef] H18)) (fun v20 H19 => R (.panic v20) H19))) (fun v15 H14 => R (.panic v15) H14)
theorem f137_eq (x0 : Option Addr) (x1 : Int) (H : AH) (R : AEnd → AH → Prop) : awpF Try.prog f137_c (aPost Try.prog Try.f137 R) (([(.pointer x0), (.int .i64 x1)] : List Value) ++ List.replicate (Try.f137.ntmps - (([(.pointer x0), (.int .i64 x1)] : List Value)).length) undef) H = f137_B x0 x1 H R := by kernel_rfl
theorem f137_call (x0 : Option Addr) (x1 : Int) (H : AH) (R : AEnd → AH → Prop) (h : f137_B x0 x1 H R) : ACall Try.prog 137 ([(.pointer x0), (.int .i64 x1)] : List Value) H R :=
  acall_of mixed Try.func137 (by kernel_rfl : Try.f137.body = some f137_c) (by kernel_rfl) (by kernel_rfl) (awp_of (Eq.mpr (f137_eq x0 x1 H R) h))

/-! f139: (*switchyard/pack.Reader).Count -/
noncomputable def f139_c : Code := Try.f139.body.getD .skip
def f139_B (x0 : Option Addr) (H : AH) (R : AEnd → AH → Prop) : Prop :=
 wCall Try.prog 133 [(.pointer x0)] H (fun r1 H2 =>
 opB r1 fun b5 =>
 wIf b5
 (R (.ret (.int .u64 0)) H2)
 (wCall Try.prog 140 [(.pointer x0)] H2 (fun r6 H7 =>
 opT 3 r6 fun l10 =>
 opI .u64 (l10.headD undef) fun n11 =>
 opI .i64 (l10.tail.headD undef) fun n12 =>
 opI .i64 (l10.tail.tail.headD undef) fun n13 =>
 wIf (!decide (n13 = 0))
 (wCall Try.prog 134 [(.pointer x0), (.int .i64 n13)] H7 (fun r14 H15 =>
 R (.ret (.int .u64 0)) H15) (fun v17 H16 => R (.panic v17) H16))
 (wPt x0 fun i18 k19 =>
 ldS i18 k19 H7 fun t20 =>
 wSlS t20 n12 t20.size fun t21 =>
 wPt x0 fun i22 k23 =>
 wSt i22 k23 [(.string t21)] H7 fun H24 =>
 R (.ret (.int .u64 n11)) H24)) (fun v9 H8 => R (.panic v9) H8))) (fun v4 H3 => R (.panic v4) H3)
theorem f139_eq (x0 : Option Addr) (H : AH) (R : AEnd → AH → Prop) : awpF Try.prog f139_c (aPost Try.prog Try.f139 R) (([(.pointer x0)] : List Value) ++ List.replicate (Try.f139.ntmps - (([(.pointer x0)] : List Value)).length) undef) H = f139_B x0 H R := by kernel_rfl
theorem f139_call (x0 : Option Addr) (H : AH) (R : AEnd → AH → Prop) (h : f139_B x0 H R) : ACall Try.prog 139 ([(.pointer x0)] : List Value) H R :=
  acall_of mixed Try.func139 (by kernel_rfl : Try.f139.body = some f139_c) (by kernel_rfl) (by kernel_rfl) (awp_of (Eq.mpr (f139_eq x0 H R) h))

/-! f140: (*switchyard/pack.Reader).count -/
noncomputable def f140_c : Code := Try.f140.body.getD .skip
noncomputable def f140_X0 (R : AEnd → AH → Prop) : AExit → List Value → AH → Prop := thenF (fun tm H => hold (awpF Try.prog (codeAt f140_c [1, 1, 1]) (aPost Try.prog Try.f140 R) tm H)) (aPost Try.prog Try.f140 R)
noncomputable def f140_X1 (R : AEnd → AH → Prop) : AExit → List Value → AH → Prop := inBlockF 0 (f140_X0 R)
noncomputable def f140_Q0 (R : AEnd → AH → Prop) : AExit → List Value → AH → Prop := (f140_X1 R)
def f140_L0 (R : AEnd → AH → Prop) (tm : List Value) (H : AH) : Prop := awpF Try.prog (codeAt f140_c [1, 1, 0, 1, 0]) (f140_Q0 R) tm H
noncomputable def f140_X2 (K0 : List Value → AH → Prop) (R : AEnd → AH → Prop) : AExit → List Value → AH → Prop := thenF (fun tm H => hold (awpF Try.prog (codeAt f140_c [1, 1, 0, 1, 0, 0, 1, 1, 1]) (thenF K0 (f140_Q0 R)) tm H)) (thenF K0 (f140_Q0 R))
noncomputable def f140_X3 (K0 : List Value → AH → Prop) (R : AEnd → AH → Prop) : AExit → List Value → AH → Prop := inBlockF 1 (f140_X2 K0 R)
noncomputable def f140_X4 (K0 : List Value → AH → Prop) (R : AEnd → AH → Prop) : AExit → List Value → AH → Prop := thenF (fun tm H => hold (awpF Try.prog (codeAt f140_c [1, 1, 0, 1, 0, 0, 1, 1, 0, 0, 1, 1, 1, 1]) (f140_X3 K0 R) tm H)) (f140_X3 K0 R)
def f140_J0 (K0 : List Value → AH → Prop) (R : AEnd → AH → Prop) (tm : List Value) (H : AH) : Prop := hold (awpF Try.prog (codeAt f140_c [1, 1, 0, 1, 0, 0, 1, 1, 0, 0, 1, 1, 1, 0, 1]) ((f140_X4 K0 R)) tm H)
def f140_J1 (K0 : List Value → AH → Prop) (R : AEnd → AH → Prop) (tm : List Value) (H : AH) : Prop := hold (awpF Try.prog (codeAt f140_c [1, 1, 0, 1, 0, 0, 1, 1, 0, 0, 1, 1, 1, 1]) ((f140_X3 K0 R)) tm H)
noncomputable def f140_X5 (K0 : List Value → AH → Prop) (R : AEnd → AH → Prop) : AExit → List Value → AH → Prop := thenF (fun tm H => hold (awpF Try.prog (codeAt f140_c [1, 1, 0, 1, 0, 0, 1, 1, 0, 0, 1, 1, 1, 1, 1, 1, 0, 1]) (f140_X3 K0 R) tm H)) (f140_X3 K0 R)
def f140_J2 (K0 : List Value → AH → Prop) (R : AEnd → AH → Prop) (tm : List Value) (H : AH) : Prop := hold (awpF Try.prog (codeAt f140_c [1, 1, 0, 1, 0, 0, 1, 1, 0, 0, 1, 1, 1, 1, 1, 1, 0, 0, 1]) ((f140_X5 K0 R)) tm H)
def f140_J3 (K0 : List Value → AH → Prop) (R : AEnd → AH → Prop) (tm : List Value) (H : AH) : Prop := hold (awpF Try.prog (codeAt f140_c [1, 1, 0, 1, 0, 0, 1, 1, 0, 0, 1, 1, 1, 1, 1, 1, 0, 1]) ((f140_X3 K0 R)) tm H)
def f140_J4 (R : AEnd → AH → Prop) (tm : List Value) (H : AH) : Prop := hold (awpF Try.prog (codeAt f140_c [1, 1, 1]) ((aPost Try.prog Try.f140 R)) tm H)
-- join 4: live 
-- join 3: live 5:n, 6:i
def f140_J3_B (s5 s6 : Int) (H : AH) (K0 : List Value → AH → Prop) (R : AEnd → AH → Prop) : Prop :=
 R (.ret (.tuple #[(.int .u64 s5), (.int .i64 (IntKind.i64.wrap (s6 + 1))), (.int .i64 0)])) H
theorem f140_J3_eq (s0 s1 s2 s3 s4 : Value) (s5 s6 : Int) (s7 s8 s9 s10 s11 s12 s13 s14 s15 s16 s17 s18 s19 s20 s21 s22 s23 s24 s25 s26 s27 s28 s29 s30 s31 s32 s33 s34 s35 s36 s37 s38 s39 s40 s41 s42 s43 s44 s45 s46 s47 s48 s49 : Value) (H : AH) (K0 : List Value → AH → Prop) (R : AEnd → AH → Prop) : f140_J3 K0 R [s0, s1, s2, s3, s4, (.int .u64 s5), (.int .i64 s6), s7, s8, s9, s10, s11, s12, s13, s14, s15, s16, s17, s18, s19, s20, s21, s22, s23, s24, s25, s26, s27, s28, s29, s30, s31, s32, s33, s34, s35, s36, s37, s38, s39, s40, s41, s42, s43, s44, s45, s46, s47, s48, s49] H = f140_J3_B s5 s6 H K0 R := by kernel_rfl
-- join 2: live 5:n, 6:i, 45:
def f140_J2_B (s0 s1 s2 s3 s4 : Value) (s5 s6 : Int) (s7 s8 s9 s10 s11 s12 s13 s14 s15 s16 s17 s18 s19 s20 s21 s22 s23 s24 s25 s26 s27 s28 s29 s30 s31 s32 s33 s34 s35 s36 s37 s38 s39 s40 s41 s42 s43 s44 : Value) (s45 : Bool) (s46 s47 s48 s49 : Value) (H : AH) (K0 : List Value → AH → Prop) (R : AEnd → AH → Prop) : Prop :=
 wIf s45
 (R (.ret (.tuple #[(.int .u64 0), (.int .i64 0), (.int .i64 4)])) H)
 (f140_J3 K0 R [s0, s1, s2, s3, s4, (.int .u64 s5), (.int .i64 s6), s7, s8, s9, s10, s11, s12, s13, s14, s15, s16, s17, s18, s19, s20, s21, s22, s23, s24, s25, s26, s27, s28, s29, s30, s31, s32, s33, s34, s35, s36, s37, s38, s39, s40, s41, s42, s43, s44, (.bool false), s46, s47, s48, s49] H)
theorem f140_J2_eq (s0 s1 s2 s3 s4 : Value) (s5 s6 : Int) (s7 s8 s9 s10 s11 s12 s13 s14 s15 s16 s17 s18 s19 s20 s21 s22 s23 s24 s25 s26 s27 s28 s29 s30 s31 s32 s33 s34 s35 s36 s37 s38 s39 s40 s41 s42 s43 s44 : Value) (s45 : Bool) (s46 s47 s48 s49 : Value) (H : AH) (K0 : List Value → AH → Prop) (R : AEnd → AH → Prop) : f140_J2 K0 R [s0, s1, s2, s3, s4, (.int .u64 s5), (.int .i64 s6), s7, s8, s9, s10, s11, s12, s13, s14, s15, s16, s17, s18, s19, s20, s21, s22, s23, s24, s25, s26, s27, s28, s29, s30, s31, s32, s33, s34, s35, s36, s37, s38, s39, s40, s41, s42, s43, s44, (.bool s45), s46, s47, s48, s49] H = f140_J2_B s0 s1 s2 s3 s4 s5 s6 s7 s8 s9 s10 s11 s12 s13 s14 s15 s16 s17 s18 s19 s20 s21 s22 s23 s24 s25 s26 s27 s28 s29 s30 s31 s32 s33 s34 s35 s36 s37 s38 s39 s40 s41 s42 s43 s44 s45 s46 s47 s48 s49 H K0 R := by kernel_rfl
-- join 1: live 0:r, 5:n, 6:i, 7:c, 8:
def f140_J1_B (s0 : Option Addr) (s1 s2 s3 s4 : Value) (s5 s6 s7 s8 : Int) (s9 s10 s11 s12 s13 s14 s15 s16 s17 s18 s19 s20 s21 s22 s23 s24 s25 s26 s27 s28 s29 s40 s41 s42 s43 s44 s45 s46 s47 s48 s49 : Value) (H : AH) (K0 : List Value → AH → Prop) (R : AEnd → AH → Prop) : Prop :=
 wNn (IntKind.i64.wrap (7 * s6))
 (wIf (decide (s7 < 128))
 (wIf (decide (s7 = 0))
 (f140_J2 K0 R [(.pointer s0), s1, s2, s3, s4, (.int .u64 (IntKind.u64.wrap ((BitVec.ofInt IntKind.u64.bits s5) ||| (BitVec.ofInt IntKind.u64.bits (IntKind.u64.wrap ((IntKind.u64.wrap (IntKind.u8.wrap ((BitVec.ofInt IntKind.u8.bits s7) &&& (BitVec.ofInt IntKind.u8.bits 127)).toNat)) * (2 ^ (min (Int.toNat (IntKind.i64.wrap (7 * s6))) IntKind.u64.bits)))))).toNat)), (.int .i64 s6), (.int .u8 s7), (.int .i64 s8), s9, s10, s11, s12, s13, s14, s15, s16, s17, s18, s19, s20, s21, s22, s23, s24, s25, s26, s27, s28, s29, (.int .u64 s5), (.int .u8 s7), (.int .u8 (IntKind.u8.wrap ((BitVec.ofInt IntKind.u8.bits s7) &&& (BitVec.ofInt IntKind.u8.bits 127)).toNat)), (.int .u64 (IntKind.u64.wrap (IntKind.u8.wrap ((BitVec.ofInt IntKind.u8.bits s7) &&& (BitVec.ofInt IntKind.u8.bits 127)).toNat))), (.int .i64 s6), (.int .i64 (IntKind.i64.wrap (7 * s6))), (.int .u64 (IntKind.u64.wrap ((IntKind.u64.wrap (IntKind.u8.wrap ((BitVec.ofInt IntKind.u8.bits s7) &&& (BitVec.ofInt IntKind.u8.bits 127)).toNat)) * (2 ^ (min (Int.toNat (IntKind.i64.wrap (7 * s6))) IntKind.u64.bits))))), (.int .u64 (IntKind.u64.wrap ((BitVec.ofInt IntKind.u64.bits s5) ||| (BitVec.ofInt IntKind.u64.bits (IntKind.u64.wrap ((IntKind.u64.wrap (IntKind.u8.wrap ((BitVec.ofInt IntKind.u8.bits s7) &&& (BitVec.ofInt IntKind.u8.bits 127)).toNat)) * (2 ^ (min (Int.toNat (IntKind.i64.wrap (7 * s6))) IntKind.u64.bits)))))).toNat)), (.int .u8 s7), (.bool true), (.int .u8 s7), (.bool (decide (s7 = 0))), (.bool true), (.int .i64 s6), (.bool (decide (s6 > 0))), (.bool (decide (s6 > 0))), s46, s47, s48, s49] H)
 (f140_J2 K0 R [(.pointer s0), s1, s2, s3, s4, (.int .u64 (IntKind.u64.wrap ((BitVec.ofInt IntKind.u64.bits s5) ||| (BitVec.ofInt IntKind.u64.bits (IntKind.u64.wrap ((IntKind.u64.wrap (IntKind.u8.wrap ((BitVec.ofInt IntKind.u8.bits s7) &&& (BitVec.ofInt IntKind.u8.bits 127)).toNat)) * (2 ^ (min (Int.toNat (IntKind.i64.wrap (7 * s6))) IntKind.u64.bits)))))).toNat)), (.int .i64 s6), (.int .u8 s7), (.int .i64 s8), s9, s10, s11, s12, s13, s14, s15, s16, s17, s18, s19, s20, s21, s22, s23, s24, s25, s26, s27, s28, s29, (.int .u64 s5), (.int .u8 s7), (.int .u8 (IntKind.u8.wrap ((BitVec.ofInt IntKind.u8.bits s7) &&& (BitVec.ofInt IntKind.u8.bits 127)).toNat)), (.int .u64 (IntKind.u64.wrap (IntKind.u8.wrap ((BitVec.ofInt IntKind.u8.bits s7) &&& (BitVec.ofInt IntKind.u8.bits 127)).toNat))), (.int .i64 s6), (.int .i64 (IntKind.i64.wrap (7 * s6))), (.int .u64 (IntKind.u64.wrap ((IntKind.u64.wrap (IntKind.u8.wrap ((BitVec.ofInt IntKind.u8.bits s7) &&& (BitVec.ofInt IntKind.u8.bits 127)).toNat)) * (2 ^ (min (Int.toNat (IntKind.i64.wrap (7 * s6))) IntKind.u64.bits))))), (.int .u64 (IntKind.u64.wrap ((BitVec.ofInt IntKind.u64.bits s5) ||| (BitVec.ofInt IntKind.u64.bits (IntKind.u64.wrap ((IntKind.u64.wrap (IntKind.u8.wrap ((BitVec.ofInt IntKind.u8.bits s7) &&& (BitVec.ofInt IntKind.u8.bits 127)).toNat)) * (2 ^ (min (Int.toNat (IntKind.i64.wrap (7 * s6))) IntKind.u64.bits)))))).toNat)), (.int .u8 s7), (.bool true), (.int .u8 s7), (.bool (decide (s7 = 0))), (.bool false), undef, undef, (.bool false), s46, s47, s48, s49] H))
 (K0 [(.pointer s0), s1, s2, s3, s4, (.int .u64 (IntKind.u64.wrap ((BitVec.ofInt IntKind.u64.bits s5) ||| (BitVec.ofInt IntKind.u64.bits (IntKind.u64.wrap ((IntKind.u64.wrap (IntKind.u8.wrap ((BitVec.ofInt IntKind.u8.bits s7) &&& (BitVec.ofInt IntKind.u8.bits 127)).toNat)) * (2 ^ (min (Int.toNat (IntKind.i64.wrap (7 * s6))) IntKind.u64.bits)))))).toNat)), (.int .i64 s6), (.int .u8 s7), (.int .i64 (IntKind.i64.wrap (s8 + 1))), s9, s10, s11, s12, s13, s14, s15, s16, s17, s18, s19, s20, s21, s22, s23, s24, s25, s26, s27, s28, s29, (.int .u64 s5), (.int .u8 s7), (.int .u8 (IntKind.u8.wrap ((BitVec.ofInt IntKind.u8.bits s7) &&& (BitVec.ofInt IntKind.u8.bits 127)).toNat)), (.int .u64 (IntKind.u64.wrap (IntKind.u8.wrap ((BitVec.ofInt IntKind.u8.bits s7) &&& (BitVec.ofInt IntKind.u8.bits 127)).toNat))), (.int .i64 s6), (.int .i64 (IntKind.i64.wrap (7 * s6))), (.int .u64 (IntKind.u64.wrap ((IntKind.u64.wrap (IntKind.u8.wrap ((BitVec.ofInt IntKind.u8.bits s7) &&& (BitVec.ofInt IntKind.u8.bits 127)).toNat)) * (2 ^ (min (Int.toNat (IntKind.i64.wrap (7 * s6))) IntKind.u64.bits))))), (.int .u64 (IntKind.u64.wrap ((BitVec.ofInt IntKind.u64.bits s5) ||| (BitVec.ofInt IntKind.u64.bits (IntKind.u64.wrap ((IntKind.u64.wrap (IntKind.u8.wrap ((BitVec.ofInt IntKind.u8.bits s7) &&& (BitVec.ofInt IntKind.u8.bits 127)).toNat)) * (2 ^ (min (Int.toNat (IntKind.i64.wrap (7 * s6))) IntKind.u64.bits)))))).toNat)), (.int .u8 s7), (.bool false), s40, s41, s42, s43, s44, s45, s46, s47, s48, (.int .i64 (IntKind.i64.wrap (s8 + 1)))] H))
theorem f140_J1_eq (s0 : Option Addr) (s1 s2 s3 s4 : Value) (s5 s6 s7 s8 : Int) (s9 s10 s11 s12 s13 s14 s15 s16 s17 s18 s19 s20 s21 s22 s23 s24 s25 s26 s27 s28 s29 s30 s31 s32 s33 s34 s35 s36 s37 s38 s39 s40 s41 s42 s43 s44 s45 s46 s47 s48 s49 : Value) (H : AH) (K0 : List Value → AH → Prop) (R : AEnd → AH → Prop) : f140_J1 K0 R [(.pointer s0), s1, s2, s3, s4, (.int .u64 s5), (.int .i64 s6), (.int .u8 s7), (.int .i64 s8), s9, s10, s11, s12, s13, s14, s15, s16, s17, s18, s19, s20, s21, s22, s23, s24, s25, s26, s27, s28, s29, s30, s31, s32, s33, s34, s35, s36, s37, s38, s39, s40, s41, s42, s43, s44, s45, s46, s47, s48, s49] H = f140_J1_B s0 s1 s2 s3 s4 s5 s6 s7 s8 s9 s10 s11 s12 s13 s14 s15 s16 s17 s18 s19 s20 s21 s22 s23 s24 s25 s26 s27 s28 s29 s40 s41 s42 s43 s44 s45 s46 s47 s48 s49 H K0 R := by kernel_rfl
-- join 0: live 0:r, 5:n, 6:i, 7:c, 8:, 29:
def f140_J0_B (s0 : Option Addr) (s1 s2 s3 s4 : Value) (s5 s6 s7 s8 : Int) (s9 s10 s11 s12 s13 s14 s15 s16 s17 s18 s19 s20 s21 s22 s23 s24 s25 s26 s27 s28 : Value) (s29 : Bool) (s30 s31 s32 s33 s34 s35 s36 s37 s38 s39 s40 s41 s42 s43 s44 s45 s46 s47 s48 s49 : Value) (H : AH) (K0 : List Value → AH → Prop) (R : AEnd → AH → Prop) : Prop :=
 wIf s29
 (R (.ret (.tuple #[(.int .u64 0), (.int .i64 0), (.int .i64 4)])) H)
 (f140_J1 K0 R [(.pointer s0), s1, s2, s3, s4, (.int .u64 s5), (.int .i64 s6), (.int .u8 s7), (.int .i64 s8), s9, s10, s11, s12, s13, s14, s15, s16, s17, s18, s19, s20, s21, s22, s23, s24, s25, s26, s27, s28, (.bool false), s30, s31, s32, s33, s34, s35, s36, s37, s38, s39, s40, s41, s42, s43, s44, s45, s46, s47, s48, s49] H)
theorem f140_J0_eq (s0 : Option Addr) (s1 s2 s3 s4 : Value) (s5 s6 s7 s8 : Int) (s9 s10 s11 s12 s13 s14 s15 s16 s17 s18 s19 s20 s21 s22 s23 s24 s25 s26 s27 s28 : Value) (s29 : Bool) (s30 s31 s32 s33 s34 s35 s36 s37 s38 s39 s40 s41 s42 s43 s44 s45 s46 s47 s48 s49 : Value) (H : AH) (K0 : List Value → AH → Prop) (R : AEnd → AH → Prop) : f140_J0 K0 R [(.pointer s0), s1, s2, s3, s4, (.int .u64 s5), (.int .i64 s6), (.int .u8 s7), (.int .i64 s8), s9, s10, s11, s12, s13, s14, s15, s16, s17, s18, s19, s20, s21, s22, s23, s24, s25, s26, s27, s28, (.bool s29), s30, s31, s32, s33, s34, s35, s36, s37, s38, s39, s40, s41, s42, s43, s44, s45, s46, s47, s48, s49] H = f140_J0_B s0 s1 s2 s3 s4 s5 s6 s7 s8 s9 s10 s11 s12 s13 s14 s15 s16 s17 s18 s19 s20 s21 s22 s23 s24 s25 s26 s27 s28 s29 s30 s31 s32 s33 s34 s35 s36 s37 s38 s39 s40 s41 s42 s43 s44 s45 s46 s47 s48 s49 H K0 R := by kernel_rfl
def f140_R0 (s0 : Option Addr) (s1 s2 s3 s4 : Value) (s5 : Int) (s6 s7 : Value) (s8 : Int) (s9 s10 s11 s12 s13 s14 s15 s16 s17 s18 s19 s20 s21 s22 s23 s24 s25 s26 s27 s28 s29 s30 s31 s32 s33 s34 s35 s36 s37 s38 s39 s40 s41 s42 s43 s44 s45 s46 s47 s48 s49 : Value) (H : AH) (K0 : List Value → AH → Prop) (R : AEnd → AH → Prop) : Prop :=
 wIf (decide (s8 < 10))
 (wPt s0 fun i1 k2 =>
 ldS i1 k2 H fun t3 =>
 wIf (decide (s8 ≥ (t3.size : Int)))
 (R (.ret (.tuple #[(.int .u64 0), (.int .i64 0), (.int .i64 3)])) H)
 (wPt s0 fun i4 k5 =>
 ldS i4 k5 H fun t6 =>
 wIxS t6 s8 fun n7 =>
 wIf (decide (s8 = 9))
 (f140_J0 K0 R [(.pointer s0), s1, s2, s3, s4, (.int .u64 s5), (.int .i64 s8), (.int .u8 n7), (.int .i64 s8), (.bool true), (.int .i64 s8), (.int .i64 s8), (.pointer s0), (.pointer (some ⟨i1, k2, none⟩)), (.pointer (some ⟨i1, k2, none⟩)), (.string t3), (.int .i64 (t3.size : Int)), (.bool false), (.pointer s0), (.pointer (some ⟨i4, k5, none⟩)), (.pointer (some ⟨i4, k5, none⟩)), (.string t6), (.int .i64 s8), (.int .u8 n7), (.int .i64 s8), (.bool (decide (s8 = 9))), (.bool true), (.int .u8 n7), (.bool (decide (n7 > 1))), (.bool (decide (n7 > 1))), s30, s31, s32, s33, s34, s35, s36, s37, s38, s39, s40, s41, s42, s43, s44, s45, s46, s47, s48, s49] H)
 (f140_J0 K0 R [(.pointer s0), s1, s2, s3, s4, (.int .u64 s5), (.int .i64 s8), (.int .u8 n7), (.int .i64 s8), (.bool true), (.int .i64 s8), (.int .i64 s8), (.pointer s0), (.pointer (some ⟨i1, k2, none⟩)), (.pointer (some ⟨i1, k2, none⟩)), (.string t3), (.int .i64 (t3.size : Int)), (.bool false), (.pointer s0), (.pointer (some ⟨i4, k5, none⟩)), (.pointer (some ⟨i4, k5, none⟩)), (.string t6), (.int .i64 s8), (.int .u8 n7), (.int .i64 s8), (.bool (decide (s8 = 9))), (.bool false), undef, undef, (.bool false), s30, s31, s32, s33, s34, s35, s36, s37, s38, s39, s40, s41, s42, s43, s44, s45, s46, s47, s48, s49] H)))
 (f140_J4 R [(.pointer s0), s1, s2, s3, s4, (.int .u64 s5), s6, s7, (.int .i64 s8), (.bool false), s10, s11, s12, s13, s14, s15, s16, s17, s18, s19, s20, s21, s22, s23, s24, s25, s26, s27, s28, s29, s30, s31, s32, s33, s34, s35, s36, s37, s38, s39, s40, s41, s42, s43, s44, s45, s46, s47, s48, s49] H)
theorem f140_R0_eq (s0 : Option Addr) (s1 s2 s3 s4 : Value) (s5 : Int) (s6 s7 : Value) (s8 : Int) (s9 s10 s11 s12 s13 s14 s15 s16 s17 s18 s19 s20 s21 s22 s23 s24 s25 s26 s27 s28 s29 s30 s31 s32 s33 s34 s35 s36 s37 s38 s39 s40 s41 s42 s43 s44 s45 s46 s47 s48 s49 : Value) (H : AH) (K0 : List Value → AH → Prop) (R : AEnd → AH → Prop) : awpF Try.prog (codeAt f140_c [1, 1, 0, 1, 0, 0]) (thenF K0 (f140_Q0 R)) [(.pointer s0), s1, s2, s3, s4, (.int .u64 s5), s6, s7, (.int .i64 s8), s9, s10, s11, s12, s13, s14, s15, s16, s17, s18, s19, s20, s21, s22, s23, s24, s25, s26, s27, s28, s29, s30, s31, s32, s33, s34, s35, s36, s37, s38, s39, s40, s41, s42, s43, s44, s45, s46, s47, s48, s49] H = f140_R0 s0 s1 s2 s3 s4 s5 s6 s7 s8 s9 s10 s11 s12 s13 s14 s15 s16 s17 s18 s19 s20 s21 s22 s23 s24 s25 s26 s27 s28 s29 s30 s31 s32 s33 s34 s35 s36 s37 s38 s39 s40 s41 s42 s43 s44 s45 s46 s47 s48 s49 H K0 R := by kernel_rfl
def f140_I0 (s0 : Option Addr) (s1 : Value) (J : Nat → Int → Int → AH → Prop) (n : Nat) (tm : List Value) (H : AH) : Prop := ∃ (s2 s3 s4 : Value) (s5 : Int) (s6 s7 : Value) (s8 : Int) (s9 s10 s11 s12 s13 s14 s15 s16 s17 s18 s19 s20 s21 s22 s23 s24 s25 s26 s27 s28 s29 s30 s31 s32 s33 s34 s35 s36 s37 s38 s39 s40 s41 s42 s43 s44 s45 s46 s47 s48 s49 : Value), tm = [(.pointer s0), s1, s2, s3, s4, (.int .u64 s5), s6, s7, (.int .i64 s8), s9, s10, s11, s12, s13, s14, s15, s16, s17, s18, s19, s20, s21, s22, s23, s24, s25, s26, s27, s28, s29, s30, s31, s32, s33, s34, s35, s36, s37, s38, s39, s40, s41, s42, s43, s44, s45, s46, s47, s48, s49] ∧ J n s5 s8 H
theorem f140_I0_mk {s0 : Option Addr} {s1 : Value} {s2 : Value} {s3 : Value} {s4 : Value} {s5 : Int} {s6 : Value} {s7 : Value} {s8 : Int} {s9 : Value} {s10 : Value} {s11 : Value} {s12 : Value} {s13 : Value} {s14 : Value} {s15 : Value} {s16 : Value} {s17 : Value} {s18 : Value} {s19 : Value} {s20 : Value} {s21 : Value} {s22 : Value} {s23 : Value} {s24 : Value} {s25 : Value} {s26 : Value} {s27 : Value} {s28 : Value} {s29 : Value} {s30 : Value} {s31 : Value} {s32 : Value} {s33 : Value} {s34 : Value} {s35 : Value} {s36 : Value} {s37 : Value} {s38 : Value} {s39 : Value} {s40 : Value} {s41 : Value} {s42 : Value} {s43 : Value} {s44 : Value} {s45 : Value} {s46 : Value} {s47 : Value} {s48 : Value} {s49 : Value} {J : Nat → Int → Int → AH → Prop} {n : Nat} {H : AH} (h : J n s5 s8 H) : f140_I0 s0 s1 J n [(.pointer s0), s1, s2, s3, s4, (.int .u64 s5), s6, s7, (.int .i64 s8), s9, s10, s11, s12, s13, s14, s15, s16, s17, s18, s19, s20, s21, s22, s23, s24, s25, s26, s27, s28, s29, s30, s31, s32, s33, s34, s35, s36, s37, s38, s39, s40, s41, s42, s43, s44, s45, s46, s47, s48, s49] H := ⟨_, _, _, _, _, _, _, _, _, _, _, _, _, _, _, _, _, _, _, _, _, _, _, _, _, _, _, _, _, _, _, _, _, _, _, _, _, _, _, _, _, _, _, _, _, _, _, _, rfl, h⟩
-- loop 0: carried 5:n, 8:
theorem f140_L0_rule {s0 : Option Addr} {s1 : Value} {s2 : Value} {s3 : Value} {s4 : Value} {s5 : Int} {s6 : Value} {s7 : Value} {s8 : Int} {s9 : Value} {s10 : Value} {s11 : Value} {s12 : Value} {s13 : Value} {s14 : Value} {s15 : Value} {s16 : Value} {s17 : Value} {s18 : Value} {s19 : Value} {s20 : Value} {s21 : Value} {s22 : Value} {s23 : Value} {s24 : Value} {s25 : Value} {s26 : Value} {s27 : Value} {s28 : Value} {s29 : Value} {s30 : Value} {s31 : Value} {s32 : Value} {s33 : Value} {s34 : Value} {s35 : Value} {s36 : Value} {s37 : Value} {s38 : Value} {s39 : Value} {s40 : Value} {s41 : Value} {s42 : Value} {s43 : Value} {s44 : Value} {s45 : Value} {s46 : Value} {s47 : Value} {s48 : Value} {s49 : Value} {H : AH} {R : AEnd → AH → Prop} (J : Nat → Int → Int → AH → Prop) (n : Nat) (h0 : J n s5 s8 H)
  (step : ∀ (n : Nat) (s5 s8 : Int) (H : AH), J n s5 s8 H → ∀ (s2 s3 s4 s6 s7 s9 s10 s11 s12 s13 s14 s15 s16 s17 s18 s19 s20 s21 s22 s23 s24 s25 s26 s27 s28 s29 s30 s31 s32 s33 s34 s35 s36 s37 s38 s39 s40 s41 s42 s43 s44 s45 s46 s47 s48 s49 : Value), f140_R0 s0 s1 s2 s3 s4 s5 s6 s7 s8 s9 s10 s11 s12 s13 s14 s15 s16 s17 s18 s19 s20 s21 s22 s23 s24 s25 s26 s27 s28 s29 s30 s31 s32 s33 s34 s35 s36 s37 s38 s39 s40 s41 s42 s43 s44 s45 s46 s47 s48 s49 H (fun tm H => ∃ m, m < n ∧ f140_I0 s0 s1 J m tm H) R) : f140_L0 R [(.pointer s0), s1, s2, s3, s4, (.int .u64 s5), s6, s7, (.int .i64 s8), s9, s10, s11, s12, s13, s14, s15, s16, s17, s18, s19, s20, s21, s22, s23, s24, s25, s26, s27, s28, s29, s30, s31, s32, s33, s34, s35, s36, s37, s38, s39, s40, s41, s42, s43, s44, s45, s46, s47, s48, s49] H :=
  awpF_loop (f140_I0 s0 s1 J) n (f140_I0_mk h0) (by
    intro n tm H hh
    exact Exists.elim hh fun s2 hh => Exists.elim hh fun s3 hh => Exists.elim hh fun s4 hh => Exists.elim hh fun s5 hh => Exists.elim hh fun s6 hh => Exists.elim hh fun s7 hh => Exists.elim hh fun s8 hh => Exists.elim hh fun s9 hh => Exists.elim hh fun s10 hh => Exists.elim hh fun s11 hh => Exists.elim hh fun s12 hh => Exists.elim hh fun s13 hh => Exists.elim hh fun s14 hh => Exists.elim hh fun s15 hh => Exists.elim hh fun s16 hh => Exists.elim hh fun s17 hh => Exists.elim hh fun s18 hh => Exists.elim hh fun s19 hh => Exists.elim hh fun s20 hh => Exists.elim hh fun s21 hh => Exists.elim hh fun s22 hh => Exists.elim hh fun s23 hh => Exists.elim hh fun s24 hh => Exists.elim hh fun s25 hh => Exists.elim hh fun s26 hh => Exists.elim hh fun s27 hh => Exists.elim hh fun s28 hh => Exists.elim hh fun s29 hh => Exists.elim hh fun s30 hh => Exists.elim hh fun s31 hh => Exists.elim hh fun s32 hh => Exists.elim hh fun s33 hh => Exists.elim hh fun s34 hh => Exists.elim hh fun s35 hh => Exists.elim hh fun s36 hh => Exists.elim hh fun s37 hh => Exists.elim hh fun s38 hh => Exists.elim hh fun s39 hh => Exists.elim hh fun s40 hh => Exists.elim hh fun s41 hh => Exists.elim hh fun s42 hh => Exists.elim hh fun s43 hh => Exists.elim hh fun s44 hh => Exists.elim hh fun s45 hh => Exists.elim hh fun s46 hh => Exists.elim hh fun s47 hh => Exists.elim hh fun s48 hh => Exists.elim hh fun s49 hh => And.elim (fun e h =>
     (by subst e; exact Eq.mpr (f140_R0_eq s0 s1 s2 s3 s4 s5 s6 s7 s8 s9 s10 s11 s12 s13 s14 s15 s16 s17 s18 s19 s20 s21 s22 s23 s24 s25 s26 s27 s28 s29 s30 s31 s32 s33 s34 s35 s36 s37 s38 s39 s40 s41 s42 s43 s44 s45 s46 s47 s48 s49 H _ R) (step n s5 s8 H h s2 s3 s4 s6 s7 s9 s10 s11 s12 s13 s14 s15 s16 s17 s18 s19 s20 s21 s22 s23 s24 s25 s26 s27 s28 s29 s30 s31 s32 s33 s34 s35 s36 s37 s38 s39 s40 s41 s42 s43 s44 s45 s46 s47 s48 s49))) hh)
def f140_B (x0 : Option Addr) (H : AH) (R : AEnd → AH → Prop) : Prop :=
 f140_L0 R [(.pointer x0), undef, (.int .u64 0), (.int .i64 0), (.int .i64 0), (.int .u64 0), undef, undef, (.int .i64 0), undef, undef, undef, undef, undef, undef, undef, undef, undef, undef, undef, undef, undef, undef, undef, undef, undef, undef, undef, undef, undef, undef, undef, undef, undef, undef, undef, undef, undef, undef, undef, undef, undef, undef, undef, undef, undef, undef, undef, undef, undef] H
theorem f140_eq (x0 : Option Addr) (H : AH) (R : AEnd → AH → Prop) : awpF Try.prog f140_c (aPost Try.prog Try.f140 R) (([(.pointer x0)] : List Value) ++ List.replicate (Try.f140.ntmps - (([(.pointer x0)] : List Value)).length) undef) H = f140_B x0 H R := by kernel_rfl
theorem f140_call (x0 : Option Addr) (H : AH) (R : AEnd → AH → Prop) (h : f140_B x0 H R) : ACall Try.prog 140 ([(.pointer x0)] : List Value) H R :=
  acall_of mixed Try.func140 (by kernel_rfl : Try.f140.body = some f140_c) (by kernel_rfl) (by kernel_rfl) (awp_of (Eq.mpr (f140_eq x0 H R) h))

end Go.Proofs.Ytfghglacfjncmaa
