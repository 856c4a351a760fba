/- Bodies of functions as nested rules: printed by genw.py, a program of this claim. -/
import Derived.Test.YtfghglacfjncmaaWTy
namespace Go.Proofs.Ytfghglacfjncmaa
open Go.RowKit
set_option linter.unusedVariables false
set_option maxRecDepth 100000

/-! f50: (*switchyard/code.writer).value -/
noncomputable def f50_c : Code := Try.f50.body.getD .skip
noncomputable def f50_X0 (R : AEnd → AH → Prop) : AExit → List Value → AH → Prop := inBlockF 0 (aPost Try.prog Try.f50 R)
noncomputable def f50_X1 (R : AEnd → AH → Prop) : AExit → List Value → AH → Prop := inBlockF 1 (f50_X0 R)
noncomputable def f50_Q0 (R : AEnd → AH → Prop) : AExit → List Value → AH → Prop := (f50_X1 R)
def f50_L0 (R : AEnd → AH → Prop) (tm : List Value) (H : AH) : Prop := awpF Try.prog (codeAt f50_c [1, 1, 1, 1, 0, 1, 1, 1, 1, 1, 1, 1, 0, 1, 1, 0]) (f50_Q0 R) tm H
def f50_J0 (R : AEnd → AH → Prop) (tm : List Value) (H : AH) : Prop := hold (awpF Try.prog (codeAt f50_c [1, 1, 1]) ((aPost Try.prog Try.f50 R)) tm H)
def f50_J1 (R : AEnd → AH → Prop) (tm : List Value) (H : AH) : Prop := hold (awpF Try.prog (codeAt f50_c [1, 1, 1, 1, 0, 1, 1, 1, 1, 1]) ((f50_X0 R)) tm H)
-- join 1: live 0:w, 3:v, 18:, 35:
def f50_J1_B (s0 : Option Addr) (s1 s2 : Value) (s3 : Option Addr) (s4 s5 s6 s7 s8 s9 s10 s11 s12 s13 s14 s15 s16 s17 : Value) (s18 : Int) (s19 s20 s21 s22 s23 s24 s25 s26 s27 s28 s29 s30 s31 s32 s33 s34 : Value) (s35 : Bool) (s36 s37 s38 s39 s40 s41 s42 s43 s44 s56 s57 s58 s59 s60 s61 s62 : Value) (H : AH) (R : AEnd → AH → Prop) : Prop :=
 wIf s35
 (wPt s0 fun i1 k2 =>
 wPt s3 fun i3 k4 =>
 ldS i3 (k4 + 2) H fun t5 =>
 wCall Try.prog 98 [(.string t5)] H (fun r6 H7 =>
 opS r6 fun t10 =>
 wCall Try.prog 96 [(.pointer (some ⟨i1, k2, none⟩)), (.string t10)] H7 (fun r11 H12 =>
 opT 2 r11 fun l15 =>
 opI .i64 (l15.headD undef) fun n16 =>
 opV (l15.tail.headD undef) fun v17 =>
 R (.ret (.tuple #[])) H12) (fun v14 H13 => R (.panic v14) H13)) (fun v9 H8 => R (.panic v9) H8))
 (wIf (decide (s18 = 5))
 (wPt s3 fun i18 k19 =>
 ldL i18 (k19 + 3) H fun z20b z20l z20c =>
 wCall Try.prog 99 [(.pointer s0), (.int .i64 (z20l : Int)), (.int .i64 16)] H (fun r21 H22 =>
 wPt s3 fun i25 k26 =>
 ldL i25 (k26 + 3) H22 fun z27b z27l z27c =>
 f50_L0 R [(.pointer s0), s1, s2, (.pointer s3), s4, s5, s6, s7, s8, s9, s10, s11, s12, s13, s14, s15, s16, s17, (.int .i64 s18), s19, s20, s21, s22, s23, s24, s25, s26, s27, s28, s29, s30, s31, s32, s33, s34, (.bool false), s36, s37, s38, s39, s40, s41, s42, s43, s44, (.bool true), (.bool (decide (s18 = 5))), (.pointer s0), (.pointer (some ⟨i18, (k19 + 3), none⟩)), (.slice z20b z20l z20c), (.int .i64 (z20l : Int)), r21, (.pointer (some ⟨i25, (k26 + 3), none⟩)), (.slice z27b z27l z27c), (.int .i64 (z27l : Int)), (.int .i64 0), s56, s57, s58, s59, s60, s61, s62] H22) (fun v24 H23 => R (.panic v24) H23))
 (R (.ret (.tuple #[])) H))
theorem f50_J1_eq (s0 : Option Addr) (s1 s2 : Value) (s3 : Option Addr) (s4 s5 s6 s7 s8 s9 s10 s11 s12 s13 s14 s15 s16 s17 : Value) (s18 : Int) (s19 s20 s21 s22 s23 s24 s25 s26 s27 s28 s29 s30 s31 s32 s33 s34 : Value) (s35 : Bool) (s36 s37 s38 s39 s40 s41 s42 s43 s44 s45 s46 s47 s48 s49 s50 s51 s52 s53 s54 s55 s56 s57 s58 s59 s60 s61 s62 : Value) (H : AH) (R : AEnd → AH → Prop) : f50_J1 R [(.pointer s0), s1, s2, (.pointer s3), s4, s5, s6, s7, s8, s9, s10, s11, s12, s13, s14, s15, s16, s17, (.int .i64 s18), s19, s20, s21, s22, s23, s24, s25, s26, s27, s28, s29, s30, s31, s32, s33, s34, (.bool s35), s36, s37, s38, s39, s40, s41, s42, s43, s44, s45, s46, s47, s48, s49, s50, s51, s52, s53, s54, s55, s56, s57, s58, s59, s60, s61, s62] H = f50_J1_B s0 s1 s2 s3 s4 s5 s6 s7 s8 s9 s10 s11 s12 s13 s14 s15 s16 s17 s18 s19 s20 s21 s22 s23 s24 s25 s26 s27 s28 s29 s30 s31 s32 s33 s34 s35 s36 s37 s38 s39 s40 s41 s42 s43 s44 s56 s57 s58 s59 s60 s61 s62 H R := by kernel_rfl
-- join 0: live 0:w, 3:v
def f50_J0_B (s0 : Option Addr) (s1 s2 : Value) (s3 : Option Addr) (s4 s5 s6 s7 s8 s9 s10 s11 s12 s13 s14 s15 s16 s21 s22 s23 s24 s27 s28 s29 s30 s31 s32 s33 s34 s37 s38 s39 s40 s41 s42 s43 s44 s45 s46 s47 s48 s49 s50 s51 s52 s53 s54 s55 s56 s57 s58 s59 s60 s61 s62 : Value) (H : AH) (R : AEnd → AH → Prop) : Prop :=
 wPt s3 fun i28 k29 =>
 ldI .i64 i28 k29 H fun n30 =>
 wIf (decide (n30 = 1))
 (wPt s3 fun i31 k32 =>
 ldI .i64 i31 (k32 + 1) H fun n33 =>
 wCall Try.prog 95 [(.pointer s0), (.int .i64 n33)] H (fun r34 H35 =>
 R (.ret (.tuple #[])) H35) (fun v37 H36 => R (.panic v37) H36))
 (wIf (decide (n30 = 2))
 (wPt s0 fun i38 k39 =>
 wPt s3 fun i40 k41 =>
 ldI .i64 i40 (k41 + 1) H fun n42 =>
 wCall Try.prog 97 [(.bool (decide (n42 = 1)))] H (fun r43 H44 =>
 opS r43 fun t47 =>
 wPin i40 (k41 + 1) [(.int .i64 n42)] H44 <|
 wCall Try.prog 96 [(.pointer (some ⟨i38, k39, none⟩)), (.string t47)] H44 (fun r48 H49 =>
 opT 2 r48 fun l52 =>
 opI .i64 (l52.headD undef) fun n53 =>
 opV (l52.tail.headD undef) fun v54 =>
 wPin i40 (k41 + 1) [(.int .i64 n42)] H49 <|
 R (.ret (.tuple #[])) H49) (fun v51 H50 => R (.panic v51) H50)) (fun v46 H45 => R (.panic v46) H45))
 (wIf (decide (n30 = 3))
 (f50_J1 R [(.pointer s0), s1, s2, (.pointer s3), s4, s5, s6, s7, s8, s9, s10, s11, s12, s13, s14, s15, s16, (.pointer (some ⟨i28, k29, none⟩)), (.int .i64 n30), (.bool false), (.bool (decide (n30 = 1))), s21, s22, s23, s24, (.bool false), (.bool (decide (n30 = 2))), s27, s28, s29, s30, s31, s32, s33, s34, (.bool true), (.bool (decide (n30 = 3))), s37, s38, s39, s40, s41, s42, s43, s44, s45, s46, s47, s48, s49, s50, s51, s52, s53, s54, s55, s56, s57, s58, s59, s60, s61, s62] H)
 (f50_J1 R [(.pointer s0), s1, s2, (.pointer s3), s4, s5, s6, s7, s8, s9, s10, s11, s12, s13, s14, s15, s16, (.pointer (some ⟨i28, k29, none⟩)), (.int .i64 n30), (.bool false), (.bool (decide (n30 = 1))), s21, s22, s23, s24, (.bool false), (.bool (decide (n30 = 2))), s27, s28, s29, s30, s31, s32, s33, s34, (.bool (decide (n30 = 4))), (.bool (decide (n30 = 3))), (.bool (decide (n30 = 4))), s38, s39, s40, s41, s42, s43, s44, s45, s46, s47, s48, s49, s50, s51, s52, s53, s54, s55, s56, s57, s58, s59, s60, s61, s62] H)))
theorem f50_J0_eq (s0 : Option Addr) (s1 s2 : Value) (s3 : Option Addr) (s4 s5 s6 s7 s8 s9 s10 s11 s12 s13 s14 s15 s16 s17 s18 s19 s20 s21 s22 s23 s24 s25 s26 s27 s28 s29 s30 s31 s32 s33 s34 s35 s36 s37 s38 s39 s40 s41 s42 s43 s44 s45 s46 s47 s48 s49 s50 s51 s52 s53 s54 s55 s56 s57 s58 s59 s60 s61 s62 : Value) (H : AH) (R : AEnd → AH → Prop) : f50_J0 R [(.pointer s0), s1, s2, (.pointer s3), s4, s5, s6, s7, s8, s9, s10, s11, s12, s13, s14, s15, s16, s17, s18, s19, s20, s21, s22, s23, s24, s25, s26, s27, s28, s29, s30, s31, s32, s33, s34, s35, s36, s37, s38, s39, s40, s41, s42, s43, s44, s45, s46, s47, s48, s49, s50, s51, s52, s53, s54, s55, s56, s57, s58, s59, s60, s61, s62] H = f50_J0_B s0 s1 s2 s3 s4 s5 s6 s7 s8 s9 s10 s11 s12 s13 s14 s15 s16 s21 s22 s23 s24 s27 s28 s29 s30 s31 s32 s33 s34 s37 s38 s39 s40 s41 s42 s43 s44 s45 s46 s47 s48 s49 s50 s51 s52 s53 s54 s55 s56 s57 s58 s59 s60 s61 s62 H R := by kernel_rfl
def f50_R0 (s0 : Option Addr) (s1 s2 s3 s4 s5 s6 s7 s8 s9 s10 s11 s12 s13 s14 s15 s16 s17 s18 s19 s20 s21 s22 s23 s24 s25 s26 s27 s28 s29 s30 s31 s32 s33 s34 s35 s36 s37 s38 s39 s40 s41 s42 s43 s44 s45 s46 s47 s48 s49 s50 s51 s52 : Value) (s53b : Option Addr) (s53l s53c : Nat) (s54 s55 : Int) (s56 s57 s58 s59 s60 s61 s62 : Value) (H : AH) (K0 : List Value → AH → Prop) (R : AEnd → AH → Prop) : Prop :=
 wIf (decide (s55 < s54))
 (wIx s53b s53l 1 s55 fun i55 k56 =>
 ldI .i64 i55 k56 H fun n57 =>
 wCall Try.prog 95 [(.pointer s0), (.int .i64 n57)] H (fun r58 H59 =>
 K0 [(.pointer s0), s1, s2, s3, s4, (.int .i64 n57), s6, s7, s8, s9, s10, s11, s12, s13, s14, s15, s16, s17, s18, s19, s20, s21, s22, s23, s24, s25, s26, s27, s28, s29, s30, s31, s32, s33, s34, s35, s36, s37, s38, s39, s40, s41, s42, s43, s44, s45, s46, s47, s48, s49, s50, s51, s52, (.slice s53b s53l s53c), (.int .i64 s54), (.int .i64 (IntKind.i64.wrap (s55 + 1))), (.bool true), (.pointer (some ⟨i55, k56, none⟩)), (.int .i64 n57), (.pointer s0), (.int .i64 n57), r58, (.int .i64 (IntKind.i64.wrap (s55 + 1)))] H59) (fun v61 H60 => R (.panic v61) H60))
 (R (.ret (.tuple #[])) H)
theorem f50_R0_eq (s0 : Option Addr) (s1 s2 s3 s4 s5 s6 s7 s8 s9 s10 s11 s12 s13 s14 s15 s16 s17 s18 s19 s20 s21 s22 s23 s24 s25 s26 s27 s28 s29 s30 s31 s32 s33 s34 s35 s36 s37 s38 s39 s40 s41 s42 s43 s44 s45 s46 s47 s48 s49 s50 s51 s52 : Value) (s53b : Option Addr) (s53l s53c : Nat) (s54 s55 : Int) (s56 s57 s58 s59 s60 s61 s62 : Value) (H : AH) (K0 : List Value → AH → Prop) (R : AEnd → AH → Prop) : awpF Try.prog (codeAt f50_c [1, 1, 1, 1, 0, 1, 1, 1, 1, 1, 1, 1, 0, 1, 1, 0, 0]) (thenF K0 (f50_Q0 R)) [(.pointer s0), s1, s2, s3, s4, s5, s6, s7, s8, s9, s10, s11, s12, s13, s14, s15, s16, s17, s18, s19, s20, s21, s22, s23, s24, s25, s26, s27, s28, s29, s30, s31, s32, s33, s34, s35, s36, s37, s38, s39, s40, s41, s42, s43, s44, s45, s46, s47, s48, s49, s50, s51, s52, (.slice s53b s53l s53c), (.int .i64 s54), (.int .i64 s55), s56, s57, s58, s59, s60, s61, s62] H = f50_R0 s0 s1 s2 s3 s4 s5 s6 s7 s8 s9 s10 s11 s12 s13 s14 s15 s16 s17 s18 s19 s20 s21 s22 s23 s24 s25 s26 s27 s28 s29 s30 s31 s32 s33 s34 s35 s36 s37 s38 s39 s40 s41 s42 s43 s44 s45 s46 s47 s48 s49 s50 s51 s52 s53b s53l s53c s54 s55 s56 s57 s58 s59 s60 s61 s62 H K0 R := by kernel_rfl
def f50_I0 (s0 : Option Addr) (s1 s2 s3 s4 s6 s7 s8 s9 s10 s11 s12 s13 s14 s15 s16 s17 s18 s19 s20 s21 s22 s23 s24 s25 s26 s27 s28 s29 s30 s31 s32 s33 s34 s35 s36 s37 s38 s39 s40 s41 s42 s43 s44 s45 s46 s47 s48 s49 s50 s51 s52 : Value) (s53b : Option Addr) (s53l s53c : Nat) (s54 : Int) (J : Nat → Int → AH → Prop) (n : Nat) (tm : List Value) (H : AH) : Prop := ∃ (s5 : Value) (s55 : Int) (s56 s57 s58 s59 s60 s61 s62 : Value), tm = [(.pointer s0), s1, s2, s3, s4, s5, s6, s7, s8, s9, s10, s11, s12, s13, s14, s15, s16, s17, s18, s19, s20, s21, s22, s23, s24, s25, s26, s27, s28, s29, s30, s31, s32, s33, s34, s35, s36, s37, s38, s39, s40, s41, s42, s43, s44, s45, s46, s47, s48, s49, s50, s51, s52, (.slice s53b s53l s53c), (.int .i64 s54), (.int .i64 s55), s56, s57, s58, s59, s60, s61, s62] ∧ J n s55 H
theorem f50_I0_mk {s0 : Option Addr} {s1 : Value} {s2 : Value} {s3 : Value} {s4 : Value} {s5 : Value} {s6 : Value} {s7 : Value} {s8 : Value} {s9 : Value} {s10 : Value} {s11 : Value} {s12 : Value} {s13 : Value} {s14 : Value} {s15 : Value} {s16 : Value} {s17 : Value} {s18 : Value} {s19 : Value} {s20 : Value} {s21 : Value} {s22 : Value} {s23 : Value} {s24 : Value} {s25 : Value} {s26 : Value} {s27 : Value} {s28 : Value} {s29 : Value} {s30 : Value} {s31 : Value} {s32 : Value} {s33 : Value} {s34 : Value} {s35 : Value} {s36 : Value} {s37 : Value} {s38 : Value} {s39 : Value} {s40 : Value} {s41 : Value} {s42 : Value} {s43 : Value} {s44 : Value} {s45 : Value} {s46 : Value} {s47 : Value} {s48 : Value} {s49 : Value} {s50 : Value} {s51 : Value} {s52 : Value} {s53b : Option Addr} {s53l : Nat} {s53c : Nat} {s54 : Int} {s55 : Int} {s56 : Value} {s57 : Value} {s58 : Value} {s59 : Value} {s60 : Value} {s61 : Value} {s62 : Value} {J : Nat → Int → AH → Prop} {n : Nat} {H : AH} (h : J n s55 H) : f50_I0 s0 s1 s2 s3 s4 s6 s7 s8 s9 s10 s11 s12 s13 s14 s15 s16 s17 s18 s19 s20 s21 s22 s23 s24 s25 s26 s27 s28 s29 s30 s31 s32 s33 s34 s35 s36 s37 s38 s39 s40 s41 s42 s43 s44 s45 s46 s47 s48 s49 s50 s51 s52 s53b s53l s53c s54 J n [(.pointer s0), s1, s2, s3, s4, s5, s6, s7, s8, s9, s10, s11, s12, s13, s14, s15, s16, s17, s18, s19, s20, s21, s22, s23, s24, s25, s26, s27, s28, s29, s30, s31, s32, s33, s34, s35, s36, s37, s38, s39, s40, s41, s42, s43, s44, s45, s46, s47, s48, s49, s50, s51, s52, (.slice s53b s53l s53c), (.int .i64 s54), (.int .i64 s55), s56, s57, s58, s59, s60, s61, s62] H := ⟨_, _, _, _, _, _, _, _, _, rfl, h⟩
-- loop 0: carried 55:
theorem f50_L0_rule {s0 : Option Addr} {s1 : Value} {s2 : Value} {s3 : Value} {s4 : Value} {s5 : Value} {s6 : Value} {s7 : Value} {s8 : Value} {s9 : Value} {s10 : Value} {s11 : Value} {s12 : Value} {s13 : Value} {s14 : Value} {s15 : Value} {s16 : Value} {s17 : Value} {s18 : Value} {s19 : Value} {s20 : Value} {s21 : Value} {s22 : Value} {s23 : Value} {s24 : Value} {s25 : Value} {s26 : Value} {s27 : Value} {s28 : Value} {s29 : Value} {s30 : Value} {s31 : Value} {s32 : Value} {s33 : Value} {s34 : Value} {s35 : Value} {s36 : Value} {s37 : Value} {s38 : Value} {s39 : Value} {s40 : Value} {s41 : Value} {s42 : Value} {s43 : Value} {s44 : Value} {s45 : Value} {s46 : Value} {s47 : Value} {s48 : Value} {s49 : Value} {s50 : Value} {s51 : Value} {s52 : Value} {s53b : Option Addr} {s53l : Nat} {s53c : Nat} {s54 : Int} {s55 : Int} {s56 : Value} {s57 : Value} {s58 : Value} {s59 : Value} {s60 : Value} {s61 : Value} {s62 : Value} {H : AH} {R : AEnd → AH → Prop} (J : Nat → Int → AH → Prop) (n : Nat) (h0 : J n s55 H)
  (step : ∀ (n : Nat) (s55 : Int) (H : AH), J n s55 H → ∀ (s5 s56 s57 s58 s59 s60 s61 s62 : Value), f50_R0 s0 s1 s2 s3 s4 s5 s6 s7 s8 s9 s10 s11 s12 s13 s14 s15 s16 s17 s18 s19 s20 s21 s22 s23 s24 s25 s26 s27 s28 s29 s30 s31 s32 s33 s34 s35 s36 s37 s38 s39 s40 s41 s42 s43 s44 s45 s46 s47 s48 s49 s50 s51 s52 s53b s53l s53c s54 s55 s56 s57 s58 s59 s60 s61 s62 H (fun tm H => ∃ m, m < n ∧ f50_I0 s0 s1 s2 s3 s4 s6 s7 s8 s9 s10 s11 s12 s13 s14 s15 s16 s17 s18 s19 s20 s21 s22 s23 s24 s25 s26 s27 s28 s29 s30 s31 s32 s33 s34 s35 s36 s37 s38 s39 s40 s41 s42 s43 s44 s45 s46 s47 s48 s49 s50 s51 s52 s53b s53l s53c s54 J m tm H) R) : f50_L0 R [(.pointer s0), s1, s2, s3, s4, s5, s6, s7, s8, s9, s10, s11, s12, s13, s14, s15, s16, s17, s18, s19, s20, s21, s22, s23, s24, s25, s26, s27, s28, s29, s30, s31, s32, s33, s34, s35, s36, s37, s38, s39, s40, s41, s42, s43, s44, s45, s46, s47, s48, s49, s50, s51, s52, (.slice s53b s53l s53c), (.int .i64 s54), (.int .i64 s55), s56, s57, s58, s59, s60, s61, s62] H :=
  awpF_loop (f50_I0 s0 s1 s2 s3 s4 s6 s7 s8 s9 s10 s11 s12 s13 s14 s15 s16 s17 s18 s19 s20 s21 s22 s23 s24 s25 s26 s27 s28 s29 s30 s31 s32 s33 s34 s35 s36 s37 s38 s39 s40 s41 s42 s43 s44 s45 s46 s47 s48 s49 s50 s51 s52 s53b s53l s53c s54 J) n (f50_I0_mk h0) (by
    intro n tm H hh
    exact Exists.elim hh fun s5 hh => Exists.elim hh fun s55 hh => Exists.elim hh fun s56 hh => Exists.elim hh fun s57 hh => Exists.elim hh fun s58 hh => Exists.elim hh fun s59 hh => Exists.elim hh fun s60 hh => Exists.elim hh fun s61 hh => Exists.elim hh fun s62 hh => And.elim (fun e h =>
     (by subst e; exact Eq.mpr (f50_R0_eq s0 s1 s2 s3 s4 s5 s6 s7 s8 s9 s10 s11 s12 s13 s14 s15 s16 s17 s18 s19 s20 s21 s22 s23 s24 s25 s26 s27 s28 s29 s30 s31 s32 s33 s34 s35 s36 s37 s38 s39 s40 s41 s42 s43 s44 s45 s46 s47 s48 s49 s50 s51 s52 s53b s53l s53c s54 s55 s56 s57 s58 s59 s60 s61 s62 H _ R) (step n s55 H h s5 s56 s57 s58 s59 s60 s61 s62))) hh)
def f50_B (x0 : Option Addr) (x1_0 x1_1 : Int) (x1_2 : ByteArray) (x1_3b : Option Addr) (x1_3l x1_3c : Nat) (H : AH) (R : AEnd → AH → Prop) : Prop :=
 wNew [(.int .i64 x1_0), (.int .i64 x1_1), (.string x1_2), (.slice x1_3b x1_3l x1_3c)] H fun i62 H63 =>
 ldI .i64 i62 0 H63 fun n64 =>
 ldI .i64 i62 1 H63 fun n65 =>
 ldS i62 2 H63 fun t66 =>
 ldL i62 3 H63 fun z67b z67l z67c =>
 wCall Try.prog 93 [(.agg #[(.int .i64 n64), (.int .i64 n65), (.string t66), (.slice z67b z67l z67c)])] H63 (fun r68 H69 =>
 opB r68 fun b72 =>
 wCall Try.prog 92 [(.pointer x0), (.bool b72)] H69 (fun r73 H74 =>
 wPt x0 fun i77 k78 =>
 ldI .i64 i62 0 H74 fun n79 =>
 wCall Try.prog 94 [(.pointer (some ⟨i77, k78, none⟩)), (.int .u8 (IntKind.u8.wrap n79))] H74 (fun r80 H81 =>
 opV r80 fun v84 =>
 wPin i62 0 [(.int .i64 n79)] H81 <|
 f50_J0 R [(.pointer x0), (.agg #[(.int .i64 x1_0), (.int .i64 x1_1), (.string x1_2), (.slice x1_3b x1_3l x1_3c)]), undef, (.pointer (some ⟨i62, 0, none⟩)), undef, undef, (.pointer x0), (.agg #[(.int .i64 n64), (.int .i64 n65), (.string t66), (.slice z67b z67l z67c)]), (.bool b72), r73, (.pointer x0), (.pointer (some ⟨i77, k78, none⟩)), (.pointer (some ⟨i77, k78, none⟩)), (.pointer (some ⟨i62, 0, none⟩)), (.int .i64 n79), (.int .u8 (IntKind.u8.wrap n79)), v84, undef, undef, undef, undef, undef, undef, undef, undef, undef, undef, undef, undef, undef, undef, undef, undef, undef, undef, undef, undef, undef, undef, undef, undef, undef, undef, undef, undef, undef, undef, undef, undef, undef, undef, undef, undef, undef, undef, undef, undef, undef, undef, undef, undef, undef, undef] H81) (fun v83 H82 => R (.panic v83) H82)) (fun v76 H75 => R (.panic v76) H75)) (fun v71 H70 => R (.panic v71) H70)
theorem f50_eq (x0 : Option Addr) (x1_0 x1_1 : Int) (x1_2 : ByteArray) (x1_3b : Option Addr) (x1_3l x1_3c : Nat) (H : AH) (R : AEnd → AH → Prop) : awpF Try.prog f50_c (aPost Try.prog Try.f50 R) (([(.pointer x0), (.agg #[(.int .i64 x1_0), (.int .i64 x1_1), (.string x1_2), (.slice x1_3b x1_3l x1_3c)])] : List Value) ++ List.replicate (Try.f50.ntmps - (([(.pointer x0), (.agg #[(.int .i64 x1_0), (.int .i64 x1_1), (.string x1_2), (.slice x1_3b x1_3l x1_3c)])] : List Value)).length) undef) H = f50_B x0 x1_0 x1_1 x1_2 x1_3b x1_3l x1_3c H R := by kernel_rfl
theorem f50_call (x0 : Option Addr) (x1_0 x1_1 : Int) (x1_2 : ByteArray) (x1_3b : Option Addr) (x1_3l x1_3c : Nat) (H : AH) (R : AEnd → AH → Prop) (h : f50_B x0 x1_0 x1_1 x1_2 x1_3b x1_3l x1_3c H R) : ACall Try.prog 50 ([(.pointer x0), (.agg #[(.int .i64 x1_0), (.int .i64 x1_1), (.string x1_2), (.slice x1_3b x1_3l x1_3c)])] : List Value) H R :=
  acall_of mixed Try.func50 (by kernel_rfl : Try.f50.body = some f50_c) (by kernel_rfl) (by kernel_rfl) (awp_of (Eq.mpr (f50_eq x0 x1_0 x1_1 x1_2 x1_3b x1_3l x1_3c H R) h))

/-! f102: (*switchyard/code.writer).row -/
-- loop 0: carried 12:
/-! f52: (*switchyard/code.writer).mail -/
/-! f67: (*switchyard/code.writer).item -/
-- join 0: live 0:w, 3:x
-- loop 0: carried 36:
-- loop 1: carried 52:
/-! f75: (*switchyard/code.writer).dead -/
/-! f77: (*switchyard/code.writer).event -/
/-! f79: (*switchyard/code.writer).sub -/
end Go.Proofs.Ytfghglacfjncmaa
