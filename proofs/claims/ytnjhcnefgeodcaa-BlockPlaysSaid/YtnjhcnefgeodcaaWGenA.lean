/- Bodies of functions as nested rules: printed by genw.py, a program of this claim. -/
import Derived.Test.YtnjhcnefgeodcaaWTy
namespace Go.Proofs.Ytnjhcnefgeodcaa
open Go.RowKit
set_option linter.unusedVariables false
set_option maxRecDepth 100000

/-! f8: switchyard/switchyardlaw03.awake -/
noncomputable def f8_c : Code := Try.f8.body.getD .skip
noncomputable def f8_X0 (R : AEnd → AH → Prop) : AExit → List Value → AH → Prop := thenF (fun tm H => hold (awpF Try.prog (codeAt f8_c [1, 1, 1]) (aPost Try.prog Try.f8 R) tm H)) (aPost Try.prog Try.f8 R)
noncomputable def f8_X1 (R : AEnd → AH → Prop) : AExit → List Value → AH → Prop := inBlockF 0 (f8_X0 R)
noncomputable def f8_Q0 (R : AEnd → AH → Prop) : AExit → List Value → AH → Prop := (f8_X1 R)
def f8_L0 (R : AEnd → AH → Prop) (tm : List Value) (H : AH) : Prop := awpF Try.prog (codeAt f8_c [1, 1, 0, 1, 0]) (f8_Q0 R) tm H
noncomputable def f8_X2 (K0 : List Value → AH → Prop) (R : AEnd → AH → Prop) : AExit → List Value → AH → Prop := thenF (fun tm H => hold (awpF Try.prog (codeAt f8_c [1, 1, 0, 1, 0, 0, 1, 1, 1]) (thenF K0 (f8_Q0 R)) tm H)) (thenF K0 (f8_Q0 R))
noncomputable def f8_X3 (K0 : List Value → AH → Prop) (R : AEnd → AH → Prop) : AExit → List Value → AH → Prop := inBlockF 1 (f8_X2 K0 R)
def f8_J0 (K0 : List Value → AH → Prop) (R : AEnd → AH → Prop) (tm : List Value) (H : AH) : Prop := hold (awpF Try.prog (codeAt f8_c [1, 1, 0, 1, 0, 0, 1, 1, 0, 0, 1, 1]) ((f8_X3 K0 R)) tm H)
def f8_J1 (R : AEnd → AH → Prop) (tm : List Value) (H : AH) : Prop := hold (awpF Try.prog (codeAt f8_c [1, 1, 1]) ((aPost Try.prog Try.f8 R)) tm H)
-- join 1: live 1:a, 2:b
def f8_J1_B (s1 : Option Addr) (s2 : Option Addr) (H : AH) (R : AEnd → AH → Prop) : Prop :=
 wCall Try.prog 20 [(.pointer s1), (.agg #[(.int .u64 1), (.int .i64 (-1)), (.int .i64 0)])] H (fun r1 H2 =>
 wCall Try.prog 20 [(.pointer s2), (.agg #[(.int .u64 0), (.int .i64 1), (.int .i64 3)])] H2 (fun r5 H6 =>
 wCall Try.prog 17 [(.pointer s1), (.int .i64 0)] H6 (fun r9 H10 =>
 opT 2 r9 fun l13 =>
 opS (l13.headD undef) fun t14 =>
 opI .i64 (l13.tail.headD undef) fun n15 =>
 wCall Try.prog 17 [(.pointer s2), (.int .i64 0)] H10 (fun r16 H17 =>
 opT 2 r16 fun l20 =>
 opS (l20.headD undef) fun t21 =>
 opI .i64 (l20.tail.headD undef) fun n22 =>
 wCall Try.prog 13 [(.string ({ data := #[120, 120, 120, 120, 120] }))] H17 (fun r23 H24 =>
 opS r23 fun t27 =>
 wIf (decide (t14 = t27))
 (wCall Try.prog 13 [(.string ({ data := #[121, 121, 121] }))] H24 (fun r28 H29 =>
 opS r28 fun t32 =>
 wIf (decide (t21 = t32))
 (wCall Try.prog 18 [(.pointer s1)] H29 (fun r33 H34 =>
 opI .i64 r33 fun n37 =>
 R (.ret (.bool (decide (n37 = 2)))) H34) (fun v36 H35 => R (.panic v36) H35))
 (R (.ret (.bool false)) H29)) (fun v31 H30 => R (.panic v31) H30))
 (R (.ret (.bool false)) H24)) (fun v26 H25 => R (.panic v26) H25)) (fun v19 H18 => R (.panic v19) H18)) (fun v12 H11 => R (.panic v12) H11)) (fun v8 H7 => R (.panic v8) H7)) (fun v4 H3 => R (.panic v4) H3)
theorem f8_J1_eq (s0 : Value) (s1 : Option Addr) (s2 : Option Addr) (s3 : Value) (s4 : Value) (s5 : Value) (s6 : Value) (s7 : Value) (s8 : Value) (s9 : Value) (s10 : Value) (s11 : Value) (s12 : Value) (s13 : Value) (s14 : Value) (s15 : Value) (s16 : Value) (s17 : Value) (s18 : Value) (s19 : Value) (s20 : Value) (s21 : Value) (s22 : Value) (s23 : Value) (s24 : Value) (s25 : Value) (s26 : Value) (s27 : Value) (s28 : Value) (s29 : Value) (s30 : Value) (s31 : Value) (s32 : Value) (s33 : Value) (s34 : Value) (s35 : Value) (s36 : Value) (s37 : Value) (s38 : Value) (s39 : Value) (s40 : Value) (s41 : Value) (s42 : Value) (s43 : Value) (s44 : Value) (s45 : Value) (s46 : Value) (s47 : Value) (s48 : Value) (s49 : Value) (s50 : Value) (s51 : Value) (s52 : Value) (s53 : Value) (s54 : Value) (s55 : Value) (s56 : Value) (s57 : Value) (s58 : Value) (H : AH) (R : AEnd → AH → Prop) : f8_J1 R [s0, (.pointer s1), (.pointer s2), s3, s4, s5, s6, s7, s8, s9, s10, s11, s12, s13, s14, s15, s16, s17, s18, s19, s20, s21, s22, s23, s24, s25, s26, s27, s28, s29, s30, s31, s32, s33, s34, s35, s36, s37, s38, s39, s40, s41, s42, s43, s44, s45, s46, s47, s48, s49, s50, s51, s52, s53, s54, s55, s56, s57, s58] H = f8_J1_B s1 s2 H R := by kernel_rfl
-- join 0: live 1:a, 2:b, 13:, 14:, 15:, 28:
def f8_J0_B (s0 : Value) (s1 : Option Addr) (s2 : Option Addr) (s3 : Value) (s4 : Value) (s5 : Value) (s6 : Value) (s7 : Value) (s8 : Value) (s9 : Value) (s10 : Value) (s11 : Value) (s12 : Value) (s13b : Option Addr) (s13l : Nat) (s13c : Nat) (s14 : Int) (s15 : Int) (s16 : Value) (s17 : Value) (s18 : Value) (s19 : Value) (s20 : Value) (s21 : Value) (s22 : Value) (s23 : Value) (s24 : Value) (s25 : Value) (s26 : Value) (s27 : Value) (s28 : Bool) (s30 : Value) (s31 : Value) (s32 : Value) (s33 : Value) (s34 : Value) (s35 : Value) (s36 : Value) (s37 : Value) (s38 : Value) (s39 : Value) (s40 : Value) (s41 : Value) (s42 : Value) (s43 : Value) (s44 : Value) (s45 : Value) (s46 : Value) (s47 : Value) (s48 : Value) (s49 : Value) (s50 : Value) (s51 : Value) (s52 : Value) (s53 : Value) (s54 : Value) (s55 : Value) (s56 : Value) (s57 : Value) (s58 : Value) (H : AH) (K0 : List Value → AH → Prop) (R : AEnd → AH → Prop) : Prop :=
 wIf s28
 (R (.ret (.bool false)) H)
 (K0 [s0, (.pointer s1), (.pointer s2), s3, s4, s5, s6, s7, s8, s9, s10, s11, s12, (.slice s13b s13l s13c), (.int .i64 s14), (.int .i64 (IntKind.i64.wrap (s15 + 1))), s16, s17, s18, s19, s20, s21, s22, s23, s24, s25, s26, s27, (.bool false), (.int .i64 (IntKind.i64.wrap (s15 + 1))), s30, s31, s32, s33, s34, s35, s36, s37, s38, s39, s40, s41, s42, s43, s44, s45, s46, s47, s48, s49, s50, s51, s52, s53, s54, s55, s56, s57, s58] H)
theorem f8_J0_eq (s0 : Value) (s1 : Option Addr) (s2 : Option Addr) (s3 : Value) (s4 : Value) (s5 : Value) (s6 : Value) (s7 : Value) (s8 : Value) (s9 : Value) (s10 : Value) (s11 : Value) (s12 : Value) (s13b : Option Addr) (s13l : Nat) (s13c : Nat) (s14 : Int) (s15 : Int) (s16 : Value) (s17 : Value) (s18 : Value) (s19 : Value) (s20 : Value) (s21 : Value) (s22 : Value) (s23 : Value) (s24 : Value) (s25 : Value) (s26 : Value) (s27 : Value) (s28 : Bool) (s29 : Value) (s30 : Value) (s31 : Value) (s32 : Value) (s33 : Value) (s34 : Value) (s35 : Value) (s36 : Value) (s37 : Value) (s38 : Value) (s39 : Value) (s40 : Value) (s41 : Value) (s42 : Value) (s43 : Value) (s44 : Value) (s45 : Value) (s46 : Value) (s47 : Value) (s48 : Value) (s49 : Value) (s50 : Value) (s51 : Value) (s52 : Value) (s53 : Value) (s54 : Value) (s55 : Value) (s56 : Value) (s57 : Value) (s58 : Value) (H : AH) (K0 : List Value → AH → Prop) (R : AEnd → AH → Prop) : f8_J0 K0 R [s0, (.pointer s1), (.pointer s2), s3, s4, s5, s6, s7, s8, s9, s10, s11, s12, (.slice s13b s13l s13c), (.int .i64 s14), (.int .i64 s15), s16, s17, s18, s19, s20, s21, s22, s23, s24, s25, s26, s27, (.bool s28), s29, s30, s31, s32, s33, s34, s35, s36, s37, s38, s39, s40, s41, s42, s43, s44, s45, s46, s47, s48, s49, s50, s51, s52, s53, s54, s55, s56, s57, s58] H = f8_J0_B s0 s1 s2 s3 s4 s5 s6 s7 s8 s9 s10 s11 s12 s13b s13l s13c s14 s15 s16 s17 s18 s19 s20 s21 s22 s23 s24 s25 s26 s27 s28 s30 s31 s32 s33 s34 s35 s36 s37 s38 s39 s40 s41 s42 s43 s44 s45 s46 s47 s48 s49 s50 s51 s52 s53 s54 s55 s56 s57 s58 H K0 R := by kernel_rfl
def f8_R0 (s0 : Value) (s1 : Option Addr) (s2 : Option Addr) (s3 : Value) (s4 : Value) (s5 : Value) (s6 : Value) (s7 : Value) (s8 : Value) (s9 : Value) (s10 : Value) (s11 : Value) (s12 : Value) (s13b : Option Addr) (s13l : Nat) (s13c : Nat) (s14 : Int) (s15 : Int) (s16 : Value) (s17 : Value) (s18 : Value) (s19 : Value) (s20 : Value) (s21 : Value) (s22 : Value) (s23 : Value) (s24 : Value) (s25 : Value) (s26 : Value) (s27 : Value) (s28 : Value) (s29 : Value) (s30 : Value) (s31 : Value) (s32 : Value) (s33 : Value) (s34 : Value) (s35 : Value) (s36 : Value) (s37 : Value) (s38 : Value) (s39 : Value) (s40 : Value) (s41 : Value) (s42 : Value) (s43 : Value) (s44 : Value) (s45 : Value) (s46 : Value) (s47 : Value) (s48 : Value) (s49 : Value) (s50 : Value) (s51 : Value) (s52 : Value) (s53 : Value) (s54 : Value) (s55 : Value) (s56 : Value) (s57 : Value) (s58 : Value) (H : AH) (K0 : List Value → AH → Prop) (R : AEnd → AH → Prop) : Prop :=
 wIf (decide (s15 < s14))
 (wIx s13b s13l 1 s15 fun i38 k39 =>
 ldP i38 k39 H fun a40 =>
 wCall Try.prog 13 [(.string ({ data := #[120, 120, 120, 120, 120] }))] H (fun r41 H42 =>
 opS r41 fun t45 =>
 wCall Try.prog 12 [(.pointer a40), (.int .i64 0), (.string t45)] H42 (fun r46 H47 =>
 opI .i64 r46 fun n50 =>
 wIf (!decide (n50 = 0))
 (f8_J0 K0 R [s0, (.pointer s1), (.pointer s2), s3, (.pointer a40), s5, s6, s7, s8, s9, s10, s11, s12, (.slice s13b s13l s13c), (.int .i64 s14), (.int .i64 s15), (.bool true), (.pointer (some ⟨i38, k39, none⟩)), (.pointer a40), (.pointer a40), (.string t45), (.int .i64 n50), (.bool (!decide (n50 = 0))), (.bool true), undef, undef, undef, undef, (.bool true), s29, s30, s31, s32, s33, s34, s35, s36, s37, s38, s39, s40, s41, s42, s43, s44, s45, s46, s47, s48, s49, s50, s51, s52, s53, s54, s55, s56, s57, s58] H47)
 (wCall Try.prog 13 [(.string ({ data := #[121, 121, 121, 121, 121] }))] H47 (fun r51 H52 =>
 opS r51 fun t55 =>
 wCall Try.prog 12 [(.pointer a40), (.int .i64 0), (.string t55)] H52 (fun r56 H57 =>
 opI .i64 r56 fun n60 =>
 f8_J0 K0 R [s0, (.pointer s1), (.pointer s2), s3, (.pointer a40), s5, s6, s7, s8, s9, s10, s11, s12, (.slice s13b s13l s13c), (.int .i64 s14), (.int .i64 s15), (.bool true), (.pointer (some ⟨i38, k39, none⟩)), (.pointer a40), (.pointer a40), (.string t45), (.int .i64 n50), (.bool (!decide (n50 = 0))), (.bool false), (.pointer a40), (.string t55), (.int .i64 n60), (.bool (!decide (n60 = 0))), (.bool (!decide (n60 = 0))), s29, s30, s31, s32, s33, s34, s35, s36, s37, s38, s39, s40, s41, s42, s43, s44, s45, s46, s47, s48, s49, s50, s51, s52, s53, s54, s55, s56, s57, s58] H57) (fun v59 H58 => R (.panic v59) H58)) (fun v54 H53 => R (.panic v54) H53))) (fun v49 H48 => R (.panic v49) H48)) (fun v44 H43 => R (.panic v44) H43))
 (f8_J1 R [s0, (.pointer s1), (.pointer s2), s3, s4, s5, s6, s7, s8, s9, s10, s11, s12, (.slice s13b s13l s13c), (.int .i64 s14), (.int .i64 s15), (.bool false), s17, s18, s19, s20, s21, s22, s23, s24, s25, s26, s27, s28, s29, s30, s31, s32, s33, s34, s35, s36, s37, s38, s39, s40, s41, s42, s43, s44, s45, s46, s47, s48, s49, s50, s51, s52, s53, s54, s55, s56, s57, s58] H)
theorem f8_R0_eq (s0 : Value) (s1 : Option Addr) (s2 : Option Addr) (s3 : Value) (s4 : Value) (s5 : Value) (s6 : Value) (s7 : Value) (s8 : Value) (s9 : Value) (s10 : Value) (s11 : Value) (s12 : Value) (s13b : Option Addr) (s13l : Nat) (s13c : Nat) (s14 : Int) (s15 : Int) (s16 : Value) (s17 : Value) (s18 : Value) (s19 : Value) (s20 : Value) (s21 : Value) (s22 : Value) (s23 : Value) (s24 : Value) (s25 : Value) (s26 : Value) (s27 : Value) (s28 : Value) (s29 : Value) (s30 : Value) (s31 : Value) (s32 : Value) (s33 : Value) (s34 : Value) (s35 : Value) (s36 : Value) (s37 : Value) (s38 : Value) (s39 : Value) (s40 : Value) (s41 : Value) (s42 : Value) (s43 : Value) (s44 : Value) (s45 : Value) (s46 : Value) (s47 : Value) (s48 : Value) (s49 : Value) (s50 : Value) (s51 : Value) (s52 : Value) (s53 : Value) (s54 : Value) (s55 : Value) (s56 : Value) (s57 : Value) (s58 : Value) (H : AH) (K0 : List Value → AH → Prop) (R : AEnd → AH → Prop) : awpF Try.prog (codeAt f8_c [1, 1, 0, 1, 0, 0]) (thenF K0 (f8_Q0 R)) [s0, (.pointer s1), (.pointer s2), s3, s4, s5, s6, s7, s8, s9, s10, s11, s12, (.slice s13b s13l s13c), (.int .i64 s14), (.int .i64 s15), s16, s17, s18, s19, s20, s21, s22, s23, s24, s25, s26, s27, s28, s29, s30, s31, s32, s33, s34, s35, s36, s37, s38, s39, s40, s41, s42, s43, s44, s45, s46, s47, s48, s49, s50, s51, s52, s53, s54, s55, s56, s57, s58] H = f8_R0 s0 s1 s2 s3 s4 s5 s6 s7 s8 s9 s10 s11 s12 s13b s13l s13c s14 s15 s16 s17 s18 s19 s20 s21 s22 s23 s24 s25 s26 s27 s28 s29 s30 s31 s32 s33 s34 s35 s36 s37 s38 s39 s40 s41 s42 s43 s44 s45 s46 s47 s48 s49 s50 s51 s52 s53 s54 s55 s56 s57 s58 H K0 R := by kernel_rfl
def f8_I0 (s1 : Option Addr) (s2 : Option Addr) (s3 : Value) (s5 : Value) (s6 : Value) (s7 : Value) (s8 : Value) (s9 : Value) (s10 : Value) (s11 : Value) (s12 : Value) (s13b : Option Addr) (s13l : Nat) (s13c : Nat) (s14 : Int) (s30 : Value) (s31 : Value) (s32 : Value) (s33 : Value) (s34 : Value) (s35 : Value) (s36 : Value) (s37 : Value) (s38 : Value) (s39 : Value) (s40 : Value) (s41 : Value) (s42 : Value) (s43 : Value) (s44 : Value) (s45 : Value) (s46 : Value) (s47 : Value) (s48 : Value) (s49 : Value) (s50 : Value) (s51 : Value) (s52 : Value) (s53 : Value) (s54 : Value) (s55 : Value) (s56 : Value) (s57 : Value) (s58 : Value) (J : Nat → Int → AH → Prop) (n : Nat) (tm : List Value) (H : AH) : Prop := ∃ (s0 : Value) (s4 : Value) (s15 : Int) (s16 : Value) (s17 : Value) (s18 : Value) (s19 : Value) (s20 : Value) (s21 : Value) (s22 : Value) (s23 : Value) (s24 : Value) (s25 : Value) (s26 : Value) (s27 : Value) (s28 : Value) (s29 : Value), tm = [s0, (.pointer s1), (.pointer s2), s3, s4, s5, s6, s7, s8, s9, s10, s11, s12, (.slice s13b s13l s13c), (.int .i64 s14), (.int .i64 s15), s16, s17, s18, s19, s20, s21, s22, s23, s24, s25, s26, s27, s28, s29, s30, s31, s32, s33, s34, s35, s36, s37, s38, s39, s40, s41, s42, s43, s44, s45, s46, s47, s48, s49, s50, s51, s52, s53, s54, s55, s56, s57, s58] ∧ J n s15 H
theorem f8_I0_mk {s0 : Value} {s1 : Option Addr} {s2 : Option Addr} {s3 : Value} {s4 : Value} {s5 : Value} {s6 : Value} {s7 : Value} {s8 : Value} {s9 : Value} {s10 : Value} {s11 : Value} {s12 : Value} {s13b : Option Addr} {s13l : Nat} {s13c : Nat} {s14 : Int} {s15 : Int} {s16 : Value} {s17 : Value} {s18 : Value} {s19 : Value} {s20 : Value} {s21 : Value} {s22 : Value} {s23 : Value} {s24 : Value} {s25 : Value} {s26 : Value} {s27 : Value} {s28 : Value} {s29 : Value} {s30 : Value} {s31 : Value} {s32 : Value} {s33 : Value} {s34 : Value} {s35 : Value} {s36 : Value} {s37 : Value} {s38 : Value} {s39 : Value} {s40 : Value} {s41 : Value} {s42 : Value} {s43 : Value} {s44 : Value} {s45 : Value} {s46 : Value} {s47 : Value} {s48 : Value} {s49 : Value} {s50 : Value} {s51 : Value} {s52 : Value} {s53 : Value} {s54 : Value} {s55 : Value} {s56 : Value} {s57 : Value} {s58 : Value} {J : Nat → Int → AH → Prop} {n : Nat} {H : AH} (h : J n s15 H) : f8_I0 s1 s2 s3 s5 s6 s7 s8 s9 s10 s11 s12 s13b s13l s13c s14 s30 s31 s32 s33 s34 s35 s36 s37 s38 s39 s40 s41 s42 s43 s44 s45 s46 s47 s48 s49 s50 s51 s52 s53 s54 s55 s56 s57 s58 J n [s0, (.pointer s1), (.pointer s2), s3, s4, s5, s6, s7, s8, s9, s10, s11, s12, (.slice s13b s13l s13c), (.int .i64 s14), (.int .i64 s15), s16, s17, s18, s19, s20, s21, s22, s23, s24, s25, s26, s27, s28, s29, s30, s31, s32, s33, s34, s35, s36, s37, s38, s39, s40, s41, s42, s43, s44, s45, s46, s47, s48, s49, s50, s51, s52, s53, s54, s55, s56, s57, s58] H := ⟨_, _, _, _, _, _, _, _, _, _, _, _, _, _, _, _, _, rfl, h⟩
-- loop 0: carried 15:
theorem f8_L0_rule {s0 : Value} {s1 : Option Addr} {s2 : Option Addr} {s3 : Value} {s4 : Value} {s5 : Value} {s6 : Value} {s7 : Value} {s8 : Value} {s9 : Value} {s10 : Value} {s11 : Value} {s12 : Value} {s13b : Option Addr} {s13l : Nat} {s13c : Nat} {s14 : Int} {s15 : Int} {s16 : Value} {s17 : Value} {s18 : Value} {s19 : Value} {s20 : Value} {s21 : Value} {s22 : Value} {s23 : Value} {s24 : Value} {s25 : Value} {s26 : Value} {s27 : Value} {s28 : Value} {s29 : Value} {s30 : Value} {s31 : Value} {s32 : Value} {s33 : Value} {s34 : Value} {s35 : Value} {s36 : Value} {s37 : Value} {s38 : Value} {s39 : Value} {s40 : Value} {s41 : Value} {s42 : Value} {s43 : Value} {s44 : Value} {s45 : Value} {s46 : Value} {s47 : Value} {s48 : Value} {s49 : Value} {s50 : Value} {s51 : Value} {s52 : Value} {s53 : Value} {s54 : Value} {s55 : Value} {s56 : Value} {s57 : Value} {s58 : Value} {H : AH} {R : AEnd → AH → Prop} (J : Nat → Int → AH → Prop) (n : Nat) (h0 : J n s15 H)
  (step : ∀ (n : Nat) (s15 : Int) (H : AH), J n s15 H → ∀ (s0 : Value) (s4 : Value) (s16 : Value) (s17 : Value) (s18 : Value) (s19 : Value) (s20 : Value) (s21 : Value) (s22 : Value) (s23 : Value) (s24 : Value) (s25 : Value) (s26 : Value) (s27 : Value) (s28 : Value) (s29 : Value), f8_R0 s0 s1 s2 s3 s4 s5 s6 s7 s8 s9 s10 s11 s12 s13b s13l s13c s14 s15 s16 s17 s18 s19 s20 s21 s22 s23 s24 s25 s26 s27 s28 s29 s30 s31 s32 s33 s34 s35 s36 s37 s38 s39 s40 s41 s42 s43 s44 s45 s46 s47 s48 s49 s50 s51 s52 s53 s54 s55 s56 s57 s58 H (fun tm H => ∃ m, m < n ∧ f8_I0 s1 s2 s3 s5 s6 s7 s8 s9 s10 s11 s12 s13b s13l s13c s14 s30 s31 s32 s33 s34 s35 s36 s37 s38 s39 s40 s41 s42 s43 s44 s45 s46 s47 s48 s49 s50 s51 s52 s53 s54 s55 s56 s57 s58 J m tm H) R) : f8_L0 R [s0, (.pointer s1), (.pointer s2), s3, s4, s5, s6, s7, s8, s9, s10, s11, s12, (.slice s13b s13l s13c), (.int .i64 s14), (.int .i64 s15), s16, s17, s18, s19, s20, s21, s22, s23, s24, s25, s26, s27, s28, s29, s30, s31, s32, s33, s34, s35, s36, s37, s38, s39, s40, s41, s42, s43, s44, s45, s46, s47, s48, s49, s50, s51, s52, s53, s54, s55, s56, s57, s58] H :=
  awpF_loop (f8_I0 s1 s2 s3 s5 s6 s7 s8 s9 s10 s11 s12 s13b s13l s13c s14 s30 s31 s32 s33 s34 s35 s36 s37 s38 s39 s40 s41 s42 s43 s44 s45 s46 s47 s48 s49 s50 s51 s52 s53 s54 s55 s56 s57 s58 J) n (f8_I0_mk h0) (by
    intro n tm H hh
    exact Exists.elim hh fun s0 hh => Exists.elim hh fun s4 hh => Exists.elim hh fun s15 hh => Exists.elim hh fun s16 hh => Exists.elim hh fun s17 hh => Exists.elim hh fun s18 hh => Exists.elim hh fun s19 hh => Exists.elim hh fun s20 hh => Exists.elim hh fun s21 hh => Exists.elim hh fun s22 hh => Exists.elim hh fun s23 hh => Exists.elim hh fun s24 hh => Exists.elim hh fun s25 hh => Exists.elim hh fun s26 hh => Exists.elim hh fun s27 hh => Exists.elim hh fun s28 hh => Exists.elim hh fun s29 hh => And.elim (fun e h =>
     (by subst e; exact Eq.mpr (f8_R0_eq s0 s1 s2 s3 s4 s5 s6 s7 s8 s9 s10 s11 s12 s13b s13l s13c s14 s15 s16 s17 s18 s19 s20 s21 s22 s23 s24 s25 s26 s27 s28 s29 s30 s31 s32 s33 s34 s35 s36 s37 s38 s39 s40 s41 s42 s43 s44 s45 s46 s47 s48 s49 s50 s51 s52 s53 s54 s55 s56 s57 s58 H _ R) (step n s15 H h s0 s4 s16 s17 s18 s19 s20 s21 s22 s23 s24 s25 s26 s27 s28 s29))) hh)
def f8_B (H : AH) (R : AEnd → AH → Prop) : Prop :=
 wCall Try.prog 9 [(.int .i64 2)] H (fun r61 H62 =>
 opP r61 fun a65 =>
 wCall Try.prog 9 [(.int .i64 2)] H62 (fun r66 H67 =>
 opP r66 fun a70 =>
 wBs [(.pointer a65), (.pointer a70)] 1 H67 fun i71 H72 =>
 f8_L0 R [(.bool false), (.pointer a65), (.pointer a70), undef, undef, undef, undef, undef, undef, (.pointer a65), (.pointer a70), (.pointer a65), (.pointer a70), (.slice (some ⟨i71, 0, none⟩) 2 0), (.int .i64 (2 : Int)), (.int .i64 0), undef, undef, undef, undef, undef, undef, undef, undef, undef, undef, undef, undef, undef, undef, undef, undef, undef, undef, undef, undef, undef, undef, undef, undef, undef, undef, undef, undef, undef, undef, undef, undef, undef, undef, undef, undef, undef, undef, undef, undef, undef, undef, undef] H72) (fun v69 H68 => R (.panic v69) H68)) (fun v64 H63 => R (.panic v64) H63)
theorem f8_eq (H : AH) (R : AEnd → AH → Prop) : awpF Try.prog f8_c (aPost Try.prog Try.f8 R) (([] : List Value) ++ List.replicate (Try.f8.ntmps - (([] : List Value)).length) undef) H = f8_B H R := by kernel_rfl
theorem f8_call (H : AH) (R : AEnd → AH → Prop) (h : f8_B H R) : ACall Try.prog 8 ([] : List Value) H R :=
  acall_of mixed Try.func8 (by kernel_rfl : Try.f8.body = some f8_c) (by kernel_rfl) (by kernel_rfl) (awp_of (Eq.mpr (f8_eq H R) h))

/-! f9: switchyard/block.New -/
noncomputable def f9_c : Code := Try.f9.body.getD .skip
def f9_B (x0 : Int) (H : AH) (R : AEnd → AH → Prop) : Prop :=
 wMk [(.string ({ data := #[] }))] 1 16 (if 0 < (if 4096 < x0 then 4096 else x0) then (if 4096 < x0 then 4096 else x0) else 0) (if 0 < (if 4096 < x0 then 4096 else x0) then (if 4096 < x0 then 4096 else x0) else 0) H fun i1 H2 =>
 wNew [(.slice (some ⟨i1, 0, none⟩) (Int.toNat (if 0 < (if 4096 < x0 then 4096 else x0) then (if 4096 < x0 then 4096 else x0) else 0)) 0), (.slice none 0 0), (.bool false), (.int .i64 0), (.int .u64 0), (.int .i64 0), (.int .i64 0)] H2 fun i3 H4 =>
 wCall Try.prog 27 [(.pointer (some ⟨i3, 0, none⟩)), (.string ({ data := #[] }))] H4 (fun r5 H6 =>
 R (.ret (.pointer (some ⟨i3, 0, none⟩))) H6) (fun v8 H7 => R (.panic v8) H7)
theorem f9_eq (x0 : Int) (H : AH) (R : AEnd → AH → Prop) : awpF Try.prog f9_c (aPost Try.prog Try.f9 R) (([(.int .i64 x0)] : List Value) ++ List.replicate (Try.f9.ntmps - (([(.int .i64 x0)] : List Value)).length) undef) H = f9_B x0 H R := by kernel_rfl
theorem f9_call (x0 : Int) (H : AH) (R : AEnd → AH → Prop) (h : f9_B x0 H R) : ACall Try.prog 9 ([(.int .i64 x0)] : List Value) H R :=
  acall_of mixed Try.func9 (by kernel_rfl : Try.f9.body = some f9_c) (by kernel_rfl) (by kernel_rfl) (awp_of (Eq.mpr (f9_eq x0 H R) h))

/-! f10: (*switchyard/block.Device).Fuse -/
noncomputable def f10_c : Code := Try.f10.body.getD .skip
def f10_B (x0 : Option Addr) (x1 : Int) (x2_0 : Int) (x2_1 : Int) (x2_2 : Int) (H : AH) (R : AEnd → AH → Prop) : Prop :=
 wNew [(.int .u64 x2_0), (.int .i64 x2_1), (.int .i64 x2_2)] H fun i1 H2 =>
 wIf (!x0.isNone)
 (wPt x0 fun i3 k4 =>
 ldI .u64 i1 0 H2 fun n5 =>
 ldI .i64 i1 1 H2 fun n6 =>
 ldI .i64 i1 2 H2 fun n7 =>
 wSt i3 (k4 + 3) [(.int .i64 (if 0 < x1 then x1 else 0))] H2 fun H8 =>
 wPin i1 0 [(.int .u64 n5), (.int .i64 n6), (.int .i64 n7)] H8 <|
 wPt x0 fun i9 k10 =>
 wSt i9 (k10 + 4) [(.int .u64 n5), (.int .i64 n6), (.int .i64 n7)] H8 fun H11 =>
 R (.ret (.tuple #[])) H11)
 (R (.ret (.tuple #[])) H2)
theorem f10_eq (x0 : Option Addr) (x1 : Int) (x2_0 : Int) (x2_1 : Int) (x2_2 : Int) (H : AH) (R : AEnd → AH → Prop) : awpF Try.prog f10_c (aPost Try.prog Try.f10 R) (([(.pointer x0), (.int .i64 x1), (.agg #[(.int .u64 x2_0), (.int .i64 x2_1), (.int .i64 x2_2)])] : List Value) ++ List.replicate (Try.f10.ntmps - (([(.pointer x0), (.int .i64 x1), (.agg #[(.int .u64 x2_0), (.int .i64 x2_1), (.int .i64 x2_2)])] : List Value)).length) undef) H = f10_B x0 x1 x2_0 x2_1 x2_2 H R := by kernel_rfl
theorem f10_call (x0 : Option Addr) (x1 : Int) (x2_0 : Int) (x2_1 : Int) (x2_2 : Int) (H : AH) (R : AEnd → AH → Prop) (h : f10_B x0 x1 x2_0 x2_1 x2_2 H R) : ACall Try.prog 10 ([(.pointer x0), (.int .i64 x1), (.agg #[(.int .u64 x2_0), (.int .i64 x2_1), (.int .i64 x2_2)])] : List Value) H R :=
  acall_of mixed Try.func10 (by kernel_rfl : Try.f10.body = some f10_c) (by kernel_rfl) (by kernel_rfl) (awp_of (Eq.mpr (f10_eq x0 x1 x2_0 x2_1 x2_2 H R) h))

/-! f11: (*switchyard/block.Device).Flush -/
noncomputable def f11_c : Code := Try.f11.body.getD .skip
noncomputable def f11_X0 (R : AEnd → AH → Prop) : AExit → List Value → AH → Prop := thenF (fun tm H => hold (awpF Try.prog (codeAt f11_c [1, 1, 1, 1]) (aPost Try.prog Try.f11 R) tm H)) (aPost Try.prog Try.f11 R)
noncomputable def f11_X1 (R : AEnd → AH → Prop) : AExit → List Value → AH → Prop := inBlockF 0 (f11_X0 R)
noncomputable def f11_Q0 (R : AEnd → AH → Prop) : AExit → List Value → AH → Prop := (f11_X1 R)
def f11_L0 (R : AEnd → AH → Prop) (tm : List Value) (H : AH) : Prop := awpF Try.prog (codeAt f11_c [1, 1, 1, 0, 1, 0]) (f11_Q0 R) tm H
def f11_J0 (R : AEnd → AH → Prop) (tm : List Value) (H : AH) : Prop := hold (awpF Try.prog (codeAt f11_c [1, 1, 1, 1]) ((aPost Try.prog Try.f11 R)) tm H)
-- join 0: live 0:d
def f11_J0_B (s0 : Option Addr) (H : AH) (R : AEnd → AH → Prop) : Prop :=
 wPt s0 fun i1 k2 =>
 wSt i1 (k2 + 1) [(.slice none 0 0)] H fun H3 =>
 R (.ret (.int .i64 0)) H3
theorem f11_J0_eq (s0 : Option Addr) (s1 : Value) (s2 : Value) (s3 : Value) (s4 : Value) (s5 : Value) (s6 : Value) (s7 : Value) (s8 : Value) (s9 : Value) (s10 : Value) (s11 : Value) (s12 : Value) (s13 : Value) (s14 : Value) (s15 : Value) (s16 : Value) (s17 : Value) (s18 : Value) (s19 : Value) (s20 : Value) (s21 : Value) (s22 : Value) (s23 : Value) (s24 : Value) (s25 : Value) (s26 : Value) (s27 : Value) (s28 : Value) (s29 : Value) (s30 : Value) (s31 : Value) (s32 : Value) (s33 : Value) (s34 : Value) (H : AH) (R : AEnd → AH → Prop) : f11_J0 R [(.pointer s0), s1, s2, s3, s4, s5, s6, s7, s8, s9, s10, s11, s12, s13, s14, s15, s16, s17, s18, s19, s20, s21, s22, s23, s24, s25, s26, s27, s28, s29, s30, s31, s32, s33, s34] H = f11_J0_B s0 H R := by kernel_rfl
def f11_R0 (s0 : Option Addr) (s1 : Value) (s2 : Value) (s3 : Value) (s4 : Value) (s5 : Value) (s6 : Value) (s7 : Value) (s8 : Value) (s9 : Value) (s10 : Value) (s11 : Value) (s12 : Value) (s13 : Value) (s14 : Value) (s15 : Value) (s16b : Option Addr) (s16l : Nat) (s16c : Nat) (s17 : Int) (s18 : Int) (s19 : Value) (s20 : Value) (s21 : Value) (s22 : Value) (s23 : Value) (s24 : Value) (s25 : Value) (s26 : Value) (s27 : Value) (s28 : Value) (s29 : Value) (s30 : Value) (s31 : Value) (s32 : Value) (s33 : Value) (s34 : Value) (H : AH) (K0 : List Value → AH → Prop) (R : AEnd → AH → Prop) : Prop :=
 wIf (decide (s18 < s17))
 (wIx s16b s16l 2 s18 fun i4 k5 =>
 ldI .i64 i4 k5 H fun n6 =>
 ldS i4 (k5 + 1) H fun t7 =>
 wNew [(.int .i64 0), (.string ({ data := #[] }))] H fun i8 H9 =>
 wSt i8 0 [(.int .i64 n6), (.string t7)] H9 fun H10 =>
 wPt s0 fun i11 k12 =>
 ldL i11 k12 H10 fun z13b z13l z13c =>
 ldI .i64 i8 0 H10 fun n14 =>
 ldS i8 1 H10 fun t15 =>
 wIx z13b z13l 1 n14 fun i16 k17 =>
 wSt i16 k17 [(.string t15)] H10 fun H18 =>
 K0 [(.pointer s0), s1, s2, s3, s4, (.pointer (some ⟨i8, 0, none⟩)), s6, s7, s8, s9, s10, s11, s12, s13, s14, s15, (.slice s16b s16l s16c), (.int .i64 s17), (.int .i64 (IntKind.i64.wrap (s18 + 1))), (.bool true), (.pointer (some ⟨i4, k5, none⟩)), (.agg #[(.int .i64 n6), (.string t7)]), (.pointer s0), (.pointer (some ⟨i11, k12, none⟩)), (.pointer (some ⟨i11, k12, none⟩)), (.slice z13b z13l z13c), (.pointer (some ⟨i8, 0, none⟩)), (.int .i64 n14), (.pointer (some ⟨i8, 1, none⟩)), (.string t15), (.pointer (some ⟨i16, k17, none⟩)), (.int .i64 (IntKind.i64.wrap (s18 + 1))), s32, s33, s34] H18)
 (f11_J0 R [(.pointer s0), s1, s2, s3, s4, s5, s6, s7, s8, s9, s10, s11, s12, s13, s14, s15, (.slice s16b s16l s16c), (.int .i64 s17), (.int .i64 s18), (.bool false), s20, s21, s22, s23, s24, s25, s26, s27, s28, s29, s30, s31, s32, s33, s34] H)
theorem f11_R0_eq (s0 : Option Addr) (s1 : Value) (s2 : Value) (s3 : Value) (s4 : Value) (s5 : Value) (s6 : Value) (s7 : Value) (s8 : Value) (s9 : Value) (s10 : Value) (s11 : Value) (s12 : Value) (s13 : Value) (s14 : Value) (s15 : Value) (s16b : Option Addr) (s16l : Nat) (s16c : Nat) (s17 : Int) (s18 : Int) (s19 : Value) (s20 : Value) (s21 : Value) (s22 : Value) (s23 : Value) (s24 : Value) (s25 : Value) (s26 : Value) (s27 : Value) (s28 : Value) (s29 : Value) (s30 : Value) (s31 : Value) (s32 : Value) (s33 : Value) (s34 : Value) (H : AH) (K0 : List Value → AH → Prop) (R : AEnd → AH → Prop) : awpF Try.prog (codeAt f11_c [1, 1, 1, 0, 1, 0, 0]) (thenF K0 (f11_Q0 R)) [(.pointer s0), s1, s2, s3, s4, s5, s6, s7, s8, s9, s10, s11, s12, s13, s14, s15, (.slice s16b s16l s16c), (.int .i64 s17), (.int .i64 s18), s19, s20, s21, s22, s23, s24, s25, s26, s27, s28, s29, s30, s31, s32, s33, s34] H = f11_R0 s0 s1 s2 s3 s4 s5 s6 s7 s8 s9 s10 s11 s12 s13 s14 s15 s16b s16l s16c s17 s18 s19 s20 s21 s22 s23 s24 s25 s26 s27 s28 s29 s30 s31 s32 s33 s34 H K0 R := by kernel_rfl
def f11_I0 (s0 : Option Addr) (s1 : Value) (s2 : Value) (s3 : Value) (s4 : Value) (s6 : Value) (s7 : Value) (s8 : Value) (s9 : Value) (s10 : Value) (s11 : Value) (s12 : Value) (s13 : Value) (s14 : Value) (s15 : Value) (s16b : Option Addr) (s16l : Nat) (s16c : Nat) (s17 : Int) (s32 : Value) (s33 : Value) (s34 : Value) (J : Nat → Int → AH → Prop) (n : Nat) (tm : List Value) (H : AH) : Prop := ∃ (s5 : Value) (s18 : Int) (s19 : Value) (s20 : Value) (s21 : Value) (s22 : Value) (s23 : Value) (s24 : Value) (s25 : Value) (s26 : Value) (s27 : Value) (s28 : Value) (s29 : Value) (s30 : Value) (s31 : Value), tm = [(.pointer s0), s1, s2, s3, s4, s5, s6, s7, s8, s9, s10, s11, s12, s13, s14, s15, (.slice s16b s16l s16c), (.int .i64 s17), (.int .i64 s18), s19, s20, s21, s22, s23, s24, s25, s26, s27, s28, s29, s30, s31, s32, s33, s34] ∧ J n s18 H
theorem f11_I0_mk {s0 : Option Addr} {s1 : Value} {s2 : Value} {s3 : Value} {s4 : Value} {s5 : Value} {s6 : Value} {s7 : Value} {s8 : Value} {s9 : Value} {s10 : Value} {s11 : Value} {s12 : Value} {s13 : Value} {s14 : Value} {s15 : Value} {s16b : Option Addr} {s16l : Nat} {s16c : Nat} {s17 : Int} {s18 : Int} {s19 : Value} {s20 : Value} {s21 : Value} {s22 : Value} {s23 : Value} {s24 : Value} {s25 : Value} {s26 : Value} {s27 : Value} {s28 : Value} {s29 : Value} {s30 : Value} {s31 : Value} {s32 : Value} {s33 : Value} {s34 : Value} {J : Nat → Int → AH → Prop} {n : Nat} {H : AH} (h : J n s18 H) : f11_I0 s0 s1 s2 s3 s4 s6 s7 s8 s9 s10 s11 s12 s13 s14 s15 s16b s16l s16c s17 s32 s33 s34 J n [(.pointer s0), s1, s2, s3, s4, s5, s6, s7, s8, s9, s10, s11, s12, s13, s14, s15, (.slice s16b s16l s16c), (.int .i64 s17), (.int .i64 s18), s19, s20, s21, s22, s23, s24, s25, s26, s27, s28, s29, s30, s31, s32, s33, s34] H := ⟨_, _, _, _, _, _, _, _, _, _, _, _, _, _, _, rfl, h⟩
-- loop 0: carried 18:
theorem f11_L0_rule {s0 : Option Addr} {s1 : Value} {s2 : Value} {s3 : Value} {s4 : Value} {s5 : Value} {s6 : Value} {s7 : Value} {s8 : Value} {s9 : Value} {s10 : Value} {s11 : Value} {s12 : Value} {s13 : Value} {s14 : Value} {s15 : Value} {s16b : Option Addr} {s16l : Nat} {s16c : Nat} {s17 : Int} {s18 : Int} {s19 : Value} {s20 : Value} {s21 : Value} {s22 : Value} {s23 : Value} {s24 : Value} {s25 : Value} {s26 : Value} {s27 : Value} {s28 : Value} {s29 : Value} {s30 : Value} {s31 : Value} {s32 : Value} {s33 : Value} {s34 : Value} {H : AH} {R : AEnd → AH → Prop} (J : Nat → Int → AH → Prop) (n : Nat) (h0 : J n s18 H)
  (step : ∀ (n : Nat) (s18 : Int) (H : AH), J n s18 H → ∀ (s5 : Value) (s19 : Value) (s20 : Value) (s21 : Value) (s22 : Value) (s23 : Value) (s24 : Value) (s25 : Value) (s26 : Value) (s27 : Value) (s28 : Value) (s29 : Value) (s30 : Value) (s31 : Value), f11_R0 s0 s1 s2 s3 s4 s5 s6 s7 s8 s9 s10 s11 s12 s13 s14 s15 s16b s16l s16c s17 s18 s19 s20 s21 s22 s23 s24 s25 s26 s27 s28 s29 s30 s31 s32 s33 s34 H (fun tm H => ∃ m, m < n ∧ f11_I0 s0 s1 s2 s3 s4 s6 s7 s8 s9 s10 s11 s12 s13 s14 s15 s16b s16l s16c s17 s32 s33 s34 J m tm H) R) : f11_L0 R [(.pointer s0), s1, s2, s3, s4, s5, s6, s7, s8, s9, s10, s11, s12, s13, s14, s15, (.slice s16b s16l s16c), (.int .i64 s17), (.int .i64 s18), s19, s20, s21, s22, s23, s24, s25, s26, s27, s28, s29, s30, s31, s32, s33, s34] H :=
  awpF_loop (f11_I0 s0 s1 s2 s3 s4 s6 s7 s8 s9 s10 s11 s12 s13 s14 s15 s16b s16l s16c s17 s32 s33 s34 J) n (f11_I0_mk h0) (by
    intro n tm H hh
    exact Exists.elim hh fun s5 hh => Exists.elim hh fun s18 hh => Exists.elim hh fun s19 hh => Exists.elim hh fun s20 hh => Exists.elim hh fun s21 hh => Exists.elim hh fun s22 hh => Exists.elim hh fun s23 hh => Exists.elim hh fun s24 hh => Exists.elim hh fun s25 hh => Exists.elim hh fun s26 hh => Exists.elim hh fun s27 hh => Exists.elim hh fun s28 hh => Exists.elim hh fun s29 hh => Exists.elim hh fun s30 hh => Exists.elim hh fun s31 hh => And.elim (fun e h =>
     (by subst e; exact Eq.mpr (f11_R0_eq s0 s1 s2 s3 s4 s5 s6 s7 s8 s9 s10 s11 s12 s13 s14 s15 s16b s16l s16c s17 s18 s19 s20 s21 s22 s23 s24 s25 s26 s27 s28 s29 s30 s31 s32 s33 s34 H _ R) (step n s18 H h s5 s19 s20 s21 s22 s23 s24 s25 s26 s27 s28 s29 s30 s31))) hh)
def f11_B (x0 : Option Addr) (H : AH) (R : AEnd → AH → Prop) : Prop :=
 wCall Try.prog 31 [(.pointer x0)] H (fun r19 H20 =>
 opI .i64 r19 fun n23 =>
 wIf (!decide (n23 = 0))
 (R (.ret (.int .i64 n23)) H20)
 (wCall Try.prog 32 [(.pointer x0)] H20 (fun r24 H25 =>
 opB r24 fun b28 =>
 wIf b28
 (R (.ret (.int .i64 10)) H25)
 (wPt x0 fun i29 k30 =>
 ldL i29 (k30 + 1) H25 fun z31b z31l z31c =>
 f11_L0 R [(.pointer x0), undef, (.int .i64 0), (.int .i64 n23), undef, undef, (.pointer x0), (.int .i64 n23), (.int .i64 n23), (.bool false), undef, (.pointer x0), (.bool false), (.pointer x0), (.pointer (some ⟨i29, k30, none⟩)), (.pointer (some ⟨i29, (k30 + 1), none⟩)), (.slice z31b z31l z31c), (.int .i64 (z31l : Int)), (.int .i64 0), undef, undef, undef, undef, undef, undef, undef, undef, undef, undef, undef, undef, undef, undef, undef, undef] H25)) (fun v27 H26 => R (.panic v27) H26))) (fun v22 H21 => R (.panic v22) H21)
theorem f11_eq (x0 : Option Addr) (H : AH) (R : AEnd → AH → Prop) : awpF Try.prog f11_c (aPost Try.prog Try.f11 R) (([(.pointer x0)] : List Value) ++ List.replicate (Try.f11.ntmps - (([(.pointer x0)] : List Value)).length) undef) H = f11_B x0 H R := by kernel_rfl
theorem f11_call (x0 : Option Addr) (H : AH) (R : AEnd → AH → Prop) (h : f11_B x0 H R) : ACall Try.prog 11 ([(.pointer x0)] : List Value) H R :=
  acall_of mixed Try.func11 (by kernel_rfl : Try.f11.body = some f11_c) (by kernel_rfl) (by kernel_rfl) (awp_of (Eq.mpr (f11_eq x0 H R) h))

/-! f12: (*switchyard/block.Device).Write -/
noncomputable def f12_c : Code := Try.f12.body.getD .skip
noncomputable def f12_X0 (R : AEnd → AH → Prop) : AExit → List Value → AH → Prop := thenF (fun tm H => hold (awpF Try.prog (codeAt f12_c [1, 1, 1]) (aPost Try.prog Try.f12 R) tm H)) (aPost Try.prog Try.f12 R)
def f12_J0 (R : AEnd → AH → Prop) (tm : List Value) (H : AH) : Prop := hold (awpF Try.prog (codeAt f12_c [1, 1, 0, 1]) ((f12_X0 R)) tm H)
def f12_J1 (R : AEnd → AH → Prop) (tm : List Value) (H : AH) : Prop := hold (awpF Try.prog (codeAt f12_c [1, 1, 1]) ((aPost Try.prog Try.f12 R)) tm H)
-- join 1: live 0:d, 1:i, 2:data
def f12_J1_B (s0 : Option Addr) (s1 : Int) (s2 : ByteArray) (H : AH) (R : AEnd → AH → Prop) : Prop :=
 wPt s0 fun i1 k2 =>
 ldL i1 (k2 + 1) H fun z3b z3l z3c =>
 wBs [(.int .i64 s1), (.string s2)] 2 H fun i4 H5 =>
 wAppL 2 24 z3b z3l z3c (some ⟨i4, 0, none⟩) 1 0 H5 fun z6b z6l z6c H7 =>
 wPt s0 fun i8 k9 =>
 wSt i8 (k9 + 1) [(.slice z6b z6l z6c)] H7 fun H10 =>
 wCall Try.prog 32 [(.pointer s0)] H10 (fun r11 H12 =>
 opB r11 fun b15 =>
 wIf b15
 (R (.ret (.int .i64 10)) H12)
 (R (.ret (.int .i64 0)) H12)) (fun v14 H13 => R (.panic v14) H13)
theorem f12_J1_eq (s0 : Option Addr) (s1 : Int) (s2 : ByteArray) (s3 : Value) (s4 : Value) (s5 : Value) (s6 : Value) (s7 : Value) (s8 : Value) (s9 : Value) (s10 : Value) (s11 : Value) (s12 : Value) (s13 : Value) (s14 : Value) (s15 : Value) (s16 : Value) (s17 : Value) (s18 : Value) (s19 : Value) (s20 : Value) (s21 : Value) (s22 : Value) (s23 : Value) (s24 : Value) (s25 : Value) (s26 : Value) (s27 : Value) (s28 : Value) (s29 : Value) (s30 : Value) (s31 : Value) (s32 : Value) (s33 : Value) (s34 : Value) (s35 : Value) (s36 : Value) (s37 : Value) (s38 : Value) (s39 : Value) (s40 : Value) (s41 : Value) (s42 : Value) (H : AH) (R : AEnd → AH → Prop) : f12_J1 R [(.pointer s0), (.int .i64 s1), (.string s2), s3, s4, s5, s6, s7, s8, s9, s10, s11, s12, s13, s14, s15, s16, s17, s18, s19, s20, s21, s22, s23, s24, s25, s26, s27, s28, s29, s30, s31, s32, s33, s34, s35, s36, s37, s38, s39, s40, s41, s42] H = f12_J1_B s0 s1 s2 H R := by kernel_rfl
-- join 0: live 0:d, 1:i, 2:data, 28:
def f12_J0_B (s0 : Option Addr) (s1 : Int) (s2 : ByteArray) (s3 : Value) (s4 : Value) (s5 : Value) (s6 : Value) (s7 : Value) (s8 : Value) (s9 : Value) (s10 : Value) (s11 : Value) (s12 : Value) (s13 : Value) (s14 : Value) (s15 : Value) (s16 : Value) (s17 : Value) (s18 : Value) (s19 : Value) (s20 : Value) (s21 : Value) (s22 : Value) (s23 : Value) (s24 : Value) (s25 : Value) (s26 : Value) (s27 : Value) (s28 : Bool) (s29 : Value) (s30 : Value) (s31 : Value) (s32 : Value) (s33 : Value) (s34 : Value) (s35 : Value) (s36 : Value) (s37 : Value) (s38 : Value) (s39 : Value) (s40 : Value) (s41 : Value) (s42 : Value) (H : AH) (R : AEnd → AH → Prop) : Prop :=
 wIf s28
 (R (.ret (.int .i64 2)) H)
 (f12_J1 R [(.pointer s0), (.int .i64 s1), (.string s2), s3, s4, s5, s6, s7, s8, s9, s10, s11, s12, s13, s14, s15, s16, s17, s18, s19, s20, s21, s22, s23, s24, s25, s26, s27, (.bool false), s29, s30, s31, s32, s33, s34, s35, s36, s37, s38, s39, s40, s41, s42] H)
theorem f12_J0_eq (s0 : Option Addr) (s1 : Int) (s2 : ByteArray) (s3 : Value) (s4 : Value) (s5 : Value) (s6 : Value) (s7 : Value) (s8 : Value) (s9 : Value) (s10 : Value) (s11 : Value) (s12 : Value) (s13 : Value) (s14 : Value) (s15 : Value) (s16 : Value) (s17 : Value) (s18 : Value) (s19 : Value) (s20 : Value) (s21 : Value) (s22 : Value) (s23 : Value) (s24 : Value) (s25 : Value) (s26 : Value) (s27 : Value) (s28 : Bool) (s29 : Value) (s30 : Value) (s31 : Value) (s32 : Value) (s33 : Value) (s34 : Value) (s35 : Value) (s36 : Value) (s37 : Value) (s38 : Value) (s39 : Value) (s40 : Value) (s41 : Value) (s42 : Value) (H : AH) (R : AEnd → AH → Prop) : f12_J0 R [(.pointer s0), (.int .i64 s1), (.string s2), s3, s4, s5, s6, s7, s8, s9, s10, s11, s12, s13, s14, s15, s16, s17, s18, s19, s20, s21, s22, s23, s24, s25, s26, s27, (.bool s28), s29, s30, s31, s32, s33, s34, s35, s36, s37, s38, s39, s40, s41, s42] H = f12_J0_B s0 s1 s2 s3 s4 s5 s6 s7 s8 s9 s10 s11 s12 s13 s14 s15 s16 s17 s18 s19 s20 s21 s22 s23 s24 s25 s26 s27 s28 s29 s30 s31 s32 s33 s34 s35 s36 s37 s38 s39 s40 s41 s42 H R := by kernel_rfl
def f12_B (x0 : Option Addr) (x1 : Int) (x2 : ByteArray) (H : AH) (R : AEnd → AH → Prop) : Prop :=
 wCall Try.prog 31 [(.pointer x0)] H (fun r16 H17 =>
 opI .i64 r16 fun n20 =>
 wIf (!decide (n20 = 0))
 (R (.ret (.int .i64 n20)) H17)
 (wIf (decide (x1 < 0))
 (f12_J0 R [(.pointer x0), (.int .i64 x1), (.string x2), undef, undef, undef, (.int .i64 0), (.int .i64 n20), (.pointer x0), (.int .i64 n20), (.int .i64 n20), (.bool false), undef, (.int .i64 x1), (.bool (decide (x1 < 0))), (.bool true), undef, undef, undef, undef, undef, undef, undef, (.bool true), (.bool true), undef, undef, undef, (.bool true), undef, undef, undef, undef, undef, undef, undef, undef, undef, undef, undef, undef, undef, undef] H17)
 (wPt x0 fun i21 k22 =>
 ldL i21 k22 H17 fun z23b z23l z23c =>
 wIf (decide (x1 ≥ (z23l : Int)))
 (f12_J0 R [(.pointer x0), (.int .i64 x1), (.string x2), undef, undef, undef, (.int .i64 0), (.int .i64 n20), (.pointer x0), (.int .i64 n20), (.int .i64 n20), (.bool false), undef, (.int .i64 x1), (.bool (decide (x1 < 0))), (.bool false), (.int .i64 x1), (.pointer x0), (.pointer (some ⟨i21, k22, none⟩)), (.pointer (some ⟨i21, k22, none⟩)), (.slice z23b z23l z23c), (.int .i64 (z23l : Int)), (.bool (decide (x1 ≥ (z23l : Int)))), (.bool (decide (x1 ≥ (z23l : Int)))), (.bool true), undef, undef, undef, (.bool true), undef, undef, undef, undef, undef, undef, undef, undef, undef, undef, undef, undef, undef, undef] H17)
 (f12_J0 R [(.pointer x0), (.int .i64 x1), (.string x2), undef, undef, undef, (.int .i64 0), (.int .i64 n20), (.pointer x0), (.int .i64 n20), (.int .i64 n20), (.bool false), undef, (.int .i64 x1), (.bool (decide (x1 < 0))), (.bool false), (.int .i64 x1), (.pointer x0), (.pointer (some ⟨i21, k22, none⟩)), (.pointer (some ⟨i21, k22, none⟩)), (.slice z23b z23l z23c), (.int .i64 (z23l : Int)), (.bool (decide (x1 ≥ (z23l : Int)))), (.bool (decide (x1 ≥ (z23l : Int)))), (.bool false), (.string x2), (.int .i64 (x2.size : Int)), (.bool (!decide ((x2.size : Int) = 64))), (.bool (!decide ((x2.size : Int) = 64))), undef, undef, undef, undef, undef, undef, undef, undef, undef, undef, undef, undef, undef, undef] H17)))) (fun v19 H18 => R (.panic v19) H18)
theorem f12_eq (x0 : Option Addr) (x1 : Int) (x2 : ByteArray) (H : AH) (R : AEnd → AH → Prop) : awpF Try.prog f12_c (aPost Try.prog Try.f12 R) (([(.pointer x0), (.int .i64 x1), (.string x2)] : List Value) ++ List.replicate (Try.f12.ntmps - (([(.pointer x0), (.int .i64 x1), (.string x2)] : List Value)).length) undef) H = f12_B x0 x1 x2 H R := by kernel_rfl
theorem f12_call (x0 : Option Addr) (x1 : Int) (x2 : ByteArray) (H : AH) (R : AEnd → AH → Prop) (h : f12_B x0 x1 x2 H R) : ACall Try.prog 12 ([(.pointer x0), (.int .i64 x1), (.string x2)] : List Value) H R :=
  acall_of mixed Try.func12 (by kernel_rfl : Try.f12.body = some f12_c) (by kernel_rfl) (by kernel_rfl) (awp_of (Eq.mpr (f12_eq x0 x1 x2 H R) h))

/-! f13: switchyard/switchyardlaw03.sector -/
noncomputable def f13_c : Code := Try.f13.body.getD .skip
def f13_B (x0 : ByteArray) (H : AH) (R : AEnd → AH → Prop) : Prop :=
 wIf (decide ((x0.size : Int) > 66))
 (R (.ret (.string x0)) H)
 (wCall Try.prog 33 [(.int .i64 64)] H (fun r1 H2 =>
 opS r1 fun t5 =>
 wCat x0 t5 fun t6 =>
 wSlS t6 0 64 fun t7 =>
 R (.ret (.string t7)) H2) (fun v4 H3 => R (.panic v4) H3))
theorem f13_eq (x0 : ByteArray) (H : AH) (R : AEnd → AH → Prop) : awpF Try.prog f13_c (aPost Try.prog Try.f13 R) (([(.string x0)] : List Value) ++ List.replicate (Try.f13.ntmps - (([(.string x0)] : List Value)).length) undef) H = f13_B x0 H R := by kernel_rfl
theorem f13_call (x0 : ByteArray) (H : AH) (R : AEnd → AH → Prop) (h : f13_B x0 H R) : ACall Try.prog 13 ([(.string x0)] : List Value) H R :=
  acall_of mixed Try.func13 (by kernel_rfl : Try.f13.body = some f13_c) (by kernel_rfl) (by kernel_rfl) (awp_of (Eq.mpr (f13_eq x0 H R) h))

/-! f14: (*switchyard/block.Device).Waits -/
noncomputable def f14_c : Code := Try.f14.body.getD .skip
def f14_B (x0 : Option Addr) (H : AH) (R : AEnd → AH → Prop) : Prop :=
 wIf x0.isNone
 (R (.ret (.int .i64 0)) H)
 (wPt x0 fun i1 k2 =>
 ldL i1 (k2 + 1) H fun z3b z3l z3c =>
 R (.ret (.int .i64 (z3l : Int))) H)
theorem f14_eq (x0 : Option Addr) (H : AH) (R : AEnd → AH → Prop) : awpF Try.prog f14_c (aPost Try.prog Try.f14 R) (([(.pointer x0)] : List Value) ++ List.replicate (Try.f14.ntmps - (([(.pointer x0)] : List Value)).length) undef) H = f14_B x0 H R := by kernel_rfl
theorem f14_call (x0 : Option Addr) (H : AH) (R : AEnd → AH → Prop) (h : f14_B x0 H R) : ACall Try.prog 14 ([(.pointer x0)] : List Value) H R :=
  acall_of mixed Try.func14 (by kernel_rfl : Try.f14.body = some f14_c) (by kernel_rfl) (by kernel_rfl) (awp_of (Eq.mpr (f14_eq x0 H R) h))

/-! f15: (*switchyard/block.Device).Off -/
noncomputable def f15_c : Code := Try.f15.body.getD .skip
def f15_B (x0 : Option Addr) (H : AH) (R : AEnd → AH → Prop) : Prop :=
 wIf (!x0.isNone)
 (wPt x0 fun i1 k2 =>
 ldB i1 (k2 + 2) H fun b3 =>
 R (.ret (.bool b3)) H)
 (R (.ret (.bool false)) H)
theorem f15_eq (x0 : Option Addr) (H : AH) (R : AEnd → AH → Prop) : awpF Try.prog f15_c (aPost Try.prog Try.f15 R) (([(.pointer x0)] : List Value) ++ List.replicate (Try.f15.ntmps - (([(.pointer x0)] : List Value)).length) undef) H = f15_B x0 H R := by kernel_rfl
theorem f15_call (x0 : Option Addr) (H : AH) (R : AEnd → AH → Prop) (h : f15_B x0 H R) : ACall Try.prog 15 ([(.pointer x0)] : List Value) H R :=
  acall_of mixed Try.func15 (by kernel_rfl : Try.f15.body = some f15_c) (by kernel_rfl) (by kernel_rfl) (awp_of (Eq.mpr (f15_eq x0 H R) h))

/-! f16: (*switchyard/block.Device).Up -/
noncomputable def f16_c : Code := Try.f16.body.getD .skip
def f16_B (x0 : Option Addr) (H : AH) (R : AEnd → AH → Prop) : Prop :=
 wIf (!x0.isNone)
 (wPt x0 fun i1 k2 =>
 wSt i1 (k2 + 2) [(.bool false)] H fun H3 =>
 wPt x0 fun i4 k5 =>
 wSt i4 (k5 + 3) [(.int .i64 0)] H3 fun H6 =>
 R (.ret (.tuple #[])) H6)
 (R (.ret (.tuple #[])) H)
theorem f16_eq (x0 : Option Addr) (H : AH) (R : AEnd → AH → Prop) : awpF Try.prog f16_c (aPost Try.prog Try.f16 R) (([(.pointer x0)] : List Value) ++ List.replicate (Try.f16.ntmps - (([(.pointer x0)] : List Value)).length) undef) H = f16_B x0 H R := by kernel_rfl
theorem f16_call (x0 : Option Addr) (H : AH) (R : AEnd → AH → Prop) (h : f16_B x0 H R) : ACall Try.prog 16 ([(.pointer x0)] : List Value) H R :=
  acall_of mixed Try.func16 (by kernel_rfl : Try.f16.body = some f16_c) (by kernel_rfl) (by kernel_rfl) (awp_of (Eq.mpr (f16_eq x0 H R) h))

/-! f17: (*switchyard/block.Device).Read -/
noncomputable def f17_c : Code := Try.f17.body.getD .skip
noncomputable def f17_X0 (R : AEnd → AH → Prop) : AExit → List Value → AH → Prop := thenF (fun tm H => hold (awpF Try.prog (codeAt f17_c [1, 1, 1, 1]) (aPost Try.prog Try.f17 R) tm H)) (aPost Try.prog Try.f17 R)
noncomputable def f17_X1 (R : AEnd → AH → Prop) : AExit → List Value → AH → Prop := inBlockF 0 (f17_X0 R)
noncomputable def f17_Q0 (R : AEnd → AH → Prop) : AExit → List Value → AH → Prop := (f17_X1 R)
def f17_L0 (R : AEnd → AH → Prop) (tm : List Value) (H : AH) : Prop := awpF Try.prog (codeAt f17_c [1, 1, 1, 0, 1, 0]) (f17_Q0 R) tm H
noncomputable def f17_X2 (R : AEnd → AH → Prop) : AExit → List Value → AH → Prop := thenF (fun tm H => hold (awpF Try.prog (codeAt f17_c [1, 1, 1]) (aPost Try.prog Try.f17 R) tm H)) (aPost Try.prog Try.f17 R)
def f17_J0 (R : AEnd → AH → Prop) (tm : List Value) (H : AH) : Prop := hold (awpF Try.prog (codeAt f17_c [1, 1, 0, 1]) ((f17_X2 R)) tm H)
def f17_J1 (R : AEnd → AH → Prop) (tm : List Value) (H : AH) : Prop := hold (awpF Try.prog (codeAt f17_c [1, 1, 1]) ((aPost Try.prog Try.f17 R)) tm H)
def f17_J2 (R : AEnd → AH → Prop) (tm : List Value) (H : AH) : Prop := hold (awpF Try.prog (codeAt f17_c [1, 1, 1, 1]) ((aPost Try.prog Try.f17 R)) tm H)
-- join 2: live 0:d, 1:i
def f17_J2_B (s0 : Option Addr) (s1 : Int) (H : AH) (R : AEnd → AH → Prop) : Prop :=
 wPt s0 fun i1 k2 =>
 ldL i1 k2 H fun z3b z3l z3c =>
 wIx z3b z3l 1 s1 fun i4 k5 =>
 ldS i4 k5 H fun t6 =>
 R (.ret (.tuple #[(.string t6), (.int .i64 0)])) H
theorem f17_J2_eq (s0 : Option Addr) (s1 : Int) (s2 : Value) (s3 : Value) (s4 : Value) (s5 : Value) (s6 : Value) (s7 : Value) (s8 : Value) (s9 : Value) (s10 : Value) (s11 : Value) (s12 : Value) (s13 : Value) (s14 : Value) (s15 : Value) (s16 : Value) (s17 : Value) (s18 : Value) (s19 : Value) (s20 : Value) (s21 : Value) (s22 : Value) (s23 : Value) (s24 : Value) (s25 : Value) (s26 : Value) (s27 : Value) (s28 : Value) (s29 : Value) (s30 : Value) (s31 : Value) (s32 : Value) (s33 : Value) (s34 : Value) (s35 : Value) (s36 : Value) (s37 : Value) (s38 : Value) (s39 : Value) (s40 : Value) (s41 : Value) (s42 : Value) (s43 : Value) (s44 : Value) (s45 : Value) (s46 : Value) (s47 : Value) (s48 : Value) (s49 : Value) (s50 : Value) (s51 : Value) (s52 : Value) (s53 : Value) (s54 : Value) (s55 : Value) (s56 : Value) (s57 : Value) (s58 : Value) (H : AH) (R : AEnd → AH → Prop) : f17_J2 R [(.pointer s0), (.int .i64 s1), s2, s3, s4, s5, s6, s7, s8, s9, s10, s11, s12, s13, s14, s15, s16, s17, s18, s19, s20, s21, s22, s23, s24, s25, s26, s27, s28, s29, s30, s31, s32, s33, s34, s35, s36, s37, s38, s39, s40, s41, s42, s43, s44, s45, s46, s47, s48, s49, s50, s51, s52, s53, s54, s55, s56, s57, s58] H = f17_J2_B s0 s1 H R := by kernel_rfl
-- join 1: live 0:d, 1:i
def f17_J1_B (s0 : Option Addr) (s1 : Int) (s2 : Value) (s3 : Value) (s4 : Value) (s5 : Value) (s6 : Value) (s8 : Value) (s9 : Value) (s10 : Value) (s11 : Value) (s12 : Value) (s13 : Value) (s14 : Value) (s15 : Value) (s16 : Value) (s17 : Value) (s18 : Value) (s19 : Value) (s20 : Value) (s21 : Value) (s22 : Value) (s23 : Value) (s30 : Value) (s31 : Value) (s32 : Value) (s33 : Value) (s34 : Value) (s35 : Value) (s36 : Value) (s37 : Value) (s38 : Value) (s39 : Value) (s40 : Value) (s41 : Value) (s42 : Value) (s43 : Value) (s44 : Value) (s45 : Value) (s46 : Value) (s47 : Value) (s48 : Value) (s49 : Value) (s50 : Value) (s51 : Value) (s52 : Value) (s53 : Value) (s54 : Value) (s55 : Value) (s56 : Value) (s57 : Value) (s58 : Value) (H : AH) (R : AEnd → AH → Prop) : Prop :=
 wPt s0 fun i7 k8 =>
 ldL i7 (k8 + 1) H fun z9b z9l z9c =>
 f17_L0 R [(.pointer s0), (.int .i64 s1), s2, s3, s4, s5, s6, (.int .i64 (IntKind.i64.wrap ((z9l : Int) - 1))), s8, s9, s10, s11, s12, s13, s14, s15, s16, s17, s18, s19, s20, s21, s22, s23, (.pointer s0), (.pointer (some ⟨i7, k8, none⟩)), (.pointer (some ⟨i7, (k8 + 1), none⟩)), (.slice z9b z9l z9c), (.int .i64 (z9l : Int)), (.int .i64 (IntKind.i64.wrap ((z9l : Int) - 1))), s30, s31, s32, s33, s34, s35, s36, s37, s38, s39, s40, s41, s42, s43, s44, s45, s46, s47, s48, s49, s50, s51, s52, s53, s54, s55, s56, s57, s58] H
theorem f17_J1_eq (s0 : Option Addr) (s1 : Int) (s2 : Value) (s3 : Value) (s4 : Value) (s5 : Value) (s6 : Value) (s7 : Value) (s8 : Value) (s9 : Value) (s10 : Value) (s11 : Value) (s12 : Value) (s13 : Value) (s14 : Value) (s15 : Value) (s16 : Value) (s17 : Value) (s18 : Value) (s19 : Value) (s20 : Value) (s21 : Value) (s22 : Value) (s23 : Value) (s24 : Value) (s25 : Value) (s26 : Value) (s27 : Value) (s28 : Value) (s29 : Value) (s30 : Value) (s31 : Value) (s32 : Value) (s33 : Value) (s34 : Value) (s35 : Value) (s36 : Value) (s37 : Value) (s38 : Value) (s39 : Value) (s40 : Value) (s41 : Value) (s42 : Value) (s43 : Value) (s44 : Value) (s45 : Value) (s46 : Value) (s47 : Value) (s48 : Value) (s49 : Value) (s50 : Value) (s51 : Value) (s52 : Value) (s53 : Value) (s54 : Value) (s55 : Value) (s56 : Value) (s57 : Value) (s58 : Value) (H : AH) (R : AEnd → AH → Prop) : f17_J1 R [(.pointer s0), (.int .i64 s1), s2, s3, s4, s5, s6, s7, s8, s9, s10, s11, s12, s13, s14, s15, s16, s17, s18, s19, s20, s21, s22, s23, s24, s25, s26, s27, s28, s29, s30, s31, s32, s33, s34, s35, s36, s37, s38, s39, s40, s41, s42, s43, s44, s45, s46, s47, s48, s49, s50, s51, s52, s53, s54, s55, s56, s57, s58] H = f17_J1_B s0 s1 s2 s3 s4 s5 s6 s8 s9 s10 s11 s12 s13 s14 s15 s16 s17 s18 s19 s20 s21 s22 s23 s30 s31 s32 s33 s34 s35 s36 s37 s38 s39 s40 s41 s42 s43 s44 s45 s46 s47 s48 s49 s50 s51 s52 s53 s54 s55 s56 s57 s58 H R := by kernel_rfl
-- join 0: live 0:d, 1:i, 23:
def f17_J0_B (s0 : Option Addr) (s1 : Int) (s2 : Value) (s3 : Value) (s4 : Value) (s5 : Value) (s6 : Value) (s7 : Value) (s8 : Value) (s9 : Value) (s10 : Value) (s11 : Value) (s12 : Value) (s13 : Value) (s14 : Value) (s15 : Value) (s16 : Value) (s17 : Value) (s18 : Value) (s19 : Value) (s20 : Value) (s21 : Value) (s22 : Value) (s23 : Bool) (s24 : Value) (s25 : Value) (s26 : Value) (s27 : Value) (s28 : Value) (s29 : Value) (s30 : Value) (s31 : Value) (s32 : Value) (s33 : Value) (s34 : Value) (s35 : Value) (s36 : Value) (s37 : Value) (s38 : Value) (s39 : Value) (s40 : Value) (s41 : Value) (s42 : Value) (s43 : Value) (s44 : Value) (s45 : Value) (s46 : Value) (s47 : Value) (s48 : Value) (s49 : Value) (s50 : Value) (s51 : Value) (s52 : Value) (s53 : Value) (s54 : Value) (s55 : Value) (s56 : Value) (s57 : Value) (s58 : Value) (H : AH) (R : AEnd → AH → Prop) : Prop :=
 wIf s23
 (R (.ret (.tuple #[(.string ({ data := #[] })), (.int .i64 2)])) H)
 (f17_J1 R [(.pointer s0), (.int .i64 s1), s2, s3, s4, s5, s6, s7, s8, s9, s10, s11, s12, s13, s14, s15, s16, s17, s18, s19, s20, s21, s22, (.bool false), s24, s25, s26, s27, s28, s29, s30, s31, s32, s33, s34, s35, s36, s37, s38, s39, s40, s41, s42, s43, s44, s45, s46, s47, s48, s49, s50, s51, s52, s53, s54, s55, s56, s57, s58] H)
theorem f17_J0_eq (s0 : Option Addr) (s1 : Int) (s2 : Value) (s3 : Value) (s4 : Value) (s5 : Value) (s6 : Value) (s7 : Value) (s8 : Value) (s9 : Value) (s10 : Value) (s11 : Value) (s12 : Value) (s13 : Value) (s14 : Value) (s15 : Value) (s16 : Value) (s17 : Value) (s18 : Value) (s19 : Value) (s20 : Value) (s21 : Value) (s22 : Value) (s23 : Bool) (s24 : Value) (s25 : Value) (s26 : Value) (s27 : Value) (s28 : Value) (s29 : Value) (s30 : Value) (s31 : Value) (s32 : Value) (s33 : Value) (s34 : Value) (s35 : Value) (s36 : Value) (s37 : Value) (s38 : Value) (s39 : Value) (s40 : Value) (s41 : Value) (s42 : Value) (s43 : Value) (s44 : Value) (s45 : Value) (s46 : Value) (s47 : Value) (s48 : Value) (s49 : Value) (s50 : Value) (s51 : Value) (s52 : Value) (s53 : Value) (s54 : Value) (s55 : Value) (s56 : Value) (s57 : Value) (s58 : Value) (H : AH) (R : AEnd → AH → Prop) : f17_J0 R [(.pointer s0), (.int .i64 s1), s2, s3, s4, s5, s6, s7, s8, s9, s10, s11, s12, s13, s14, s15, s16, s17, s18, s19, s20, s21, s22, (.bool s23), s24, s25, s26, s27, s28, s29, s30, s31, s32, s33, s34, s35, s36, s37, s38, s39, s40, s41, s42, s43, s44, s45, s46, s47, s48, s49, s50, s51, s52, s53, s54, s55, s56, s57, s58] H = f17_J0_B s0 s1 s2 s3 s4 s5 s6 s7 s8 s9 s10 s11 s12 s13 s14 s15 s16 s17 s18 s19 s20 s21 s22 s23 s24 s25 s26 s27 s28 s29 s30 s31 s32 s33 s34 s35 s36 s37 s38 s39 s40 s41 s42 s43 s44 s45 s46 s47 s48 s49 s50 s51 s52 s53 s54 s55 s56 s57 s58 H R := by kernel_rfl
def f17_R0 (s0 : Option Addr) (s1 : Int) (s2 : Value) (s3 : Value) (s4 : Value) (s5 : Value) (s6 : Value) (s7 : Int) (s8 : Value) (s9 : Value) (s10 : Value) (s11 : Value) (s12 : Value) (s13 : Value) (s14 : Value) (s15 : Value) (s16 : Value) (s17 : Value) (s18 : Value) (s19 : Value) (s20 : Value) (s21 : Value) (s22 : Value) (s23 : Value) (s24 : Value) (s25 : Value) (s26 : Value) (s27 : Value) (s28 : Value) (s29 : Value) (s30 : Value) (s31 : Value) (s32 : Value) (s33 : Value) (s34 : Value) (s35 : Value) (s36 : Value) (s37 : Value) (s38 : Value) (s39 : Value) (s40 : Value) (s41 : Value) (s42 : Value) (s43 : Value) (s44 : Value) (s45 : Value) (s46 : Value) (s47 : Value) (s48 : Value) (s49 : Value) (s50 : Value) (s51 : Value) (s52 : Value) (s53 : Value) (s54 : Value) (s55 : Value) (s56 : Value) (s57 : Value) (s58 : Value) (H : AH) (K0 : List Value → AH → Prop) (R : AEnd → AH → Prop) : Prop :=
 wIf (decide (s7 ≥ 0))
 (wPt s0 fun i10 k11 =>
 ldL i10 (k11 + 1) H fun z12b z12l z12c =>
 wIx z12b z12l 2 s7 fun i13 k14 =>
 ldI .i64 i13 k14 H fun n15 =>
 wIf (decide (n15 = s1))
 (wPt s0 fun i16 k17 =>
 ldL i16 (k17 + 1) H fun z18b z18l z18c =>
 wIx z18b z18l 2 s7 fun i19 k20 =>
 ldS i19 (k20 + 1) H fun t21 =>
 R (.ret (.tuple #[(.string t21), (.int .i64 0)])) H)
 (K0 [(.pointer s0), (.int .i64 s1), s2, s3, s4, s5, s6, (.int .i64 (IntKind.i64.wrap (s7 - 1))), s8, s9, s10, s11, s12, s13, s14, s15, s16, s17, s18, s19, s20, s21, s22, s23, s24, s25, s26, s27, s28, s29, (.int .i64 s7), (.bool true), (.int .i64 s7), (.int .i64 (IntKind.i64.wrap (s7 - 1))), (.pointer s0), (.pointer (some ⟨i10, k11, none⟩)), (.pointer (some ⟨i10, (k11 + 1), none⟩)), (.slice z12b z12l z12c), (.int .i64 s7), (.pointer (some ⟨i13, k14, none⟩)), (.pointer (some ⟨i13, k14, none⟩)), (.int .i64 n15), (.int .i64 s1), (.bool false), s44, s45, s46, s47, s48, s49, s50, s51, s52, s53, s54, s55, s56, s57, s58] H))
 (f17_J2 R [(.pointer s0), (.int .i64 s1), s2, s3, s4, s5, s6, (.int .i64 s7), s8, s9, s10, s11, s12, s13, s14, s15, s16, s17, s18, s19, s20, s21, s22, s23, s24, s25, s26, s27, s28, s29, (.int .i64 s7), (.bool false), s32, s33, s34, s35, s36, s37, s38, s39, s40, s41, s42, s43, s44, s45, s46, s47, s48, s49, s50, s51, s52, s53, s54, s55, s56, s57, s58] H)
theorem f17_R0_eq (s0 : Option Addr) (s1 : Int) (s2 : Value) (s3 : Value) (s4 : Value) (s5 : Value) (s6 : Value) (s7 : Int) (s8 : Value) (s9 : Value) (s10 : Value) (s11 : Value) (s12 : Value) (s13 : Value) (s14 : Value) (s15 : Value) (s16 : Value) (s17 : Value) (s18 : Value) (s19 : Value) (s20 : Value) (s21 : Value) (s22 : Value) (s23 : Value) (s24 : Value) (s25 : Value) (s26 : Value) (s27 : Value) (s28 : Value) (s29 : Value) (s30 : Value) (s31 : Value) (s32 : Value) (s33 : Value) (s34 : Value) (s35 : Value) (s36 : Value) (s37 : Value) (s38 : Value) (s39 : Value) (s40 : Value) (s41 : Value) (s42 : Value) (s43 : Value) (s44 : Value) (s45 : Value) (s46 : Value) (s47 : Value) (s48 : Value) (s49 : Value) (s50 : Value) (s51 : Value) (s52 : Value) (s53 : Value) (s54 : Value) (s55 : Value) (s56 : Value) (s57 : Value) (s58 : Value) (H : AH) (K0 : List Value → AH → Prop) (R : AEnd → AH → Prop) : awpF Try.prog (codeAt f17_c [1, 1, 1, 0, 1, 0, 0]) (thenF K0 (f17_Q0 R)) [(.pointer s0), (.int .i64 s1), s2, s3, s4, s5, s6, (.int .i64 s7), s8, s9, s10, s11, s12, s13, s14, s15, s16, s17, s18, s19, s20, s21, s22, s23, s24, s25, s26, s27, s28, s29, s30, s31, s32, s33, s34, s35, s36, s37, s38, s39, s40, s41, s42, s43, s44, s45, s46, s47, s48, s49, s50, s51, s52, s53, s54, s55, s56, s57, s58] H = f17_R0 s0 s1 s2 s3 s4 s5 s6 s7 s8 s9 s10 s11 s12 s13 s14 s15 s16 s17 s18 s19 s20 s21 s22 s23 s24 s25 s26 s27 s28 s29 s30 s31 s32 s33 s34 s35 s36 s37 s38 s39 s40 s41 s42 s43 s44 s45 s46 s47 s48 s49 s50 s51 s52 s53 s54 s55 s56 s57 s58 H K0 R := by kernel_rfl
def f17_I0 (s0 : Option Addr) (s1 : Int) (s2 : Value) (s3 : Value) (s6 : Value) (s8 : Value) (s9 : Value) (s10 : Value) (s11 : Value) (s12 : Value) (s13 : Value) (s14 : Value) (s15 : Value) (s16 : Value) (s17 : Value) (s18 : Value) (s19 : Value) (s20 : Value) (s21 : Value) (s22 : Value) (s23 : Value) (s24 : Value) (s25 : Value) (s26 : Value) (s27 : Value) (s28 : Value) (s29 : Value) (s52 : Value) (s53 : Value) (s54 : Value) (s55 : Value) (s56 : Value) (s57 : Value) (s58 : Value) (J : Nat → Int → AH → Prop) (n : Nat) (tm : List Value) (H : AH) : Prop := ∃ (s4 : Value) (s5 : Value) (s7 : Int) (s30 : Value) (s31 : Value) (s32 : Value) (s33 : Value) (s34 : Value) (s35 : Value) (s36 : Value) (s37 : Value) (s38 : Value) (s39 : Value) (s40 : Value) (s41 : Value) (s42 : Value) (s43 : Value) (s44 : Value) (s45 : Value) (s46 : Value) (s47 : Value) (s48 : Value) (s49 : Value) (s50 : Value) (s51 : Value), tm = [(.pointer s0), (.int .i64 s1), s2, s3, s4, s5, s6, (.int .i64 s7), s8, s9, s10, s11, s12, s13, s14, s15, s16, s17, s18, s19, s20, s21, s22, s23, s24, s25, s26, s27, s28, s29, s30, s31, s32, s33, s34, s35, s36, s37, s38, s39, s40, s41, s42, s43, s44, s45, s46, s47, s48, s49, s50, s51, s52, s53, s54, s55, s56, s57, s58] ∧ J n s7 H
theorem f17_I0_mk {s0 : Option Addr} {s1 : Int} {s2 : Value} {s3 : Value} {s4 : Value} {s5 : Value} {s6 : Value} {s7 : Int} {s8 : Value} {s9 : Value} {s10 : Value} {s11 : Value} {s12 : Value} {s13 : Value} {s14 : Value} {s15 : Value} {s16 : Value} {s17 : Value} {s18 : Value} {s19 : Value} {s20 : Value} {s21 : Value} {s22 : Value} {s23 : Value} {s24 : Value} {s25 : Value} {s26 : Value} {s27 : Value} {s28 : Value} {s29 : Value} {s30 : Value} {s31 : Value} {s32 : Value} {s33 : Value} {s34 : Value} {s35 : Value} {s36 : Value} {s37 : Value} {s38 : Value} {s39 : Value} {s40 : Value} {s41 : Value} {s42 : Value} {s43 : Value} {s44 : Value} {s45 : Value} {s46 : Value} {s47 : Value} {s48 : Value} {s49 : Value} {s50 : Value} {s51 : Value} {s52 : Value} {s53 : Value} {s54 : Value} {s55 : Value} {s56 : Value} {s57 : Value} {s58 : Value} {J : Nat → Int → AH → Prop} {n : Nat} {H : AH} (h : J n s7 H) : f17_I0 s0 s1 s2 s3 s6 s8 s9 s10 s11 s12 s13 s14 s15 s16 s17 s18 s19 s20 s21 s22 s23 s24 s25 s26 s27 s28 s29 s52 s53 s54 s55 s56 s57 s58 J n [(.pointer s0), (.int .i64 s1), s2, s3, s4, s5, s6, (.int .i64 s7), s8, s9, s10, s11, s12, s13, s14, s15, s16, s17, s18, s19, s20, s21, s22, s23, s24, s25, s26, s27, s28, s29, s30, s31, s32, s33, s34, s35, s36, s37, s38, s39, s40, s41, s42, s43, s44, s45, s46, s47, s48, s49, s50, s51, s52, s53, s54, s55, s56, s57, s58] H := ⟨_, _, _, _, _, _, _, _, _, _, _, _, _, _, _, _, _, _, _, _, _, _, _, _, _, rfl, h⟩
-- loop 0: carried 7:k
theorem f17_L0_rule {s0 : Option Addr} {s1 : Int} {s2 : Value} {s3 : Value} {s4 : Value} {s5 : Value} {s6 : Value} {s7 : Int} {s8 : Value} {s9 : Value} {s10 : Value} {s11 : Value} {s12 : Value} {s13 : Value} {s14 : Value} {s15 : Value} {s16 : Value} {s17 : Value} {s18 : Value} {s19 : Value} {s20 : Value} {s21 : Value} {s22 : Value} {s23 : Value} {s24 : Value} {s25 : Value} {s26 : Value} {s27 : Value} {s28 : Value} {s29 : Value} {s30 : Value} {s31 : Value} {s32 : Value} {s33 : Value} {s34 : Value} {s35 : Value} {s36 : Value} {s37 : Value} {s38 : Value} {s39 : Value} {s40 : Value} {s41 : Value} {s42 : Value} {s43 : Value} {s44 : Value} {s45 : Value} {s46 : Value} {s47 : Value} {s48 : Value} {s49 : Value} {s50 : Value} {s51 : Value} {s52 : Value} {s53 : Value} {s54 : Value} {s55 : Value} {s56 : Value} {s57 : Value} {s58 : Value} {H : AH} {R : AEnd → AH → Prop} (J : Nat → Int → AH → Prop) (n : Nat) (h0 : J n s7 H)
  (step : ∀ (n : Nat) (s7 : Int) (H : AH), J n s7 H → ∀ (s4 : Value) (s5 : Value) (s30 : Value) (s31 : Value) (s32 : Value) (s33 : Value) (s34 : Value) (s35 : Value) (s36 : Value) (s37 : Value) (s38 : Value) (s39 : Value) (s40 : Value) (s41 : Value) (s42 : Value) (s43 : Value) (s44 : Value) (s45 : Value) (s46 : Value) (s47 : Value) (s48 : Value) (s49 : Value) (s50 : Value) (s51 : Value), f17_R0 s0 s1 s2 s3 s4 s5 s6 s7 s8 s9 s10 s11 s12 s13 s14 s15 s16 s17 s18 s19 s20 s21 s22 s23 s24 s25 s26 s27 s28 s29 s30 s31 s32 s33 s34 s35 s36 s37 s38 s39 s40 s41 s42 s43 s44 s45 s46 s47 s48 s49 s50 s51 s52 s53 s54 s55 s56 s57 s58 H (fun tm H => ∃ m, m < n ∧ f17_I0 s0 s1 s2 s3 s6 s8 s9 s10 s11 s12 s13 s14 s15 s16 s17 s18 s19 s20 s21 s22 s23 s24 s25 s26 s27 s28 s29 s52 s53 s54 s55 s56 s57 s58 J m tm H) R) : f17_L0 R [(.pointer s0), (.int .i64 s1), s2, s3, s4, s5, s6, (.int .i64 s7), s8, s9, s10, s11, s12, s13, s14, s15, s16, s17, s18, s19, s20, s21, s22, s23, s24, s25, s26, s27, s28, s29, s30, s31, s32, s33, s34, s35, s36, s37, s38, s39, s40, s41, s42, s43, s44, s45, s46, s47, s48, s49, s50, s51, s52, s53, s54, s55, s56, s57, s58] H :=
  awpF_loop (f17_I0 s0 s1 s2 s3 s6 s8 s9 s10 s11 s12 s13 s14 s15 s16 s17 s18 s19 s20 s21 s22 s23 s24 s25 s26 s27 s28 s29 s52 s53 s54 s55 s56 s57 s58 J) n (f17_I0_mk h0) (by
    intro n tm H hh
    exact Exists.elim hh fun s4 hh => Exists.elim hh fun s5 hh => Exists.elim hh fun s7 hh => Exists.elim hh fun s30 hh => Exists.elim hh fun s31 hh => Exists.elim hh fun s32 hh => Exists.elim hh fun s33 hh => Exists.elim hh fun s34 hh => Exists.elim hh fun s35 hh => Exists.elim hh fun s36 hh => Exists.elim hh fun s37 hh => Exists.elim hh fun s38 hh => Exists.elim hh fun s39 hh => Exists.elim hh fun s40 hh => Exists.elim hh fun s41 hh => Exists.elim hh fun s42 hh => Exists.elim hh fun s43 hh => Exists.elim hh fun s44 hh => Exists.elim hh fun s45 hh => Exists.elim hh fun s46 hh => Exists.elim hh fun s47 hh => Exists.elim hh fun s48 hh => Exists.elim hh fun s49 hh => Exists.elim hh fun s50 hh => Exists.elim hh fun s51 hh => And.elim (fun e h =>
     (by subst e; exact Eq.mpr (f17_R0_eq s0 s1 s2 s3 s4 s5 s6 s7 s8 s9 s10 s11 s12 s13 s14 s15 s16 s17 s18 s19 s20 s21 s22 s23 s24 s25 s26 s27 s28 s29 s30 s31 s32 s33 s34 s35 s36 s37 s38 s39 s40 s41 s42 s43 s44 s45 s46 s47 s48 s49 s50 s51 s52 s53 s54 s55 s56 s57 s58 H _ R) (step n s7 H h s4 s5 s30 s31 s32 s33 s34 s35 s36 s37 s38 s39 s40 s41 s42 s43 s44 s45 s46 s47 s48 s49 s50 s51))) hh)
def f17_B (x0 : Option Addr) (x1 : Int) (H : AH) (R : AEnd → AH → Prop) : Prop :=
 wCall Try.prog 31 [(.pointer x0)] H (fun r22 H23 =>
 opI .i64 r22 fun n26 =>
 wIf (!decide (n26 = 0))
 (R (.ret (.tuple #[(.string ({ data := #[] })), (.int .i64 n26)])) H23)
 (wIf (decide (x1 < 0))
 (f17_J0 R [(.pointer x0), (.int .i64 x1), undef, undef, (.string ({ data := #[] })), (.int .i64 0), (.int .i64 n26), undef, (.pointer x0), (.int .i64 n26), (.int .i64 n26), (.bool false), undef, (.int .i64 x1), (.bool (decide (x1 < 0))), (.bool true), undef, undef, undef, undef, undef, undef, undef, (.bool true), undef, undef, undef, undef, undef, undef, undef, undef, undef, undef, undef, undef, undef, undef, undef, undef, undef, undef, undef, undef, undef, undef, undef, undef, undef, undef, undef, undef, undef, undef, undef, undef, undef, undef, undef] H23)
 (wPt x0 fun i27 k28 =>
 ldL i27 k28 H23 fun z29b z29l z29c =>
 f17_J0 R [(.pointer x0), (.int .i64 x1), undef, undef, (.string ({ data := #[] })), (.int .i64 0), (.int .i64 n26), undef, (.pointer x0), (.int .i64 n26), (.int .i64 n26), (.bool false), undef, (.int .i64 x1), (.bool (decide (x1 < 0))), (.bool false), (.int .i64 x1), (.pointer x0), (.pointer (some ⟨i27, k28, none⟩)), (.pointer (some ⟨i27, k28, none⟩)), (.slice z29b z29l z29c), (.int .i64 (z29l : Int)), (.bool (decide (x1 ≥ (z29l : Int)))), (.bool (decide (x1 ≥ (z29l : Int)))), undef, undef, undef, undef, undef, undef, undef, undef, undef, undef, undef, undef, undef, undef, undef, undef, undef, undef, undef, undef, undef, undef, undef, undef, undef, undef, undef, undef, undef, undef, undef, undef, undef, undef, undef] H23))) (fun v25 H24 => R (.panic v25) H24)
theorem f17_eq (x0 : Option Addr) (x1 : Int) (H : AH) (R : AEnd → AH → Prop) : awpF Try.prog f17_c (aPost Try.prog Try.f17 R) (([(.pointer x0), (.int .i64 x1)] : List Value) ++ List.replicate (Try.f17.ntmps - (([(.pointer x0), (.int .i64 x1)] : List Value)).length) undef) H = f17_B x0 x1 H R := by kernel_rfl
theorem f17_call (x0 : Option Addr) (x1 : Int) (H : AH) (R : AEnd → AH → Prop) (h : f17_B x0 x1 H R) : ACall Try.prog 17 ([(.pointer x0), (.int .i64 x1)] : List Value) H R :=
  acall_of mixed Try.func17 (by kernel_rfl : Try.f17.body = some f17_c) (by kernel_rfl) (by kernel_rfl) (awp_of (Eq.mpr (f17_eq x0 x1 H R) h))

/-! f18: (*switchyard/block.Device).Sectors -/
noncomputable def f18_c : Code := Try.f18.body.getD .skip
def f18_B (x0 : Option Addr) (H : AH) (R : AEnd → AH → Prop) : Prop :=
 wIf x0.isNone
 (R (.ret (.int .i64 0)) H)
 (wPt x0 fun i1 k2 =>
 ldL i1 k2 H fun z3b z3l z3c =>
 R (.ret (.int .i64 (z3l : Int))) H)
theorem f18_eq (x0 : Option Addr) (H : AH) (R : AEnd → AH → Prop) : awpF Try.prog f18_c (aPost Try.prog Try.f18 R) (([(.pointer x0)] : List Value) ++ List.replicate (Try.f18.ntmps - (([(.pointer x0)] : List Value)).length) undef) H = f18_B x0 H R := by kernel_rfl
theorem f18_call (x0 : Option Addr) (H : AH) (R : AEnd → AH → Prop) (h : f18_B x0 H R) : ACall Try.prog 18 ([(.pointer x0)] : List Value) H R :=
  acall_of mixed Try.func18 (by kernel_rfl : Try.f18.body = some f18_c) (by kernel_rfl) (by kernel_rfl) (awp_of (Eq.mpr (f18_eq x0 H R) h))

/-! f20: (*switchyard/block.Device).Kill -/
noncomputable def f20_c : Code := Try.f20.body.getD .skip
def f20_B (x0 : Option Addr) (x1_0 : Int) (x1_1 : Int) (x1_2 : Int) (H : AH) (R : AEnd → AH → Prop) : Prop :=
 wNew [(.int .u64 x1_0), (.int .i64 x1_1), (.int .i64 x1_2)] H fun i1 H2 =>
 wIf x0.isNone
 (R (.ret (.tuple #[])) H2)
 (wPt x0 fun i3 k4 =>
 ldB i3 (k4 + 2) H2 fun b5 =>
 wIf (!b5)
 (ldI .u64 i1 0 H2 fun n6 =>
 ldI .i64 i1 1 H2 fun n7 =>
 ldI .i64 i1 2 H2 fun n8 =>
 wCall Try.prog 35 [(.pointer x0), (.agg #[(.int .u64 n6), (.int .i64 n7), (.int .i64 n8)])] H2 (fun r9 H10 =>
 wCall Try.prog 16 [(.pointer x0)] H10 (fun r13 H14 =>
 R (.ret (.tuple #[])) H14) (fun v16 H15 => R (.panic v16) H15)) (fun v12 H11 => R (.panic v12) H11))
 (wCall Try.prog 16 [(.pointer x0)] H2 (fun r17 H18 =>
 R (.ret (.tuple #[])) H18) (fun v20 H19 => R (.panic v20) H19)))
theorem f20_eq (x0 : Option Addr) (x1_0 : Int) (x1_1 : Int) (x1_2 : Int) (H : AH) (R : AEnd → AH → Prop) : awpF Try.prog f20_c (aPost Try.prog Try.f20 R) (([(.pointer x0), (.agg #[(.int .u64 x1_0), (.int .i64 x1_1), (.int .i64 x1_2)])] : List Value) ++ List.replicate (Try.f20.ntmps - (([(.pointer x0), (.agg #[(.int .u64 x1_0), (.int .i64 x1_1), (.int .i64 x1_2)])] : List Value)).length) undef) H = f20_B x0 x1_0 x1_1 x1_2 H R := by kernel_rfl
theorem f20_call (x0 : Option Addr) (x1_0 : Int) (x1_1 : Int) (x1_2 : Int) (H : AH) (R : AEnd → AH → Prop) (h : f20_B x0 x1_0 x1_1 x1_2 H R) : ACall Try.prog 20 ([(.pointer x0), (.agg #[(.int .u64 x1_0), (.int .i64 x1_1), (.int .i64 x1_2)])] : List Value) H R :=
  acall_of mixed Try.func20 (by kernel_rfl : Try.f20.body = some f20_c) (by kernel_rfl) (by kernel_rfl) (awp_of (Eq.mpr (f20_eq x0 x1_0 x1_1 x1_2 H R) h))

/-! f27: (*switchyard/block.Device).Fill -/
noncomputable def f27_c : Code := Try.f27.body.getD .skip
noncomputable def f27_X0 (R : AEnd → AH → Prop) : AExit → List Value → AH → Prop := thenF (fun tm H => hold (awpF Try.prog (codeAt f27_c [1, 1]) (aPost Try.prog Try.f27 R) tm H)) (aPost Try.prog Try.f27 R)
noncomputable def f27_X1 (R : AEnd → AH → Prop) : AExit → List Value → AH → Prop := inBlockF 0 (f27_X0 R)
noncomputable def f27_Q0 (R : AEnd → AH → Prop) : AExit → List Value → AH → Prop := (f27_X1 R)
def f27_L0 (R : AEnd → AH → Prop) (tm : List Value) (H : AH) : Prop := awpF Try.prog (codeAt f27_c [1, 0, 1, 0]) (f27_Q0 R) tm H
def f27_J0 (R : AEnd → AH → Prop) (tm : List Value) (H : AH) : Prop := hold (awpF Try.prog (codeAt f27_c [1, 1]) ((aPost Try.prog Try.f27 R)) tm H)
-- join 0: live 0:d
def f27_J0_B (s0 : Option Addr) (H : AH) (R : AEnd → AH → Prop) : Prop :=
 wPt s0 fun i1 k2 =>
 wSt i1 (k2 + 1) [(.slice none 0 0)] H fun H3 =>
 R (.ret (.tuple #[])) H3
theorem f27_J0_eq (s0 : Option Addr) (s1 : Value) (s2 : Value) (s3 : Value) (s4 : Value) (s5 : Value) (s6 : Value) (s7 : Value) (s8 : Value) (s9 : Value) (s10 : Value) (s11 : Value) (s12 : Value) (s13 : Value) (s14 : Value) (s15 : Value) (s16 : Value) (s17 : Value) (s18 : Value) (s19 : Value) (s20 : Value) (s21 : Value) (s22 : Value) (s23 : Value) (s24 : Value) (s25 : Value) (s26 : Value) (s27 : Value) (s28 : Value) (s29 : Value) (s30 : Value) (s31 : Value) (s32 : Value) (s33 : Value) (H : AH) (R : AEnd → AH → Prop) : f27_J0 R [(.pointer s0), s1, s2, s3, s4, s5, s6, s7, s8, s9, s10, s11, s12, s13, s14, s15, s16, s17, s18, s19, s20, s21, s22, s23, s24, s25, s26, s27, s28, s29, s30, s31, s32, s33] H = f27_J0_B s0 H R := by kernel_rfl
def f27_R0 (s0 : Option Addr) (s1 : ByteArray) (s2 : Value) (s3 : Value) (s4 : Value) (s5 : Value) (s6 : Value) (s7 : Value) (s8 : Value) (s9 : Value) (s10 : Value) (s11 : Value) (s12 : Int) (s13 : Int) (s14 : Value) (s15 : Value) (s16 : Value) (s17 : Value) (s18 : Value) (s19 : Value) (s20 : Value) (s21 : Value) (s22 : Value) (s23 : Value) (s24 : Value) (s25 : Value) (s26 : Value) (s27 : Value) (s28 : Value) (s29 : Value) (s30 : Value) (s31 : Value) (s32 : Value) (s33 : Value) (H : AH) (K0 : List Value → AH → Prop) (R : AEnd → AH → Prop) : Prop :=
 wIf (decide (s13 < s12))
 (wMk [(.int .u8 0)] 1 1 64 64 H fun i4 H5 =>
 wCpS (some ⟨i4, 0, none⟩) (Int.toNat 64) 0 s1 H5 fun n6 H7 =>
 wSlS s1 n6 s1.size fun t8 =>
 wPt s0 fun i9 k10 =>
 (ldL i9 k10 H7 fun z11b z11l z11c =>
 wB2S (some ⟨i4, 0, none⟩) (Int.toNat 64) 0 H7 fun t12 =>
 wIx z11b z11l 1 s13 fun i13 k14 =>
 wSt i13 k14 [(.string t12)] H7 fun H15 =>
 K0 [(.pointer s0), (.string t8), s2, s3, (.int .i64 s13), (.slice (some ⟨i4, 0, none⟩) (Int.toNat 64) 0), s6, s7, s8, s9, s10, s11, (.int .i64 s12), (.int .i64 (IntKind.i64.wrap (s13 + 1))), (.bool true), (.int .i64 s13), (.slice (some ⟨i4, 0, none⟩) (Int.toNat 64) 0), (.string s1), (.slice (some ⟨i4, 0, none⟩) (Int.toNat 64) 0), (.string s1), (.int .i64 n6), (.string t8), (.pointer s0), (.pointer (some ⟨i9, k10, none⟩)), (.pointer (some ⟨i9, k10, none⟩)), (.slice z11b z11l z11c), (.int .i64 s13), (.slice (some ⟨i4, 0, none⟩) (Int.toNat 64) 0), (.string t12), (.pointer (some ⟨i13, k14, none⟩)), (.int .i64 (IntKind.i64.wrap (s13 + 1))), s31, s32, s33] H15) ∧
 (wB2S (some ⟨i4, 0, none⟩) (Int.toNat 64) 0 H7 fun t16 =>
 ldL i9 k10 H7 fun z17b z17l z17c =>
 wIx z17b z17l 1 s13 fun i18 k19 =>
 wSt i18 k19 [(.string t16)] H7 fun H20 =>
 K0 [(.pointer s0), (.string t8), s2, s3, (.int .i64 s13), (.slice (some ⟨i4, 0, none⟩) (Int.toNat 64) 0), s6, s7, s8, s9, s10, s11, (.int .i64 s12), (.int .i64 (IntKind.i64.wrap (s13 + 1))), (.bool true), (.int .i64 s13), (.slice (some ⟨i4, 0, none⟩) (Int.toNat 64) 0), (.string s1), (.slice (some ⟨i4, 0, none⟩) (Int.toNat 64) 0), (.string s1), (.int .i64 n6), (.string t8), (.pointer s0), (.pointer (some ⟨i9, k10, none⟩)), (.pointer (some ⟨i9, k10, none⟩)), (.slice z17b z17l z17c), (.int .i64 s13), (.slice (some ⟨i4, 0, none⟩) (Int.toNat 64) 0), (.string t16), (.pointer (some ⟨i18, k19, none⟩)), (.int .i64 (IntKind.i64.wrap (s13 + 1))), s31, s32, s33] H20))
 (f27_J0 R [(.pointer s0), (.string s1), s2, s3, s4, s5, s6, s7, s8, s9, s10, s11, (.int .i64 s12), (.int .i64 s13), (.bool false), s15, s16, s17, s18, s19, s20, s21, s22, s23, s24, s25, s26, s27, s28, s29, s30, s31, s32, s33] H)
theorem f27_R0_eq (s0 : Option Addr) (s1 : ByteArray) (s2 : Value) (s3 : Value) (s4 : Value) (s5 : Value) (s6 : Value) (s7 : Value) (s8 : Value) (s9 : Value) (s10 : Value) (s11 : Value) (s12 : Int) (s13 : Int) (s14 : Value) (s15 : Value) (s16 : Value) (s17 : Value) (s18 : Value) (s19 : Value) (s20 : Value) (s21 : Value) (s22 : Value) (s23 : Value) (s24 : Value) (s25 : Value) (s26 : Value) (s27 : Value) (s28 : Value) (s29 : Value) (s30 : Value) (s31 : Value) (s32 : Value) (s33 : Value) (H : AH) (K0 : List Value → AH → Prop) (R : AEnd → AH → Prop) : awpF Try.prog (codeAt f27_c [1, 0, 1, 0, 0]) (thenF K0 (f27_Q0 R)) [(.pointer s0), (.string s1), s2, s3, s4, s5, s6, s7, s8, s9, s10, s11, (.int .i64 s12), (.int .i64 s13), s14, s15, s16, s17, s18, s19, s20, s21, s22, s23, s24, s25, s26, s27, s28, s29, s30, s31, s32, s33] H = f27_R0 s0 s1 s2 s3 s4 s5 s6 s7 s8 s9 s10 s11 s12 s13 s14 s15 s16 s17 s18 s19 s20 s21 s22 s23 s24 s25 s26 s27 s28 s29 s30 s31 s32 s33 H K0 R := by kernel_rfl
def f27_I0 (s0 : Option Addr) (s2 : Value) (s3 : Value) (s6 : Value) (s7 : Value) (s8 : Value) (s9 : Value) (s10 : Value) (s11 : Value) (s12 : Int) (s31 : Value) (s32 : Value) (s33 : Value) (J : Nat → ByteArray → Int → AH → Prop) (n : Nat) (tm : List Value) (H : AH) : Prop := ∃ (s1 : ByteArray) (s4 : Value) (s5 : Value) (s13 : Int) (s14 : Value) (s15 : Value) (s16 : Value) (s17 : Value) (s18 : Value) (s19 : Value) (s20 : Value) (s21 : Value) (s22 : Value) (s23 : Value) (s24 : Value) (s25 : Value) (s26 : Value) (s27 : Value) (s28 : Value) (s29 : Value) (s30 : Value), tm = [(.pointer s0), (.string s1), s2, s3, s4, s5, s6, s7, s8, s9, s10, s11, (.int .i64 s12), (.int .i64 s13), s14, s15, s16, s17, s18, s19, s20, s21, s22, s23, s24, s25, s26, s27, s28, s29, s30, s31, s32, s33] ∧ J n s1 s13 H
theorem f27_I0_mk {s0 : Option Addr} {s1 : ByteArray} {s2 : Value} {s3 : Value} {s4 : Value} {s5 : Value} {s6 : Value} {s7 : Value} {s8 : Value} {s9 : Value} {s10 : Value} {s11 : Value} {s12 : Int} {s13 : Int} {s14 : Value} {s15 : Value} {s16 : Value} {s17 : Value} {s18 : Value} {s19 : Value} {s20 : Value} {s21 : Value} {s22 : Value} {s23 : Value} {s24 : Value} {s25 : Value} {s26 : Value} {s27 : Value} {s28 : Value} {s29 : Value} {s30 : Value} {s31 : Value} {s32 : Value} {s33 : Value} {J : Nat → ByteArray → Int → AH → Prop} {n : Nat} {H : AH} (h : J n s1 s13 H) : f27_I0 s0 s2 s3 s6 s7 s8 s9 s10 s11 s12 s31 s32 s33 J n [(.pointer s0), (.string s1), s2, s3, s4, s5, s6, s7, s8, s9, s10, s11, (.int .i64 s12), (.int .i64 s13), s14, s15, s16, s17, s18, s19, s20, s21, s22, s23, s24, s25, s26, s27, s28, s29, s30, s31, s32, s33] H := ⟨_, _, _, _, _, _, _, _, _, _, _, _, _, _, _, _, _, _, _, _, _, rfl, h⟩
-- loop 0: carried 1:s, 13:
theorem f27_L0_rule {s0 : Option Addr} {s1 : ByteArray} {s2 : Value} {s3 : Value} {s4 : Value} {s5 : Value} {s6 : Value} {s7 : Value} {s8 : Value} {s9 : Value} {s10 : Value} {s11 : Value} {s12 : Int} {s13 : Int} {s14 : Value} {s15 : Value} {s16 : Value} {s17 : Value} {s18 : Value} {s19 : Value} {s20 : Value} {s21 : Value} {s22 : Value} {s23 : Value} {s24 : Value} {s25 : Value} {s26 : Value} {s27 : Value} {s28 : Value} {s29 : Value} {s30 : Value} {s31 : Value} {s32 : Value} {s33 : Value} {H : AH} {R : AEnd → AH → Prop} (J : Nat → ByteArray → Int → AH → Prop) (n : Nat) (h0 : J n s1 s13 H)
  (step : ∀ (n : Nat) (s1 : ByteArray) (s13 : Int) (H : AH), J n s1 s13 H → ∀ (s4 : Value) (s5 : Value) (s14 : Value) (s15 : Value) (s16 : Value) (s17 : Value) (s18 : Value) (s19 : Value) (s20 : Value) (s21 : Value) (s22 : Value) (s23 : Value) (s24 : Value) (s25 : Value) (s26 : Value) (s27 : Value) (s28 : Value) (s29 : Value) (s30 : Value), f27_R0 s0 s1 s2 s3 s4 s5 s6 s7 s8 s9 s10 s11 s12 s13 s14 s15 s16 s17 s18 s19 s20 s21 s22 s23 s24 s25 s26 s27 s28 s29 s30 s31 s32 s33 H (fun tm H => ∃ m, m < n ∧ f27_I0 s0 s2 s3 s6 s7 s8 s9 s10 s11 s12 s31 s32 s33 J m tm H) R) : f27_L0 R [(.pointer s0), (.string s1), s2, s3, s4, s5, s6, s7, s8, s9, s10, s11, (.int .i64 s12), (.int .i64 s13), s14, s15, s16, s17, s18, s19, s20, s21, s22, s23, s24, s25, s26, s27, s28, s29, s30, s31, s32, s33] H :=
  awpF_loop (f27_I0 s0 s2 s3 s6 s7 s8 s9 s10 s11 s12 s31 s32 s33 J) n (f27_I0_mk h0) (by
    intro n tm H hh
    exact Exists.elim hh fun s1 hh => Exists.elim hh fun s4 hh => Exists.elim hh fun s5 hh => Exists.elim hh fun s13 hh => Exists.elim hh fun s14 hh => Exists.elim hh fun s15 hh => Exists.elim hh fun s16 hh => Exists.elim hh fun s17 hh => Exists.elim hh fun s18 hh => Exists.elim hh fun s19 hh => Exists.elim hh fun s20 hh => Exists.elim hh fun s21 hh => Exists.elim hh fun s22 hh => Exists.elim hh fun s23 hh => Exists.elim hh fun s24 hh => Exists.elim hh fun s25 hh => Exists.elim hh fun s26 hh => Exists.elim hh fun s27 hh => Exists.elim hh fun s28 hh => Exists.elim hh fun s29 hh => Exists.elim hh fun s30 hh => And.elim (fun e h =>
     (by subst e; exact Eq.mpr (f27_R0_eq s0 s1 s2 s3 s4 s5 s6 s7 s8 s9 s10 s11 s12 s13 s14 s15 s16 s17 s18 s19 s20 s21 s22 s23 s24 s25 s26 s27 s28 s29 s30 s31 s32 s33 H _ R) (step n s1 s13 H h s4 s5 s14 s15 s16 s17 s18 s19 s20 s21 s22 s23 s24 s25 s26 s27 s28 s29 s30))) hh)
def f27_B (x0 : Option Addr) (x1 : ByteArray) (H : AH) (R : AEnd → AH → Prop) : Prop :=
 wIf x0.isNone
 (R (.ret (.tuple #[])) H)
 (wPt x0 fun i21 k22 =>
 ldL i21 k22 H fun z23b z23l z23c =>
 f27_L0 R [(.pointer x0), (.string x1), undef, undef, undef, undef, (.pointer x0), (.bool false), (.pointer x0), (.pointer (some ⟨i21, k22, none⟩)), (.pointer (some ⟨i21, k22, none⟩)), (.slice z23b z23l z23c), (.int .i64 (z23l : Int)), (.int .i64 0), undef, undef, undef, undef, undef, undef, undef, undef, undef, undef, undef, undef, undef, undef, undef, undef, undef, undef, undef, undef] H)
theorem f27_eq (x0 : Option Addr) (x1 : ByteArray) (H : AH) (R : AEnd → AH → Prop) : awpF Try.prog f27_c (aPost Try.prog Try.f27 R) (([(.pointer x0), (.string x1)] : List Value) ++ List.replicate (Try.f27.ntmps - (([(.pointer x0), (.string x1)] : List Value)).length) undef) H = f27_B x0 x1 H R := by kernel_rfl
theorem f27_call (x0 : Option Addr) (x1 : ByteArray) (H : AH) (R : AEnd → AH → Prop) (h : f27_B x0 x1 H R) : ACall Try.prog 27 ([(.pointer x0), (.string x1)] : List Value) H R :=
  acall_of mixed Try.func27 (by kernel_rfl : Try.f27.body = some f27_c) (by kernel_rfl) (by kernel_rfl) (awp_of (Eq.mpr (f27_eq x0 x1 H R) h))

/-! f31: (*switchyard/block.Device).refused -/
noncomputable def f31_c : Code := Try.f31.body.getD .skip
def f31_B (x0 : Option Addr) (H : AH) (R : AEnd → AH → Prop) : Prop :=
 wIf x0.isNone
 (R (.ret (.int .i64 1)) H)
 (wPt x0 fun i1 k2 =>
 ldB i1 (k2 + 2) H fun b3 =>
 wIf b3
 (R (.ret (.int .i64 10)) H)
 (R (.ret (.int .i64 0)) H))
theorem f31_eq (x0 : Option Addr) (H : AH) (R : AEnd → AH → Prop) : awpF Try.prog f31_c (aPost Try.prog Try.f31 R) (([(.pointer x0)] : List Value) ++ List.replicate (Try.f31.ntmps - (([(.pointer x0)] : List Value)).length) undef) H = f31_B x0 H R := by kernel_rfl
theorem f31_call (x0 : Option Addr) (H : AH) (R : AEnd → AH → Prop) (h : f31_B x0 H R) : ACall Try.prog 31 ([(.pointer x0)] : List Value) H R :=
  acall_of mixed Try.func31 (by kernel_rfl : Try.f31.body = some f31_c) (by kernel_rfl) (by kernel_rfl) (awp_of (Eq.mpr (f31_eq x0 H R) h))

/-! f32: (*switchyard/block.Device).blows -/
noncomputable def f32_c : Code := Try.f32.body.getD .skip
def f32_B (x0 : Option Addr) (H : AH) (R : AEnd → AH → Prop) : Prop :=
 wPt x0 fun i1 k2 =>
 ldI .i64 i1 (k2 + 3) H fun n3 =>
 wIf (decide (n3 = 0))
 (R (.ret (.bool false)) H)
 (wPt x0 fun i4 k5 =>
 ldI .i64 i4 (k5 + 3) H fun n6 =>
 wPt x0 fun i7 k8 =>
 wSt i7 (k8 + 3) [(.int .i64 (IntKind.i64.wrap (n6 - 1)))] H fun H9 =>
 wPt x0 fun i10 k11 =>
 ldI .i64 i10 (k11 + 3) H9 fun n12 =>
 wIf (decide (n12 > 0))
 (R (.ret (.bool false)) H9)
 (wPt x0 fun i13 k14 =>
 ldI .u64 i13 (k14 + 4) H9 fun n15 =>
 ldI .i64 i13 (k14 + 5) H9 fun n16 =>
 ldI .i64 i13 (k14 + 6) H9 fun n17 =>
 wCall Try.prog 35 [(.pointer x0), (.agg #[(.int .u64 n15), (.int .i64 n16), (.int .i64 n17)])] H9 (fun r18 H19 =>
 wPt x0 fun i22 k23 =>
 wSt i22 (k23 + 2) [(.bool true)] H19 fun H24 =>
 R (.ret (.bool true)) H24) (fun v21 H20 => R (.panic v21) H20)))
theorem f32_eq (x0 : Option Addr) (H : AH) (R : AEnd → AH → Prop) : awpF Try.prog f32_c (aPost Try.prog Try.f32 R) (([(.pointer x0)] : List Value) ++ List.replicate (Try.f32.ntmps - (([(.pointer x0)] : List Value)).length) undef) H = f32_B x0 H R := by kernel_rfl
theorem f32_call (x0 : Option Addr) (H : AH) (R : AEnd → AH → Prop) (h : f32_B x0 H R) : ACall Try.prog 32 ([(.pointer x0)] : List Value) H R :=
  acall_of mixed Try.func32 (by kernel_rfl : Try.f32.body = some f32_c) (by kernel_rfl) (by kernel_rfl) (awp_of (Eq.mpr (f32_eq x0 H R) h))

/-! f33: switchyard/switchyardref03.Blank -/
noncomputable def f33_c : Code := Try.f33.body.getD .skip
def f33_B (x0 : Int) (H : AH) (R : AEnd → AH → Prop) : Prop :=
 wMk [(.int .u8 0)] 1 1 x0 x0 H fun i1 H2 =>
 wB2S (some ⟨i1, 0, none⟩) (Int.toNat x0) 0 H2 fun t3 =>
 R (.ret (.string t3)) H2
theorem f33_eq (x0 : Int) (H : AH) (R : AEnd → AH → Prop) : awpF Try.prog f33_c (aPost Try.prog Try.f33 R) (([(.int .i64 x0)] : List Value) ++ List.replicate (Try.f33.ntmps - (([(.int .i64 x0)] : List Value)).length) undef) H = f33_B x0 H R := by kernel_rfl
theorem f33_call (x0 : Int) (H : AH) (R : AEnd → AH → Prop) (h : f33_B x0 H R) : ACall Try.prog 33 ([(.int .i64 x0)] : List Value) H R :=
  acall_of mixed Try.func33 (by kernel_rfl : Try.f33.body = some f33_c) (by kernel_rfl) (by kernel_rfl) (awp_of (Eq.mpr (f33_eq x0 H R) h))

/-! f35: (*switchyard/block.Device).lose -/
noncomputable def f35_c : Code := Try.f35.body.getD .skip
noncomputable def f35_X0 (R : AEnd → AH → Prop) : AExit → List Value → AH → Prop := thenF (fun tm H => hold (awpF Try.prog (codeAt f35_c [1, 1]) (aPost Try.prog Try.f35 R) tm H)) (aPost Try.prog Try.f35 R)
noncomputable def f35_X1 (R : AEnd → AH → Prop) : AExit → List Value → AH → Prop := inBlockF 0 (f35_X0 R)
noncomputable def f35_Q0 (R : AEnd → AH → Prop) : AExit → List Value → AH → Prop := (f35_X1 R)
def f35_L0 (R : AEnd → AH → Prop) (tm : List Value) (H : AH) : Prop := awpF Try.prog (codeAt f35_c [1, 0, 1, 0]) (f35_Q0 R) tm H
def f35_J0 (R : AEnd → AH → Prop) (tm : List Value) (H : AH) : Prop := hold (awpF Try.prog (codeAt f35_c [1, 1]) ((aPost Try.prog Try.f35 R)) tm H)
-- join 0: live 0:G
def f35_J0_B (s0 : Option Addr) (H : AH) (R : AEnd → AH → Prop) : Prop :=
 wPt s0 fun i1 k2 =>
 wSt i1 (k2 + 1) [(.slice none 0 0)] H fun H3 =>
 R (.ret (.tuple #[])) H3
theorem f35_J0_eq (s0 : Option Addr) (s1 : Value) (s2 : Value) (s3 : Value) (s4 : Value) (s5 : Value) (s6 : Value) (s7 : Value) (s8 : Value) (s9 : Value) (s10 : Value) (s11 : Value) (s12 : Value) (s13 : Value) (s14 : Value) (s15 : Value) (s16 : Value) (s17 : Value) (s18 : Value) (s19 : Value) (s20 : Value) (s21 : Value) (s22 : Value) (s23 : Value) (s24 : Value) (s25 : Value) (s26 : Value) (s27 : Value) (s28 : Value) (s29 : Value) (s30 : Value) (s31 : Value) (s32 : Value) (s33 : Value) (s34 : Value) (s35 : Value) (s36 : Value) (s37 : Value) (s38 : Value) (s39 : Value) (s40 : Value) (s41 : Value) (s42 : Value) (s43 : Value) (s44 : Value) (s45 : Value) (s46 : Value) (s47 : Value) (s48 : Value) (s49 : Value) (s50 : Value) (s51 : Value) (s52 : Value) (s53 : Value) (s54 : Value) (s55 : Value) (s56 : Value) (s57 : Value) (s58 : Value) (s59 : Value) (s60 : Value) (s61 : Value) (s62 : Value) (s63 : Value) (s64 : Value) (s65 : Value) (s66 : Value) (s67 : Value) (s68 : Value) (H : AH) (R : AEnd → AH → Prop) : f35_J0 R [(.pointer s0), s1, s2, s3, s4, s5, s6, s7, s8, s9, s10, s11, s12, s13, s14, s15, s16, s17, s18, s19, s20, s21, s22, s23, s24, s25, s26, s27, s28, s29, s30, s31, s32, s33, s34, s35, s36, s37, s38, s39, s40, s41, s42, s43, s44, s45, s46, s47, s48, s49, s50, s51, s52, s53, s54, s55, s56, s57, s58, s59, s60, s61, s62, s63, s64, s65, s66, s67, s68] H = f35_J0_B s0 H R := by kernel_rfl
def f35_R0 (s0 : Option Addr) (s1 : Value) (s2 : Value) (s3 : Option Addr) (s4 : Value) (s5 : Value) (s6 : Value) (s7 : Value) (s8 : Value) (s9 : Value) (s10b : Option Addr) (s10l : Nat) (s10c : Nat) (s11 : Int) (s12 : Int) (s13 : Value) (s14 : Value) (s15 : Value) (s16 : Value) (s17 : Value) (s18 : Value) (s19 : Value) (s20 : Value) (s21 : Value) (s22 : Value) (s23 : Value) (s24 : Value) (s25 : Value) (s26 : Value) (s27 : Value) (s28 : Value) (s29 : Value) (s30 : Value) (s31 : Value) (s32 : Value) (s33 : Value) (s34 : Value) (s35 : Value) (s36 : Value) (s37 : Value) (s38 : Value) (s39 : Value) (s40 : Value) (s41 : Value) (s42 : Value) (s43 : Value) (s44 : Value) (s45 : Value) (s46 : Value) (s47 : Value) (s48 : Value) (s49 : Value) (s50 : Value) (s51 : Value) (s52 : Value) (s53 : Value) (s54 : Value) (s55 : Value) (s56 : Value) (s57 : Value) (s58 : Value) (s59 : Value) (s60 : Value) (s61 : Value) (s62 : Value) (s63 : Value) (s64 : Value) (s65 : Value) (s66 : Value) (s67 : Value) (s68 : Value) (H : AH) (K0 : List Value → AH → Prop) (R : AEnd → AH → Prop) : Prop :=
 wIf (decide (s12 < s11))
 (wIx s10b s10l 2 s12 fun i4 k5 =>
 ldI .i64 i4 k5 H fun n6 =>
 ldS i4 (k5 + 1) H fun t7 =>
 wNew [(.int .i64 0), (.string ({ data := #[] }))] H fun i8 H9 =>
 wSt i8 0 [(.int .i64 n6), (.string t7)] H9 fun H10 =>
 wPt s3 fun i11 k12 =>
 ldI .i64 i11 (k12 + 1) H10 fun n13 =>
 wIf (decide (s12 = n13))
 (wPt s3 fun i14 k15 =>
 ldI .i64 i14 (k15 + 2) H10 fun n16 =>
 wPt s0 fun i17 k18 =>
 wPt s0 fun i19 k20 =>
 ldL i17 k18 H10 fun z21b z21l z21c =>
 ldI .i64 i8 0 H10 fun n22 =>
 ldS i8 1 H10 fun t23 =>
 wSlS t23 0 (Int.tmod (if 0 < n16 then n16 else 0) 65) fun t24 =>
 ldL i19 k20 H10 fun z25b z25l z25c =>
 ldI .i64 i8 0 H10 fun n26 =>
 wIx z25b z25l 1 n26 fun i27 k28 =>
 ldS i27 k28 H10 fun t29 =>
 wSlS t29 (Int.tmod (if 0 < n16 then n16 else 0) 65) t29.size fun t30 =>
 wCat t24 t30 fun t31 =>
 wIx z21b z21l 1 n22 fun i32 k33 =>
 wSt i32 k33 [(.string t31)] H10 fun H34 =>
 K0 [(.pointer s0), s1, s2, (.pointer s3), (.int .i64 s12), (.pointer (some ⟨i8, 0, none⟩)), (.int .i64 (Int.tmod (if 0 < n16 then n16 else 0) 65)), s7, s8, s9, (.slice s10b s10l s10c), (.int .i64 s11), (.int .i64 (IntKind.i64.wrap (s12 + 1))), (.bool true), (.int .i64 s12), (.pointer (some ⟨i4, k5, none⟩)), (.agg #[(.int .i64 n6), (.string t7)]), (.bool true), (.int .i64 s12), (.pointer (some ⟨i11, (k12 + 1), none⟩)), (.int .i64 n13), (.bool (decide (s12 = n13))), (.pointer (some ⟨i14, (k15 + 2), none⟩)), (.int .i64 n16), (.int .i64 (if 0 < n16 then n16 else 0)), (.int .i64 (Int.tmod (if 0 < n16 then n16 else 0) 65)), (.pointer s0), (.pointer (some ⟨i17, k18, none⟩)), (.pointer (some ⟨i17, k18, none⟩)), (.slice z21b z21l z21c), (.pointer (some ⟨i8, 0, none⟩)), (.int .i64 n22), (.pointer (some ⟨i8, 1, none⟩)), (.string t23), (.int .i64 (Int.tmod (if 0 < n16 then n16 else 0) 65)), (.string t24), (.pointer s0), (.pointer (some ⟨i19, k20, none⟩)), (.pointer (some ⟨i19, k20, none⟩)), (.slice z25b z25l z25c), (.pointer (some ⟨i8, 0, none⟩)), (.int .i64 n26), (.pointer (some ⟨i27, k28, none⟩)), (.string t29), (.int .i64 (Int.tmod (if 0 < n16 then n16 else 0) 65)), (.string t30), (.string t31), (.pointer (some ⟨i32, k33, none⟩)), s48, s49, s50, s51, s52, s53, s54, s55, s56, s57, s58, s59, s60, s61, s62, s63, s64, (.int .i64 (IntKind.i64.wrap (s12 + 1))), s66, s67, s68] H34)
 (wPt s3 fun i35 k36 =>
 ldI .u64 i35 k36 H10 fun n37 =>
 wNn (Int.tmod s12 64)
 (wIf (decide ((IntKind.u64.wrap ((BitVec.ofInt IntKind.u64.bits (Int.fdiv n37 (2 ^ (min (Int.toNat (Int.tmod s12 64)) IntKind.u64.bits)))) &&& (BitVec.ofInt IntKind.u64.bits 1)).toNat) = 1))
 (wPt s0 fun i38 k39 =>
 ldL i38 k39 H10 fun z40b z40l z40c =>
 ldI .i64 i8 0 H10 fun n41 =>
 ldS i8 1 H10 fun t42 =>
 wIx z40b z40l 1 n41 fun i43 k44 =>
 wSt i43 k44 [(.string t42)] H10 fun H45 =>
 K0 [(.pointer s0), s1, s2, (.pointer s3), (.int .i64 s12), (.pointer (some ⟨i8, 0, none⟩)), s6, s7, s8, s9, (.slice s10b s10l s10c), (.int .i64 s11), (.int .i64 (IntKind.i64.wrap (s12 + 1))), (.bool true), (.int .i64 s12), (.pointer (some ⟨i4, k5, none⟩)), (.agg #[(.int .i64 n6), (.string t7)]), (.bool false), (.int .i64 s12), (.pointer (some ⟨i11, (k12 + 1), none⟩)), (.int .i64 n13), (.bool (decide (s12 = n13))), s22, s23, s24, s25, s26, s27, s28, s29, s30, s31, s32, s33, s34, s35, s36, s37, s38, s39, s40, s41, s42, s43, s44, s45, s46, s47, (.bool true), (.pointer (some ⟨i35, k36, none⟩)), (.int .u64 n37), (.int .i64 s12), (.int .i64 (Int.tmod s12 64)), (.int .u64 (Int.fdiv n37 (2 ^ (min (Int.toNat (Int.tmod s12 64)) IntKind.u64.bits)))), (.int .u64 (IntKind.u64.wrap ((BitVec.ofInt IntKind.u64.bits (Int.fdiv n37 (2 ^ (min (Int.toNat (Int.tmod s12 64)) IntKind.u64.bits)))) &&& (BitVec.ofInt IntKind.u64.bits 1)).toNat)), (.bool (decide ((IntKind.u64.wrap ((BitVec.ofInt IntKind.u64.bits (Int.fdiv n37 (2 ^ (min (Int.toNat (Int.tmod s12 64)) IntKind.u64.bits)))) &&& (BitVec.ofInt IntKind.u64.bits 1)).toNat) = 1))), (.pointer s0), (.pointer (some ⟨i38, k39, none⟩)), (.pointer (some ⟨i38, k39, none⟩)), (.slice z40b z40l z40c), (.pointer (some ⟨i8, 0, none⟩)), (.int .i64 n41), (.pointer (some ⟨i8, 1, none⟩)), (.string t42), (.pointer (some ⟨i43, k44, none⟩)), (.int .i64 (IntKind.i64.wrap (s12 + 1))), s66, s67, s68] H45)
 (K0 [(.pointer s0), s1, s2, (.pointer s3), (.int .i64 s12), (.pointer (some ⟨i8, 0, none⟩)), s6, s7, s8, s9, (.slice s10b s10l s10c), (.int .i64 s11), (.int .i64 (IntKind.i64.wrap (s12 + 1))), (.bool true), (.int .i64 s12), (.pointer (some ⟨i4, k5, none⟩)), (.agg #[(.int .i64 n6), (.string t7)]), (.bool false), (.int .i64 s12), (.pointer (some ⟨i11, (k12 + 1), none⟩)), (.int .i64 n13), (.bool (decide (s12 = n13))), s22, s23, s24, s25, s26, s27, s28, s29, s30, s31, s32, s33, s34, s35, s36, s37, s38, s39, s40, s41, s42, s43, s44, s45, s46, s47, (.bool false), (.pointer (some ⟨i35, k36, none⟩)), (.int .u64 n37), (.int .i64 s12), (.int .i64 (Int.tmod s12 64)), (.int .u64 (Int.fdiv n37 (2 ^ (min (Int.toNat (Int.tmod s12 64)) IntKind.u64.bits)))), (.int .u64 (IntKind.u64.wrap ((BitVec.ofInt IntKind.u64.bits (Int.fdiv n37 (2 ^ (min (Int.toNat (Int.tmod s12 64)) IntKind.u64.bits)))) &&& (BitVec.ofInt IntKind.u64.bits 1)).toNat)), (.bool (decide ((IntKind.u64.wrap ((BitVec.ofInt IntKind.u64.bits (Int.fdiv n37 (2 ^ (min (Int.toNat (Int.tmod s12 64)) IntKind.u64.bits)))) &&& (BitVec.ofInt IntKind.u64.bits 1)).toNat) = 1))), s56, s57, s58, s59, s60, s61, s62, s63, s64, (.int .i64 (IntKind.i64.wrap (s12 + 1))), s66, s67, s68] H10))))
 (f35_J0 R [(.pointer s0), s1, s2, (.pointer s3), s4, s5, s6, s7, s8, s9, (.slice s10b s10l s10c), (.int .i64 s11), (.int .i64 s12), (.bool false), s14, s15, s16, s17, s18, s19, s20, s21, s22, s23, s24, s25, s26, s27, s28, s29, s30, s31, s32, s33, s34, s35, s36, s37, s38, s39, s40, s41, s42, s43, s44, s45, s46, s47, s48, s49, s50, s51, s52, s53, s54, s55, s56, s57, s58, s59, s60, s61, s62, s63, s64, s65, s66, s67, s68] H)
theorem f35_R0_eq (s0 : Option Addr) (s1 : Value) (s2 : Value) (s3 : Option Addr) (s4 : Value) (s5 : Value) (s6 : Value) (s7 : Value) (s8 : Value) (s9 : Value) (s10b : Option Addr) (s10l : Nat) (s10c : Nat) (s11 : Int) (s12 : Int) (s13 : Value) (s14 : Value) (s15 : Value) (s16 : Value) (s17 : Value) (s18 : Value) (s19 : Value) (s20 : Value) (s21 : Value) (s22 : Value) (s23 : Value) (s24 : Value) (s25 : Value) (s26 : Value) (s27 : Value) (s28 : Value) (s29 : Value) (s30 : Value) (s31 : Value) (s32 : Value) (s33 : Value) (s34 : Value) (s35 : Value) (s36 : Value) (s37 : Value) (s38 : Value) (s39 : Value) (s40 : Value) (s41 : Value) (s42 : Value) (s43 : Value) (s44 : Value) (s45 : Value) (s46 : Value) (s47 : Value) (s48 : Value) (s49 : Value) (s50 : Value) (s51 : Value) (s52 : Value) (s53 : Value) (s54 : Value) (s55 : Value) (s56 : Value) (s57 : Value) (s58 : Value) (s59 : Value) (s60 : Value) (s61 : Value) (s62 : Value) (s63 : Value) (s64 : Value) (s65 : Value) (s66 : Value) (s67 : Value) (s68 : Value) (H : AH) (K0 : List Value → AH → Prop) (R : AEnd → AH → Prop) : awpF Try.prog (codeAt f35_c [1, 0, 1, 0, 0]) (thenF K0 (f35_Q0 R)) [(.pointer s0), s1, s2, (.pointer s3), s4, s5, s6, s7, s8, s9, (.slice s10b s10l s10c), (.int .i64 s11), (.int .i64 s12), s13, s14, s15, s16, s17, s18, s19, s20, s21, s22, s23, s24, s25, s26, s27, s28, s29, s30, s31, s32, s33, s34, s35, s36, s37, s38, s39, s40, s41, s42, s43, s44, s45, s46, s47, s48, s49, s50, s51, s52, s53, s54, s55, s56, s57, s58, s59, s60, s61, s62, s63, s64, s65, s66, s67, s68] H = f35_R0 s0 s1 s2 s3 s4 s5 s6 s7 s8 s9 s10b s10l s10c s11 s12 s13 s14 s15 s16 s17 s18 s19 s20 s21 s22 s23 s24 s25 s26 s27 s28 s29 s30 s31 s32 s33 s34 s35 s36 s37 s38 s39 s40 s41 s42 s43 s44 s45 s46 s47 s48 s49 s50 s51 s52 s53 s54 s55 s56 s57 s58 s59 s60 s61 s62 s63 s64 s65 s66 s67 s68 H K0 R := by kernel_rfl
def f35_I0 (s0 : Option Addr) (s1 : Value) (s2 : Value) (s3 : Option Addr) (s7 : Value) (s8 : Value) (s9 : Value) (s10b : Option Addr) (s10l : Nat) (s10c : Nat) (s11 : Int) (s66 : Value) (s67 : Value) (s68 : Value) (J : Nat → Int → AH → Prop) (n : Nat) (tm : List Value) (H : AH) : Prop := ∃ (s4 : Value) (s5 : Value) (s6 : Value) (s12 : Int) (s13 : Value) (s14 : Value) (s15 : Value) (s16 : Value) (s17 : Value) (s18 : Value) (s19 : Value) (s20 : Value) (s21 : Value) (s22 : Value) (s23 : Value) (s24 : Value) (s25 : Value) (s26 : Value) (s27 : Value) (s28 : Value) (s29 : Value) (s30 : Value) (s31 : Value) (s32 : Value) (s33 : Value) (s34 : Value) (s35 : Value) (s36 : Value) (s37 : Value) (s38 : Value) (s39 : Value) (s40 : Value) (s41 : Value) (s42 : Value) (s43 : Value) (s44 : Value) (s45 : Value) (s46 : Value) (s47 : Value) (s48 : Value) (s49 : Value) (s50 : Value) (s51 : Value) (s52 : Value) (s53 : Value) (s54 : Value) (s55 : Value) (s56 : Value) (s57 : Value) (s58 : Value) (s59 : Value) (s60 : Value) (s61 : Value) (s62 : Value) (s63 : Value) (s64 : Value) (s65 : Value), tm = [(.pointer s0), s1, s2, (.pointer s3), s4, s5, s6, s7, s8, s9, (.slice s10b s10l s10c), (.int .i64 s11), (.int .i64 s12), s13, s14, s15, s16, s17, s18, s19, s20, s21, s22, s23, s24, s25, s26, s27, s28, s29, s30, s31, s32, s33, s34, s35, s36, s37, s38, s39, s40, s41, s42, s43, s44, s45, s46, s47, s48, s49, s50, s51, s52, s53, s54, s55, s56, s57, s58, s59, s60, s61, s62, s63, s64, s65, s66, s67, s68] ∧ J n s12 H
theorem f35_I0_mk {s0 : Option Addr} {s1 : Value} {s2 : Value} {s3 : Option Addr} {s4 : Value} {s5 : Value} {s6 : Value} {s7 : Value} {s8 : Value} {s9 : Value} {s10b : Option Addr} {s10l : Nat} {s10c : Nat} {s11 : Int} {s12 : Int} {s13 : Value} {s14 : Value} {s15 : Value} {s16 : Value} {s17 : Value} {s18 : Value} {s19 : Value} {s20 : Value} {s21 : Value} {s22 : Value} {s23 : Value} {s24 : Value} {s25 : Value} {s26 : Value} {s27 : Value} {s28 : Value} {s29 : Value} {s30 : Value} {s31 : Value} {s32 : Value} {s33 : Value} {s34 : Value} {s35 : Value} {s36 : Value} {s37 : Value} {s38 : Value} {s39 : Value} {s40 : Value} {s41 : Value} {s42 : Value} {s43 : Value} {s44 : Value} {s45 : Value} {s46 : Value} {s47 : Value} {s48 : Value} {s49 : Value} {s50 : Value} {s51 : Value} {s52 : Value} {s53 : Value} {s54 : Value} {s55 : Value} {s56 : Value} {s57 : Value} {s58 : Value} {s59 : Value} {s60 : Value} {s61 : Value} {s62 : Value} {s63 : Value} {s64 : Value} {s65 : Value} {s66 : Value} {s67 : Value} {s68 : Value} {J : Nat → Int → AH → Prop} {n : Nat} {H : AH} (h : J n s12 H) : f35_I0 s0 s1 s2 s3 s7 s8 s9 s10b s10l s10c s11 s66 s67 s68 J n [(.pointer s0), s1, s2, (.pointer s3), s4, s5, s6, s7, s8, s9, (.slice s10b s10l s10c), (.int .i64 s11), (.int .i64 s12), s13, s14, s15, s16, s17, s18, s19, s20, s21, s22, s23, s24, s25, s26, s27, s28, s29, s30, s31, s32, s33, s34, s35, s36, s37, s38, s39, s40, s41, s42, s43, s44, s45, s46, s47, s48, s49, s50, s51, s52, s53, s54, s55, s56, s57, s58, s59, s60, s61, s62, s63, s64, s65, s66, s67, s68] H := ⟨_, _, _, _, _, _, _, _, _, _, _, _, _, _, _, _, _, _, _, _, _, _, _, _, _, _, _, _, _, _, _, _, _, _, _, _, _, _, _, _, _, _, _, _, _, _, _, _, _, _, _, _, _, _, _, _, _, rfl, h⟩
-- loop 0: carried 12:r
theorem f35_L0_rule {s0 : Option Addr} {s1 : Value} {s2 : Value} {s3 : Option Addr} {s4 : Value} {s5 : Value} {s6 : Value} {s7 : Value} {s8 : Value} {s9 : Value} {s10b : Option Addr} {s10l : Nat} {s10c : Nat} {s11 : Int} {s12 : Int} {s13 : Value} {s14 : Value} {s15 : Value} {s16 : Value} {s17 : Value} {s18 : Value} {s19 : Value} {s20 : Value} {s21 : Value} {s22 : Value} {s23 : Value} {s24 : Value} {s25 : Value} {s26 : Value} {s27 : Value} {s28 : Value} {s29 : Value} {s30 : Value} {s31 : Value} {s32 : Value} {s33 : Value} {s34 : Value} {s35 : Value} {s36 : Value} {s37 : Value} {s38 : Value} {s39 : Value} {s40 : Value} {s41 : Value} {s42 : Value} {s43 : Value} {s44 : Value} {s45 : Value} {s46 : Value} {s47 : Value} {s48 : Value} {s49 : Value} {s50 : Value} {s51 : Value} {s52 : Value} {s53 : Value} {s54 : Value} {s55 : Value} {s56 : Value} {s57 : Value} {s58 : Value} {s59 : Value} {s60 : Value} {s61 : Value} {s62 : Value} {s63 : Value} {s64 : Value} {s65 : Value} {s66 : Value} {s67 : Value} {s68 : Value} {H : AH} {R : AEnd → AH → Prop} (J : Nat → Int → AH → Prop) (n : Nat) (h0 : J n s12 H)
  (step : ∀ (n : Nat) (s12 : Int) (H : AH), J n s12 H → ∀ (s4 : Value) (s5 : Value) (s6 : Value) (s13 : Value) (s14 : Value) (s15 : Value) (s16 : Value) (s17 : Value) (s18 : Value) (s19 : Value) (s20 : Value) (s21 : Value) (s22 : Value) (s23 : Value) (s24 : Value) (s25 : Value) (s26 : Value) (s27 : Value) (s28 : Value) (s29 : Value) (s30 : Value) (s31 : Value) (s32 : Value) (s33 : Value) (s34 : Value) (s35 : Value) (s36 : Value) (s37 : Value) (s38 : Value) (s39 : Value) (s40 : Value) (s41 : Value) (s42 : Value) (s43 : Value) (s44 : Value) (s45 : Value) (s46 : Value) (s47 : Value) (s48 : Value) (s49 : Value) (s50 : Value) (s51 : Value) (s52 : Value) (s53 : Value) (s54 : Value) (s55 : Value) (s56 : Value) (s57 : Value) (s58 : Value) (s59 : Value) (s60 : Value) (s61 : Value) (s62 : Value) (s63 : Value) (s64 : Value) (s65 : Value), f35_R0 s0 s1 s2 s3 s4 s5 s6 s7 s8 s9 s10b s10l s10c s11 s12 s13 s14 s15 s16 s17 s18 s19 s20 s21 s22 s23 s24 s25 s26 s27 s28 s29 s30 s31 s32 s33 s34 s35 s36 s37 s38 s39 s40 s41 s42 s43 s44 s45 s46 s47 s48 s49 s50 s51 s52 s53 s54 s55 s56 s57 s58 s59 s60 s61 s62 s63 s64 s65 s66 s67 s68 H (fun tm H => ∃ m, m < n ∧ f35_I0 s0 s1 s2 s3 s7 s8 s9 s10b s10l s10c s11 s66 s67 s68 J m tm H) R) : f35_L0 R [(.pointer s0), s1, s2, (.pointer s3), s4, s5, s6, s7, s8, s9, (.slice s10b s10l s10c), (.int .i64 s11), (.int .i64 s12), s13, s14, s15, s16, s17, s18, s19, s20, s21, s22, s23, s24, s25, s26, s27, s28, s29, s30, s31, s32, s33, s34, s35, s36, s37, s38, s39, s40, s41, s42, s43, s44, s45, s46, s47, s48, s49, s50, s51, s52, s53, s54, s55, s56, s57, s58, s59, s60, s61, s62, s63, s64, s65, s66, s67, s68] H :=
  awpF_loop (f35_I0 s0 s1 s2 s3 s7 s8 s9 s10b s10l s10c s11 s66 s67 s68 J) n (f35_I0_mk h0) (by
    intro n tm H hh
    exact Exists.elim hh fun s4 hh => Exists.elim hh fun s5 hh => Exists.elim hh fun s6 hh => Exists.elim hh fun s12 hh => Exists.elim hh fun s13 hh => Exists.elim hh fun s14 hh => Exists.elim hh fun s15 hh => Exists.elim hh fun s16 hh => Exists.elim hh fun s17 hh => Exists.elim hh fun s18 hh => Exists.elim hh fun s19 hh => Exists.elim hh fun s20 hh => Exists.elim hh fun s21 hh => Exists.elim hh fun s22 hh => Exists.elim hh fun s23 hh => Exists.elim hh fun s24 hh => Exists.elim hh fun s25 hh => Exists.elim hh fun s26 hh => Exists.elim hh fun s27 hh => Exists.elim hh fun s28 hh => Exists.elim hh fun s29 hh => Exists.elim hh fun s30 hh => Exists.elim hh fun s31 hh => Exists.elim hh fun s32 hh => Exists.elim hh fun s33 hh => Exists.elim hh fun s34 hh => Exists.elim hh fun s35 hh => Exists.elim hh fun s36 hh => Exists.elim hh fun s37 hh => Exists.elim hh fun s38 hh => Exists.elim hh fun s39 hh => Exists.elim hh fun s40 hh => Exists.elim hh fun s41 hh => Exists.elim hh fun s42 hh => Exists.elim hh fun s43 hh => Exists.elim hh fun s44 hh => Exists.elim hh fun s45 hh => Exists.elim hh fun s46 hh => Exists.elim hh fun s47 hh => Exists.elim hh fun s48 hh => Exists.elim hh fun s49 hh => Exists.elim hh fun s50 hh => Exists.elim hh fun s51 hh => Exists.elim hh fun s52 hh => Exists.elim hh fun s53 hh => Exists.elim hh fun s54 hh => Exists.elim hh fun s55 hh => Exists.elim hh fun s56 hh => Exists.elim hh fun s57 hh => Exists.elim hh fun s58 hh => Exists.elim hh fun s59 hh => Exists.elim hh fun s60 hh => Exists.elim hh fun s61 hh => Exists.elim hh fun s62 hh => Exists.elim hh fun s63 hh => Exists.elim hh fun s64 hh => Exists.elim hh fun s65 hh => And.elim (fun e h =>
     (by subst e; exact Eq.mpr (f35_R0_eq s0 s1 s2 s3 s4 s5 s6 s7 s8 s9 s10b s10l s10c s11 s12 s13 s14 s15 s16 s17 s18 s19 s20 s21 s22 s23 s24 s25 s26 s27 s28 s29 s30 s31 s32 s33 s34 s35 s36 s37 s38 s39 s40 s41 s42 s43 s44 s45 s46 s47 s48 s49 s50 s51 s52 s53 s54 s55 s56 s57 s58 s59 s60 s61 s62 s63 s64 s65 s66 s67 s68 H _ R) (step n s12 H h s4 s5 s6 s13 s14 s15 s16 s17 s18 s19 s20 s21 s22 s23 s24 s25 s26 s27 s28 s29 s30 s31 s32 s33 s34 s35 s36 s37 s38 s39 s40 s41 s42 s43 s44 s45 s46 s47 s48 s49 s50 s51 s52 s53 s54 s55 s56 s57 s58 s59 s60 s61 s62 s63 s64 s65))) hh)
def f35_B (x0 : Option Addr) (x1_0 : Int) (x1_1 : Int) (x1_2 : Int) (H : AH) (R : AEnd → AH → Prop) : Prop :=
 wNew [(.int .u64 x1_0), (.int .i64 x1_1), (.int .i64 x1_2)] H fun i46 H47 =>
 wPt x0 fun i48 k49 =>
 ldL i48 (k49 + 1) H47 fun z50b z50l z50c =>
 f35_L0 R [(.pointer x0), (.agg #[(.int .u64 x1_0), (.int .i64 x1_1), (.int .i64 x1_2)]), undef, (.pointer (some ⟨i46, 0, none⟩)), undef, undef, undef, (.pointer x0), (.pointer (some ⟨i48, k49, none⟩)), (.pointer (some ⟨i48, (k49 + 1), none⟩)), (.slice z50b z50l z50c), (.int .i64 (z50l : Int)), (.int .i64 0), undef, undef, undef, undef, undef, undef, undef, undef, undef, undef, undef, undef, undef, undef, undef, undef, undef, undef, undef, undef, undef, undef, undef, undef, undef, undef, undef, undef, undef, undef, undef, undef, undef, undef, undef, undef, undef, undef, undef, undef, undef, undef, undef, undef, undef, undef, undef, undef, undef, undef, undef, undef, undef, undef, undef, undef] H47
theorem f35_eq (x0 : Option Addr) (x1_0 : Int) (x1_1 : Int) (x1_2 : Int) (H : AH) (R : AEnd → AH → Prop) : awpF Try.prog f35_c (aPost Try.prog Try.f35 R) (([(.pointer x0), (.agg #[(.int .u64 x1_0), (.int .i64 x1_1), (.int .i64 x1_2)])] : List Value) ++ List.replicate (Try.f35.ntmps - (([(.pointer x0), (.agg #[(.int .u64 x1_0), (.int .i64 x1_1), (.int .i64 x1_2)])] : List Value)).length) undef) H = f35_B x0 x1_0 x1_1 x1_2 H R := by kernel_rfl
theorem f35_call (x0 : Option Addr) (x1_0 : Int) (x1_1 : Int) (x1_2 : Int) (H : AH) (R : AEnd → AH → Prop) (h : f35_B x0 x1_0 x1_1 x1_2 H R) : ACall Try.prog 35 ([(.pointer x0), (.agg #[(.int .u64 x1_0), (.int .i64 x1_1), (.int .i64 x1_2)])] : List Value) H R :=
  acall_of mixed Try.func35 (by kernel_rfl : Try.f35.body = some f35_c) (by kernel_rfl) (by kernel_rfl) (awp_of (Eq.mpr (f35_eq x0 x1_0 x1_1 x1_2 H R) h))

end Go.Proofs.Ytnjhcnefgeodcaa
