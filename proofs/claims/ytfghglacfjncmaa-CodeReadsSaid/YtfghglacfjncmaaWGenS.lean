/- Bodies of functions as nested rules: printed by genw.py, a program of this claim. -/
import Derived.Test.YtfghglacfjncmaaWTy
namespace Go.Proofs.Ytfghglacfjncmaa
open Go.RowKit
set_option linter.unusedVariables false
set_option maxRecDepth 100000

/-! f14: switchyard/switchyardref06.Same -/
noncomputable def f14_c : Code := Try.f14.body.getD .skip
noncomputable def f14_X0 (R : AEnd → AH → Prop) : AExit → List Value → AH → Prop := thenF (fun tm H => hold (awpF Try.prog (codeAt f14_c [1, 1, 1]) (aPost Try.prog Try.f14 R) tm H)) (aPost Try.prog Try.f14 R)
noncomputable def f14_X1 (R : AEnd → AH → Prop) : AExit → List Value → AH → Prop := inBlockF 0 (f14_X0 R)
noncomputable def f14_Q0 (R : AEnd → AH → Prop) : AExit → List Value → AH → Prop := (f14_X1 R)
def f14_L0 (R : AEnd → AH → Prop) (tm : List Value) (H : AH) : Prop := awpF Try.prog (codeAt f14_c [1, 1, 0, 1, 0]) (f14_Q0 R) tm H
def f14_J0 (R : AEnd → AH → Prop) (tm : List Value) (H : AH) : Prop := hold (awpF Try.prog (codeAt f14_c [1, 1]) ((aPost Try.prog Try.f14 R)) tm H)
noncomputable def f14_X2 (K0 : List Value → AH → Prop) (R : AEnd → AH → Prop) : AExit → List Value → AH → Prop := thenF (fun tm H => hold (awpF Try.prog (codeAt f14_c [1, 1, 0, 1, 0, 0, 1]) (thenF K0 (f14_Q0 R)) tm H)) (thenF K0 (f14_Q0 R))
def f14_J1 (K0 : List Value → AH → Prop) (R : AEnd → AH → Prop) (tm : List Value) (H : AH) : Prop := hold (awpF Try.prog (codeAt f14_c [1, 1, 0, 1, 0, 0, 0, 1]) ((f14_X2 K0 R)) tm H)
def f14_J2 (K0 : List Value → AH → Prop) (R : AEnd → AH → Prop) (tm : List Value) (H : AH) : Prop := hold (awpF Try.prog (codeAt f14_c [1, 1, 0, 1, 0, 0, 1]) ((thenF K0 (f14_Q0 R))) tm H)
def f14_J3 (K0 : List Value → AH → Prop) (R : AEnd → AH → Prop) (tm : List Value) (H : AH) : Prop := hold (awpF Try.prog (codeAt f14_c [1, 1, 0, 1, 0, 0, 1, 1]) ((thenF K0 (f14_Q0 R))) tm H)
-- join 3: live 2:a, 3:b, 5:ok, 6:i
def f14_J3_B (s0 s1 : Value) (s2 s3 : Option Addr) (s4 : Value) (s5 : Bool) (s6 : Int) (s7 s8 s9 s10 s11 s12 s13 s14 s15 s16 s17 s18 s19 s20 s21 s22 s23 s24 s25 s26 s27 s28 s29 s30 s31 s32 s33 s34 s35 s36 s37 s38 s39 s40 s41 s42 s45 s46 s47 s48 s49 s50 s51 s52 s53 s54 s55 s56 : Value) (H : AH) (K0 : List Value → AH → Prop) (R : AEnd → AH → Prop) : Prop :=
 K0 [s0, s1, (.pointer s2), (.pointer s3), s4, (.bool s5), (.int .i64 (IntKind.i64.wrap (s6 + 1))), s7, s8, s9, s10, s11, s12, s13, s14, s15, s16, s17, s18, s19, s20, s21, s22, s23, s24, s25, s26, s27, s28, s29, s30, s31, s32, s33, s34, s35, s36, s37, s38, s39, s40, s41, s42, (.int .i64 s6), (.int .i64 (IntKind.i64.wrap (s6 + 1))), s45, s46, s47, s48, s49, s50, s51, s52, s53, s54, s55, s56] H
theorem f14_J3_eq (s0 s1 : Value) (s2 s3 : Option Addr) (s4 : Value) (s5 : Bool) (s6 : Int) (s7 s8 s9 s10 s11 s12 s13 s14 s15 s16 s17 s18 s19 s20 s21 s22 s23 s24 s25 s26 s27 s28 s29 s30 s31 s32 s33 s34 s35 s36 s37 s38 s39 s40 s41 s42 s43 s44 s45 s46 s47 s48 s49 s50 s51 s52 s53 s54 s55 s56 : Value) (H : AH) (K0 : List Value → AH → Prop) (R : AEnd → AH → Prop) : f14_J3 K0 R [s0, s1, (.pointer s2), (.pointer s3), s4, (.bool s5), (.int .i64 s6), s7, s8, s9, s10, s11, s12, s13, s14, s15, s16, s17, s18, s19, s20, s21, s22, s23, s24, s25, s26, s27, s28, s29, s30, s31, s32, s33, s34, s35, s36, s37, s38, s39, s40, s41, s42, s43, s44, s45, s46, s47, s48, s49, s50, s51, s52, s53, s54, s55, s56] H = f14_J3_B s0 s1 s2 s3 s4 s5 s6 s7 s8 s9 s10 s11 s12 s13 s14 s15 s16 s17 s18 s19 s20 s21 s22 s23 s24 s25 s26 s27 s28 s29 s30 s31 s32 s33 s34 s35 s36 s37 s38 s39 s40 s41 s42 s45 s46 s47 s48 s49 s50 s51 s52 s53 s54 s55 s56 H K0 R := by kernel_rfl
-- join 2: live 2:a, 3:b, 6:i
def f14_J2_B (s0 s1 : Value) (s2 s3 : Option Addr) (s4 : Value) (s6 : Int) (s7 s8 s9 s10 s11 s12 s13 s14 s15 s16 s17 s18 s19 s20 s21 s22 s23 s24 s25 s26 s27 s28 s29 s30 s31 s32 s33 s34 s35 s36 s37 s38 s39 s40 s41 s42 s43 s44 s56 : Value) (H : AH) (K0 : List Value → AH → Prop) (R : AEnd → AH → Prop) : Prop :=
 wPt s2 fun i1 k2 =>
 wPt s3 fun i3 k4 =>
 ldL i1 (k2 + 3) H fun z5b z5l z5c =>
 wIx z5b z5l 1 s6 fun i6 k7 =>
 ldI .i64 i6 k7 H fun n8 =>
 ldL i3 (k4 + 3) H fun z9b z9l z9c =>
 wIx z9b z9l 1 s6 fun i10 k11 =>
 ldI .i64 i10 k11 H fun n12 =>
 f14_J3 K0 R [s0, s1, (.pointer s2), (.pointer s3), s4, (.bool (decide (n8 = n12))), (.int .i64 s6), s7, s8, s9, s10, s11, s12, s13, s14, s15, s16, s17, s18, s19, s20, s21, s22, s23, s24, s25, s26, s27, s28, s29, s30, s31, s32, s33, s34, s35, s36, s37, s38, s39, s40, s41, s42, s43, s44, (.pointer (some ⟨i1, (k2 + 3), none⟩)), (.slice z5b z5l z5c), (.int .i64 s6), (.pointer (some ⟨i6, k7, none⟩)), (.int .i64 n8), (.pointer (some ⟨i3, (k4 + 3), none⟩)), (.slice z9b z9l z9c), (.int .i64 s6), (.pointer (some ⟨i10, k11, none⟩)), (.int .i64 n12), (.bool (decide (n8 = n12))), s56] H
theorem f14_J2_eq (s0 s1 : Value) (s2 s3 : Option Addr) (s4 s5 : Value) (s6 : Int) (s7 s8 s9 s10 s11 s12 s13 s14 s15 s16 s17 s18 s19 s20 s21 s22 s23 s24 s25 s26 s27 s28 s29 s30 s31 s32 s33 s34 s35 s36 s37 s38 s39 s40 s41 s42 s43 s44 s45 s46 s47 s48 s49 s50 s51 s52 s53 s54 s55 s56 : Value) (H : AH) (K0 : List Value → AH → Prop) (R : AEnd → AH → Prop) : f14_J2 K0 R [s0, s1, (.pointer s2), (.pointer s3), s4, s5, (.int .i64 s6), s7, s8, s9, s10, s11, s12, s13, s14, s15, s16, s17, s18, s19, s20, s21, s22, s23, s24, s25, s26, s27, s28, s29, s30, s31, s32, s33, s34, s35, s36, s37, s38, s39, s40, s41, s42, s43, s44, s45, s46, s47, s48, s49, s50, s51, s52, s53, s54, s55, s56] H = f14_J2_B s0 s1 s2 s3 s4 s6 s7 s8 s9 s10 s11 s12 s13 s14 s15 s16 s17 s18 s19 s20 s21 s22 s23 s24 s25 s26 s27 s28 s29 s30 s31 s32 s33 s34 s35 s36 s37 s38 s39 s40 s41 s42 s43 s44 s56 H K0 R := by kernel_rfl
-- join 1: live 2:a, 3:b, 5:ok, 6:i, 42:
def f14_J1_B (s0 s1 : Value) (s2 s3 : Option Addr) (s4 : Value) (s5 : Bool) (s6 : Int) (s7 s8 s9 s10 s11 s12 s13 s14 s15 s16 s17 s18 s19 s20 s21 s22 s23 s24 s25 s26 s27 s28 s29 s30 s31 s32 s33 s34 s35 s36 s37 s38 s39 s40 s41 : Value) (s42 : Bool) (s43 s44 s45 s46 s47 s48 s49 s50 s51 s52 s53 s54 s55 s56 : Value) (H : AH) (K0 : List Value → AH → Prop) (R : AEnd → AH → Prop) : Prop :=
 wIf s42
 (f14_J2 K0 R [s0, s1, (.pointer s2), (.pointer s3), s4, (.bool s5), (.int .i64 s6), s7, s8, s9, s10, s11, s12, s13, s14, s15, s16, s17, s18, s19, s20, s21, s22, s23, s24, s25, s26, s27, s28, s29, s30, s31, s32, s33, s34, s35, s36, s37, s38, s39, s40, s41, (.bool true), s43, s44, s45, s46, s47, s48, s49, s50, s51, s52, s53, s54, s55, s56] H)
 (R (.ret (.bool s5)) H)
theorem f14_J1_eq (s0 s1 : Value) (s2 s3 : Option Addr) (s4 : Value) (s5 : Bool) (s6 : Int) (s7 s8 s9 s10 s11 s12 s13 s14 s15 s16 s17 s18 s19 s20 s21 s22 s23 s24 s25 s26 s27 s28 s29 s30 s31 s32 s33 s34 s35 s36 s37 s38 s39 s40 s41 : Value) (s42 : Bool) (s43 s44 s45 s46 s47 s48 s49 s50 s51 s52 s53 s54 s55 s56 : Value) (H : AH) (K0 : List Value → AH → Prop) (R : AEnd → AH → Prop) : f14_J1 K0 R [s0, s1, (.pointer s2), (.pointer s3), s4, (.bool s5), (.int .i64 s6), s7, s8, s9, s10, s11, s12, s13, s14, s15, s16, s17, s18, s19, s20, s21, s22, s23, s24, s25, s26, s27, s28, s29, s30, s31, s32, s33, s34, s35, s36, s37, s38, s39, s40, s41, (.bool s42), s43, s44, s45, s46, s47, s48, s49, s50, s51, s52, s53, s54, s55, s56] H = f14_J1_B s0 s1 s2 s3 s4 s5 s6 s7 s8 s9 s10 s11 s12 s13 s14 s15 s16 s17 s18 s19 s20 s21 s22 s23 s24 s25 s26 s27 s28 s29 s30 s31 s32 s33 s34 s35 s36 s37 s38 s39 s40 s41 s42 s43 s44 s45 s46 s47 s48 s49 s50 s51 s52 s53 s54 s55 s56 H K0 R := by kernel_rfl
-- join 0: live 2:a, 3:b, 5:ok
def f14_J0_B (s0 s1 : Value) (s2 s3 : Option Addr) (s4 : Value) (s5 : Bool) (s7 s8 s9 s10 s11 s12 s13 s14 s15 s16 s17 s18 s19 s20 s21 s22 s23 s24 s25 s26 s27 s28 s29 s30 s31 s32 s33 s34 s35 s36 s37 s38 s39 s40 s41 s42 s43 s44 s45 s46 s47 s48 s49 s50 s51 s52 s53 s54 s55 s56 : Value) (H : AH) (R : AEnd → AH → Prop) : Prop :=
 f14_L0 R [s0, s1, (.pointer s2), (.pointer s3), s4, (.bool s5), (.int .i64 0), s7, s8, s9, s10, s11, s12, s13, s14, s15, s16, s17, s18, s19, s20, s21, s22, s23, s24, s25, s26, s27, s28, s29, s30, s31, s32, s33, s34, s35, s36, s37, s38, s39, s40, s41, s42, s43, s44, s45, s46, s47, s48, s49, s50, s51, s52, s53, s54, s55, s56] H
theorem f14_J0_eq (s0 s1 : Value) (s2 s3 : Option Addr) (s4 : Value) (s5 : Bool) (s6 s7 s8 s9 s10 s11 s12 s13 s14 s15 s16 s17 s18 s19 s20 s21 s22 s23 s24 s25 s26 s27 s28 s29 s30 s31 s32 s33 s34 s35 s36 s37 s38 s39 s40 s41 s42 s43 s44 s45 s46 s47 s48 s49 s50 s51 s52 s53 s54 s55 s56 : Value) (H : AH) (R : AEnd → AH → Prop) : f14_J0 R [s0, s1, (.pointer s2), (.pointer s3), s4, (.bool s5), s6, s7, s8, s9, s10, s11, s12, s13, s14, s15, s16, s17, s18, s19, s20, s21, s22, s23, s24, s25, s26, s27, s28, s29, s30, s31, s32, s33, s34, s35, s36, s37, s38, s39, s40, s41, s42, s43, s44, s45, s46, s47, s48, s49, s50, s51, s52, s53, s54, s55, s56] H = f14_J0_B s0 s1 s2 s3 s4 s5 s7 s8 s9 s10 s11 s12 s13 s14 s15 s16 s17 s18 s19 s20 s21 s22 s23 s24 s25 s26 s27 s28 s29 s30 s31 s32 s33 s34 s35 s36 s37 s38 s39 s40 s41 s42 s43 s44 s45 s46 s47 s48 s49 s50 s51 s52 s53 s54 s55 s56 H R := by kernel_rfl
def f14_R0 (s0 s1 : Value) (s2 s3 : Option Addr) (s4 : Value) (s5 : Bool) (s6 : Int) (s7 s8 s9 s10 s11 s12 s13 s14 s15 s16 s17 s18 s19 s20 s21 s22 s23 s24 s25 s26 s27 s28 s29 s30 s31 s32 s33 s34 s35 s36 s37 s38 s39 s40 s41 s42 s43 s44 s45 s46 s47 s48 s49 s50 s51 s52 s53 s54 s55 s56 : Value) (H : AH) (K0 : List Value → AH → Prop) (R : AEnd → AH → Prop) : Prop :=
 wIf s5
 (wPt s2 fun i13 k14 =>
 ldL i13 (k14 + 3) H fun z15b z15l z15c =>
 f14_J1 K0 R [s0, s1, (.pointer s2), (.pointer s3), s4, (.bool s5), (.int .i64 s6), s7, s8, s9, s10, s11, s12, s13, s14, s15, s16, s17, s18, s19, s20, s21, s22, s23, s24, s25, s26, s27, s28, s29, s30, s31, s32, s33, s34, (.bool s5), (.bool true), (.int .i64 s6), (.pointer (some ⟨i13, (k14 + 3), none⟩)), (.slice z15b z15l z15c), (.int .i64 (z15l : Int)), (.bool (decide (s6 < (z15l : Int)))), (.bool (decide (s6 < (z15l : Int)))), s43, s44, s45, s46, s47, s48, s49, s50, s51, s52, s53, s54, s55, s56] H)
 (f14_J1 K0 R [s0, s1, (.pointer s2), (.pointer s3), s4, (.bool s5), (.int .i64 s6), s7, s8, s9, s10, s11, s12, s13, s14, s15, s16, s17, s18, s19, s20, s21, s22, s23, s24, s25, s26, s27, s28, s29, s30, s31, s32, s33, s34, (.bool s5), (.bool false), undef, undef, undef, undef, undef, (.bool false), s43, s44, s45, s46, s47, s48, s49, s50, s51, s52, s53, s54, s55, s56] H)
theorem f14_R0_eq (s0 s1 : Value) (s2 s3 : Option Addr) (s4 : Value) (s5 : Bool) (s6 : Int) (s7 s8 s9 s10 s11 s12 s13 s14 s15 s16 s17 s18 s19 s20 s21 s22 s23 s24 s25 s26 s27 s28 s29 s30 s31 s32 s33 s34 s35 s36 s37 s38 s39 s40 s41 s42 s43 s44 s45 s46 s47 s48 s49 s50 s51 s52 s53 s54 s55 s56 : Value) (H : AH) (K0 : List Value → AH → Prop) (R : AEnd → AH → Prop) : awpF Try.prog (codeAt f14_c [1, 1, 0, 1, 0, 0]) (thenF K0 (f14_Q0 R)) [s0, s1, (.pointer s2), (.pointer s3), s4, (.bool s5), (.int .i64 s6), s7, s8, s9, s10, s11, s12, s13, s14, s15, s16, s17, s18, s19, s20, s21, s22, s23, s24, s25, s26, s27, s28, s29, s30, s31, s32, s33, s34, s35, s36, s37, s38, s39, s40, s41, s42, s43, s44, s45, s46, s47, s48, s49, s50, s51, s52, s53, s54, s55, s56] H = f14_R0 s0 s1 s2 s3 s4 s5 s6 s7 s8 s9 s10 s11 s12 s13 s14 s15 s16 s17 s18 s19 s20 s21 s22 s23 s24 s25 s26 s27 s28 s29 s30 s31 s32 s33 s34 s35 s36 s37 s38 s39 s40 s41 s42 s43 s44 s45 s46 s47 s48 s49 s50 s51 s52 s53 s54 s55 s56 H K0 R := by kernel_rfl
def f14_I0 (s0 s1 : Value) (s2 s3 : Option Addr) (s4 s7 s8 s9 s10 s11 s12 s13 s14 s15 s16 s17 s18 s19 s20 s21 s22 s23 s24 s25 s26 s27 s28 s29 s30 s31 s32 s33 s34 s56 : Value) (J : Nat → Bool → Int → AH → Prop) (n : Nat) (tm : List Value) (H : AH) : Prop := ∃ (s5 : Bool) (s6 : Int) (s35 s36 s37 s38 s39 s40 s41 s42 s43 s44 s45 s46 s47 s48 s49 s50 s51 s52 s53 s54 s55 : Value), tm = [s0, s1, (.pointer s2), (.pointer s3), s4, (.bool s5), (.int .i64 s6), s7, s8, s9, s10, s11, s12, s13, s14, s15, s16, s17, s18, s19, s20, s21, s22, s23, s24, s25, s26, s27, s28, s29, s30, s31, s32, s33, s34, s35, s36, s37, s38, s39, s40, s41, s42, s43, s44, s45, s46, s47, s48, s49, s50, s51, s52, s53, s54, s55, s56] ∧ J n s5 s6 H
theorem f14_I0_mk {s0 : Value} {s1 : Value} {s2 : Option Addr} {s3 : Option Addr} {s4 : Value} {s5 : Bool} {s6 : Int} {s7 : Value} {s8 : Value} {s9 : Value} {s10 : Value} {s11 : Value} {s12 : Value} {s13 : Value} {s14 : Value} {s15 : Value} {s16 : Value} {s17 : Value} {s18 : Value} {s19 : Value} {s20 : Value} {s21 : Value} {s22 : Value} {s23 : Value} {s24 : Value} {s25 : Value} {s26 : Value} {s27 : Value} {s28 : Value} {s29 : Value} {s30 : Value} {s31 : Value} {s32 : Value} {s33 : Value} {s34 : Value} {s35 : Value} {s36 : Value} {s37 : Value} {s38 : Value} {s39 : Value} {s40 : Value} {s41 : Value} {s42 : Value} {s43 : Value} {s44 : Value} {s45 : Value} {s46 : Value} {s47 : Value} {s48 : Value} {s49 : Value} {s50 : Value} {s51 : Value} {s52 : Value} {s53 : Value} {s54 : Value} {s55 : Value} {s56 : Value} {J : Nat → Bool → Int → AH → Prop} {n : Nat} {H : AH} (h : J n s5 s6 H) : f14_I0 s0 s1 s2 s3 s4 s7 s8 s9 s10 s11 s12 s13 s14 s15 s16 s17 s18 s19 s20 s21 s22 s23 s24 s25 s26 s27 s28 s29 s30 s31 s32 s33 s34 s56 J n [s0, s1, (.pointer s2), (.pointer s3), s4, (.bool s5), (.int .i64 s6), s7, s8, s9, s10, s11, s12, s13, s14, s15, s16, s17, s18, s19, s20, s21, s22, s23, s24, s25, s26, s27, s28, s29, s30, s31, s32, s33, s34, s35, s36, s37, s38, s39, s40, s41, s42, s43, s44, s45, s46, s47, s48, s49, s50, s51, s52, s53, s54, s55, s56] H := ⟨_, _, _, _, _, _, _, _, _, _, _, _, _, _, _, _, _, _, _, _, _, _, _, rfl, h⟩
-- loop 0: carried 5:ok, 6:i
theorem f14_L0_rule {s0 : Value} {s1 : Value} {s2 : Option Addr} {s3 : Option Addr} {s4 : Value} {s5 : Bool} {s6 : Int} {s7 : Value} {s8 : Value} {s9 : Value} {s10 : Value} {s11 : Value} {s12 : Value} {s13 : Value} {s14 : Value} {s15 : Value} {s16 : Value} {s17 : Value} {s18 : Value} {s19 : Value} {s20 : Value} {s21 : Value} {s22 : Value} {s23 : Value} {s24 : Value} {s25 : Value} {s26 : Value} {s27 : Value} {s28 : Value} {s29 : Value} {s30 : Value} {s31 : Value} {s32 : Value} {s33 : Value} {s34 : Value} {s35 : Value} {s36 : Value} {s37 : Value} {s38 : Value} {s39 : Value} {s40 : Value} {s41 : Value} {s42 : Value} {s43 : Value} {s44 : Value} {s45 : Value} {s46 : Value} {s47 : Value} {s48 : Value} {s49 : Value} {s50 : Value} {s51 : Value} {s52 : Value} {s53 : Value} {s54 : Value} {s55 : Value} {s56 : Value} {H : AH} {R : AEnd → AH → Prop} (J : Nat → Bool → Int → AH → Prop) (n : Nat) (h0 : J n s5 s6 H)
  (step : ∀ (n : Nat) (s5 : Bool) (s6 : Int) (H : AH), J n s5 s6 H → ∀ (s35 s36 s37 s38 s39 s40 s41 s42 s43 s44 s45 s46 s47 s48 s49 s50 s51 s52 s53 s54 s55 : Value), f14_R0 s0 s1 s2 s3 s4 s5 s6 s7 s8 s9 s10 s11 s12 s13 s14 s15 s16 s17 s18 s19 s20 s21 s22 s23 s24 s25 s26 s27 s28 s29 s30 s31 s32 s33 s34 s35 s36 s37 s38 s39 s40 s41 s42 s43 s44 s45 s46 s47 s48 s49 s50 s51 s52 s53 s54 s55 s56 H (fun tm H => ∃ m, m < n ∧ f14_I0 s0 s1 s2 s3 s4 s7 s8 s9 s10 s11 s12 s13 s14 s15 s16 s17 s18 s19 s20 s21 s22 s23 s24 s25 s26 s27 s28 s29 s30 s31 s32 s33 s34 s56 J m tm H) R) : f14_L0 R [s0, s1, (.pointer s2), (.pointer s3), s4, (.bool s5), (.int .i64 s6), s7, s8, s9, s10, s11, s12, s13, s14, s15, s16, s17, s18, s19, s20, s21, s22, s23, s24, s25, s26, s27, s28, s29, s30, s31, s32, s33, s34, s35, s36, s37, s38, s39, s40, s41, s42, s43, s44, s45, s46, s47, s48, s49, s50, s51, s52, s53, s54, s55, s56] H :=
  awpF_loop (f14_I0 s0 s1 s2 s3 s4 s7 s8 s9 s10 s11 s12 s13 s14 s15 s16 s17 s18 s19 s20 s21 s22 s23 s24 s25 s26 s27 s28 s29 s30 s31 s32 s33 s34 s56 J) n (f14_I0_mk h0) (by
    intro n tm H hh
    exact Exists.elim hh fun s5 hh => Exists.elim hh fun s6 hh => Exists.elim hh fun s35 hh => Exists.elim hh fun s36 hh => Exists.elim hh fun s37 hh => Exists.elim hh fun s38 hh => Exists.elim hh fun s39 hh => Exists.elim hh fun s40 hh => Exists.elim hh fun s41 hh => Exists.elim hh fun s42 hh => Exists.elim hh fun s43 hh => Exists.elim hh fun s44 hh => Exists.elim hh fun s45 hh => Exists.elim hh fun s46 hh => Exists.elim hh fun s47 hh => Exists.elim hh fun s48 hh => Exists.elim hh fun s49 hh => Exists.elim hh fun s50 hh => Exists.elim hh fun s51 hh => Exists.elim hh fun s52 hh => Exists.elim hh fun s53 hh => Exists.elim hh fun s54 hh => Exists.elim hh fun s55 hh => And.elim (fun e h =>
     (by subst e; exact Eq.mpr (f14_R0_eq s0 s1 s2 s3 s4 s5 s6 s7 s8 s9 s10 s11 s12 s13 s14 s15 s16 s17 s18 s19 s20 s21 s22 s23 s24 s25 s26 s27 s28 s29 s30 s31 s32 s33 s34 s35 s36 s37 s38 s39 s40 s41 s42 s43 s44 s45 s46 s47 s48 s49 s50 s51 s52 s53 s54 s55 s56 H _ R) (step n s5 s6 H h s35 s36 s37 s38 s39 s40 s41 s42 s43 s44 s45 s46 s47 s48 s49 s50 s51 s52 s53 s54 s55))) hh)
def f14_B (x0_0 x0_1 : Int) (x0_2 : ByteArray) (x0_3b : Option Addr) (x0_3l x0_3c : Nat) (x1_0 x1_1 : Int) (x1_2 : ByteArray) (x1_3b : Option Addr) (x1_3l x1_3c : Nat) (H : AH) (R : AEnd → AH → Prop) : Prop :=
 wNew [(.int .i64 x0_0), (.int .i64 x0_1), (.string x0_2), (.slice x0_3b x0_3l x0_3c)] H fun i16 H17 =>
 wNew [(.int .i64 x1_0), (.int .i64 x1_1), (.string x1_2), (.slice x1_3b x1_3l x1_3c)] H17 fun i18 H19 =>
 ldI .i64 i16 0 H19 fun n20 =>
 ldI .i64 i18 0 H19 fun n21 =>
 wIf (decide (n20 = n21))
 (ldI .i64 i16 1 H19 fun n22 =>
 ldI .i64 i18 1 H19 fun n23 =>
 wIf (decide (n22 = n23))
 (ldS i16 2 H19 fun t24 =>
 ldS i18 2 H19 fun t25 =>
 wIf (decide (t24 = t25))
 (ldL i16 3 H19 fun z26b z26l z26c =>
 ldL i18 3 H19 fun z27b z27l z27c =>
 f14_J0 R [(.agg #[(.int .i64 x0_0), (.int .i64 x0_1), (.string x0_2), (.slice x0_3b x0_3l x0_3c)]), (.agg #[(.int .i64 x1_0), (.int .i64 x1_1), (.string x1_2), (.slice x1_3b x1_3l x1_3c)]), (.pointer (some ⟨i16, 0, none⟩)), (.pointer (some ⟨i18, 0, none⟩)), (.bool false), (.bool (decide ((z26l : Int) = (z27l : Int)))), undef, (.pointer (some ⟨i16, 0, none⟩)), (.int .i64 n20), (.pointer (some ⟨i18, 0, none⟩)), (.int .i64 n21), (.bool (decide (n20 = n21))), (.bool true), (.pointer (some ⟨i16, 1, none⟩)), (.int .i64 n22), (.pointer (some ⟨i18, 1, none⟩)), (.int .i64 n23), (.bool (decide (n22 = n23))), (.bool (decide (n22 = n23))), (.bool true), (.pointer (some ⟨i16, 2, none⟩)), (.string t24), (.pointer (some ⟨i18, 2, none⟩)), (.string t25), (.bool (decide (t24 = t25))), (.bool (decide (t24 = t25))), (.bool true), (.pointer (some ⟨i16, 3, none⟩)), (.slice z26b z26l z26c), (.int .i64 (z26l : Int)), (.pointer (some ⟨i18, 3, none⟩)), (.slice z27b z27l z27c), (.int .i64 (z27l : Int)), (.bool (decide ((z26l : Int) = (z27l : Int)))), (.bool (decide ((z26l : Int) = (z27l : Int)))), undef, undef, undef, undef, undef, undef, undef, undef, undef, undef, undef, undef, undef, undef, undef, undef, undef, undef, undef, undef, undef, undef] H19)
 (f14_J0 R [(.agg #[(.int .i64 x0_0), (.int .i64 x0_1), (.string x0_2), (.slice x0_3b x0_3l x0_3c)]), (.agg #[(.int .i64 x1_0), (.int .i64 x1_1), (.string x1_2), (.slice x1_3b x1_3l x1_3c)]), (.pointer (some ⟨i16, 0, none⟩)), (.pointer (some ⟨i18, 0, none⟩)), (.bool false), (.bool false), undef, (.pointer (some ⟨i16, 0, none⟩)), (.int .i64 n20), (.pointer (some ⟨i18, 0, none⟩)), (.int .i64 n21), (.bool (decide (n20 = n21))), (.bool true), (.pointer (some ⟨i16, 1, none⟩)), (.int .i64 n22), (.pointer (some ⟨i18, 1, none⟩)), (.int .i64 n23), (.bool (decide (n22 = n23))), (.bool (decide (n22 = n23))), (.bool true), (.pointer (some ⟨i16, 2, none⟩)), (.string t24), (.pointer (some ⟨i18, 2, none⟩)), (.string t25), (.bool (decide (t24 = t25))), (.bool (decide (t24 = t25))), (.bool false), undef, undef, undef, undef, undef, undef, undef, (.bool false), undef, undef, undef, undef, undef, undef, undef, undef, undef, undef, undef, undef, undef, undef, undef, undef, undef, undef, undef, undef, undef, undef] H19))
 (f14_J0 R [(.agg #[(.int .i64 x0_0), (.int .i64 x0_1), (.string x0_2), (.slice x0_3b x0_3l x0_3c)]), (.agg #[(.int .i64 x1_0), (.int .i64 x1_1), (.string x1_2), (.slice x1_3b x1_3l x1_3c)]), (.pointer (some ⟨i16, 0, none⟩)), (.pointer (some ⟨i18, 0, none⟩)), (.bool false), (.bool false), undef, (.pointer (some ⟨i16, 0, none⟩)), (.int .i64 n20), (.pointer (some ⟨i18, 0, none⟩)), (.int .i64 n21), (.bool (decide (n20 = n21))), (.bool true), (.pointer (some ⟨i16, 1, none⟩)), (.int .i64 n22), (.pointer (some ⟨i18, 1, none⟩)), (.int .i64 n23), (.bool (decide (n22 = n23))), (.bool (decide (n22 = n23))), (.bool false), undef, undef, undef, undef, undef, (.bool false), (.bool false), undef, undef, undef, undef, undef, undef, undef, (.bool false), undef, undef, undef, undef, undef, undef, undef, undef, undef, undef, undef, undef, undef, undef, undef, undef, undef, undef, undef, undef, undef, undef] H19))
 (f14_J0 R [(.agg #[(.int .i64 x0_0), (.int .i64 x0_1), (.string x0_2), (.slice x0_3b x0_3l x0_3c)]), (.agg #[(.int .i64 x1_0), (.int .i64 x1_1), (.string x1_2), (.slice x1_3b x1_3l x1_3c)]), (.pointer (some ⟨i16, 0, none⟩)), (.pointer (some ⟨i18, 0, none⟩)), (.bool false), (.bool false), undef, (.pointer (some ⟨i16, 0, none⟩)), (.int .i64 n20), (.pointer (some ⟨i18, 0, none⟩)), (.int .i64 n21), (.bool (decide (n20 = n21))), (.bool false), undef, undef, undef, undef, undef, (.bool false), (.bool false), undef, undef, undef, undef, undef, (.bool false), (.bool false), undef, undef, undef, undef, undef, undef, undef, (.bool false), undef, undef, undef, undef, undef, undef, undef, undef, undef, undef, undef, undef, undef, undef, undef, undef, undef, undef, undef, undef, undef, undef] H19)
theorem f14_eq (x0_0 x0_1 : Int) (x0_2 : ByteArray) (x0_3b : Option Addr) (x0_3l x0_3c : Nat) (x1_0 x1_1 : Int) (x1_2 : ByteArray) (x1_3b : Option Addr) (x1_3l x1_3c : Nat) (H : AH) (R : AEnd → AH → Prop) : awpF Try.prog f14_c (aPost Try.prog Try.f14 R) (([(.agg #[(.int .i64 x0_0), (.int .i64 x0_1), (.string x0_2), (.slice x0_3b x0_3l x0_3c)]), (.agg #[(.int .i64 x1_0), (.int .i64 x1_1), (.string x1_2), (.slice x1_3b x1_3l x1_3c)])] : List Value) ++ List.replicate (Try.f14.ntmps - (([(.agg #[(.int .i64 x0_0), (.int .i64 x0_1), (.string x0_2), (.slice x0_3b x0_3l x0_3c)]), (.agg #[(.int .i64 x1_0), (.int .i64 x1_1), (.string x1_2), (.slice x1_3b x1_3l x1_3c)])] : List Value)).length) undef) H = f14_B x0_0 x0_1 x0_2 x0_3b x0_3l x0_3c x1_0 x1_1 x1_2 x1_3b x1_3l x1_3c H R := by kernel_rfl
theorem f14_call (x0_0 x0_1 : Int) (x0_2 : ByteArray) (x0_3b : Option Addr) (x0_3l x0_3c : Nat) (x1_0 x1_1 : Int) (x1_2 : ByteArray) (x1_3b : Option Addr) (x1_3l x1_3c : Nat) (H : AH) (R : AEnd → AH → Prop) (h : f14_B x0_0 x0_1 x0_2 x0_3b x0_3l x0_3c x1_0 x1_1 x1_2 x1_3b x1_3l x1_3c H R) : ACall Try.prog 14 ([(.agg #[(.int .i64 x0_0), (.int .i64 x0_1), (.string x0_2), (.slice x0_3b x0_3l x0_3c)]), (.agg #[(.int .i64 x1_0), (.int .i64 x1_1), (.string x1_2), (.slice x1_3b x1_3l x1_3c)])] : List Value) H R :=
  acall_of mixed Try.func14 (by kernel_rfl : Try.f14.body = some f14_c) (by kernel_rfl) (by kernel_rfl) (awp_of (Eq.mpr (f14_eq x0_0 x0_1 x0_2 x0_3b x0_3l x0_3c x1_0 x1_1 x1_2 x1_3b x1_3l x1_3c H R) h))

/-! f15: switchyard/switchyardlaw13.ahead -/
/-! f16: switchyard/switchyardref13.SameMail -/
noncomputable def f16_c : Code := Try.f16.body.getD .skip
def f16_B (x0_0 : Int) (x0_1 : ByteArray) (x0_2b : Option Addr) (x0_2l x0_2c : Nat) (x0_3b : Option Addr) (x0_3l x0_3c : Nat) (x1_0 : Int) (x1_1 : ByteArray) (x1_2b : Option Addr) (x1_2l x1_2c : Nat) (x1_3b : Option Addr) (x1_3l x1_3c : Nat) (H : AH) (R : AEnd → AH → Prop) : Prop :=
 wNew [(.int .i64 x0_0), (.string x0_1), (.slice x0_2b x0_2l x0_2c), (.slice x0_3b x0_3l x0_3c)] H fun i1 H2 =>
 wNew [(.int .i64 x1_0), (.string x1_1), (.slice x1_2b x1_2l x1_2c), (.slice x1_3b x1_3l x1_3c)] H2 fun i3 H4 =>
 ldI .i64 i1 0 H4 fun n5 =>
 ldI .i64 i3 0 H4 fun n6 =>
 wIf (decide (n5 = n6))
 (ldS i1 1 H4 fun t7 =>
 ldS i3 1 H4 fun t8 =>
 wIf (decide (t7 = t8))
 (ldL i1 2 H4 fun z9b z9l z9c =>
 ldL i3 2 H4 fun z10b z10l z10c =>
 wCall Try.prog 53 [(.slice z9b z9l z9c), (.slice z10b z10l z10c)] H4 (fun r11 H12 =>
 opB r11 fun b15 =>
 wIf b15
 (ldL i1 3 H12 fun z16b z16l z16c =>
 ldL i3 3 H12 fun z17b z17l z17c =>
 wCall Try.prog 53 [(.slice z16b z16l z16c), (.slice z17b z17l z17c)] H12 (fun r18 H19 =>
 opB r18 fun b22 =>
 R (.ret (.bool b22)) H19) (fun v21 H20 => R (.panic v21) H20))
 (R (.ret (.bool false)) H12)) (fun v14 H13 => R (.panic v14) H13))
 (R (.ret (.bool false)) H4))
 (R (.ret (.bool false)) H4)
theorem f16_eq (x0_0 : Int) (x0_1 : ByteArray) (x0_2b : Option Addr) (x0_2l x0_2c : Nat) (x0_3b : Option Addr) (x0_3l x0_3c : Nat) (x1_0 : Int) (x1_1 : ByteArray) (x1_2b : Option Addr) (x1_2l x1_2c : Nat) (x1_3b : Option Addr) (x1_3l x1_3c : Nat) (H : AH) (R : AEnd → AH → Prop) : awpF Try.prog f16_c (aPost Try.prog Try.f16 R) (([(.agg #[(.int .i64 x0_0), (.string x0_1), (.slice x0_2b x0_2l x0_2c), (.slice x0_3b x0_3l x0_3c)]), (.agg #[(.int .i64 x1_0), (.string x1_1), (.slice x1_2b x1_2l x1_2c), (.slice x1_3b x1_3l x1_3c)])] : List Value) ++ List.replicate (Try.f16.ntmps - (([(.agg #[(.int .i64 x0_0), (.string x0_1), (.slice x0_2b x0_2l x0_2c), (.slice x0_3b x0_3l x0_3c)]), (.agg #[(.int .i64 x1_0), (.string x1_1), (.slice x1_2b x1_2l x1_2c), (.slice x1_3b x1_3l x1_3c)])] : List Value)).length) undef) H = f16_B x0_0 x0_1 x0_2b x0_2l x0_2c x0_3b x0_3l x0_3c x1_0 x1_1 x1_2b x1_2l x1_2c x1_3b x1_3l x1_3c H R := by kernel_rfl
theorem f16_call (x0_0 : Int) (x0_1 : ByteArray) (x0_2b : Option Addr) (x0_2l x0_2c : Nat) (x0_3b : Option Addr) (x0_3l x0_3c : Nat) (x1_0 : Int) (x1_1 : ByteArray) (x1_2b : Option Addr) (x1_2l x1_2c : Nat) (x1_3b : Option Addr) (x1_3l x1_3c : Nat) (H : AH) (R : AEnd → AH → Prop) (h : f16_B x0_0 x0_1 x0_2b x0_2l x0_2c x0_3b x0_3l x0_3c x1_0 x1_1 x1_2b x1_2l x1_2c x1_3b x1_3l x1_3c H R) : ACall Try.prog 16 ([(.agg #[(.int .i64 x0_0), (.string x0_1), (.slice x0_2b x0_2l x0_2c), (.slice x0_3b x0_3l x0_3c)]), (.agg #[(.int .i64 x1_0), (.string x1_1), (.slice x1_2b x1_2l x1_2c), (.slice x1_3b x1_3l x1_3c)])] : List Value) H R :=
  acall_of mixed Try.func16 (by kernel_rfl : Try.f16.body = some f16_c) (by kernel_rfl) (by kernel_rfl) (awp_of (Eq.mpr (f16_eq x0_0 x0_1 x0_2b x0_2l x0_2c x0_3b x0_3l x0_3c x1_0 x1_1 x1_2b x1_2l x1_2c x1_3b x1_3l x1_3c H R) h))

/-! f53: switchyard/switchyardref06.SameAll -/
noncomputable def f53_c : Code := Try.f53.body.getD .skip
noncomputable def f53_X0 (R : AEnd → AH → Prop) : AExit → List Value → AH → Prop := thenF (fun tm H => hold (awpF Try.prog (codeAt f53_c [1, 1, 1]) (aPost Try.prog Try.f53 R) tm H)) (aPost Try.prog Try.f53 R)
noncomputable def f53_X1 (R : AEnd → AH → Prop) : AExit → List Value → AH → Prop := inBlockF 0 (f53_X0 R)
noncomputable def f53_Q0 (R : AEnd → AH → Prop) : AExit → List Value → AH → Prop := (f53_X1 R)
def f53_L0 (R : AEnd → AH → Prop) (tm : List Value) (H : AH) : Prop := awpF Try.prog (codeAt f53_c [1, 1, 0, 1, 0]) (f53_Q0 R) tm H
noncomputable def f53_X2 (K0 : List Value → AH → Prop) (R : AEnd → AH → Prop) : AExit → List Value → AH → Prop := thenF (fun tm H => hold (awpF Try.prog (codeAt f53_c [1, 1, 0, 1, 0, 0, 1, 1, 1]) (thenF K0 (f53_Q0 R)) tm H)) (thenF K0 (f53_Q0 R))
noncomputable def f53_X3 (K0 : List Value → AH → Prop) (R : AEnd → AH → Prop) : AExit → List Value → AH → Prop := inBlockF 1 (f53_X2 K0 R)
def f53_J0 (K0 : List Value → AH → Prop) (R : AEnd → AH → Prop) (tm : List Value) (H : AH) : Prop := hold (awpF Try.prog (codeAt f53_c [1, 1, 0, 1, 0, 0, 1, 1, 0, 0, 1, 1]) ((f53_X3 K0 R)) tm H)
-- join 0: live 0:a, 1:b, 12:, 13:, 25:
def f53_J0_B (s0b : Option Addr) (s0l s0c : Nat) (s1b : Option Addr) (s1l s1c : Nat) (s2 s3 s4 s5 s6 s7 s8 s9 s10 s11 : Value) (s12 s13 : Int) (s14 s15 s16 s17 s18 s19 s20 s21 s22 s23 s24 : Value) (s25 : Bool) (H : AH) (K0 : List Value → AH → Prop) (R : AEnd → AH → Prop) : Prop :=
 wIf s25
 (R (.ret (.bool false)) H)
 (K0 [(.slice s0b s0l s0c), (.slice s1b s1l s1c), s2, s3, s4, s5, s6, s7, s8, s9, s10, s11, (.int .i64 s12), (.int .i64 (IntKind.i64.wrap (s13 + 1))), s14, s15, s16, s17, s18, s19, s20, s21, s22, s23, s24, (.bool false), (.int .i64 (IntKind.i64.wrap (s13 + 1)))] H)
theorem f53_J0_eq (s0b : Option Addr) (s0l s0c : Nat) (s1b : Option Addr) (s1l s1c : Nat) (s2 s3 s4 s5 s6 s7 s8 s9 s10 s11 : Value) (s12 s13 : Int) (s14 s15 s16 s17 s18 s19 s20 s21 s22 s23 s24 : Value) (s25 : Bool) (s26 : Value) (H : AH) (K0 : List Value → AH → Prop) (R : AEnd → AH → Prop) : f53_J0 K0 R [(.slice s0b s0l s0c), (.slice s1b s1l s1c), s2, s3, s4, s5, s6, s7, s8, s9, s10, s11, (.int .i64 s12), (.int .i64 s13), s14, s15, s16, s17, s18, s19, s20, s21, s22, s23, s24, (.bool s25), s26] H = f53_J0_B s0b s0l s0c s1b s1l s1c s2 s3 s4 s5 s6 s7 s8 s9 s10 s11 s12 s13 s14 s15 s16 s17 s18 s19 s20 s21 s22 s23 s24 s25 H K0 R := by kernel_rfl
def f53_R0 (s0b : Option Addr) (s0l s0c : Nat) (s1b : Option Addr) (s1l s1c : Nat) (s2 s3 s4 s5 s6 s7 s8 s9 s10 s11 : Value) (s12 s13 : Int) (s14 s15 s16 s17 s18 s19 s20 s21 s22 s23 s24 s25 s26 : Value) (H : AH) (K0 : List Value → AH → Prop) (R : AEnd → AH → Prop) : Prop :=
 wIf (decide (s13 < s12))
 (wIx s0b s0l 4 s13 fun i1 k2 =>
 wIx s1b s1l 4 s13 fun i3 k4 =>
 ldI .i64 i1 k2 H fun n5 =>
 ldI .i64 i1 (k2 + 1) H fun n6 =>
 ldS i1 (k2 + 2) H fun t7 =>
 ldL i1 (k2 + 3) H fun z8b z8l z8c =>
 ldI .i64 i3 k4 H fun n9 =>
 ldI .i64 i3 (k4 + 1) H fun n10 =>
 ldS i3 (k4 + 2) H fun t11 =>
 ldL i3 (k4 + 3) H fun z12b z12l z12c =>
 wCall Try.prog 14 [(.agg #[(.int .i64 n5), (.int .i64 n6), (.string t7), (.slice z8b z8l z8c)]), (.agg #[(.int .i64 n9), (.int .i64 n10), (.string t11), (.slice z12b z12l z12c)])] H (fun r13 H14 =>
 opB r13 fun b17 =>
 f53_J0 K0 R [(.slice s0b s0l s0c), (.slice s1b s1l s1c), s2, s3, s4, (.int .i64 s13), s6, s7, s8, s9, s10, s11, (.int .i64 s12), (.int .i64 s13), (.bool true), (.int .i64 s13), (.slice s0b s0l s0c), (.int .i64 s13), (.pointer (some ⟨i1, k2, none⟩)), (.agg #[(.int .i64 n5), (.int .i64 n6), (.string t7), (.slice z8b z8l z8c)]), (.slice s1b s1l s1c), (.int .i64 s13), (.pointer (some ⟨i3, k4, none⟩)), (.agg #[(.int .i64 n9), (.int .i64 n10), (.string t11), (.slice z12b z12l z12c)]), (.bool b17), (.bool (!b17)), s26] H14) (fun v16 H15 => R (.panic v16) H15))
 (R (.ret (.bool true)) H)
theorem f53_R0_eq (s0b : Option Addr) (s0l s0c : Nat) (s1b : Option Addr) (s1l s1c : Nat) (s2 s3 s4 s5 s6 s7 s8 s9 s10 s11 : Value) (s12 s13 : Int) (s14 s15 s16 s17 s18 s19 s20 s21 s22 s23 s24 s25 s26 : Value) (H : AH) (K0 : List Value → AH → Prop) (R : AEnd → AH → Prop) : awpF Try.prog (codeAt f53_c [1, 1, 0, 1, 0, 0]) (thenF K0 (f53_Q0 R)) [(.slice s0b s0l s0c), (.slice s1b s1l s1c), s2, s3, s4, s5, s6, s7, s8, s9, s10, s11, (.int .i64 s12), (.int .i64 s13), s14, s15, s16, s17, s18, s19, s20, s21, s22, s23, s24, s25, s26] H = f53_R0 s0b s0l s0c s1b s1l s1c s2 s3 s4 s5 s6 s7 s8 s9 s10 s11 s12 s13 s14 s15 s16 s17 s18 s19 s20 s21 s22 s23 s24 s25 s26 H K0 R := by kernel_rfl
def f53_I0 (s0b : Option Addr) (s0l s0c : Nat) (s1b : Option Addr) (s1l s1c : Nat) (s2 s3 s6 s7 s8 s9 s10 s11 : Value) (s12 : Int) (J : Nat → Int → AH → Prop) (n : Nat) (tm : List Value) (H : AH) : Prop := ∃ (s4 s5 : Value) (s13 : Int) (s14 s15 s16 s17 s18 s19 s20 s21 s22 s23 s24 s25 s26 : Value), tm = [(.slice s0b s0l s0c), (.slice s1b s1l s1c), s2, s3, s4, s5, s6, s7, s8, s9, s10, s11, (.int .i64 s12), (.int .i64 s13), s14, s15, s16, s17, s18, s19, s20, s21, s22, s23, s24, s25, s26] ∧ J n s13 H
theorem f53_I0_mk {s0b : Option Addr} {s0l : Nat} {s0c : Nat} {s1b : Option Addr} {s1l : Nat} {s1c : Nat} {s2 : Value} {s3 : Value} {s4 : Value} {s5 : Value} {s6 : Value} {s7 : Value} {s8 : Value} {s9 : Value} {s10 : Value} {s11 : Value} {s12 : Int} {s13 : Int} {s14 : Value} {s15 : Value} {s16 : Value} {s17 : Value} {s18 : Value} {s19 : Value} {s20 : Value} {s21 : Value} {s22 : Value} {s23 : Value} {s24 : Value} {s25 : Value} {s26 : Value} {J : Nat → Int → AH → Prop} {n : Nat} {H : AH} (h : J n s13 H) : f53_I0 s0b s0l s0c s1b s1l s1c s2 s3 s6 s7 s8 s9 s10 s11 s12 J n [(.slice s0b s0l s0c), (.slice s1b s1l s1c), s2, s3, s4, s5, s6, s7, s8, s9, s10, s11, (.int .i64 s12), (.int .i64 s13), s14, s15, s16, s17, s18, s19, s20, s21, s22, s23, s24, s25, s26] H := ⟨_, _, _, _, _, _, _, _, _, _, _, _, _, _, _, _, rfl, h⟩
-- loop 0: carried 13:
theorem f53_L0_rule {s0b : Option Addr} {s0l : Nat} {s0c : Nat} {s1b : Option Addr} {s1l : Nat} {s1c : Nat} {s2 : Value} {s3 : Value} {s4 : Value} {s5 : Value} {s6 : Value} {s7 : Value} {s8 : Value} {s9 : Value} {s10 : Value} {s11 : Value} {s12 : Int} {s13 : Int} {s14 : Value} {s15 : Value} {s16 : Value} {s17 : Value} {s18 : Value} {s19 : Value} {s20 : Value} {s21 : Value} {s22 : Value} {s23 : Value} {s24 : Value} {s25 : Value} {s26 : Value} {H : AH} {R : AEnd → AH → Prop} (J : Nat → Int → AH → Prop) (n : Nat) (h0 : J n s13 H)
  (step : ∀ (n : Nat) (s13 : Int) (H : AH), J n s13 H → ∀ (s4 s5 s14 s15 s16 s17 s18 s19 s20 s21 s22 s23 s24 s25 s26 : Value), f53_R0 s0b s0l s0c s1b s1l s1c s2 s3 s4 s5 s6 s7 s8 s9 s10 s11 s12 s13 s14 s15 s16 s17 s18 s19 s20 s21 s22 s23 s24 s25 s26 H (fun tm H => ∃ m, m < n ∧ f53_I0 s0b s0l s0c s1b s1l s1c s2 s3 s6 s7 s8 s9 s10 s11 s12 J m tm H) R) : f53_L0 R [(.slice s0b s0l s0c), (.slice s1b s1l s1c), s2, s3, s4, s5, s6, s7, s8, s9, s10, s11, (.int .i64 s12), (.int .i64 s13), s14, s15, s16, s17, s18, s19, s20, s21, s22, s23, s24, s25, s26] H :=
  awpF_loop (f53_I0 s0b s0l s0c s1b s1l s1c s2 s3 s6 s7 s8 s9 s10 s11 s12 J) n (f53_I0_mk h0) (by
    intro n tm H hh
    exact Exists.elim hh fun s4 hh => Exists.elim hh fun s5 hh => Exists.elim hh fun s13 hh => Exists.elim hh fun s14 hh => Exists.elim hh fun s15 hh => Exists.elim hh fun s16 hh => Exists.elim hh fun s17 hh => Exists.elim hh fun s18 hh => Exists.elim hh fun s19 hh => Exists.elim hh fun s20 hh => Exists.elim hh fun s21 hh => Exists.elim hh fun s22 hh => Exists.elim hh fun s23 hh => Exists.elim hh fun s24 hh => Exists.elim hh fun s25 hh => Exists.elim hh fun s26 hh => And.elim (fun e h =>
     (by subst e; exact Eq.mpr (f53_R0_eq s0b s0l s0c s1b s1l s1c s2 s3 s4 s5 s6 s7 s8 s9 s10 s11 s12 s13 s14 s15 s16 s17 s18 s19 s20 s21 s22 s23 s24 s25 s26 H _ R) (step n s13 H h s4 s5 s14 s15 s16 s17 s18 s19 s20 s21 s22 s23 s24 s25 s26))) hh)
def f53_B (x0b : Option Addr) (x0l x0c : Nat) (x1b : Option Addr) (x1l x1c : Nat) (H : AH) (R : AEnd → AH → Prop) : Prop :=
 wIf (!decide ((x0l : Int) = (x1l : Int)))
 (R (.ret (.bool false)) H)
 (f53_L0 R [(.slice x0b x0l x0c), (.slice x1b x1l x1c), undef, undef, (.bool false), undef, (.slice x0b x0l x0c), (.int .i64 (x0l : Int)), (.slice x1b x1l x1c), (.int .i64 (x1l : Int)), (.bool false), (.slice x0b x0l x0c), (.int .i64 (x0l : Int)), (.int .i64 0), undef, undef, undef, undef, undef, undef, undef, undef, undef, undef, undef, undef, undef] H)
theorem f53_eq (x0b : Option Addr) (x0l x0c : Nat) (x1b : Option Addr) (x1l x1c : Nat) (H : AH) (R : AEnd → AH → Prop) : awpF Try.prog f53_c (aPost Try.prog Try.f53 R) (([(.slice x0b x0l x0c), (.slice x1b x1l x1c)] : List Value) ++ List.replicate (Try.f53.ntmps - (([(.slice x0b x0l x0c), (.slice x1b x1l x1c)] : List Value)).length) undef) H = f53_B x0b x0l x0c x1b x1l x1c H R := by kernel_rfl
theorem f53_call (x0b : Option Addr) (x0l x0c : Nat) (x1b : Option Addr) (x1l x1c : Nat) (H : AH) (R : AEnd → AH → Prop) (h : f53_B x0b x0l x0c x1b x1l x1c H R) : ACall Try.prog 53 ([(.slice x0b x0l x0c), (.slice x1b x1l x1c)] : List Value) H R :=
  acall_of mixed Try.func53 (by kernel_rfl : Try.f53.body = some f53_c) (by kernel_rfl) (by kernel_rfl) (awp_of (Eq.mpr (f53_eq x0b x0l x0c x1b x1l x1c H R) h))

/-! f23: switchyard/switchyardref13.SameItem -/
/-! f47: switchyard/switchyardref13.SameDead -/
noncomputable def f47_c : Code := Try.f47.body.getD .skip
def f47_B (x0_0 x0_1 : Int) (x0_2 : ByteArray) (x0_3b : Option Addr) (x0_3l x0_3c : Nat) (x0_4b : Option Addr) (x0_4l x0_4c : Nat) (x0_5 x1_0 x1_1 : Int) (x1_2 : ByteArray) (x1_3b : Option Addr) (x1_3l x1_3c : Nat) (x1_4b : Option Addr) (x1_4l x1_4c : Nat) (x1_5 : Int) (H : AH) (R : AEnd → AH → Prop) : Prop :=
 wNew [(.int .i64 x0_0), (.int .i64 x0_1), (.string x0_2), (.slice x0_3b x0_3l x0_3c), (.slice x0_4b x0_4l x0_4c), (.int .i64 x0_5)] H fun i1 H2 =>
 wNew [(.int .i64 x1_0), (.int .i64 x1_1), (.string x1_2), (.slice x1_3b x1_3l x1_3c), (.slice x1_4b x1_4l x1_4c), (.int .i64 x1_5)] H2 fun i3 H4 =>
 ldI .i64 i1 0 H4 fun n5 =>
 ldI .i64 i3 0 H4 fun n6 =>
 wIf (decide (n5 = n6))
 (ldI .i64 i1 5 H4 fun n7 =>
 ldI .i64 i3 5 H4 fun n8 =>
 wIf (decide (n7 = n8))
 (ldI .i64 i1 1 H4 fun n9 =>
 ldS i1 2 H4 fun t10 =>
 ldL i1 3 H4 fun z11b z11l z11c =>
 ldL i1 4 H4 fun z12b z12l z12c =>
 ldI .i64 i3 1 H4 fun n13 =>
 ldS i3 2 H4 fun t14 =>
 ldL i3 3 H4 fun z15b z15l z15c =>
 ldL i3 4 H4 fun z16b z16l z16c =>
 wCall Try.prog 16 [(.agg #[(.int .i64 n9), (.string t10), (.slice z11b z11l z11c), (.slice z12b z12l z12c)]), (.agg #[(.int .i64 n13), (.string t14), (.slice z15b z15l z15c), (.slice z16b z16l z16c)])] H4 (fun r17 H18 =>
 opB r17 fun b21 =>
 R (.ret (.bool b21)) H18) (fun v20 H19 => R (.panic v20) H19))
 (R (.ret (.bool false)) H4))
 (R (.ret (.bool false)) H4)
theorem f47_eq (x0_0 x0_1 : Int) (x0_2 : ByteArray) (x0_3b : Option Addr) (x0_3l x0_3c : Nat) (x0_4b : Option Addr) (x0_4l x0_4c : Nat) (x0_5 x1_0 x1_1 : Int) (x1_2 : ByteArray) (x1_3b : Option Addr) (x1_3l x1_3c : Nat) (x1_4b : Option Addr) (x1_4l x1_4c : Nat) (x1_5 : Int) (H : AH) (R : AEnd → AH → Prop) : awpF Try.prog f47_c (aPost Try.prog Try.f47 R) (([(.agg #[(.int .i64 x0_0), (.int .i64 x0_1), (.string x0_2), (.slice x0_3b x0_3l x0_3c), (.slice x0_4b x0_4l x0_4c), (.int .i64 x0_5)]), (.agg #[(.int .i64 x1_0), (.int .i64 x1_1), (.string x1_2), (.slice x1_3b x1_3l x1_3c), (.slice x1_4b x1_4l x1_4c), (.int .i64 x1_5)])] : List Value) ++ List.replicate (Try.f47.ntmps - (([(.agg #[(.int .i64 x0_0), (.int .i64 x0_1), (.string x0_2), (.slice x0_3b x0_3l x0_3c), (.slice x0_4b x0_4l x0_4c), (.int .i64 x0_5)]), (.agg #[(.int .i64 x1_0), (.int .i64 x1_1), (.string x1_2), (.slice x1_3b x1_3l x1_3c), (.slice x1_4b x1_4l x1_4c), (.int .i64 x1_5)])] : List Value)).length) undef) H = f47_B x0_0 x0_1 x0_2 x0_3b x0_3l x0_3c x0_4b x0_4l x0_4c x0_5 x1_0 x1_1 x1_2 x1_3b x1_3l x1_3c x1_4b x1_4l x1_4c x1_5 H R := by kernel_rfl
theorem f47_call (x0_0 x0_1 : Int) (x0_2 : ByteArray) (x0_3b : Option Addr) (x0_3l x0_3c : Nat) (x0_4b : Option Addr) (x0_4l x0_4c : Nat) (x0_5 x1_0 x1_1 : Int) (x1_2 : ByteArray) (x1_3b : Option Addr) (x1_3l x1_3c : Nat) (x1_4b : Option Addr) (x1_4l x1_4c : Nat) (x1_5 : Int) (H : AH) (R : AEnd → AH → Prop) (h : f47_B x0_0 x0_1 x0_2 x0_3b x0_3l x0_3c x0_4b x0_4l x0_4c x0_5 x1_0 x1_1 x1_2 x1_3b x1_3l x1_3c x1_4b x1_4l x1_4c x1_5 H R) : ACall Try.prog 47 ([(.agg #[(.int .i64 x0_0), (.int .i64 x0_1), (.string x0_2), (.slice x0_3b x0_3l x0_3c), (.slice x0_4b x0_4l x0_4c), (.int .i64 x0_5)]), (.agg #[(.int .i64 x1_0), (.int .i64 x1_1), (.string x1_2), (.slice x1_3b x1_3l x1_3c), (.slice x1_4b x1_4l x1_4c), (.int .i64 x1_5)])] : List Value) H R :=
  acall_of mixed Try.func47 (by kernel_rfl : Try.f47.body = some f47_c) (by kernel_rfl) (by kernel_rfl) (awp_of (Eq.mpr (f47_eq x0_0 x0_1 x0_2 x0_3b x0_3l x0_3c x0_4b x0_4l x0_4c x0_5 x1_0 x1_1 x1_2 x1_3b x1_3l x1_3c x1_4b x1_4l x1_4c x1_5 H R) h))

/-! f48: switchyard/switchyardref13.SameEvent -/
noncomputable def f48_c : Code := Try.f48.body.getD .skip
def f48_B (x0_0 x0_1 : Int) (x0_2 : ByteArray) (x0_3 : Int) (x0_4 x0_5 : ByteArray) (x0_6b : Option Addr) (x0_6l x0_6c : Nat) (x1_0 x1_1 : Int) (x1_2 : ByteArray) (x1_3 : Int) (x1_4 x1_5 : ByteArray) (x1_6b : Option Addr) (x1_6l x1_6c : Nat) (H : AH) (R : AEnd → AH → Prop) : Prop :=
 wNew [(.int .i64 x0_0), (.int .i64 x0_1), (.string x0_2), (.int .i64 x0_3), (.string x0_4), (.string x0_5), (.slice x0_6b x0_6l x0_6c)] H fun i1 H2 =>
 wNew [(.int .i64 x1_0), (.int .i64 x1_1), (.string x1_2), (.int .i64 x1_3), (.string x1_4), (.string x1_5), (.slice x1_6b x1_6l x1_6c)] H2 fun i3 H4 =>
 ldI .i64 i1 0 H4 fun n5 =>
 ldI .i64 i3 0 H4 fun n6 =>
 wIf (decide (n5 = n6))
 (ldI .i64 i1 1 H4 fun n7 =>
 ldI .i64 i3 1 H4 fun n8 =>
 wIf (decide (n7 = n8))
 (ldS i1 2 H4 fun t9 =>
 ldS i3 2 H4 fun t10 =>
 wIf (decide (t9 = t10))
 (ldI .i64 i1 3 H4 fun n11 =>
 ldI .i64 i3 3 H4 fun n12 =>
 wIf (decide (n11 = n12))
 (ldS i1 4 H4 fun t13 =>
 ldS i3 4 H4 fun t14 =>
 wIf (decide (t13 = t14))
 (ldS i1 5 H4 fun t15 =>
 ldS i3 5 H4 fun t16 =>
 wIf (decide (t15 = t16))
 (ldL i1 6 H4 fun z17b z17l z17c =>
 ldL i3 6 H4 fun z18b z18l z18c =>
 wCall Try.prog 53 [(.slice z17b z17l z17c), (.slice z18b z18l z18c)] H4 (fun r19 H20 =>
 opB r19 fun b23 =>
 R (.ret (.bool b23)) H20) (fun v22 H21 => R (.panic v22) H21))
 (R (.ret (.bool false)) H4))
 (R (.ret (.bool false)) H4))
 (R (.ret (.bool false)) H4))
 (R (.ret (.bool false)) H4))
 (R (.ret (.bool false)) H4))
 (R (.ret (.bool false)) H4)
theorem f48_eq (x0_0 x0_1 : Int) (x0_2 : ByteArray) (x0_3 : Int) (x0_4 x0_5 : ByteArray) (x0_6b : Option Addr) (x0_6l x0_6c : Nat) (x1_0 x1_1 : Int) (x1_2 : ByteArray) (x1_3 : Int) (x1_4 x1_5 : ByteArray) (x1_6b : Option Addr) (x1_6l x1_6c : Nat) (H : AH) (R : AEnd → AH → Prop) : awpF Try.prog f48_c (aPost Try.prog Try.f48 R) (([(.agg #[(.int .i64 x0_0), (.int .i64 x0_1), (.string x0_2), (.int .i64 x0_3), (.string x0_4), (.string x0_5), (.slice x0_6b x0_6l x0_6c)]), (.agg #[(.int .i64 x1_0), (.int .i64 x1_1), (.string x1_2), (.int .i64 x1_3), (.string x1_4), (.string x1_5), (.slice x1_6b x1_6l x1_6c)])] : List Value) ++ List.replicate (Try.f48.ntmps - (([(.agg #[(.int .i64 x0_0), (.int .i64 x0_1), (.string x0_2), (.int .i64 x0_3), (.string x0_4), (.string x0_5), (.slice x0_6b x0_6l x0_6c)]), (.agg #[(.int .i64 x1_0), (.int .i64 x1_1), (.string x1_2), (.int .i64 x1_3), (.string x1_4), (.string x1_5), (.slice x1_6b x1_6l x1_6c)])] : List Value)).length) undef) H = f48_B x0_0 x0_1 x0_2 x0_3 x0_4 x0_5 x0_6b x0_6l x0_6c x1_0 x1_1 x1_2 x1_3 x1_4 x1_5 x1_6b x1_6l x1_6c H R := by kernel_rfl
theorem f48_call (x0_0 x0_1 : Int) (x0_2 : ByteArray) (x0_3 : Int) (x0_4 x0_5 : ByteArray) (x0_6b : Option Addr) (x0_6l x0_6c : Nat) (x1_0 x1_1 : Int) (x1_2 : ByteArray) (x1_3 : Int) (x1_4 x1_5 : ByteArray) (x1_6b : Option Addr) (x1_6l x1_6c : Nat) (H : AH) (R : AEnd → AH → Prop) (h : f48_B x0_0 x0_1 x0_2 x0_3 x0_4 x0_5 x0_6b x0_6l x0_6c x1_0 x1_1 x1_2 x1_3 x1_4 x1_5 x1_6b x1_6l x1_6c H R) : ACall Try.prog 48 ([(.agg #[(.int .i64 x0_0), (.int .i64 x0_1), (.string x0_2), (.int .i64 x0_3), (.string x0_4), (.string x0_5), (.slice x0_6b x0_6l x0_6c)]), (.agg #[(.int .i64 x1_0), (.int .i64 x1_1), (.string x1_2), (.int .i64 x1_3), (.string x1_4), (.string x1_5), (.slice x1_6b x1_6l x1_6c)])] : List Value) H R :=
  acall_of mixed Try.func48 (by kernel_rfl : Try.f48.body = some f48_c) (by kernel_rfl) (by kernel_rfl) (awp_of (Eq.mpr (f48_eq x0_0 x0_1 x0_2 x0_3 x0_4 x0_5 x0_6b x0_6l x0_6c x1_0 x1_1 x1_2 x1_3 x1_4 x1_5 x1_6b x1_6l x1_6c H R) h))

/-! f64: switchyard/switchyardref13.SameCounts -/
-- join 0: live 0:a, 1:b, 12:, 13:, 24:
-- loop 0: carried 13:
/-! f65: switchyard/switchyardref13.SameBox -/
-- join 0: live 0:a, 1:b, 12:, 13:, 25:
-- loop 0: carried 13:
end Go.Proofs.Ytfghglacfjncmaa
