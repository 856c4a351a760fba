/- Bodies of functions as nested rules: printed by genw.py, a program of this claim. -/
import Derived.Test.YtfghglacfjncmaaWTy
namespace Go.Proofs.Ytfghglacfjncmaa
open Go.RowKit
set_option linter.unusedVariables false
set_option maxRecDepth 100000

/-! f26: switchyard/switchyardref13.Value -/
noncomputable def f26_c : Code := Try.f26.body.getD .skip
noncomputable def f26_X0 (R : AEnd → AH → Prop) : AExit → List Value → AH → Prop := thenF (fun tm H => hold (awpF Try.prog (codeAt f26_c [1, 1, 1]) (aPost Try.prog Try.f26 R) tm H)) (aPost Try.prog Try.f26 R)
noncomputable def f26_X1 (R : AEnd → AH → Prop) : AExit → List Value → AH → Prop := inBlockF 0 (f26_X0 R)
noncomputable def f26_X2 (R : AEnd → AH → Prop) : AExit → List Value → AH → Prop := inBlockF 1 (f26_X1 R)
noncomputable def f26_Q0 (R : AEnd → AH → Prop) : AExit → List Value → AH → Prop := (f26_X2 R)
def f26_L0 (R : AEnd → AH → Prop) (tm : List Value) (H : AH) : Prop := awpF Try.prog (codeAt f26_c [1, 1, 0, 1, 0, 1, 1, 1, 1, 1, 1, 1, 0, 1, 1, 0]) (f26_Q0 R) tm H
def f26_J0 (R : AEnd → AH → Prop) (tm : List Value) (H : AH) : Prop := hold (awpF Try.prog (codeAt f26_c [1, 1, 0, 1, 0, 1, 1, 1, 1, 1]) ((f26_X1 R)) tm H)
-- join 0: live 1:v, 3:s, 12:, 29:
def f26_J0_B (s0 : Value) (s1 : Option Addr) (s2 : Value) (s3 : ByteArray) (s4 : Value) (s5 : Value) (s6 : Value) (s7 : Value) (s8 : Value) (s9 : Value) (s10 : Value) (s11 : Value) (s12 : Int) (s13 : Value) (s14 : Value) (s15 : Value) (s16 : Value) (s17 : Value) (s18 : Value) (s19 : Value) (s20 : Value) (s21 : Value) (s22 : Value) (s23 : Value) (s24 : Value) (s25 : Value) (s26 : Value) (s27 : Value) (s28 : Value) (s29 : Bool) (s30 : Value) (s31 : Value) (s32 : Value) (s33 : Value) (s34 : Value) (s35 : Value) (s36 : Value) (s50 : Value) (s51 : Value) (s52 : Value) (s53 : Value) (s54 : Value) (s55 : Value) (s56 : Value) (s57 : Value) (s58 : Value) (H : AH) (R : AEnd → AH → Prop) : Prop :=
 wIf s29
 (wPt s1 fun i1 k2 =>
 ldS i1 (k2 + 2) H fun t3 =>
 wCall Try.prog 69 [(.string t3)] H (fun r4 H5 =>
 opS r4 fun t8 =>
 wCat s3 t8 fun t9 =>
 R (.ret (.string t9)) H5) (fun v7 H6 => R (.panic v7) H6))
 (wIf (decide (s12 = 5))
 (wPt s1 fun i10 k11 =>
 ldL i10 (k11 + 3) H fun z12b z12l z12c =>
 wCall Try.prog 70 [(.int .u64 (IntKind.u64.wrap (z12l : Int)))] H (fun r13 H14 =>
 opS r13 fun t17 =>
 wCat s3 t17 fun t18 =>
 wPt s1 fun i19 k20 =>
 ldL i19 (k20 + 3) H14 fun z21b z21l z21c =>
 f26_L0 R [s0, (.pointer s1), s2, (.string t18), s4, s5, s6, s7, s8, s9, s10, s11, (.int .i64 s12), s13, s14, s15, s16, s17, s18, s19, s20, s21, s22, s23, s24, s25, s26, s27, s28, (.bool false), s30, s31, s32, s33, s34, s35, s36, (.bool true), (.bool (decide (s12 = 5))), (.string s3), (.pointer (some ⟨i10, (k11 + 3), none⟩)), (.slice z12b z12l z12c), (.int .i64 (z12l : Int)), (.int .u64 (IntKind.u64.wrap (z12l : Int))), (.string t17), (.string t18), (.pointer (some ⟨i19, (k20 + 3), none⟩)), (.slice z21b z21l z21c), (.int .i64 (z21l : Int)), (.int .i64 0), s50, s51, s52, s53, s54, s55, s56, s57, s58] H14) (fun v16 H15 => R (.panic v16) H15))
 (R (.ret (.string s3)) H))
theorem f26_J0_eq (s0 : Value) (s1 : Option Addr) (s2 : Value) (s3 : ByteArray) (s4 : Value) (s5 : Value) (s6 : Value) (s7 : Value) (s8 : Value) (s9 : Value) (s10 : Value) (s11 : Value) (s12 : Int) (s13 : Value) (s14 : Value) (s15 : Value) (s16 : Value) (s17 : Value) (s18 : Value) (s19 : Value) (s20 : Value) (s21 : Value) (s22 : Value) (s23 : Value) (s24 : Value) (s25 : Value) (s26 : Value) (s27 : Value) (s28 : Value) (s29 : Bool) (s30 : Value) (s31 : Value) (s32 : Value) (s33 : Value) (s34 : Value) (s35 : Value) (s36 : Value) (s37 : Value) (s38 : Value) (s39 : Value) (s40 : Value) (s41 : Value) (s42 : Value) (s43 : Value) (s44 : Value) (s45 : Value) (s46 : Value) (s47 : Value) (s48 : Value) (s49 : Value) (s50 : Value) (s51 : Value) (s52 : Value) (s53 : Value) (s54 : Value) (s55 : Value) (s56 : Value) (s57 : Value) (s58 : Value) (H : AH) (R : AEnd → AH → Prop) : f26_J0 R [s0, (.pointer s1), s2, (.string s3), s4, s5, s6, s7, s8, s9, s10, s11, (.int .i64 s12), s13, s14, s15, s16, s17, s18, s19, s20, s21, s22, s23, s24, s25, s26, s27, s28, (.bool s29), s30, s31, s32, s33, s34, s35, s36, s37, s38, s39, s40, s41, s42, s43, s44, s45, s46, s47, s48, s49, s50, s51, s52, s53, s54, s55, s56, s57, s58] H = f26_J0_B s0 s1 s2 s3 s4 s5 s6 s7 s8 s9 s10 s11 s12 s13 s14 s15 s16 s17 s18 s19 s20 s21 s22 s23 s24 s25 s26 s27 s28 s29 s30 s31 s32 s33 s34 s35 s36 s50 s51 s52 s53 s54 s55 s56 s57 s58 H R := by kernel_rfl
def f26_R0 (s0 : Value) (s1 : Value) (s2 : Value) (s3 : ByteArray) (s4 : Value) (s5 : Value) (s6 : Value) (s7 : Value) (s8 : Value) (s9 : Value) (s10 : Value) (s11 : Value) (s12 : Value) (s13 : Value) (s14 : Value) (s15 : Value) (s16 : Value) (s17 : Value) (s18 : Value) (s19 : Value) (s20 : Value) (s21 : Value) (s22 : Value) (s23 : Value) (s24 : Value) (s25 : Value) (s26 : Value) (s27 : Value) (s28 : Value) (s29 : Value) (s30 : Value) (s31 : Value) (s32 : Value) (s33 : Value) (s34 : Value) (s35 : Value) (s36 : Value) (s37 : Value) (s38 : Value) (s39 : Value) (s40 : Value) (s41 : Value) (s42 : Value) (s43 : Value) (s44 : Value) (s45 : Value) (s46 : Value) (s47b : Option Addr) (s47l : Nat) (s47c : Nat) (s48 : Int) (s49 : Int) (s50 : Value) (s51 : Value) (s52 : Value) (s53 : Value) (s54 : Value) (s55 : Value) (s56 : Value) (s57 : Value) (s58 : Value) (H : AH) (K0 : List Value → AH → Prop) (R : AEnd → AH → Prop) : Prop :=
 wIf (decide (s49 < s48))
 (wIx s47b s47l 1 s49 fun i22 k23 =>
 ldI .i64 i22 k23 H fun n24 =>
 wCall Try.prog 68 [(.int .i64 n24)] H (fun r25 H26 =>
 opS r25 fun t29 =>
 wCat s3 t29 fun t30 =>
 K0 [s0, s1, s2, (.string t30), s4, (.int .i64 n24), s6, s7, s8, s9, s10, s11, s12, s13, s14, s15, s16, s17, s18, s19, s20, s21, s22, s23, s24, s25, s26, s27, s28, s29, s30, s31, s32, s33, s34, s35, s36, s37, s38, s39, s40, s41, s42, s43, s44, s45, s46, (.slice s47b s47l s47c), (.int .i64 s48), (.int .i64 (IntKind.i64.wrap (s49 + 1))), (.bool true), (.pointer (some ⟨i22, k23, none⟩)), (.int .i64 n24), (.string s3), (.int .i64 n24), (.string t29), (.string t30), (.int .i64 (IntKind.i64.wrap (s49 + 1))), s58] H26) (fun v28 H27 => R (.panic v28) H27))
 (R (.ret (.string s3)) H)
theorem f26_R0_eq (s0 : Value) (s1 : Value) (s2 : Value) (s3 : ByteArray) (s4 : Value) (s5 : Value) (s6 : Value) (s7 : Value) (s8 : Value) (s9 : Value) (s10 : Value) (s11 : Value) (s12 : Value) (s13 : Value) (s14 : Value) (s15 : Value) (s16 : Value) (s17 : Value) (s18 : Value) (s19 : Value) (s20 : Value) (s21 : Value) (s22 : Value) (s23 : Value) (s24 : Value) (s25 : Value) (s26 : Value) (s27 : Value) (s28 : Value) (s29 : Value) (s30 : Value) (s31 : Value) (s32 : Value) (s33 : Value) (s34 : Value) (s35 : Value) (s36 : Value) (s37 : Value) (s38 : Value) (s39 : Value) (s40 : Value) (s41 : Value) (s42 : Value) (s43 : Value) (s44 : Value) (s45 : Value) (s46 : Value) (s47b : Option Addr) (s47l : Nat) (s47c : Nat) (s48 : Int) (s49 : Int) (s50 : Value) (s51 : Value) (s52 : Value) (s53 : Value) (s54 : Value) (s55 : Value) (s56 : Value) (s57 : Value) (s58 : Value) (H : AH) (K0 : List Value → AH → Prop) (R : AEnd → AH → Prop) : awpF Try.prog (codeAt f26_c [1, 1, 0, 1, 0, 1, 1, 1, 1, 1, 1, 1, 0, 1, 1, 0, 0]) (thenF K0 (f26_Q0 R)) [s0, s1, s2, (.string s3), s4, s5, s6, s7, s8, s9, s10, s11, s12, s13, s14, s15, s16, s17, s18, s19, s20, s21, s22, s23, s24, s25, s26, s27, s28, s29, s30, s31, s32, s33, s34, s35, s36, s37, s38, s39, s40, s41, s42, s43, s44, s45, s46, (.slice s47b s47l s47c), (.int .i64 s48), (.int .i64 s49), s50, s51, s52, s53, s54, s55, s56, s57, s58] H = f26_R0 s0 s1 s2 s3 s4 s5 s6 s7 s8 s9 s10 s11 s12 s13 s14 s15 s16 s17 s18 s19 s20 s21 s22 s23 s24 s25 s26 s27 s28 s29 s30 s31 s32 s33 s34 s35 s36 s37 s38 s39 s40 s41 s42 s43 s44 s45 s46 s47b s47l s47c s48 s49 s50 s51 s52 s53 s54 s55 s56 s57 s58 H K0 R := by kernel_rfl
def f26_I0 (s0 : Value) (s1 : Value) (s2 : Value) (s4 : Value) (s6 : Value) (s7 : Value) (s8 : Value) (s9 : Value) (s10 : Value) (s11 : Value) (s12 : Value) (s13 : Value) (s14 : Value) (s15 : Value) (s16 : Value) (s17 : Value) (s18 : Value) (s19 : Value) (s20 : Value) (s21 : Value) (s22 : Value) (s23 : Value) (s24 : Value) (s25 : Value) (s26 : Value) (s27 : Value) (s28 : Value) (s29 : Value) (s30 : Value) (s31 : Value) (s32 : Value) (s33 : Value) (s34 : Value) (s35 : Value) (s36 : Value) (s37 : Value) (s38 : Value) (s39 : Value) (s40 : Value) (s41 : Value) (s42 : Value) (s43 : Value) (s44 : Value) (s45 : Value) (s46 : Value) (s47b : Option Addr) (s47l : Nat) (s47c : Nat) (s48 : Int) (s58 : Value) (J : Nat → ByteArray → Int → AH → Prop) (n : Nat) (tm : List Value) (H : AH) : Prop := ∃ (s3 : ByteArray) (s5 : Value) (s49 : Int) (s50 : Value) (s51 : Value) (s52 : Value) (s53 : Value) (s54 : Value) (s55 : Value) (s56 : Value) (s57 : Value), tm = [s0, s1, s2, (.string s3), s4, s5, s6, s7, s8, s9, s10, s11, s12, s13, s14, s15, s16, s17, s18, s19, s20, s21, s22, s23, s24, s25, s26, s27, s28, s29, s30, s31, s32, s33, s34, s35, s36, s37, s38, s39, s40, s41, s42, s43, s44, s45, s46, (.slice s47b s47l s47c), (.int .i64 s48), (.int .i64 s49), s50, s51, s52, s53, s54, s55, s56, s57, s58] ∧ J n s3 s49 H
theorem f26_I0_mk {s0 : Value} {s1 : Value} {s2 : Value} {s3 : ByteArray} {s4 : Value} {s5 : Value} {s6 : Value} {s7 : Value} {s8 : Value} {s9 : Value} {s10 : Value} {s11 : Value} {s12 : Value} {s13 : Value} {s14 : Value} {s15 : Value} {s16 : Value} {s17 : Value} {s18 : Value} {s19 : Value} {s20 : Value} {s21 : Value} {s22 : Value} {s23 : Value} {s24 : Value} {s25 : Value} {s26 : Value} {s27 : Value} {s28 : Value} {s29 : Value} {s30 : Value} {s31 : Value} {s32 : Value} {s33 : Value} {s34 : Value} {s35 : Value} {s36 : Value} {s37 : Value} {s38 : Value} {s39 : Value} {s40 : Value} {s41 : Value} {s42 : Value} {s43 : Value} {s44 : Value} {s45 : Value} {s46 : Value} {s47b : Option Addr} {s47l : Nat} {s47c : Nat} {s48 : Int} {s49 : Int} {s50 : Value} {s51 : Value} {s52 : Value} {s53 : Value} {s54 : Value} {s55 : Value} {s56 : Value} {s57 : Value} {s58 : Value} {J : Nat → ByteArray → Int → AH → Prop} {n : Nat} {H : AH} (h : J n s3 s49 H) : f26_I0 s0 s1 s2 s4 s6 s7 s8 s9 s10 s11 s12 s13 s14 s15 s16 s17 s18 s19 s20 s21 s22 s23 s24 s25 s26 s27 s28 s29 s30 s31 s32 s33 s34 s35 s36 s37 s38 s39 s40 s41 s42 s43 s44 s45 s46 s47b s47l s47c s48 s58 J n [s0, s1, s2, (.string s3), s4, s5, s6, s7, s8, s9, s10, s11, s12, s13, s14, s15, s16, s17, s18, s19, s20, s21, s22, s23, s24, s25, s26, s27, s28, s29, s30, s31, s32, s33, s34, s35, s36, s37, s38, s39, s40, s41, s42, s43, s44, s45, s46, (.slice s47b s47l s47c), (.int .i64 s48), (.int .i64 s49), s50, s51, s52, s53, s54, s55, s56, s57, s58] H := ⟨_, _, _, _, _, _, _, _, _, _, _, rfl, h⟩
-- loop 0: carried 3:s, 49:
theorem f26_L0_rule {s0 : Value} {s1 : Value} {s2 : Value} {s3 : ByteArray} {s4 : Value} {s5 : Value} {s6 : Value} {s7 : Value} {s8 : Value} {s9 : Value} {s10 : Value} {s11 : Value} {s12 : Value} {s13 : Value} {s14 : Value} {s15 : Value} {s16 : Value} {s17 : Value} {s18 : Value} {s19 : Value} {s20 : Value} {s21 : Value} {s22 : Value} {s23 : Value} {s24 : Value} {s25 : Value} {s26 : Value} {s27 : Value} {s28 : Value} {s29 : Value} {s30 : Value} {s31 : Value} {s32 : Value} {s33 : Value} {s34 : Value} {s35 : Value} {s36 : Value} {s37 : Value} {s38 : Value} {s39 : Value} {s40 : Value} {s41 : Value} {s42 : Value} {s43 : Value} {s44 : Value} {s45 : Value} {s46 : Value} {s47b : Option Addr} {s47l : Nat} {s47c : Nat} {s48 : Int} {s49 : Int} {s50 : Value} {s51 : Value} {s52 : Value} {s53 : Value} {s54 : Value} {s55 : Value} {s56 : Value} {s57 : Value} {s58 : Value} {H : AH} {R : AEnd → AH → Prop} (J : Nat → ByteArray → Int → AH → Prop) (n : Nat) (h0 : J n s3 s49 H)
  (step : ∀ (n : Nat) (s3 : ByteArray) (s49 : Int) (H : AH), J n s3 s49 H → ∀ (s5 : Value) (s50 : Value) (s51 : Value) (s52 : Value) (s53 : Value) (s54 : Value) (s55 : Value) (s56 : Value) (s57 : Value), f26_R0 s0 s1 s2 s3 s4 s5 s6 s7 s8 s9 s10 s11 s12 s13 s14 s15 s16 s17 s18 s19 s20 s21 s22 s23 s24 s25 s26 s27 s28 s29 s30 s31 s32 s33 s34 s35 s36 s37 s38 s39 s40 s41 s42 s43 s44 s45 s46 s47b s47l s47c s48 s49 s50 s51 s52 s53 s54 s55 s56 s57 s58 H (fun tm H => ∃ m, m < n ∧ f26_I0 s0 s1 s2 s4 s6 s7 s8 s9 s10 s11 s12 s13 s14 s15 s16 s17 s18 s19 s20 s21 s22 s23 s24 s25 s26 s27 s28 s29 s30 s31 s32 s33 s34 s35 s36 s37 s38 s39 s40 s41 s42 s43 s44 s45 s46 s47b s47l s47c s48 s58 J m tm H) R) : f26_L0 R [s0, s1, s2, (.string s3), s4, s5, s6, s7, s8, s9, s10, s11, s12, s13, s14, s15, s16, s17, s18, s19, s20, s21, s22, s23, s24, s25, s26, s27, s28, s29, s30, s31, s32, s33, s34, s35, s36, s37, s38, s39, s40, s41, s42, s43, s44, s45, s46, (.slice s47b s47l s47c), (.int .i64 s48), (.int .i64 s49), s50, s51, s52, s53, s54, s55, s56, s57, s58] H :=
  awpF_loop (f26_I0 s0 s1 s2 s4 s6 s7 s8 s9 s10 s11 s12 s13 s14 s15 s16 s17 s18 s19 s20 s21 s22 s23 s24 s25 s26 s27 s28 s29 s30 s31 s32 s33 s34 s35 s36 s37 s38 s39 s40 s41 s42 s43 s44 s45 s46 s47b s47l s47c s48 s58 J) n (f26_I0_mk h0) (by
    intro n tm H hh
    exact Exists.elim hh fun s3 hh => Exists.elim hh fun s5 hh => Exists.elim hh fun s49 hh => Exists.elim hh fun s50 hh => Exists.elim hh fun s51 hh => Exists.elim hh fun s52 hh => Exists.elim hh fun s53 hh => Exists.elim hh fun s54 hh => Exists.elim hh fun s55 hh => Exists.elim hh fun s56 hh => Exists.elim hh fun s57 hh => And.elim (fun e h =>
     (by subst e; exact Eq.mpr (f26_R0_eq s0 s1 s2 s3 s4 s5 s6 s7 s8 s9 s10 s11 s12 s13 s14 s15 s16 s17 s18 s19 s20 s21 s22 s23 s24 s25 s26 s27 s28 s29 s30 s31 s32 s33 s34 s35 s36 s37 s38 s39 s40 s41 s42 s43 s44 s45 s46 s47b s47l s47c s48 s49 s50 s51 s52 s53 s54 s55 s56 s57 s58 H _ R) (step n s3 s49 H h s5 s50 s51 s52 s53 s54 s55 s56 s57))) hh)
def f26_B (x0_0 : Int) (x0_1 : Int) (x0_2 : ByteArray) (x0_3b : Option Addr) (x0_3l : Nat) (x0_3c : Nat) (H : AH) (R : AEnd → AH → Prop) : Prop :=
 wNew [(.int .i64 x0_0), (.int .i64 x0_1), (.string x0_2), (.slice x0_3b x0_3l x0_3c)] H fun i31 H32 =>
 ldI .i64 i31 0 H32 fun n33 =>
 wBs [(.int .u8 (IntKind.u8.wrap n33))] 1 H32 fun i34 H35 =>
 wB2S (some ⟨i34, 0, none⟩) 1 0 H35 fun t36 =>
 ldI .i64 i31 0 H35 fun n37 =>
 wIf (decide (n37 = 1))
 (ldI .i64 i31 1 H35 fun n38 =>
 wCall Try.prog 68 [(.int .i64 n38)] H35 (fun r39 H40 =>
 opS r39 fun t43 =>
 wCat t36 t43 fun t44 =>
 R (.ret (.string t44)) H40) (fun v42 H41 => R (.panic v42) H41))
 (wIf (decide (n37 = 2))
 (ldI .i64 i31 1 H35 fun n45 =>
 wBs [(.int .u8 (IntKind.u8.wrap n45))] 1 H35 fun i46 H47 =>
 wB2S (some ⟨i46, 0, none⟩) 1 0 H47 fun t48 =>
 wCat t36 t48 fun t49 =>
 R (.ret (.string t49)) H47)
 (wIf (decide (n37 = 3))
 (f26_J0 R [(.agg #[(.int .i64 x0_0), (.int .i64 x0_1), (.string x0_2), (.slice x0_3b x0_3l x0_3c)]), (.pointer (some ⟨i31, 0, none⟩)), (.string ({ data := #[] })), (.string t36), undef, undef, (.pointer (some ⟨i31, 0, none⟩)), (.int .i64 n33), (.int .u8 (IntKind.u8.wrap n33)), (.slice (some ⟨i34, 0, none⟩) 1 0), (.string t36), (.pointer (some ⟨i31, 0, none⟩)), (.int .i64 n37), (.bool false), (.bool (decide (n37 = 1))), undef, undef, undef, undef, undef, (.bool false), (.bool (decide (n37 = 2))), undef, undef, undef, undef, undef, undef, undef, (.bool true), (.bool (decide (n37 = 3))), undef, undef, undef, undef, undef, undef, undef, undef, undef, undef, undef, undef, undef, undef, undef, undef, undef, undef, undef, undef, undef, undef, undef, undef, undef, undef, undef, undef] H35)
 (f26_J0 R [(.agg #[(.int .i64 x0_0), (.int .i64 x0_1), (.string x0_2), (.slice x0_3b x0_3l x0_3c)]), (.pointer (some ⟨i31, 0, none⟩)), (.string ({ data := #[] })), (.string t36), undef, undef, (.pointer (some ⟨i31, 0, none⟩)), (.int .i64 n33), (.int .u8 (IntKind.u8.wrap n33)), (.slice (some ⟨i34, 0, none⟩) 1 0), (.string t36), (.pointer (some ⟨i31, 0, none⟩)), (.int .i64 n37), (.bool false), (.bool (decide (n37 = 1))), undef, undef, undef, undef, undef, (.bool false), (.bool (decide (n37 = 2))), undef, undef, undef, undef, undef, undef, undef, (.bool (decide (n37 = 4))), (.bool (decide (n37 = 3))), (.bool (decide (n37 = 4))), undef, undef, undef, undef, undef, undef, undef, undef, undef, undef, undef, undef, undef, undef, undef, undef, undef, undef, undef, undef, undef, undef, undef, undef, undef, undef, undef] H35)))
theorem f26_eq (x0_0 : Int) (x0_1 : Int) (x0_2 : ByteArray) (x0_3b : Option Addr) (x0_3l : Nat) (x0_3c : Nat) (H : AH) (R : AEnd → AH → Prop) : awpF Try.prog f26_c (aPost Try.prog Try.f26 R) (([(.agg #[(.int .i64 x0_0), (.int .i64 x0_1), (.string x0_2), (.slice x0_3b x0_3l x0_3c)])] : List Value) ++ List.replicate (Try.f26.ntmps - (([(.agg #[(.int .i64 x0_0), (.int .i64 x0_1), (.string x0_2), (.slice x0_3b x0_3l x0_3c)])] : List Value)).length) undef) H = f26_B x0_0 x0_1 x0_2 x0_3b x0_3l x0_3c H R := by kernel_rfl
theorem f26_call (x0_0 : Int) (x0_1 : Int) (x0_2 : ByteArray) (x0_3b : Option Addr) (x0_3l : Nat) (x0_3c : Nat) (H : AH) (R : AEnd → AH → Prop) (h : f26_B x0_0 x0_1 x0_2 x0_3b x0_3l x0_3c H R) : ACall Try.prog 26 ([(.agg #[(.int .i64 x0_0), (.int .i64 x0_1), (.string x0_2), (.slice x0_3b x0_3l x0_3c)])] : List Value) H R :=
  acall_of mixed Try.func26 (by kernel_rfl : Try.f26.body = some f26_c) (by kernel_rfl) (by kernel_rfl) (awp_of (Eq.mpr (f26_eq x0_0 x0_1 x0_2 x0_3b x0_3l x0_3c H R) h))

/-! f27: switchyard/switchyardref06.Right -/
noncomputable def f27_c : Code := Try.f27.body.getD .skip
noncomputable def f27_X0 (R : AEnd → AH → Prop) : AExit → List Value → AH → Prop := thenF (fun tm H => hold (awpF Try.prog (codeAt f27_c [1, 1]) (aPost Try.prog Try.f27 R) tm H)) (aPost Try.prog Try.f27 R)
def f27_J0 (R : AEnd → AH → Prop) (tm : List Value) (H : AH) : Prop := hold (awpF Try.prog (codeAt f27_c [1, 0, 1]) ((f27_X0 R)) tm H)
def f27_J1 (R : AEnd → AH → Prop) (tm : List Value) (H : AH) : Prop := hold (awpF Try.prog (codeAt f27_c [1, 1]) ((aPost Try.prog Try.f27 R)) tm H)
noncomputable def f27_X1 (R : AEnd → AH → Prop) : AExit → List Value → AH → Prop := thenF (fun tm H => hold (awpF Try.prog (codeAt f27_c [1, 1, 1]) (aPost Try.prog Try.f27 R) tm H)) (aPost Try.prog Try.f27 R)
def f27_J2 (R : AEnd → AH → Prop) (tm : List Value) (H : AH) : Prop := hold (awpF Try.prog (codeAt f27_c [1, 1, 0, 1]) ((f27_X1 R)) tm H)
def f27_J3 (R : AEnd → AH → Prop) (tm : List Value) (H : AH) : Prop := hold (awpF Try.prog (codeAt f27_c [1, 1, 1]) ((aPost Try.prog Try.f27 R)) tm H)
noncomputable def f27_X2 (R : AEnd → AH → Prop) : AExit → List Value → AH → Prop := thenF (fun tm H => hold (awpF Try.prog (codeAt f27_c [1, 1, 1, 1]) (aPost Try.prog Try.f27 R) tm H)) (aPost Try.prog Try.f27 R)
def f27_J4 (R : AEnd → AH → Prop) (tm : List Value) (H : AH) : Prop := hold (awpF Try.prog (codeAt f27_c [1, 1, 1, 0, 1]) ((f27_X2 R)) tm H)
def f27_J5 (R : AEnd → AH → Prop) (tm : List Value) (H : AH) : Prop := hold (awpF Try.prog (codeAt f27_c [1, 1, 1, 1]) ((aPost Try.prog Try.f27 R)) tm H)
-- join 5: live 1:o
def f27_J5_B (s1 : Option Addr) (H : AH) (R : AEnd → AH → Prop) : Prop :=
 wPt s1 fun i1 k2 =>
 ldI .i64 i1 k2 H fun n3 =>
 wIf (!decide (n3 = 5))
 (wPt s1 fun i4 k5 =>
 ldL i4 (k5 + 3) H fun z6b z6l z6c =>
 wIf (decide ((z6l : Int) = 0))
 (R (.ret (.bool true)) H)
 (wPt s1 fun i7 k8 =>
 ldI .i64 i7 k8 H fun n9 =>
 wIf (decide (n9 = 5))
 (wPt s1 fun i10 k11 =>
 ldL i10 (k11 + 3) H fun z12b z12l z12c =>
 R (.ret (.bool (decide ((z12l : Int) ≤ 16)))) H)
 (R (.ret (.bool false)) H)))
 (wPt s1 fun i13 k14 =>
 ldI .i64 i13 k14 H fun n15 =>
 wIf (decide (n15 = 5))
 (wPt s1 fun i16 k17 =>
 ldL i16 (k17 + 3) H fun z18b z18l z18c =>
 R (.ret (.bool (decide ((z18l : Int) ≤ 16)))) H)
 (R (.ret (.bool false)) H))
theorem f27_J5_eq (s0 : Value) (s1 : Option Addr) (s2 : Value) (s3 : Value) (s4 : Value) (s5 : Value) (s6 : Value) (s7 : Value) (s8 : Value) (s9 : Value) (s10 : Value) (s11 : Value) (s12 : Value) (s13 : Value) (s14 : Value) (s15 : Value) (s16 : Value) (s17 : Value) (s18 : Value) (s19 : Value) (s20 : Value) (s21 : Value) (s22 : Value) (s23 : Value) (s24 : Value) (s25 : Value) (s26 : Value) (s27 : Value) (s28 : Value) (s29 : Value) (s30 : Value) (s31 : Value) (s32 : Value) (s33 : Value) (s34 : Value) (s35 : Value) (s36 : Value) (s37 : Value) (s38 : Value) (s39 : Value) (s40 : Value) (s41 : Value) (s42 : Value) (s43 : Value) (s44 : Value) (s45 : Value) (s46 : Value) (s47 : Value) (s48 : Value) (s49 : Value) (s50 : Value) (s51 : Value) (s52 : Value) (s53 : Value) (s54 : Value) (s55 : Value) (s56 : Value) (s57 : Value) (s58 : Value) (s59 : Value) (s60 : Value) (s61 : Value) (s62 : Value) (s63 : Value) (s64 : Value) (s65 : Value) (s66 : Value) (s67 : Value) (s68 : Value) (s69 : Value) (s70 : Value) (s71 : Value) (s72 : Value) (s73 : Value) (s74 : Value) (s75 : Value) (s76 : Value) (s77 : Value) (s78 : Value) (s79 : Value) (s80 : Value) (s81 : Value) (s82 : Value) (s83 : Value) (s84 : Value) (s85 : Value) (s86 : Value) (s87 : Value) (s88 : Value) (s89 : Value) (s90 : Value) (s91 : Value) (s92 : Value) (s93 : Value) (s94 : Value) (H : AH) (R : AEnd → AH → Prop) : f27_J5 R [s0, (.pointer s1), s2, s3, s4, s5, s6, s7, s8, s9, s10, s11, s12, s13, s14, s15, s16, s17, s18, s19, s20, s21, s22, s23, s24, s25, s26, s27, s28, s29, s30, s31, s32, s33, s34, s35, s36, s37, s38, s39, s40, s41, s42, s43, s44, s45, s46, s47, s48, s49, s50, s51, s52, s53, s54, s55, s56, s57, s58, s59, s60, s61, s62, s63, s64, s65, s66, s67, s68, s69, s70, s71, s72, s73, s74, s75, s76, s77, s78, s79, s80, s81, s82, s83, s84, s85, s86, s87, s88, s89, s90, s91, s92, s93, s94] H = f27_J5_B s1 H R := by kernel_rfl
-- join 4: live 1:o, 74:?
def f27_J4_B (s0 : Value) (s1 : Option Addr) (s2 : Value) (s3 : Value) (s4 : Value) (s5 : Value) (s6 : Value) (s7 : Value) (s8 : Value) (s9 : Value) (s10 : Value) (s11 : Value) (s12 : Value) (s13 : Value) (s14 : Value) (s15 : Value) (s16 : Value) (s17 : Value) (s18 : Value) (s19 : Value) (s20 : Value) (s21 : Value) (s22 : Value) (s23 : Value) (s24 : Value) (s25 : Value) (s26 : Value) (s27 : Value) (s28 : Value) (s29 : Value) (s30 : Value) (s31 : Value) (s32 : Value) (s33 : Value) (s34 : Value) (s35 : Value) (s36 : Value) (s37 : Value) (s38 : Value) (s39 : Value) (s40 : Value) (s41 : Value) (s42 : Value) (s43 : Value) (s44 : Value) (s45 : Value) (s46 : Value) (s47 : Value) (s48 : Value) (s49 : Value) (s50 : Value) (s51 : Value) (s52 : Value) (s53 : Value) (s54 : Value) (s55 : Value) (s56 : Value) (s57 : Value) (s58 : Value) (s59 : Value) (s60 : Value) (s61 : Value) (s62 : Value) (s63 : Value) (s64 : Value) (s65 : Value) (s66 : Value) (s67 : Value) (s68 : Value) (s69 : Value) (s70 : Value) (s71 : Value) (s72 : Value) (s73 : Value) (s74 : Bool) (s75 : Value) (s76 : Value) (s77 : Value) (s78 : Value) (s79 : Value) (s80 : Value) (s81 : Value) (s82 : Value) (s83 : Value) (s84 : Value) (s85 : Value) (s86 : Value) (s87 : Value) (s88 : Value) (s89 : Value) (s90 : Value) (s91 : Value) (s92 : Value) (s93 : Value) (s94 : Value) (H : AH) (R : AEnd → AH → Prop) : Prop :=
 wIf s74
 (R (.ret (.bool false)) H)
 (f27_J5 R [s0, (.pointer s1), s2, s3, s4, s5, s6, s7, s8, s9, s10, s11, s12, s13, s14, s15, s16, s17, s18, s19, s20, s21, s22, s23, s24, s25, s26, s27, s28, s29, s30, s31, s32, s33, s34, s35, s36, s37, s38, s39, s40, s41, s42, s43, s44, s45, s46, s47, s48, s49, s50, s51, s52, s53, s54, s55, s56, s57, s58, s59, s60, s61, s62, s63, s64, s65, s66, s67, s68, s69, s70, s71, s72, s73, (.bool false), s75, s76, s77, s78, s79, s80, s81, s82, s83, s84, s85, s86, s87, s88, s89, s90, s91, s92, s93, s94] H)
theorem f27_J4_eq (s0 : Value) (s1 : Option Addr) (s2 : Value) (s3 : Value) (s4 : Value) (s5 : Value) (s6 : Value) (s7 : Value) (s8 : Value) (s9 : Value) (s10 : Value) (s11 : Value) (s12 : Value) (s13 : Value) (s14 : Value) (s15 : Value) (s16 : Value) (s17 : Value) (s18 : Value) (s19 : Value) (s20 : Value) (s21 : Value) (s22 : Value) (s23 : Value) (s24 : Value) (s25 : Value) (s26 : Value) (s27 : Value) (s28 : Value) (s29 : Value) (s30 : Value) (s31 : Value) (s32 : Value) (s33 : Value) (s34 : Value) (s35 : Value) (s36 : Value) (s37 : Value) (s38 : Value) (s39 : Value) (s40 : Value) (s41 : Value) (s42 : Value) (s43 : Value) (s44 : Value) (s45 : Value) (s46 : Value) (s47 : Value) (s48 : Value) (s49 : Value) (s50 : Value) (s51 : Value) (s52 : Value) (s53 : Value) (s54 : Value) (s55 : Value) (s56 : Value) (s57 : Value) (s58 : Value) (s59 : Value) (s60 : Value) (s61 : Value) (s62 : Value) (s63 : Value) (s64 : Value) (s65 : Value) (s66 : Value) (s67 : Value) (s68 : Value) (s69 : Value) (s70 : Value) (s71 : Value) (s72 : Value) (s73 : Value) (s74 : Bool) (s75 : Value) (s76 : Value) (s77 : Value) (s78 : Value) (s79 : Value) (s80 : Value) (s81 : Value) (s82 : Value) (s83 : Value) (s84 : Value) (s85 : Value) (s86 : Value) (s87 : Value) (s88 : Value) (s89 : Value) (s90 : Value) (s91 : Value) (s92 : Value) (s93 : Value) (s94 : Value) (H : AH) (R : AEnd → AH → Prop) : f27_J4 R [s0, (.pointer s1), s2, s3, s4, s5, s6, s7, s8, s9, s10, s11, s12, s13, s14, s15, s16, s17, s18, s19, s20, s21, s22, s23, s24, s25, s26, s27, s28, s29, s30, s31, s32, s33, s34, s35, s36, s37, s38, s39, s40, s41, s42, s43, s44, s45, s46, s47, s48, s49, s50, s51, s52, s53, s54, s55, s56, s57, s58, s59, s60, s61, s62, s63, s64, s65, s66, s67, s68, s69, s70, s71, s72, s73, (.bool s74), s75, s76, s77, s78, s79, s80, s81, s82, s83, s84, s85, s86, s87, s88, s89, s90, s91, s92, s93, s94] H = f27_J4_B s0 s1 s2 s3 s4 s5 s6 s7 s8 s9 s10 s11 s12 s13 s14 s15 s16 s17 s18 s19 s20 s21 s22 s23 s24 s25 s26 s27 s28 s29 s30 s31 s32 s33 s34 s35 s36 s37 s38 s39 s40 s41 s42 s43 s44 s45 s46 s47 s48 s49 s50 s51 s52 s53 s54 s55 s56 s57 s58 s59 s60 s61 s62 s63 s64 s65 s66 s67 s68 s69 s70 s71 s72 s73 s74 s75 s76 s77 s78 s79 s80 s81 s82 s83 s84 s85 s86 s87 s88 s89 s90 s91 s92 s93 s94 H R := by kernel_rfl
-- join 3: live 1:o
def f27_J3_B (s0 : Value) (s1 : Option Addr) (s2 : Value) (s3 : Value) (s4 : Value) (s5 : Value) (s6 : Value) (s7 : Value) (s8 : Value) (s9 : Value) (s10 : Value) (s11 : Value) (s12 : Value) (s13 : Value) (s14 : Value) (s15 : Value) (s16 : Value) (s17 : Value) (s18 : Value) (s19 : Value) (s20 : Value) (s21 : Value) (s22 : Value) (s23 : Value) (s24 : Value) (s25 : Value) (s26 : Value) (s27 : Value) (s28 : Value) (s29 : Value) (s30 : Value) (s31 : Value) (s32 : Value) (s33 : Value) (s34 : Value) (s35 : Value) (s36 : Value) (s37 : Value) (s38 : Value) (s75 : Value) (s76 : Value) (s77 : Value) (s78 : Value) (s79 : Value) (s80 : Value) (s81 : Value) (s82 : Value) (s83 : Value) (s84 : Value) (s85 : Value) (s86 : Value) (s87 : Value) (s88 : Value) (s89 : Value) (s90 : Value) (s91 : Value) (s92 : Value) (s93 : Value) (s94 : Value) (H : AH) (R : AEnd → AH → Prop) : Prop :=
 wPt s1 fun i19 k20 =>
 ldI .i64 i19 k20 H fun n21 =>
 wIf (!decide (n21 = 3))
 (wPt s1 fun i22 k23 =>
 ldI .i64 i22 k23 H fun n24 =>
 wIf (!decide (n24 = 4))
 (wPt s1 fun i25 k26 =>
 ldS i25 (k26 + 2) H fun t27 =>
 wIf (decide ((t27.size : Int) > 0))
 (f27_J4 R [s0, (.pointer s1), s2, s3, s4, s5, s6, s7, s8, s9, s10, s11, s12, s13, s14, s15, s16, s17, s18, s19, s20, s21, s22, s23, s24, s25, s26, s27, s28, s29, s30, s31, s32, s33, s34, s35, s36, s37, s38, (.pointer (some ⟨i19, k20, none⟩)), (.int .i64 n21), (.bool (!decide (n21 = 3))), (.bool true), (.pointer (some ⟨i22, k23, none⟩)), (.int .i64 n24), (.bool (!decide (n24 = 4))), (.bool (!decide (n24 = 4))), (.bool true), (.pointer (some ⟨i25, (k26 + 2), none⟩)), (.string t27), (.int .i64 (t27.size : Int)), (.bool (decide ((t27.size : Int) > 0))), (.bool (decide ((t27.size : Int) > 0))), (.bool true), undef, undef, undef, undef, undef, undef, undef, undef, undef, (.bool true), (.bool true), undef, undef, undef, undef, undef, undef, undef, undef, undef, (.bool true), s75, s76, s77, s78, s79, s80, s81, s82, s83, s84, s85, s86, s87, s88, s89, s90, s91, s92, s93, s94] H)
 (wPt s1 fun i28 k29 =>
 ldI .i64 i28 k29 H fun n30 =>
 wIf (decide (n30 = 3))
 (wPt s1 fun i31 k32 =>
 ldS i31 (k32 + 2) H fun t33 =>
 wIf (decide ((t33.size : Int) > 64))
 (f27_J4 R [s0, (.pointer s1), s2, s3, s4, s5, s6, s7, s8, s9, s10, s11, s12, s13, s14, s15, s16, s17, s18, s19, s20, s21, s22, s23, s24, s25, s26, s27, s28, s29, s30, s31, s32, s33, s34, s35, s36, s37, s38, (.pointer (some ⟨i19, k20, none⟩)), (.int .i64 n21), (.bool (!decide (n21 = 3))), (.bool true), (.pointer (some ⟨i22, k23, none⟩)), (.int .i64 n24), (.bool (!decide (n24 = 4))), (.bool (!decide (n24 = 4))), (.bool true), (.pointer (some ⟨i25, (k26 + 2), none⟩)), (.string t27), (.int .i64 (t27.size : Int)), (.bool (decide ((t27.size : Int) > 0))), (.bool (decide ((t27.size : Int) > 0))), (.bool false), (.pointer (some ⟨i28, k29, none⟩)), (.int .i64 n30), (.bool (decide (n30 = 3))), (.bool true), (.pointer (some ⟨i31, (k32 + 2), none⟩)), (.string t33), (.int .i64 (t33.size : Int)), (.bool (decide ((t33.size : Int) > 64))), (.bool (decide ((t33.size : Int) > 64))), (.bool (decide ((t33.size : Int) > 64))), (.bool true), undef, undef, undef, undef, undef, undef, undef, undef, undef, (.bool true), s75, s76, s77, s78, s79, s80, s81, s82, s83, s84, s85, s86, s87, s88, s89, s90, s91, s92, s93, s94] H)
 (wPt s1 fun i34 k35 =>
 ldI .i64 i34 k35 H fun n36 =>
 wIf (decide (n36 = 4))
 (wPt s1 fun i37 k38 =>
 ldS i37 (k38 + 2) H fun t39 =>
 wCall Try.prog 71 [(.string t39)] H (fun r40 H41 =>
 opB r40 fun b44 =>
 f27_J4 R [s0, (.pointer s1), s2, s3, s4, s5, s6, s7, s8, s9, s10, s11, s12, s13, s14, s15, s16, s17, s18, s19, s20, s21, s22, s23, s24, s25, s26, s27, s28, s29, s30, s31, s32, s33, s34, s35, s36, s37, s38, (.pointer (some ⟨i19, k20, none⟩)), (.int .i64 n21), (.bool (!decide (n21 = 3))), (.bool true), (.pointer (some ⟨i22, k23, none⟩)), (.int .i64 n24), (.bool (!decide (n24 = 4))), (.bool (!decide (n24 = 4))), (.bool true), (.pointer (some ⟨i25, (k26 + 2), none⟩)), (.string t27), (.int .i64 (t27.size : Int)), (.bool (decide ((t27.size : Int) > 0))), (.bool (decide ((t27.size : Int) > 0))), (.bool false), (.pointer (some ⟨i28, k29, none⟩)), (.int .i64 n30), (.bool (decide (n30 = 3))), (.bool true), (.pointer (some ⟨i31, (k32 + 2), none⟩)), (.string t33), (.int .i64 (t33.size : Int)), (.bool (decide ((t33.size : Int) > 64))), (.bool (decide ((t33.size : Int) > 64))), (.bool (decide ((t33.size : Int) > 64))), (.bool false), (.pointer (some ⟨i34, k35, none⟩)), (.int .i64 n36), (.bool (decide (n36 = 4))), (.bool true), (.pointer (some ⟨i37, (k38 + 2), none⟩)), (.string t39), (.bool b44), (.bool (!b44)), (.bool (!b44)), (.bool (!b44)), s75, s76, s77, s78, s79, s80, s81, s82, s83, s84, s85, s86, s87, s88, s89, s90, s91, s92, s93, s94] H41) (fun v43 H42 => R (.panic v43) H42))
 (f27_J4 R [s0, (.pointer s1), s2, s3, s4, s5, s6, s7, s8, s9, s10, s11, s12, s13, s14, s15, s16, s17, s18, s19, s20, s21, s22, s23, s24, s25, s26, s27, s28, s29, s30, s31, s32, s33, s34, s35, s36, s37, s38, (.pointer (some ⟨i19, k20, none⟩)), (.int .i64 n21), (.bool (!decide (n21 = 3))), (.bool true), (.pointer (some ⟨i22, k23, none⟩)), (.int .i64 n24), (.bool (!decide (n24 = 4))), (.bool (!decide (n24 = 4))), (.bool true), (.pointer (some ⟨i25, (k26 + 2), none⟩)), (.string t27), (.int .i64 (t27.size : Int)), (.bool (decide ((t27.size : Int) > 0))), (.bool (decide ((t27.size : Int) > 0))), (.bool false), (.pointer (some ⟨i28, k29, none⟩)), (.int .i64 n30), (.bool (decide (n30 = 3))), (.bool true), (.pointer (some ⟨i31, (k32 + 2), none⟩)), (.string t33), (.int .i64 (t33.size : Int)), (.bool (decide ((t33.size : Int) > 64))), (.bool (decide ((t33.size : Int) > 64))), (.bool (decide ((t33.size : Int) > 64))), (.bool false), (.pointer (some ⟨i34, k35, none⟩)), (.int .i64 n36), (.bool (decide (n36 = 4))), (.bool false), undef, undef, undef, undef, (.bool false), (.bool false), s75, s76, s77, s78, s79, s80, s81, s82, s83, s84, s85, s86, s87, s88, s89, s90, s91, s92, s93, s94] H)))
 (wPt s1 fun i45 k46 =>
 ldI .i64 i45 k46 H fun n47 =>
 wIf (decide (n47 = 4))
 (wPt s1 fun i48 k49 =>
 ldS i48 (k49 + 2) H fun t50 =>
 wCall Try.prog 71 [(.string t50)] H (fun r51 H52 =>
 opB r51 fun b55 =>
 f27_J4 R [s0, (.pointer s1), s2, s3, s4, s5, s6, s7, s8, s9, s10, s11, s12, s13, s14, s15, s16, s17, s18, s19, s20, s21, s22, s23, s24, s25, s26, s27, s28, s29, s30, s31, s32, s33, s34, s35, s36, s37, s38, (.pointer (some ⟨i19, k20, none⟩)), (.int .i64 n21), (.bool (!decide (n21 = 3))), (.bool true), (.pointer (some ⟨i22, k23, none⟩)), (.int .i64 n24), (.bool (!decide (n24 = 4))), (.bool (!decide (n24 = 4))), (.bool true), (.pointer (some ⟨i25, (k26 + 2), none⟩)), (.string t27), (.int .i64 (t27.size : Int)), (.bool (decide ((t27.size : Int) > 0))), (.bool (decide ((t27.size : Int) > 0))), (.bool false), (.pointer (some ⟨i28, k29, none⟩)), (.int .i64 n30), (.bool (decide (n30 = 3))), (.bool false), undef, undef, undef, undef, (.bool false), (.bool false), (.bool false), (.pointer (some ⟨i45, k46, none⟩)), (.int .i64 n47), (.bool (decide (n47 = 4))), (.bool true), (.pointer (some ⟨i48, (k49 + 2), none⟩)), (.string t50), (.bool b55), (.bool (!b55)), (.bool (!b55)), (.bool (!b55)), s75, s76, s77, s78, s79, s80, s81, s82, s83, s84, s85, s86, s87, s88, s89, s90, s91, s92, s93, s94] H52) (fun v54 H53 => R (.panic v54) H53))
 (f27_J4 R [s0, (.pointer s1), s2, s3, s4, s5, s6, s7, s8, s9, s10, s11, s12, s13, s14, s15, s16, s17, s18, s19, s20, s21, s22, s23, s24, s25, s26, s27, s28, s29, s30, s31, s32, s33, s34, s35, s36, s37, s38, (.pointer (some ⟨i19, k20, none⟩)), (.int .i64 n21), (.bool (!decide (n21 = 3))), (.bool true), (.pointer (some ⟨i22, k23, none⟩)), (.int .i64 n24), (.bool (!decide (n24 = 4))), (.bool (!decide (n24 = 4))), (.bool true), (.pointer (some ⟨i25, (k26 + 2), none⟩)), (.string t27), (.int .i64 (t27.size : Int)), (.bool (decide ((t27.size : Int) > 0))), (.bool (decide ((t27.size : Int) > 0))), (.bool false), (.pointer (some ⟨i28, k29, none⟩)), (.int .i64 n30), (.bool (decide (n30 = 3))), (.bool false), undef, undef, undef, undef, (.bool false), (.bool false), (.bool false), (.pointer (some ⟨i45, k46, none⟩)), (.int .i64 n47), (.bool (decide (n47 = 4))), (.bool false), undef, undef, undef, undef, (.bool false), (.bool false), s75, s76, s77, s78, s79, s80, s81, s82, s83, s84, s85, s86, s87, s88, s89, s90, s91, s92, s93, s94] H))))
 (wPt s1 fun i56 k57 =>
 ldI .i64 i56 k57 H fun n58 =>
 wIf (decide (n58 = 3))
 (wPt s1 fun i59 k60 =>
 ldS i59 (k60 + 2) H fun t61 =>
 wIf (decide ((t61.size : Int) > 64))
 (f27_J4 R [s0, (.pointer s1), s2, s3, s4, s5, s6, s7, s8, s9, s10, s11, s12, s13, s14, s15, s16, s17, s18, s19, s20, s21, s22, s23, s24, s25, s26, s27, s28, s29, s30, s31, s32, s33, s34, s35, s36, s37, s38, (.pointer (some ⟨i19, k20, none⟩)), (.int .i64 n21), (.bool (!decide (n21 = 3))), (.bool true), (.pointer (some ⟨i22, k23, none⟩)), (.int .i64 n24), (.bool (!decide (n24 = 4))), (.bool (!decide (n24 = 4))), (.bool false), undef, undef, undef, undef, (.bool false), (.bool false), (.pointer (some ⟨i56, k57, none⟩)), (.int .i64 n58), (.bool (decide (n58 = 3))), (.bool true), (.pointer (some ⟨i59, (k60 + 2), none⟩)), (.string t61), (.int .i64 (t61.size : Int)), (.bool (decide ((t61.size : Int) > 64))), (.bool (decide ((t61.size : Int) > 64))), (.bool (decide ((t61.size : Int) > 64))), (.bool true), undef, undef, undef, undef, undef, undef, undef, undef, undef, (.bool true), s75, s76, s77, s78, s79, s80, s81, s82, s83, s84, s85, s86, s87, s88, s89, s90, s91, s92, s93, s94] H)
 (wPt s1 fun i62 k63 =>
 ldI .i64 i62 k63 H fun n64 =>
 wIf (decide (n64 = 4))
 (wPt s1 fun i65 k66 =>
 ldS i65 (k66 + 2) H fun t67 =>
 wCall Try.prog 71 [(.string t67)] H (fun r68 H69 =>
 opB r68 fun b72 =>
 f27_J4 R [s0, (.pointer s1), s2, s3, s4, s5, s6, s7, s8, s9, s10, s11, s12, s13, s14, s15, s16, s17, s18, s19, s20, s21, s22, s23, s24, s25, s26, s27, s28, s29, s30, s31, s32, s33, s34, s35, s36, s37, s38, (.pointer (some ⟨i19, k20, none⟩)), (.int .i64 n21), (.bool (!decide (n21 = 3))), (.bool true), (.pointer (some ⟨i22, k23, none⟩)), (.int .i64 n24), (.bool (!decide (n24 = 4))), (.bool (!decide (n24 = 4))), (.bool false), undef, undef, undef, undef, (.bool false), (.bool false), (.pointer (some ⟨i56, k57, none⟩)), (.int .i64 n58), (.bool (decide (n58 = 3))), (.bool true), (.pointer (some ⟨i59, (k60 + 2), none⟩)), (.string t61), (.int .i64 (t61.size : Int)), (.bool (decide ((t61.size : Int) > 64))), (.bool (decide ((t61.size : Int) > 64))), (.bool (decide ((t61.size : Int) > 64))), (.bool false), (.pointer (some ⟨i62, k63, none⟩)), (.int .i64 n64), (.bool (decide (n64 = 4))), (.bool true), (.pointer (some ⟨i65, (k66 + 2), none⟩)), (.string t67), (.bool b72), (.bool (!b72)), (.bool (!b72)), (.bool (!b72)), s75, s76, s77, s78, s79, s80, s81, s82, s83, s84, s85, s86, s87, s88, s89, s90, s91, s92, s93, s94] H69) (fun v71 H70 => R (.panic v71) H70))
 (f27_J4 R [s0, (.pointer s1), s2, s3, s4, s5, s6, s7, s8, s9, s10, s11, s12, s13, s14, s15, s16, s17, s18, s19, s20, s21, s22, s23, s24, s25, s26, s27, s28, s29, s30, s31, s32, s33, s34, s35, s36, s37, s38, (.pointer (some ⟨i19, k20, none⟩)), (.int .i64 n21), (.bool (!decide (n21 = 3))), (.bool true), (.pointer (some ⟨i22, k23, none⟩)), (.int .i64 n24), (.bool (!decide (n24 = 4))), (.bool (!decide (n24 = 4))), (.bool false), undef, undef, undef, undef, (.bool false), (.bool false), (.pointer (some ⟨i56, k57, none⟩)), (.int .i64 n58), (.bool (decide (n58 = 3))), (.bool true), (.pointer (some ⟨i59, (k60 + 2), none⟩)), (.string t61), (.int .i64 (t61.size : Int)), (.bool (decide ((t61.size : Int) > 64))), (.bool (decide ((t61.size : Int) > 64))), (.bool (decide ((t61.size : Int) > 64))), (.bool false), (.pointer (some ⟨i62, k63, none⟩)), (.int .i64 n64), (.bool (decide (n64 = 4))), (.bool false), undef, undef, undef, undef, (.bool false), (.bool false), s75, s76, s77, s78, s79, s80, s81, s82, s83, s84, s85, s86, s87, s88, s89, s90, s91, s92, s93, s94] H)))
 (wPt s1 fun i73 k74 =>
 ldI .i64 i73 k74 H fun n75 =>
 wIf (decide (n75 = 4))
 (wPt s1 fun i76 k77 =>
 ldS i76 (k77 + 2) H fun t78 =>
 wCall Try.prog 71 [(.string t78)] H (fun r79 H80 =>
 opB r79 fun b83 =>
 f27_J4 R [s0, (.pointer s1), s2, s3, s4, s5, s6, s7, s8, s9, s10, s11, s12, s13, s14, s15, s16, s17, s18, s19, s20, s21, s22, s23, s24, s25, s26, s27, s28, s29, s30, s31, s32, s33, s34, s35, s36, s37, s38, (.pointer (some ⟨i19, k20, none⟩)), (.int .i64 n21), (.bool (!decide (n21 = 3))), (.bool true), (.pointer (some ⟨i22, k23, none⟩)), (.int .i64 n24), (.bool (!decide (n24 = 4))), (.bool (!decide (n24 = 4))), (.bool false), undef, undef, undef, undef, (.bool false), (.bool false), (.pointer (some ⟨i56, k57, none⟩)), (.int .i64 n58), (.bool (decide (n58 = 3))), (.bool false), undef, undef, undef, undef, (.bool false), (.bool false), (.bool false), (.pointer (some ⟨i73, k74, none⟩)), (.int .i64 n75), (.bool (decide (n75 = 4))), (.bool true), (.pointer (some ⟨i76, (k77 + 2), none⟩)), (.string t78), (.bool b83), (.bool (!b83)), (.bool (!b83)), (.bool (!b83)), s75, s76, s77, s78, s79, s80, s81, s82, s83, s84, s85, s86, s87, s88, s89, s90, s91, s92, s93, s94] H80) (fun v82 H81 => R (.panic v82) H81))
 (f27_J4 R [s0, (.pointer s1), s2, s3, s4, s5, s6, s7, s8, s9, s10, s11, s12, s13, s14, s15, s16, s17, s18, s19, s20, s21, s22, s23, s24, s25, s26, s27, s28, s29, s30, s31, s32, s33, s34, s35, s36, s37, s38, (.pointer (some ⟨i19, k20, none⟩)), (.int .i64 n21), (.bool (!decide (n21 = 3))), (.bool true), (.pointer (some ⟨i22, k23, none⟩)), (.int .i64 n24), (.bool (!decide (n24 = 4))), (.bool (!decide (n24 = 4))), (.bool false), undef, undef, undef, undef, (.bool false), (.bool false), (.pointer (some ⟨i56, k57, none⟩)), (.int .i64 n58), (.bool (decide (n58 = 3))), (.bool false), undef, undef, undef, undef, (.bool false), (.bool false), (.bool false), (.pointer (some ⟨i73, k74, none⟩)), (.int .i64 n75), (.bool (decide (n75 = 4))), (.bool false), undef, undef, undef, undef, (.bool false), (.bool false), s75, s76, s77, s78, s79, s80, s81, s82, s83, s84, s85, s86, s87, s88, s89, s90, s91, s92, s93, s94] H))))
 (wPt s1 fun i84 k85 =>
 ldI .i64 i84 k85 H fun n86 =>
 wIf (decide (n86 = 3))
 (wPt s1 fun i87 k88 =>
 ldS i87 (k88 + 2) H fun t89 =>
 wIf (decide ((t89.size : Int) > 64))
 (f27_J4 R [s0, (.pointer s1), s2, s3, s4, s5, s6, s7, s8, s9, s10, s11, s12, s13, s14, s15, s16, s17, s18, s19, s20, s21, s22, s23, s24, s25, s26, s27, s28, s29, s30, s31, s32, s33, s34, s35, s36, s37, s38, (.pointer (some ⟨i19, k20, none⟩)), (.int .i64 n21), (.bool (!decide (n21 = 3))), (.bool false), undef, undef, undef, (.bool false), (.bool false), undef, undef, undef, undef, (.bool false), (.bool false), (.pointer (some ⟨i84, k85, none⟩)), (.int .i64 n86), (.bool (decide (n86 = 3))), (.bool true), (.pointer (some ⟨i87, (k88 + 2), none⟩)), (.string t89), (.int .i64 (t89.size : Int)), (.bool (decide ((t89.size : Int) > 64))), (.bool (decide ((t89.size : Int) > 64))), (.bool (decide ((t89.size : Int) > 64))), (.bool true), undef, undef, undef, undef, undef, undef, undef, undef, undef, (.bool true), s75, s76, s77, s78, s79, s80, s81, s82, s83, s84, s85, s86, s87, s88, s89, s90, s91, s92, s93, s94] H)
 (wPt s1 fun i90 k91 =>
 ldI .i64 i90 k91 H fun n92 =>
 wIf (decide (n92 = 4))
 (wPt s1 fun i93 k94 =>
 ldS i93 (k94 + 2) H fun t95 =>
 wCall Try.prog 71 [(.string t95)] H (fun r96 H97 =>
 opB r96 fun b100 =>
 f27_J4 R [s0, (.pointer s1), s2, s3, s4, s5, s6, s7, s8, s9, s10, s11, s12, s13, s14, s15, s16, s17, s18, s19, s20, s21, s22, s23, s24, s25, s26, s27, s28, s29, s30, s31, s32, s33, s34, s35, s36, s37, s38, (.pointer (some ⟨i19, k20, none⟩)), (.int .i64 n21), (.bool (!decide (n21 = 3))), (.bool false), undef, undef, undef, (.bool false), (.bool false), undef, undef, undef, undef, (.bool false), (.bool false), (.pointer (some ⟨i84, k85, none⟩)), (.int .i64 n86), (.bool (decide (n86 = 3))), (.bool true), (.pointer (some ⟨i87, (k88 + 2), none⟩)), (.string t89), (.int .i64 (t89.size : Int)), (.bool (decide ((t89.size : Int) > 64))), (.bool (decide ((t89.size : Int) > 64))), (.bool (decide ((t89.size : Int) > 64))), (.bool false), (.pointer (some ⟨i90, k91, none⟩)), (.int .i64 n92), (.bool (decide (n92 = 4))), (.bool true), (.pointer (some ⟨i93, (k94 + 2), none⟩)), (.string t95), (.bool b100), (.bool (!b100)), (.bool (!b100)), (.bool (!b100)), s75, s76, s77, s78, s79, s80, s81, s82, s83, s84, s85, s86, s87, s88, s89, s90, s91, s92, s93, s94] H97) (fun v99 H98 => R (.panic v99) H98))
 (f27_J4 R [s0, (.pointer s1), s2, s3, s4, s5, s6, s7, s8, s9, s10, s11, s12, s13, s14, s15, s16, s17, s18, s19, s20, s21, s22, s23, s24, s25, s26, s27, s28, s29, s30, s31, s32, s33, s34, s35, s36, s37, s38, (.pointer (some ⟨i19, k20, none⟩)), (.int .i64 n21), (.bool (!decide (n21 = 3))), (.bool false), undef, undef, undef, (.bool false), (.bool false), undef, undef, undef, undef, (.bool false), (.bool false), (.pointer (some ⟨i84, k85, none⟩)), (.int .i64 n86), (.bool (decide (n86 = 3))), (.bool true), (.pointer (some ⟨i87, (k88 + 2), none⟩)), (.string t89), (.int .i64 (t89.size : Int)), (.bool (decide ((t89.size : Int) > 64))), (.bool (decide ((t89.size : Int) > 64))), (.bool (decide ((t89.size : Int) > 64))), (.bool false), (.pointer (some ⟨i90, k91, none⟩)), (.int .i64 n92), (.bool (decide (n92 = 4))), (.bool false), undef, undef, undef, undef, (.bool false), (.bool false), s75, s76, s77, s78, s79, s80, s81, s82, s83, s84, s85, s86, s87, s88, s89, s90, s91, s92, s93, s94] H)))
 (wPt s1 fun i101 k102 =>
 ldI .i64 i101 k102 H fun n103 =>
 wIf (decide (n103 = 4))
 (wPt s1 fun i104 k105 =>
 ldS i104 (k105 + 2) H fun t106 =>
 wCall Try.prog 71 [(.string t106)] H (fun r107 H108 =>
 opB r107 fun b111 =>
 f27_J4 R [s0, (.pointer s1), s2, s3, s4, s5, s6, s7, s8, s9, s10, s11, s12, s13, s14, s15, s16, s17, s18, s19, s20, s21, s22, s23, s24, s25, s26, s27, s28, s29, s30, s31, s32, s33, s34, s35, s36, s37, s38, (.pointer (some ⟨i19, k20, none⟩)), (.int .i64 n21), (.bool (!decide (n21 = 3))), (.bool false), undef, undef, undef, (.bool false), (.bool false), undef, undef, undef, undef, (.bool false), (.bool false), (.pointer (some ⟨i84, k85, none⟩)), (.int .i64 n86), (.bool (decide (n86 = 3))), (.bool false), undef, undef, undef, undef, (.bool false), (.bool false), (.bool false), (.pointer (some ⟨i101, k102, none⟩)), (.int .i64 n103), (.bool (decide (n103 = 4))), (.bool true), (.pointer (some ⟨i104, (k105 + 2), none⟩)), (.string t106), (.bool b111), (.bool (!b111)), (.bool (!b111)), (.bool (!b111)), s75, s76, s77, s78, s79, s80, s81, s82, s83, s84, s85, s86, s87, s88, s89, s90, s91, s92, s93, s94] H108) (fun v110 H109 => R (.panic v110) H109))
 (f27_J4 R [s0, (.pointer s1), s2, s3, s4, s5, s6, s7, s8, s9, s10, s11, s12, s13, s14, s15, s16, s17, s18, s19, s20, s21, s22, s23, s24, s25, s26, s27, s28, s29, s30, s31, s32, s33, s34, s35, s36, s37, s38, (.pointer (some ⟨i19, k20, none⟩)), (.int .i64 n21), (.bool (!decide (n21 = 3))), (.bool false), undef, undef, undef, (.bool false), (.bool false), undef, undef, undef, undef, (.bool false), (.bool false), (.pointer (some ⟨i84, k85, none⟩)), (.int .i64 n86), (.bool (decide (n86 = 3))), (.bool false), undef, undef, undef, undef, (.bool false), (.bool false), (.bool false), (.pointer (some ⟨i101, k102, none⟩)), (.int .i64 n103), (.bool (decide (n103 = 4))), (.bool false), undef, undef, undef, undef, (.bool false), (.bool false), s75, s76, s77, s78, s79, s80, s81, s82, s83, s84, s85, s86, s87, s88, s89, s90, s91, s92, s93, s94] H)))
theorem f27_J3_eq (s0 : Value) (s1 : Option Addr) (s2 : Value) (s3 : Value) (s4 : Value) (s5 : Value) (s6 : Value) (s7 : Value) (s8 : Value) (s9 : Value) (s10 : Value) (s11 : Value) (s12 : Value) (s13 : Value) (s14 : Value) (s15 : Value) (s16 : Value) (s17 : Value) (s18 : Value) (s19 : Value) (s20 : Value) (s21 : Value) (s22 : Value) (s23 : Value) (s24 : Value) (s25 : Value) (s26 : Value) (s27 : Value) (s28 : Value) (s29 : Value) (s30 : Value) (s31 : Value) (s32 : Value) (s33 : Value) (s34 : Value) (s35 : Value) (s36 : Value) (s37 : Value) (s38 : Value) (s39 : Value) (s40 : Value) (s41 : Value) (s42 : Value) (s43 : Value) (s44 : Value) (s45 : Value) (s46 : Value) (s47 : Value) (s48 : Value) (s49 : Value) (s50 : Value) (s51 : Value) (s52 : Value) (s53 : Value) (s54 : Value) (s55 : Value) (s56 : Value) (s57 : Value) (s58 : Value) (s59 : Value) (s60 : Value) (s61 : Value) (s62 : Value) (s63 : Value) (s64 : Value) (s65 : Value) (s66 : Value) (s67 : Value) (s68 : Value) (s69 : Value) (s70 : Value) (s71 : Value) (s72 : Value) (s73 : Value) (s74 : Value) (s75 : Value) (s76 : Value) (s77 : Value) (s78 : Value) (s79 : Value) (s80 : Value) (s81 : Value) (s82 : Value) (s83 : Value) (s84 : Value) (s85 : Value) (s86 : Value) (s87 : Value) (s88 : Value) (s89 : Value) (s90 : Value) (s91 : Value) (s92 : Value) (s93 : Value) (s94 : Value) (H : AH) (R : AEnd → AH → Prop) : f27_J3 R [s0, (.pointer s1), s2, s3, s4, s5, s6, s7, s8, s9, s10, s11, s12, s13, s14, s15, s16, s17, s18, s19, s20, s21, s22, s23, s24, s25, s26, s27, s28, s29, s30, s31, s32, s33, s34, s35, s36, s37, s38, s39, s40, s41, s42, s43, s44, s45, s46, s47, s48, s49, s50, s51, s52, s53, s54, s55, s56, s57, s58, s59, s60, s61, s62, s63, s64, s65, s66, s67, s68, s69, s70, s71, s72, s73, s74, s75, s76, s77, s78, s79, s80, s81, s82, s83, s84, s85, s86, s87, s88, s89, s90, s91, s92, s93, s94] H = f27_J3_B s0 s1 s2 s3 s4 s5 s6 s7 s8 s9 s10 s11 s12 s13 s14 s15 s16 s17 s18 s19 s20 s21 s22 s23 s24 s25 s26 s27 s28 s29 s30 s31 s32 s33 s34 s35 s36 s37 s38 s75 s76 s77 s78 s79 s80 s81 s82 s83 s84 s85 s86 s87 s88 s89 s90 s91 s92 s93 s94 H R := by kernel_rfl
-- join 2: live 1:o, 38:?
def f27_J2_B (s0 : Value) (s1 : Option Addr) (s2 : Value) (s3 : Value) (s4 : Value) (s5 : Value) (s6 : Value) (s7 : Value) (s8 : Value) (s9 : Value) (s10 : Value) (s11 : Value) (s12 : Value) (s13 : Value) (s14 : Value) (s15 : Value) (s16 : Value) (s17 : Value) (s18 : Value) (s19 : Value) (s20 : Value) (s21 : Value) (s22 : Value) (s23 : Value) (s24 : Value) (s25 : Value) (s26 : Value) (s27 : Value) (s28 : Value) (s29 : Value) (s30 : Value) (s31 : Value) (s32 : Value) (s33 : Value) (s34 : Value) (s35 : Value) (s36 : Value) (s37 : Value) (s38 : Bool) (s39 : Value) (s40 : Value) (s41 : Value) (s42 : Value) (s43 : Value) (s44 : Value) (s45 : Value) (s46 : Value) (s47 : Value) (s48 : Value) (s49 : Value) (s50 : Value) (s51 : Value) (s52 : Value) (s53 : Value) (s54 : Value) (s55 : Value) (s56 : Value) (s57 : Value) (s58 : Value) (s59 : Value) (s60 : Value) (s61 : Value) (s62 : Value) (s63 : Value) (s64 : Value) (s65 : Value) (s66 : Value) (s67 : Value) (s68 : Value) (s69 : Value) (s70 : Value) (s71 : Value) (s72 : Value) (s73 : Value) (s74 : Value) (s75 : Value) (s76 : Value) (s77 : Value) (s78 : Value) (s79 : Value) (s80 : Value) (s81 : Value) (s82 : Value) (s83 : Value) (s84 : Value) (s85 : Value) (s86 : Value) (s87 : Value) (s88 : Value) (s89 : Value) (s90 : Value) (s91 : Value) (s92 : Value) (s93 : Value) (s94 : Value) (H : AH) (R : AEnd → AH → Prop) : Prop :=
 wIf s38
 (R (.ret (.bool false)) H)
 (f27_J3 R [s0, (.pointer s1), s2, s3, s4, s5, s6, s7, s8, s9, s10, s11, s12, s13, s14, s15, s16, s17, s18, s19, s20, s21, s22, s23, s24, s25, s26, s27, s28, s29, s30, s31, s32, s33, s34, s35, s36, s37, (.bool false), s39, s40, s41, s42, s43, s44, s45, s46, s47, s48, s49, s50, s51, s52, s53, s54, s55, s56, s57, s58, s59, s60, s61, s62, s63, s64, s65, s66, s67, s68, s69, s70, s71, s72, s73, s74, s75, s76, s77, s78, s79, s80, s81, s82, s83, s84, s85, s86, s87, s88, s89, s90, s91, s92, s93, s94] H)
theorem f27_J2_eq (s0 : Value) (s1 : Option Addr) (s2 : Value) (s3 : Value) (s4 : Value) (s5 : Value) (s6 : Value) (s7 : Value) (s8 : Value) (s9 : Value) (s10 : Value) (s11 : Value) (s12 : Value) (s13 : Value) (s14 : Value) (s15 : Value) (s16 : Value) (s17 : Value) (s18 : Value) (s19 : Value) (s20 : Value) (s21 : Value) (s22 : Value) (s23 : Value) (s24 : Value) (s25 : Value) (s26 : Value) (s27 : Value) (s28 : Value) (s29 : Value) (s30 : Value) (s31 : Value) (s32 : Value) (s33 : Value) (s34 : Value) (s35 : Value) (s36 : Value) (s37 : Value) (s38 : Bool) (s39 : Value) (s40 : Value) (s41 : Value) (s42 : Value) (s43 : Value) (s44 : Value) (s45 : Value) (s46 : Value) (s47 : Value) (s48 : Value) (s49 : Value) (s50 : Value) (s51 : Value) (s52 : Value) (s53 : Value) (s54 : Value) (s55 : Value) (s56 : Value) (s57 : Value) (s58 : Value) (s59 : Value) (s60 : Value) (s61 : Value) (s62 : Value) (s63 : Value) (s64 : Value) (s65 : Value) (s66 : Value) (s67 : Value) (s68 : Value) (s69 : Value) (s70 : Value) (s71 : Value) (s72 : Value) (s73 : Value) (s74 : Value) (s75 : Value) (s76 : Value) (s77 : Value) (s78 : Value) (s79 : Value) (s80 : Value) (s81 : Value) (s82 : Value) (s83 : Value) (s84 : Value) (s85 : Value) (s86 : Value) (s87 : Value) (s88 : Value) (s89 : Value) (s90 : Value) (s91 : Value) (s92 : Value) (s93 : Value) (s94 : Value) (H : AH) (R : AEnd → AH → Prop) : f27_J2 R [s0, (.pointer s1), s2, s3, s4, s5, s6, s7, s8, s9, s10, s11, s12, s13, s14, s15, s16, s17, s18, s19, s20, s21, s22, s23, s24, s25, s26, s27, s28, s29, s30, s31, s32, s33, s34, s35, s36, s37, (.bool s38), s39, s40, s41, s42, s43, s44, s45, s46, s47, s48, s49, s50, s51, s52, s53, s54, s55, s56, s57, s58, s59, s60, s61, s62, s63, s64, s65, s66, s67, s68, s69, s70, s71, s72, s73, s74, s75, s76, s77, s78, s79, s80, s81, s82, s83, s84, s85, s86, s87, s88, s89, s90, s91, s92, s93, s94] H = f27_J2_B s0 s1 s2 s3 s4 s5 s6 s7 s8 s9 s10 s11 s12 s13 s14 s15 s16 s17 s18 s19 s20 s21 s22 s23 s24 s25 s26 s27 s28 s29 s30 s31 s32 s33 s34 s35 s36 s37 s38 s39 s40 s41 s42 s43 s44 s45 s46 s47 s48 s49 s50 s51 s52 s53 s54 s55 s56 s57 s58 s59 s60 s61 s62 s63 s64 s65 s66 s67 s68 s69 s70 s71 s72 s73 s74 s75 s76 s77 s78 s79 s80 s81 s82 s83 s84 s85 s86 s87 s88 s89 s90 s91 s92 s93 s94 H R := by kernel_rfl
-- join 1: live 1:o
def f27_J1_B (s0 : Value) (s1 : Option Addr) (s2 : Value) (s3 : Value) (s4 : Value) (s5 : Value) (s6 : Value) (s7 : Value) (s8 : Value) (s9 : Value) (s10 : Value) (s39 : Value) (s40 : Value) (s41 : Value) (s42 : Value) (s43 : Value) (s44 : Value) (s45 : Value) (s46 : Value) (s47 : Value) (s48 : Value) (s49 : Value) (s50 : Value) (s51 : Value) (s52 : Value) (s53 : Value) (s54 : Value) (s55 : Value) (s56 : Value) (s57 : Value) (s58 : Value) (s59 : Value) (s60 : Value) (s61 : Value) (s62 : Value) (s63 : Value) (s64 : Value) (s65 : Value) (s66 : Value) (s67 : Value) (s68 : Value) (s69 : Value) (s70 : Value) (s71 : Value) (s72 : Value) (s73 : Value) (s74 : Value) (s75 : Value) (s76 : Value) (s77 : Value) (s78 : Value) (s79 : Value) (s80 : Value) (s81 : Value) (s82 : Value) (s83 : Value) (s84 : Value) (s85 : Value) (s86 : Value) (s87 : Value) (s88 : Value) (s89 : Value) (s90 : Value) (s91 : Value) (s92 : Value) (s93 : Value) (s94 : Value) (H : AH) (R : AEnd → AH → Prop) : Prop :=
 wPt s1 fun i112 k113 =>
 ldI .i64 i112 k113 H fun n114 =>
 wIf (!decide (n114 = 1))
 (wPt s1 fun i115 k116 =>
 ldI .i64 i115 k116 H fun n117 =>
 wIf (!decide (n117 = 2))
 (wPt s1 fun i118 k119 =>
 ldI .i64 i118 (k119 + 1) H fun n120 =>
 wIf (!decide (n120 = 0))
 (f27_J2 R [s0, (.pointer s1), s2, s3, s4, s5, s6, s7, s8, s9, s10, (.pointer (some ⟨i112, k113, none⟩)), (.int .i64 n114), (.bool (!decide (n114 = 1))), (.bool true), (.pointer (some ⟨i115, k116, none⟩)), (.int .i64 n117), (.bool (!decide (n117 = 2))), (.bool (!decide (n117 = 2))), (.bool true), (.pointer (some ⟨i118, (k119 + 1), none⟩)), (.int .i64 n120), (.bool (!decide (n120 = 0))), (.bool (!decide (n120 = 0))), (.bool true), undef, undef, undef, undef, undef, undef, undef, undef, undef, undef, undef, undef, undef, (.bool true), s39, s40, s41, s42, s43, s44, s45, s46, s47, s48, s49, s50, s51, s52, s53, s54, s55, s56, s57, s58, s59, s60, s61, s62, s63, s64, s65, s66, s67, s68, s69, s70, s71, s72, s73, s74, s75, s76, s77, s78, s79, s80, s81, s82, s83, s84, s85, s86, s87, s88, s89, s90, s91, s92, s93, s94] H)
 (wPt s1 fun i121 k122 =>
 ldI .i64 i121 k122 H fun n123 =>
 wIf (decide (n123 = 2))
 (wPt s1 fun i124 k125 =>
 ldI .i64 i124 (k125 + 1) H fun n126 =>
 wIf (!decide (n126 = 0))
 (wPt s1 fun i127 k128 =>
 ldI .i64 i127 (k128 + 1) H fun n129 =>
 f27_J2 R [s0, (.pointer s1), s2, s3, s4, s5, s6, s7, s8, s9, s10, (.pointer (some ⟨i112, k113, none⟩)), (.int .i64 n114), (.bool (!decide (n114 = 1))), (.bool true), (.pointer (some ⟨i115, k116, none⟩)), (.int .i64 n117), (.bool (!decide (n117 = 2))), (.bool (!decide (n117 = 2))), (.bool true), (.pointer (some ⟨i118, (k119 + 1), none⟩)), (.int .i64 n120), (.bool (!decide (n120 = 0))), (.bool (!decide (n120 = 0))), (.bool false), (.pointer (some ⟨i121, k122, none⟩)), (.int .i64 n123), (.bool (decide (n123 = 2))), (.bool true), (.pointer (some ⟨i124, (k125 + 1), none⟩)), (.int .i64 n126), (.bool (!decide (n126 = 0))), (.bool (!decide (n126 = 0))), (.bool true), (.pointer (some ⟨i127, (k128 + 1), none⟩)), (.int .i64 n129), (.bool (!decide (n129 = 1))), (.bool (!decide (n129 = 1))), (.bool (!decide (n129 = 1))), s39, s40, s41, s42, s43, s44, s45, s46, s47, s48, s49, s50, s51, s52, s53, s54, s55, s56, s57, s58, s59, s60, s61, s62, s63, s64, s65, s66, s67, s68, s69, s70, s71, s72, s73, s74, s75, s76, s77, s78, s79, s80, s81, s82, s83, s84, s85, s86, s87, s88, s89, s90, s91, s92, s93, s94] H)
 (f27_J2 R [s0, (.pointer s1), s2, s3, s4, s5, s6, s7, s8, s9, s10, (.pointer (some ⟨i112, k113, none⟩)), (.int .i64 n114), (.bool (!decide (n114 = 1))), (.bool true), (.pointer (some ⟨i115, k116, none⟩)), (.int .i64 n117), (.bool (!decide (n117 = 2))), (.bool (!decide (n117 = 2))), (.bool true), (.pointer (some ⟨i118, (k119 + 1), none⟩)), (.int .i64 n120), (.bool (!decide (n120 = 0))), (.bool (!decide (n120 = 0))), (.bool false), (.pointer (some ⟨i121, k122, none⟩)), (.int .i64 n123), (.bool (decide (n123 = 2))), (.bool true), (.pointer (some ⟨i124, (k125 + 1), none⟩)), (.int .i64 n126), (.bool (!decide (n126 = 0))), (.bool (!decide (n126 = 0))), (.bool false), undef, undef, undef, (.bool false), (.bool false), s39, s40, s41, s42, s43, s44, s45, s46, s47, s48, s49, s50, s51, s52, s53, s54, s55, s56, s57, s58, s59, s60, s61, s62, s63, s64, s65, s66, s67, s68, s69, s70, s71, s72, s73, s74, s75, s76, s77, s78, s79, s80, s81, s82, s83, s84, s85, s86, s87, s88, s89, s90, s91, s92, s93, s94] H))
 (f27_J2 R [s0, (.pointer s1), s2, s3, s4, s5, s6, s7, s8, s9, s10, (.pointer (some ⟨i112, k113, none⟩)), (.int .i64 n114), (.bool (!decide (n114 = 1))), (.bool true), (.pointer (some ⟨i115, k116, none⟩)), (.int .i64 n117), (.bool (!decide (n117 = 2))), (.bool (!decide (n117 = 2))), (.bool true), (.pointer (some ⟨i118, (k119 + 1), none⟩)), (.int .i64 n120), (.bool (!decide (n120 = 0))), (.bool (!decide (n120 = 0))), (.bool false), (.pointer (some ⟨i121, k122, none⟩)), (.int .i64 n123), (.bool (decide (n123 = 2))), (.bool false), undef, undef, undef, (.bool false), (.bool false), undef, undef, undef, (.bool false), (.bool false), s39, s40, s41, s42, s43, s44, s45, s46, s47, s48, s49, s50, s51, s52, s53, s54, s55, s56, s57, s58, s59, s60, s61, s62, s63, s64, s65, s66, s67, s68, s69, s70, s71, s72, s73, s74, s75, s76, s77, s78, s79, s80, s81, s82, s83, s84, s85, s86, s87, s88, s89, s90, s91, s92, s93, s94] H)))
 (wPt s1 fun i130 k131 =>
 ldI .i64 i130 k131 H fun n132 =>
 wIf (decide (n132 = 2))
 (wPt s1 fun i133 k134 =>
 ldI .i64 i133 (k134 + 1) H fun n135 =>
 wIf (!decide (n135 = 0))
 (wPt s1 fun i136 k137 =>
 ldI .i64 i136 (k137 + 1) H fun n138 =>
 f27_J2 R [s0, (.pointer s1), s2, s3, s4, s5, s6, s7, s8, s9, s10, (.pointer (some ⟨i112, k113, none⟩)), (.int .i64 n114), (.bool (!decide (n114 = 1))), (.bool true), (.pointer (some ⟨i115, k116, none⟩)), (.int .i64 n117), (.bool (!decide (n117 = 2))), (.bool (!decide (n117 = 2))), (.bool false), undef, undef, undef, (.bool false), (.bool false), (.pointer (some ⟨i130, k131, none⟩)), (.int .i64 n132), (.bool (decide (n132 = 2))), (.bool true), (.pointer (some ⟨i133, (k134 + 1), none⟩)), (.int .i64 n135), (.bool (!decide (n135 = 0))), (.bool (!decide (n135 = 0))), (.bool true), (.pointer (some ⟨i136, (k137 + 1), none⟩)), (.int .i64 n138), (.bool (!decide (n138 = 1))), (.bool (!decide (n138 = 1))), (.bool (!decide (n138 = 1))), s39, s40, s41, s42, s43, s44, s45, s46, s47, s48, s49, s50, s51, s52, s53, s54, s55, s56, s57, s58, s59, s60, s61, s62, s63, s64, s65, s66, s67, s68, s69, s70, s71, s72, s73, s74, s75, s76, s77, s78, s79, s80, s81, s82, s83, s84, s85, s86, s87, s88, s89, s90, s91, s92, s93, s94] H)
 (f27_J2 R [s0, (.pointer s1), s2, s3, s4, s5, s6, s7, s8, s9, s10, (.pointer (some ⟨i112, k113, none⟩)), (.int .i64 n114), (.bool (!decide (n114 = 1))), (.bool true), (.pointer (some ⟨i115, k116, none⟩)), (.int .i64 n117), (.bool (!decide (n117 = 2))), (.bool (!decide (n117 = 2))), (.bool false), undef, undef, undef, (.bool false), (.bool false), (.pointer (some ⟨i130, k131, none⟩)), (.int .i64 n132), (.bool (decide (n132 = 2))), (.bool true), (.pointer (some ⟨i133, (k134 + 1), none⟩)), (.int .i64 n135), (.bool (!decide (n135 = 0))), (.bool (!decide (n135 = 0))), (.bool false), undef, undef, undef, (.bool false), (.bool false), s39, s40, s41, s42, s43, s44, s45, s46, s47, s48, s49, s50, s51, s52, s53, s54, s55, s56, s57, s58, s59, s60, s61, s62, s63, s64, s65, s66, s67, s68, s69, s70, s71, s72, s73, s74, s75, s76, s77, s78, s79, s80, s81, s82, s83, s84, s85, s86, s87, s88, s89, s90, s91, s92, s93, s94] H))
 (f27_J2 R [s0, (.pointer s1), s2, s3, s4, s5, s6, s7, s8, s9, s10, (.pointer (some ⟨i112, k113, none⟩)), (.int .i64 n114), (.bool (!decide (n114 = 1))), (.bool true), (.pointer (some ⟨i115, k116, none⟩)), (.int .i64 n117), (.bool (!decide (n117 = 2))), (.bool (!decide (n117 = 2))), (.bool false), undef, undef, undef, (.bool false), (.bool false), (.pointer (some ⟨i130, k131, none⟩)), (.int .i64 n132), (.bool (decide (n132 = 2))), (.bool false), undef, undef, undef, (.bool false), (.bool false), undef, undef, undef, (.bool false), (.bool false), s39, s40, s41, s42, s43, s44, s45, s46, s47, s48, s49, s50, s51, s52, s53, s54, s55, s56, s57, s58, s59, s60, s61, s62, s63, s64, s65, s66, s67, s68, s69, s70, s71, s72, s73, s74, s75, s76, s77, s78, s79, s80, s81, s82, s83, s84, s85, s86, s87, s88, s89, s90, s91, s92, s93, s94] H)))
 (wPt s1 fun i139 k140 =>
 ldI .i64 i139 k140 H fun n141 =>
 wIf (decide (n141 = 2))
 (wPt s1 fun i142 k143 =>
 ldI .i64 i142 (k143 + 1) H fun n144 =>
 wIf (!decide (n144 = 0))
 (wPt s1 fun i145 k146 =>
 ldI .i64 i145 (k146 + 1) H fun n147 =>
 f27_J2 R [s0, (.pointer s1), s2, s3, s4, s5, s6, s7, s8, s9, s10, (.pointer (some ⟨i112, k113, none⟩)), (.int .i64 n114), (.bool (!decide (n114 = 1))), (.bool false), undef, undef, undef, (.bool false), (.bool false), undef, undef, undef, (.bool false), (.bool false), (.pointer (some ⟨i139, k140, none⟩)), (.int .i64 n141), (.bool (decide (n141 = 2))), (.bool true), (.pointer (some ⟨i142, (k143 + 1), none⟩)), (.int .i64 n144), (.bool (!decide (n144 = 0))), (.bool (!decide (n144 = 0))), (.bool true), (.pointer (some ⟨i145, (k146 + 1), none⟩)), (.int .i64 n147), (.bool (!decide (n147 = 1))), (.bool (!decide (n147 = 1))), (.bool (!decide (n147 = 1))), s39, s40, s41, s42, s43, s44, s45, s46, s47, s48, s49, s50, s51, s52, s53, s54, s55, s56, s57, s58, s59, s60, s61, s62, s63, s64, s65, s66, s67, s68, s69, s70, s71, s72, s73, s74, s75, s76, s77, s78, s79, s80, s81, s82, s83, s84, s85, s86, s87, s88, s89, s90, s91, s92, s93, s94] H)
 (f27_J2 R [s0, (.pointer s1), s2, s3, s4, s5, s6, s7, s8, s9, s10, (.pointer (some ⟨i112, k113, none⟩)), (.int .i64 n114), (.bool (!decide (n114 = 1))), (.bool false), undef, undef, undef, (.bool false), (.bool false), undef, undef, undef, (.bool false), (.bool false), (.pointer (some ⟨i139, k140, none⟩)), (.int .i64 n141), (.bool (decide (n141 = 2))), (.bool true), (.pointer (some ⟨i142, (k143 + 1), none⟩)), (.int .i64 n144), (.bool (!decide (n144 = 0))), (.bool (!decide (n144 = 0))), (.bool false), undef, undef, undef, (.bool false), (.bool false), s39, s40, s41, s42, s43, s44, s45, s46, s47, s48, s49, s50, s51, s52, s53, s54, s55, s56, s57, s58, s59, s60, s61, s62, s63, s64, s65, s66, s67, s68, s69, s70, s71, s72, s73, s74, s75, s76, s77, s78, s79, s80, s81, s82, s83, s84, s85, s86, s87, s88, s89, s90, s91, s92, s93, s94] H))
 (f27_J2 R [s0, (.pointer s1), s2, s3, s4, s5, s6, s7, s8, s9, s10, (.pointer (some ⟨i112, k113, none⟩)), (.int .i64 n114), (.bool (!decide (n114 = 1))), (.bool false), undef, undef, undef, (.bool false), (.bool false), undef, undef, undef, (.bool false), (.bool false), (.pointer (some ⟨i139, k140, none⟩)), (.int .i64 n141), (.bool (decide (n141 = 2))), (.bool false), undef, undef, undef, (.bool false), (.bool false), undef, undef, undef, (.bool false), (.bool false), s39, s40, s41, s42, s43, s44, s45, s46, s47, s48, s49, s50, s51, s52, s53, s54, s55, s56, s57, s58, s59, s60, s61, s62, s63, s64, s65, s66, s67, s68, s69, s70, s71, s72, s73, s74, s75, s76, s77, s78, s79, s80, s81, s82, s83, s84, s85, s86, s87, s88, s89, s90, s91, s92, s93, s94] H))
theorem f27_J1_eq (s0 : Value) (s1 : Option Addr) (s2 : Value) (s3 : Value) (s4 : Value) (s5 : Value) (s6 : Value) (s7 : Value) (s8 : Value) (s9 : Value) (s10 : Value) (s11 : Value) (s12 : Value) (s13 : Value) (s14 : Value) (s15 : Value) (s16 : Value) (s17 : Value) (s18 : Value) (s19 : Value) (s20 : Value) (s21 : Value) (s22 : Value) (s23 : Value) (s24 : Value) (s25 : Value) (s26 : Value) (s27 : Value) (s28 : Value) (s29 : Value) (s30 : Value) (s31 : Value) (s32 : Value) (s33 : Value) (s34 : Value) (s35 : Value) (s36 : Value) (s37 : Value) (s38 : Value) (s39 : Value) (s40 : Value) (s41 : Value) (s42 : Value) (s43 : Value) (s44 : Value) (s45 : Value) (s46 : Value) (s47 : Value) (s48 : Value) (s49 : Value) (s50 : Value) (s51 : Value) (s52 : Value) (s53 : Value) (s54 : Value) (s55 : Value) (s56 : Value) (s57 : Value) (s58 : Value) (s59 : Value) (s60 : Value) (s61 : Value) (s62 : Value) (s63 : Value) (s64 : Value) (s65 : Value) (s66 : Value) (s67 : Value) (s68 : Value) (s69 : Value) (s70 : Value) (s71 : Value) (s72 : Value) (s73 : Value) (s74 : Value) (s75 : Value) (s76 : Value) (s77 : Value) (s78 : Value) (s79 : Value) (s80 : Value) (s81 : Value) (s82 : Value) (s83 : Value) (s84 : Value) (s85 : Value) (s86 : Value) (s87 : Value) (s88 : Value) (s89 : Value) (s90 : Value) (s91 : Value) (s92 : Value) (s93 : Value) (s94 : Value) (H : AH) (R : AEnd → AH → Prop) : f27_J1 R [s0, (.pointer s1), s2, s3, s4, s5, s6, s7, s8, s9, s10, s11, s12, s13, s14, s15, s16, s17, s18, s19, s20, s21, s22, s23, s24, s25, s26, s27, s28, s29, s30, s31, s32, s33, s34, s35, s36, s37, s38, s39, s40, s41, s42, s43, s44, s45, s46, s47, s48, s49, s50, s51, s52, s53, s54, s55, s56, s57, s58, s59, s60, s61, s62, s63, s64, s65, s66, s67, s68, s69, s70, s71, s72, s73, s74, s75, s76, s77, s78, s79, s80, s81, s82, s83, s84, s85, s86, s87, s88, s89, s90, s91, s92, s93, s94] H = f27_J1_B s0 s1 s2 s3 s4 s5 s6 s7 s8 s9 s10 s39 s40 s41 s42 s43 s44 s45 s46 s47 s48 s49 s50 s51 s52 s53 s54 s55 s56 s57 s58 s59 s60 s61 s62 s63 s64 s65 s66 s67 s68 s69 s70 s71 s72 s73 s74 s75 s76 s77 s78 s79 s80 s81 s82 s83 s84 s85 s86 s87 s88 s89 s90 s91 s92 s93 s94 H R := by kernel_rfl
-- join 0: live 1:o, 10:A
def f27_J0_B (s0 : Value) (s1 : Option Addr) (s2 : Value) (s3 : Value) (s4 : Value) (s5 : Value) (s6 : Value) (s7 : Value) (s8 : Value) (s9 : Value) (s10 : Bool) (s11 : Value) (s12 : Value) (s13 : Value) (s14 : Value) (s15 : Value) (s16 : Value) (s17 : Value) (s18 : Value) (s19 : Value) (s20 : Value) (s21 : Value) (s22 : Value) (s23 : Value) (s24 : Value) (s25 : Value) (s26 : Value) (s27 : Value) (s28 : Value) (s29 : Value) (s30 : Value) (s31 : Value) (s32 : Value) (s33 : Value) (s34 : Value) (s35 : Value) (s36 : Value) (s37 : Value) (s38 : Value) (s39 : Value) (s40 : Value) (s41 : Value) (s42 : Value) (s43 : Value) (s44 : Value) (s45 : Value) (s46 : Value) (s47 : Value) (s48 : Value) (s49 : Value) (s50 : Value) (s51 : Value) (s52 : Value) (s53 : Value) (s54 : Value) (s55 : Value) (s56 : Value) (s57 : Value) (s58 : Value) (s59 : Value) (s60 : Value) (s61 : Value) (s62 : Value) (s63 : Value) (s64 : Value) (s65 : Value) (s66 : Value) (s67 : Value) (s68 : Value) (s69 : Value) (s70 : Value) (s71 : Value) (s72 : Value) (s73 : Value) (s74 : Value) (s75 : Value) (s76 : Value) (s77 : Value) (s78 : Value) (s79 : Value) (s80 : Value) (s81 : Value) (s82 : Value) (s83 : Value) (s84 : Value) (s85 : Value) (s86 : Value) (s87 : Value) (s88 : Value) (s89 : Value) (s90 : Value) (s91 : Value) (s92 : Value) (s93 : Value) (s94 : Value) (H : AH) (R : AEnd → AH → Prop) : Prop :=
 wIf s10
 (R (.ret (.bool false)) H)
 (f27_J1 R [s0, (.pointer s1), s2, s3, s4, s5, s6, s7, s8, s9, (.bool false), s11, s12, s13, s14, s15, s16, s17, s18, s19, s20, s21, s22, s23, s24, s25, s26, s27, s28, s29, s30, s31, s32, s33, s34, s35, s36, s37, s38, s39, s40, s41, s42, s43, s44, s45, s46, s47, s48, s49, s50, s51, s52, s53, s54, s55, s56, s57, s58, s59, s60, s61, s62, s63, s64, s65, s66, s67, s68, s69, s70, s71, s72, s73, s74, s75, s76, s77, s78, s79, s80, s81, s82, s83, s84, s85, s86, s87, s88, s89, s90, s91, s92, s93, s94] H)
theorem f27_J0_eq (s0 : Value) (s1 : Option Addr) (s2 : Value) (s3 : Value) (s4 : Value) (s5 : Value) (s6 : Value) (s7 : Value) (s8 : Value) (s9 : Value) (s10 : Bool) (s11 : Value) (s12 : Value) (s13 : Value) (s14 : Value) (s15 : Value) (s16 : Value) (s17 : Value) (s18 : Value) (s19 : Value) (s20 : Value) (s21 : Value) (s22 : Value) (s23 : Value) (s24 : Value) (s25 : Value) (s26 : Value) (s27 : Value) (s28 : Value) (s29 : Value) (s30 : Value) (s31 : Value) (s32 : Value) (s33 : Value) (s34 : Value) (s35 : Value) (s36 : Value) (s37 : Value) (s38 : Value) (s39 : Value) (s40 : Value) (s41 : Value) (s42 : Value) (s43 : Value) (s44 : Value) (s45 : Value) (s46 : Value) (s47 : Value) (s48 : Value) (s49 : Value) (s50 : Value) (s51 : Value) (s52 : Value) (s53 : Value) (s54 : Value) (s55 : Value) (s56 : Value) (s57 : Value) (s58 : Value) (s59 : Value) (s60 : Value) (s61 : Value) (s62 : Value) (s63 : Value) (s64 : Value) (s65 : Value) (s66 : Value) (s67 : Value) (s68 : Value) (s69 : Value) (s70 : Value) (s71 : Value) (s72 : Value) (s73 : Value) (s74 : Value) (s75 : Value) (s76 : Value) (s77 : Value) (s78 : Value) (s79 : Value) (s80 : Value) (s81 : Value) (s82 : Value) (s83 : Value) (s84 : Value) (s85 : Value) (s86 : Value) (s87 : Value) (s88 : Value) (s89 : Value) (s90 : Value) (s91 : Value) (s92 : Value) (s93 : Value) (s94 : Value) (H : AH) (R : AEnd → AH → Prop) : f27_J0 R [s0, (.pointer s1), s2, s3, s4, s5, s6, s7, s8, s9, (.bool s10), s11, s12, s13, s14, s15, s16, s17, s18, s19, s20, s21, s22, s23, s24, s25, s26, s27, s28, s29, s30, s31, s32, s33, s34, s35, s36, s37, s38, s39, s40, s41, s42, s43, s44, s45, s46, s47, s48, s49, s50, s51, s52, s53, s54, s55, s56, s57, s58, s59, s60, s61, s62, s63, s64, s65, s66, s67, s68, s69, s70, s71, s72, s73, s74, s75, s76, s77, s78, s79, s80, s81, s82, s83, s84, s85, s86, s87, s88, s89, s90, s91, s92, s93, s94] H = f27_J0_B s0 s1 s2 s3 s4 s5 s6 s7 s8 s9 s10 s11 s12 s13 s14 s15 s16 s17 s18 s19 s20 s21 s22 s23 s24 s25 s26 s27 s28 s29 s30 s31 s32 s33 s34 s35 s36 s37 s38 s39 s40 s41 s42 s43 s44 s45 s46 s47 s48 s49 s50 s51 s52 s53 s54 s55 s56 s57 s58 s59 s60 s61 s62 s63 s64 s65 s66 s67 s68 s69 s70 s71 s72 s73 s74 s75 s76 s77 s78 s79 s80 s81 s82 s83 s84 s85 s86 s87 s88 s89 s90 s91 s92 s93 s94 H R := by kernel_rfl
def f27_B (x0_0 : Int) (x0_1 : Int) (x0_2 : ByteArray) (x0_3b : Option Addr) (x0_3l : Nat) (x0_3c : Nat) (H : AH) (R : AEnd → AH → Prop) : Prop :=
 wNew [(.int .i64 x0_0), (.int .i64 x0_1), (.string x0_2), (.slice x0_3b x0_3l x0_3c)] H fun i148 H149 =>
 ldI .i64 i148 0 H149 fun n150 =>
 wIf (decide (n150 < 0))
 (f27_J0 R [(.agg #[(.int .i64 x0_0), (.int .i64 x0_1), (.string x0_2), (.slice x0_3b x0_3l x0_3c)]), (.pointer (some ⟨i148, 0, none⟩)), (.bool false), (.pointer (some ⟨i148, 0, none⟩)), (.int .i64 n150), (.bool (decide (n150 < 0))), (.bool true), undef, undef, undef, (.bool true), undef, undef, undef, undef, undef, undef, undef, undef, undef, undef, undef, undef, undef, undef, undef, undef, undef, undef, undef, undef, undef, undef, undef, undef, undef, undef, undef, undef, undef, undef, undef, undef, undef, undef, undef, undef, undef, undef, undef, undef, undef, undef, undef, undef, undef, undef, undef, undef, undef, undef, undef, undef, undef, undef, undef, undef, undef, undef, undef, undef, undef, undef, undef, undef, undef, undef, undef, undef, undef, undef, undef, undef, undef, undef, undef, undef, undef, undef, undef, undef, undef, undef, undef, undef] H149)
 (ldI .i64 i148 0 H149 fun n151 =>
 f27_J0 R [(.agg #[(.int .i64 x0_0), (.int .i64 x0_1), (.string x0_2), (.slice x0_3b x0_3l x0_3c)]), (.pointer (some ⟨i148, 0, none⟩)), (.bool false), (.pointer (some ⟨i148, 0, none⟩)), (.int .i64 n150), (.bool (decide (n150 < 0))), (.bool false), (.pointer (some ⟨i148, 0, none⟩)), (.int .i64 n151), (.bool (decide (n151 > 5))), (.bool (decide (n151 > 5))), undef, undef, undef, undef, undef, undef, undef, undef, undef, undef, undef, undef, undef, undef, undef, undef, undef, undef, undef, undef, undef, undef, undef, undef, undef, undef, undef, undef, undef, undef, undef, undef, undef, undef, undef, undef, undef, undef, undef, undef, undef, undef, undef, undef, undef, undef, undef, undef, undef, undef, undef, undef, undef, undef, undef, undef, undef, undef, undef, undef, undef, undef, undef, undef, undef, undef, undef, undef, undef, undef, undef, undef, undef, undef, undef, undef, undef, undef, undef, undef, undef, undef, undef, undef] H149)
theorem f27_eq (x0_0 : Int) (x0_1 : Int) (x0_2 : ByteArray) (x0_3b : Option Addr) (x0_3l : Nat) (x0_3c : Nat) (H : AH) (R : AEnd → AH → Prop) : awpF Try.prog f27_c (aPost Try.prog Try.f27 R) (([(.agg #[(.int .i64 x0_0), (.int .i64 x0_1), (.string x0_2), (.slice x0_3b x0_3l x0_3c)])] : List Value) ++ List.replicate (Try.f27.ntmps - (([(.agg #[(.int .i64 x0_0), (.int .i64 x0_1), (.string x0_2), (.slice x0_3b x0_3l x0_3c)])] : List Value)).length) undef) H = f27_B x0_0 x0_1 x0_2 x0_3b x0_3l x0_3c H R := by kernel_rfl
theorem f27_call (x0_0 : Int) (x0_1 : Int) (x0_2 : ByteArray) (x0_3b : Option Addr) (x0_3l : Nat) (x0_3c : Nat) (H : AH) (R : AEnd → AH → Prop) (h : f27_B x0_0 x0_1 x0_2 x0_3b x0_3l x0_3c H R) : ACall Try.prog 27 ([(.agg #[(.int .i64 x0_0), (.int .i64 x0_1), (.string x0_2), (.slice x0_3b x0_3l x0_3c)])] : List Value) H R :=
  acall_of mixed Try.func27 (by kernel_rfl : Try.f27.body = some f27_c) (by kernel_rfl) (by kernel_rfl) (awp_of (Eq.mpr (f27_eq x0_0 x0_1 x0_2 x0_3b x0_3l x0_3c H R) h))

/-! f28: switchyard/switchyardref13.Mail -/
noncomputable def f28_c : Code := Try.f28.body.getD .skip
def f28_B (x0_0 : Int) (x0_1 : ByteArray) (x0_2b : Option Addr) (x0_2l : Nat) (x0_2c : Nat) (x0_3b : Option Addr) (x0_3l : Nat) (x0_3c : Nat) (H : AH) (R : AEnd → AH → Prop) : Prop :=
 wNew [(.int .i64 x0_0), (.string x0_1), (.slice x0_2b x0_2l x0_2c), (.slice x0_3b x0_3l x0_3c)] H fun i1 H2 =>
 ldI .i64 i1 0 H2 fun n3 =>
 ldS i1 1 H2 fun t4 =>
 (wCall Try.prog 68 [(.int .i64 n3)] H2 (fun r5 H6 =>
 opS r5 fun t9 =>
 wPin i1 1 [(.string t4)] H6 <|
 (wCall Try.prog 69 [(.string t4)] H6 (fun r10 H11 =>
 opS r10 fun t14 =>
 wCat t9 t14 fun t15 =>
 (ldL i1 2 H11 fun z16b z16l z16c =>
 (wCall Try.prog 72 [(.slice z16b z16l z16c)] H11 (fun r17 H18 =>
 opS r17 fun t21 =>
 wCat t15 t21 fun t22 =>
 ldL i1 3 H18 fun z23b z23l z23c =>
 wCall Try.prog 72 [(.slice z23b z23l z23c)] H18 (fun r24 H25 =>
 opS r24 fun t28 =>
 wCat t22 t28 fun t29 =>
 R (.ret (.string t29)) H25) (fun v27 H26 => R (.panic v27) H26)) (fun v20 H19 => R (.panic v20) H19)) ∧
 (ldL i1 3 H11 fun z30b z30l z30c =>
 wCall Try.prog 72 [(.slice z16b z16l z16c)] H11 (fun r31 H32 =>
 opS r31 fun t35 =>
 wCat t15 t35 fun t36 =>
 wCall Try.prog 72 [(.slice z30b z30l z30c)] H32 (fun r37 H38 =>
 opS r37 fun t41 =>
 wCat t36 t41 fun t42 =>
 R (.ret (.string t42)) H38) (fun v40 H39 => R (.panic v40) H39)) (fun v34 H33 => R (.panic v34) H33))) ∧
 (ldL i1 3 H11 fun z43b z43l z43c =>
 ldL i1 2 H11 fun z44b z44l z44c =>
 wCall Try.prog 72 [(.slice z44b z44l z44c)] H11 (fun r45 H46 =>
 opS r45 fun t49 =>
 wCat t15 t49 fun t50 =>
 wCall Try.prog 72 [(.slice z43b z43l z43c)] H46 (fun r51 H52 =>
 opS r51 fun t55 =>
 wCat t50 t55 fun t56 =>
 R (.ret (.string t56)) H52) (fun v54 H53 => R (.panic v54) H53)) (fun v48 H47 => R (.panic v48) H47))) (fun v13 H12 => R (.panic v13) H12)) ∧
 (ldL i1 2 H6 fun z57b z57l z57c =>
 wPin i1 1 [(.string t4)] H6 <|
 (wCall Try.prog 69 [(.string t4)] H6 (fun r58 H59 =>
 opS r58 fun t62 =>
 wCat t9 t62 fun t63 =>
 (wCall Try.prog 72 [(.slice z57b z57l z57c)] H59 (fun r64 H65 =>
 opS r64 fun t68 =>
 wCat t63 t68 fun t69 =>
 ldL i1 3 H65 fun z70b z70l z70c =>
 wCall Try.prog 72 [(.slice z70b z70l z70c)] H65 (fun r71 H72 =>
 opS r71 fun t75 =>
 wCat t69 t75 fun t76 =>
 R (.ret (.string t76)) H72) (fun v74 H73 => R (.panic v74) H73)) (fun v67 H66 => R (.panic v67) H66)) ∧
 (ldL i1 3 H59 fun z77b z77l z77c =>
 wCall Try.prog 72 [(.slice z57b z57l z57c)] H59 (fun r78 H79 =>
 opS r78 fun t82 =>
 wCat t63 t82 fun t83 =>
 wCall Try.prog 72 [(.slice z77b z77l z77c)] H79 (fun r84 H85 =>
 opS r84 fun t88 =>
 wCat t83 t88 fun t89 =>
 R (.ret (.string t89)) H85) (fun v87 H86 => R (.panic v87) H86)) (fun v81 H80 => R (.panic v81) H80))) (fun v61 H60 => R (.panic v61) H60)) ∧
 (ldL i1 3 H6 fun z90b z90l z90c =>
 wPin i1 1 [(.string t4)] H6 <|
 wCall Try.prog 69 [(.string t4)] H6 (fun r91 H92 =>
 opS r91 fun t95 =>
 wCat t9 t95 fun t96 =>
 wCall Try.prog 72 [(.slice z57b z57l z57c)] H92 (fun r97 H98 =>
 opS r97 fun t101 =>
 wCat t96 t101 fun t102 =>
 wCall Try.prog 72 [(.slice z90b z90l z90c)] H98 (fun r103 H104 =>
 opS r103 fun t107 =>
 wCat t102 t107 fun t108 =>
 R (.ret (.string t108)) H104) (fun v106 H105 => R (.panic v106) H105)) (fun v100 H99 => R (.panic v100) H99)) (fun v94 H93 => R (.panic v94) H93))) ∧
 (ldL i1 3 H6 fun z109b z109l z109c =>
 wPin i1 1 [(.string t4)] H6 <|
 (wCall Try.prog 69 [(.string t4)] H6 (fun r110 H111 =>
 opS r110 fun t114 =>
 wCat t9 t114 fun t115 =>
 ldL i1 2 H111 fun z116b z116l z116c =>
 wCall Try.prog 72 [(.slice z116b z116l z116c)] H111 (fun r117 H118 =>
 opS r117 fun t121 =>
 wCat t115 t121 fun t122 =>
 wCall Try.prog 72 [(.slice z109b z109l z109c)] H118 (fun r123 H124 =>
 opS r123 fun t127 =>
 wCat t122 t127 fun t128 =>
 R (.ret (.string t128)) H124) (fun v126 H125 => R (.panic v126) H125)) (fun v120 H119 => R (.panic v120) H119)) (fun v113 H112 => R (.panic v113) H112)) ∧
 (ldL i1 2 H6 fun z129b z129l z129c =>
 wPin i1 1 [(.string t4)] H6 <|
 wCall Try.prog 69 [(.string t4)] H6 (fun r130 H131 =>
 opS r130 fun t134 =>
 wCat t9 t134 fun t135 =>
 wCall Try.prog 72 [(.slice z129b z129l z129c)] H131 (fun r136 H137 =>
 opS r136 fun t140 =>
 wCat t135 t140 fun t141 =>
 wCall Try.prog 72 [(.slice z109b z109l z109c)] H137 (fun r142 H143 =>
 opS r142 fun t146 =>
 wCat t141 t146 fun t147 =>
 R (.ret (.string t147)) H143) (fun v145 H144 => R (.panic v145) H144)) (fun v139 H138 => R (.panic v139) H138)) (fun v133 H132 => R (.panic v133) H132)))) (fun v8 H7 => R (.panic v8) H7)) ∧
 (ldL i1 2 H2 fun z148b z148l z148c =>
 wPin i1 1 [(.string t4)] H2 <|
 wPin i1 0 [(.int .i64 n3)] H2 <|
 (wCall Try.prog 68 [(.int .i64 n3)] H2 (fun r149 H150 =>
 opS r149 fun t153 =>
 wPin i1 1 [(.string t4)] H150 <|
 (wCall Try.prog 69 [(.string t4)] H150 (fun r154 H155 =>
 opS r154 fun t158 =>
 wCat t153 t158 fun t159 =>
 (wCall Try.prog 72 [(.slice z148b z148l z148c)] H155 (fun r160 H161 =>
 opS r160 fun t164 =>
 wCat t159 t164 fun t165 =>
 ldL i1 3 H161 fun z166b z166l z166c =>
 wCall Try.prog 72 [(.slice z166b z166l z166c)] H161 (fun r167 H168 =>
 opS r167 fun t171 =>
 wCat t165 t171 fun t172 =>
 R (.ret (.string t172)) H168) (fun v170 H169 => R (.panic v170) H169)) (fun v163 H162 => R (.panic v163) H162)) ∧
 (ldL i1 3 H155 fun z173b z173l z173c =>
 wCall Try.prog 72 [(.slice z148b z148l z148c)] H155 (fun r174 H175 =>
 opS r174 fun t178 =>
 wCat t159 t178 fun t179 =>
 wCall Try.prog 72 [(.slice z173b z173l z173c)] H175 (fun r180 H181 =>
 opS r180 fun t184 =>
 wCat t179 t184 fun t185 =>
 R (.ret (.string t185)) H181) (fun v183 H182 => R (.panic v183) H182)) (fun v177 H176 => R (.panic v177) H176))) (fun v157 H156 => R (.panic v157) H156)) ∧
 (ldL i1 3 H150 fun z186b z186l z186c =>
 wPin i1 1 [(.string t4)] H150 <|
 wCall Try.prog 69 [(.string t4)] H150 (fun r187 H188 =>
 opS r187 fun t191 =>
 wCat t153 t191 fun t192 =>
 wCall Try.prog 72 [(.slice z148b z148l z148c)] H188 (fun r193 H194 =>
 opS r193 fun t197 =>
 wCat t192 t197 fun t198 =>
 wCall Try.prog 72 [(.slice z186b z186l z186c)] H194 (fun r199 H200 =>
 opS r199 fun t203 =>
 wCat t198 t203 fun t204 =>
 R (.ret (.string t204)) H200) (fun v202 H201 => R (.panic v202) H201)) (fun v196 H195 => R (.panic v196) H195)) (fun v190 H189 => R (.panic v190) H189))) (fun v152 H151 => R (.panic v152) H151)) ∧
 (ldL i1 3 H2 fun z205b z205l z205c =>
 wPin i1 1 [(.string t4)] H2 <|
 wPin i1 0 [(.int .i64 n3)] H2 <|
 wCall Try.prog 68 [(.int .i64 n3)] H2 (fun r206 H207 =>
 opS r206 fun t210 =>
 wPin i1 1 [(.string t4)] H207 <|
 wCall Try.prog 69 [(.string t4)] H207 (fun r211 H212 =>
 opS r211 fun t215 =>
 wCat t210 t215 fun t216 =>
 wCall Try.prog 72 [(.slice z148b z148l z148c)] H212 (fun r217 H218 =>
 opS r217 fun t221 =>
 wCat t216 t221 fun t222 =>
 wCall Try.prog 72 [(.slice z205b z205l z205c)] H218 (fun r223 H224 =>
 opS r223 fun t227 =>
 wCat t222 t227 fun t228 =>
 R (.ret (.string t228)) H224) (fun v226 H225 => R (.panic v226) H225)) (fun v220 H219 => R (.panic v220) H219)) (fun v214 H213 => R (.panic v214) H213)) (fun v209 H208 => R (.panic v209) H208))) ∧
 (ldL i1 3 H2 fun z229b z229l z229c =>
 wPin i1 1 [(.string t4)] H2 <|
 wPin i1 0 [(.int .i64 n3)] H2 <|
 (wCall Try.prog 68 [(.int .i64 n3)] H2 (fun r230 H231 =>
 opS r230 fun t234 =>
 wPin i1 1 [(.string t4)] H231 <|
 (wCall Try.prog 69 [(.string t4)] H231 (fun r235 H236 =>
 opS r235 fun t239 =>
 wCat t234 t239 fun t240 =>
 ldL i1 2 H236 fun z241b z241l z241c =>
 wCall Try.prog 72 [(.slice z241b z241l z241c)] H236 (fun r242 H243 =>
 opS r242 fun t246 =>
 wCat t240 t246 fun t247 =>
 wCall Try.prog 72 [(.slice z229b z229l z229c)] H243 (fun r248 H249 =>
 opS r248 fun t252 =>
 wCat t247 t252 fun t253 =>
 R (.ret (.string t253)) H249) (fun v251 H250 => R (.panic v251) H250)) (fun v245 H244 => R (.panic v245) H244)) (fun v238 H237 => R (.panic v238) H237)) ∧
 (ldL i1 2 H231 fun z254b z254l z254c =>
 wPin i1 1 [(.string t4)] H231 <|
 wCall Try.prog 69 [(.string t4)] H231 (fun r255 H256 =>
 opS r255 fun t259 =>
 wCat t234 t259 fun t260 =>
 wCall Try.prog 72 [(.slice z254b z254l z254c)] H256 (fun r261 H262 =>
 opS r261 fun t265 =>
 wCat t260 t265 fun t266 =>
 wCall Try.prog 72 [(.slice z229b z229l z229c)] H262 (fun r267 H268 =>
 opS r267 fun t271 =>
 wCat t266 t271 fun t272 =>
 R (.ret (.string t272)) H268) (fun v270 H269 => R (.panic v270) H269)) (fun v264 H263 => R (.panic v264) H263)) (fun v258 H257 => R (.panic v258) H257))) (fun v233 H232 => R (.panic v233) H232)) ∧
 (ldL i1 2 H2 fun z273b z273l z273c =>
 wPin i1 1 [(.string t4)] H2 <|
 wPin i1 0 [(.int .i64 n3)] H2 <|
 wCall Try.prog 68 [(.int .i64 n3)] H2 (fun r274 H275 =>
 opS r274 fun t278 =>
 wPin i1 1 [(.string t4)] H275 <|
 wCall Try.prog 69 [(.string t4)] H275 (fun r279 H280 =>
 opS r279 fun t283 =>
 wCat t278 t283 fun t284 =>
 wCall Try.prog 72 [(.slice z273b z273l z273c)] H280 (fun r285 H286 =>
 opS r285 fun t289 =>
 wCat t284 t289 fun t290 =>
 wCall Try.prog 72 [(.slice z229b z229l z229c)] H286 (fun r291 H292 =>
 opS r291 fun t295 =>
 wCat t290 t295 fun t296 =>
 R (.ret (.string t296)) H292) (fun v294 H293 => R (.panic v294) H293)) (fun v288 H287 => R (.panic v288) H287)) (fun v282 H281 => R (.panic v282) H281)) (fun v277 H276 => R (.panic v277) H276)))
theorem f28_eq (x0_0 : Int) (x0_1 : ByteArray) (x0_2b : Option Addr) (x0_2l : Nat) (x0_2c : Nat) (x0_3b : Option Addr) (x0_3l : Nat) (x0_3c : Nat) (H : AH) (R : AEnd → AH → Prop) : awpF Try.prog f28_c (aPost Try.prog Try.f28 R) (([(.agg #[(.int .i64 x0_0), (.string x0_1), (.slice x0_2b x0_2l x0_2c), (.slice x0_3b x0_3l x0_3c)])] : List Value) ++ List.replicate (Try.f28.ntmps - (([(.agg #[(.int .i64 x0_0), (.string x0_1), (.slice x0_2b x0_2l x0_2c), (.slice x0_3b x0_3l x0_3c)])] : List Value)).length) undef) H = f28_B x0_0 x0_1 x0_2b x0_2l x0_2c x0_3b x0_3l x0_3c H R := by kernel_rfl
theorem f28_call (x0_0 : Int) (x0_1 : ByteArray) (x0_2b : Option Addr) (x0_2l : Nat) (x0_2c : Nat) (x0_3b : Option Addr) (x0_3l : Nat) (x0_3c : Nat) (H : AH) (R : AEnd → AH → Prop) (h : f28_B x0_0 x0_1 x0_2b x0_2l x0_2c x0_3b x0_3l x0_3c H R) : ACall Try.prog 28 ([(.agg #[(.int .i64 x0_0), (.string x0_1), (.slice x0_2b x0_2l x0_2c), (.slice x0_3b x0_3l x0_3c)])] : List Value) H R :=
  acall_of mixed Try.func28 (by kernel_rfl : Try.f28.body = some f28_c) (by kernel_rfl) (by kernel_rfl) (awp_of (Eq.mpr (f28_eq x0_0 x0_1 x0_2b x0_2l x0_2c x0_3b x0_3l x0_3c H R) h))

/-! f29: switchyard/switchyardref13.RightMail -/
noncomputable def f29_c : Code := Try.f29.body.getD .skip
def f29_B (x0_0 : Int) (x0_1 : ByteArray) (x0_2b : Option Addr) (x0_2l : Nat) (x0_2c : Nat) (x0_3b : Option Addr) (x0_3l : Nat) (x0_3c : Nat) (H : AH) (R : AEnd → AH → Prop) : Prop :=
 wNew [(.int .i64 x0_0), (.string x0_1), (.slice x0_2b x0_2l x0_2c), (.slice x0_3b x0_3l x0_3c)] H fun i1 H2 =>
 ldS i1 1 H2 fun t3 =>
 wIf (decide ((t3.size : Int) ≤ 24))
 (ldL i1 2 H2 fun z4b z4l z4c =>
 wCall Try.prog 73 [(.slice z4b z4l z4c)] H2 (fun r5 H6 =>
 opB r5 fun b9 =>
 wIf b9
 (ldL i1 3 H6 fun z10b z10l z10c =>
 wCall Try.prog 73 [(.slice z10b z10l z10c)] H6 (fun r11 H12 =>
 opB r11 fun b15 =>
 R (.ret (.bool b15)) H12) (fun v14 H13 => R (.panic v14) H13))
 (R (.ret (.bool false)) H6)) (fun v8 H7 => R (.panic v8) H7))
 (R (.ret (.bool false)) H2)
theorem f29_eq (x0_0 : Int) (x0_1 : ByteArray) (x0_2b : Option Addr) (x0_2l : Nat) (x0_2c : Nat) (x0_3b : Option Addr) (x0_3l : Nat) (x0_3c : Nat) (H : AH) (R : AEnd → AH → Prop) : awpF Try.prog f29_c (aPost Try.prog Try.f29 R) (([(.agg #[(.int .i64 x0_0), (.string x0_1), (.slice x0_2b x0_2l x0_2c), (.slice x0_3b x0_3l x0_3c)])] : List Value) ++ List.replicate (Try.f29.ntmps - (([(.agg #[(.int .i64 x0_0), (.string x0_1), (.slice x0_2b x0_2l x0_2c), (.slice x0_3b x0_3l x0_3c)])] : List Value)).length) undef) H = f29_B x0_0 x0_1 x0_2b x0_2l x0_2c x0_3b x0_3l x0_3c H R := by kernel_rfl
theorem f29_call (x0_0 : Int) (x0_1 : ByteArray) (x0_2b : Option Addr) (x0_2l : Nat) (x0_2c : Nat) (x0_3b : Option Addr) (x0_3l : Nat) (x0_3c : Nat) (H : AH) (R : AEnd → AH → Prop) (h : f29_B x0_0 x0_1 x0_2b x0_2l x0_2c x0_3b x0_3l x0_3c H R) : ACall Try.prog 29 ([(.agg #[(.int .i64 x0_0), (.string x0_1), (.slice x0_2b x0_2l x0_2c), (.slice x0_3b x0_3l x0_3c)])] : List Value) H R :=
  acall_of mixed Try.func29 (by kernel_rfl : Try.f29.body = some f29_c) (by kernel_rfl) (by kernel_rfl) (awp_of (Eq.mpr (f29_eq x0_0 x0_1 x0_2b x0_2l x0_2c x0_3b x0_3l x0_3c H R) h))

/-! f30: switchyard/switchyardref13.Item -/
noncomputable def f30_c : Code := Try.f30.body.getD .skip
noncomputable def f30_X0 (R : AEnd → AH → Prop) : AExit → List Value → AH → Prop := thenF (fun tm H => hold (awpF Try.prog (codeAt f30_c [1, 1, 1]) (aPost Try.prog Try.f30 R) tm H)) (aPost Try.prog Try.f30 R)
noncomputable def f30_X1 (R : AEnd → AH → Prop) : AExit → List Value → AH → Prop := inBlockF 0 (f30_X0 R)
noncomputable def f30_Q0 (R : AEnd → AH → Prop) : AExit → List Value → AH → Prop := (f30_X1 R)
def f30_L0 (R : AEnd → AH → Prop) (tm : List Value) (H : AH) : Prop := awpF Try.prog (codeAt f30_c [1, 1, 0, 1, 0]) (f30_Q0 R) tm H
noncomputable def f30_X2 (R : AEnd → AH → Prop) : AExit → List Value → AH → Prop := thenF (fun tm H => hold (awpF Try.prog (codeAt f30_c [1, 1, 1, 1, 1]) (aPost Try.prog Try.f30 R) tm H)) (aPost Try.prog Try.f30 R)
noncomputable def f30_X3 (R : AEnd → AH → Prop) : AExit → List Value → AH → Prop := inBlockF 2 (f30_X2 R)
noncomputable def f30_Q1 (R : AEnd → AH → Prop) : AExit → List Value → AH → Prop := (f30_X3 R)
def f30_L1 (R : AEnd → AH → Prop) (tm : List Value) (H : AH) : Prop := awpF Try.prog (codeAt f30_c [1, 1, 1, 1, 0, 1, 0]) (f30_Q1 R) tm H
def f30_J0 (R : AEnd → AH → Prop) (tm : List Value) (H : AH) : Prop := hold (awpF Try.prog (codeAt f30_c [1, 1]) ((aPost Try.prog Try.f30 R)) tm H)
def f30_J1 (R : AEnd → AH → Prop) (tm : List Value) (H : AH) : Prop := hold (awpF Try.prog (codeAt f30_c [1, 1, 1]) ((aPost Try.prog Try.f30 R)) tm H)
-- join 1: live 1:o, 3:C
def f30_J1_B (s0 : Value) (s1 : Option Addr) (s2 : Value) (s3 : ByteArray) (s4 : Value) (s5 : Value) (s6 : Value) (s7 : Value) (s8 : Value) (s9 : Value) (s10 : Value) (s11 : Value) (s12 : Value) (s13 : Value) (s14 : Value) (s15 : Value) (s16 : Value) (s17 : Value) (s18 : Value) (s19 : Value) (s20 : Value) (s21 : Value) (s22 : Value) (s23 : Value) (s24 : Value) (s25 : Value) (s26 : Value) (s27 : Value) (s28 : Value) (s29 : Value) (s30 : Value) (s31 : Value) (s32 : Value) (s33 : Value) (s34 : Value) (s35 : Value) (s36 : Value) (s37 : Value) (s38 : Value) (s39 : Value) (s40 : Value) (s41 : Value) (s42 : Value) (s43 : Value) (s44 : Value) (s45 : Value) (s57 : Value) (s58 : Value) (s59 : Value) (s60 : Value) (s61 : Value) (s62 : Value) (s63 : Value) (s64 : Value) (s65 : Value) (H : AH) (R : AEnd → AH → Prop) : Prop :=
 wPt s1 fun i1 k2 =>
 ldL i1 (k2 + 6) H fun z3b z3l z3c =>
 wCall Try.prog 70 [(.int .u64 (IntKind.u64.wrap (z3l : Int)))] H (fun r4 H5 =>
 opS r4 fun t8 =>
 wCat s3 t8 fun t9 =>
 wPt s1 fun i10 k11 =>
 ldL i10 (k11 + 6) H5 fun z12b z12l z12c =>
 f30_L1 R [s0, (.pointer s1), s2, (.string t9), s4, s5, s6, s7, s8, s9, s10, s11, s12, s13, s14, s15, s16, s17, s18, s19, s20, s21, s22, s23, s24, s25, s26, s27, s28, s29, s30, s31, s32, s33, s34, s35, s36, s37, s38, s39, s40, s41, s42, s43, s44, s45, (.string s3), (.pointer (some ⟨i1, (k2 + 6), none⟩)), (.slice z3b z3l z3c), (.int .i64 (z3l : Int)), (.int .u64 (IntKind.u64.wrap (z3l : Int))), (.string t8), (.string t9), (.pointer (some ⟨i10, (k11 + 6), none⟩)), (.slice z12b z12l z12c), (.int .i64 (z12l : Int)), (.int .i64 0), s57, s58, s59, s60, s61, s62, s63, s64, s65] H5) (fun v7 H6 => R (.panic v7) H6)
theorem f30_J1_eq (s0 : Value) (s1 : Option Addr) (s2 : Value) (s3 : ByteArray) (s4 : Value) (s5 : Value) (s6 : Value) (s7 : Value) (s8 : Value) (s9 : Value) (s10 : Value) (s11 : Value) (s12 : Value) (s13 : Value) (s14 : Value) (s15 : Value) (s16 : Value) (s17 : Value) (s18 : Value) (s19 : Value) (s20 : Value) (s21 : Value) (s22 : Value) (s23 : Value) (s24 : Value) (s25 : Value) (s26 : Value) (s27 : Value) (s28 : Value) (s29 : Value) (s30 : Value) (s31 : Value) (s32 : Value) (s33 : Value) (s34 : Value) (s35 : Value) (s36 : Value) (s37 : Value) (s38 : Value) (s39 : Value) (s40 : Value) (s41 : Value) (s42 : Value) (s43 : Value) (s44 : Value) (s45 : Value) (s46 : Value) (s47 : Value) (s48 : Value) (s49 : Value) (s50 : Value) (s51 : Value) (s52 : Value) (s53 : Value) (s54 : Value) (s55 : Value) (s56 : Value) (s57 : Value) (s58 : Value) (s59 : Value) (s60 : Value) (s61 : Value) (s62 : Value) (s63 : Value) (s64 : Value) (s65 : Value) (H : AH) (R : AEnd → AH → Prop) : f30_J1 R [s0, (.pointer s1), s2, (.string s3), s4, s5, s6, s7, s8, s9, s10, s11, s12, s13, s14, s15, s16, s17, s18, s19, s20, s21, s22, s23, s24, s25, s26, s27, s28, s29, s30, s31, s32, s33, s34, s35, s36, s37, s38, s39, s40, s41, s42, s43, s44, s45, s46, s47, s48, s49, s50, s51, s52, s53, s54, s55, s56, s57, s58, s59, s60, s61, s62, s63, s64, s65] H = f30_J1_B s0 s1 s2 s3 s4 s5 s6 s7 s8 s9 s10 s11 s12 s13 s14 s15 s16 s17 s18 s19 s20 s21 s22 s23 s24 s25 s26 s27 s28 s29 s30 s31 s32 s33 s34 s35 s36 s37 s38 s39 s40 s41 s42 s43 s44 s45 s57 s58 s59 s60 s61 s62 s63 s64 s65 H R := by kernel_rfl
-- join 0: live 1:o, 3:C
def f30_J0_B (s0 : Value) (s1 : Option Addr) (s2 : Value) (s3 : ByteArray) (s4 : Value) (s5 : Value) (s6 : Value) (s7 : Value) (s8 : Value) (s9 : Value) (s10 : Value) (s11 : Value) (s12 : Value) (s13 : Value) (s14 : Value) (s15 : Value) (s16 : Value) (s17 : Value) (s18 : Value) (s19 : Value) (s20 : Value) (s21 : Value) (s22 : Value) (s23 : Value) (s24 : Value) (s25 : Value) (s26 : Value) (s27 : Value) (s28 : Value) (s29 : Value) (s30 : Value) (s31 : Value) (s32 : Value) (s37 : Value) (s38 : Value) (s39 : Value) (s40 : Value) (s41 : Value) (s42 : Value) (s43 : Value) (s44 : Value) (s45 : Value) (s46 : Value) (s47 : Value) (s48 : Value) (s49 : Value) (s50 : Value) (s51 : Value) (s52 : Value) (s53 : Value) (s54 : Value) (s55 : Value) (s56 : Value) (s57 : Value) (s58 : Value) (s59 : Value) (s60 : Value) (s61 : Value) (s62 : Value) (s63 : Value) (s64 : Value) (s65 : Value) (H : AH) (R : AEnd → AH → Prop) : Prop :=
 wPt s1 fun i13 k14 =>
 ldL i13 (k14 + 5) H fun z15b z15l z15c =>
 f30_L0 R [s0, (.pointer s1), s2, (.string s3), s4, s5, s6, s7, s8, s9, s10, s11, s12, s13, s14, s15, s16, s17, s18, s19, s20, s21, s22, s23, s24, s25, s26, s27, s28, s29, s30, s31, s32, (.pointer (some ⟨i13, (k14 + 5), none⟩)), (.slice z15b z15l z15c), (.int .i64 (z15l : Int)), (.int .i64 0), s37, s38, s39, s40, s41, s42, s43, s44, s45, s46, s47, s48, s49, s50, s51, s52, s53, s54, s55, s56, s57, s58, s59, s60, s61, s62, s63, s64, s65] H
theorem f30_J0_eq (s0 : Value) (s1 : Option Addr) (s2 : Value) (s3 : ByteArray) (s4 : Value) (s5 : Value) (s6 : Value) (s7 : Value) (s8 : Value) (s9 : Value) (s10 : Value) (s11 : Value) (s12 : Value) (s13 : Value) (s14 : Value) (s15 : Value) (s16 : Value) (s17 : Value) (s18 : Value) (s19 : Value) (s20 : Value) (s21 : Value) (s22 : Value) (s23 : Value) (s24 : Value) (s25 : Value) (s26 : Value) (s27 : Value) (s28 : Value) (s29 : Value) (s30 : Value) (s31 : Value) (s32 : Value) (s33 : Value) (s34 : Value) (s35 : Value) (s36 : Value) (s37 : Value) (s38 : Value) (s39 : Value) (s40 : Value) (s41 : Value) (s42 : Value) (s43 : Value) (s44 : Value) (s45 : Value) (s46 : Value) (s47 : Value) (s48 : Value) (s49 : Value) (s50 : Value) (s51 : Value) (s52 : Value) (s53 : Value) (s54 : Value) (s55 : Value) (s56 : Value) (s57 : Value) (s58 : Value) (s59 : Value) (s60 : Value) (s61 : Value) (s62 : Value) (s63 : Value) (s64 : Value) (s65 : Value) (H : AH) (R : AEnd → AH → Prop) : f30_J0 R [s0, (.pointer s1), s2, (.string s3), s4, s5, s6, s7, s8, s9, s10, s11, s12, s13, s14, s15, s16, s17, s18, s19, s20, s21, s22, s23, s24, s25, s26, s27, s28, s29, s30, s31, s32, s33, s34, s35, s36, s37, s38, s39, s40, s41, s42, s43, s44, s45, s46, s47, s48, s49, s50, s51, s52, s53, s54, s55, s56, s57, s58, s59, s60, s61, s62, s63, s64, s65] H = f30_J0_B s0 s1 s2 s3 s4 s5 s6 s7 s8 s9 s10 s11 s12 s13 s14 s15 s16 s17 s18 s19 s20 s21 s22 s23 s24 s25 s26 s27 s28 s29 s30 s31 s32 s37 s38 s39 s40 s41 s42 s43 s44 s45 s46 s47 s48 s49 s50 s51 s52 s53 s54 s55 s56 s57 s58 s59 s60 s61 s62 s63 s64 s65 H R := by kernel_rfl
def f30_R0 (s0 : Value) (s1 : Option Addr) (s2 : Value) (s3 : ByteArray) (s4 : Value) (s5 : Value) (s6 : Value) (s7 : Value) (s8 : Value) (s9 : Value) (s10 : Value) (s11 : Value) (s12 : Value) (s13 : Value) (s14 : Value) (s15 : Value) (s16 : Value) (s17 : Value) (s18 : Value) (s19 : Value) (s20 : Value) (s21 : Value) (s22 : Value) (s23 : Value) (s24 : Value) (s25 : Value) (s26 : Value) (s27 : Value) (s28 : Value) (s29 : Value) (s30 : Value) (s31 : Value) (s32 : Value) (s33 : Value) (s34b : Option Addr) (s34l : Nat) (s34c : Nat) (s35 : Int) (s36 : Int) (s37 : Value) (s38 : Value) (s39 : Value) (s40 : Value) (s41 : Value) (s42 : Value) (s43 : Value) (s44 : Value) (s45 : Value) (s46 : Value) (s47 : Value) (s48 : Value) (s49 : Value) (s50 : Value) (s51 : Value) (s52 : Value) (s53 : Value) (s54 : Value) (s55 : Value) (s56 : Value) (s57 : Value) (s58 : Value) (s59 : Value) (s60 : Value) (s61 : Value) (s62 : Value) (s63 : Value) (s64 : Value) (s65 : Value) (H : AH) (K0 : List Value → AH → Prop) (R : AEnd → AH → Prop) : Prop :=
 wIf (decide (s36 < s35))
 (wIx s34b s34l 1 s36 fun i16 k17 =>
 ldI .i64 i16 k17 H fun n18 =>
 wCall Try.prog 70 [(.int .u64 (IntKind.u64.wrap n18))] H (fun r19 H20 =>
 opS r19 fun t23 =>
 wCat s3 t23 fun t24 =>
 K0 [s0, (.pointer s1), s2, (.string t24), s4, (.int .i64 n18), s6, s7, s8, s9, s10, s11, s12, s13, s14, s15, s16, s17, s18, s19, s20, s21, s22, s23, s24, s25, s26, s27, s28, s29, s30, s31, s32, s33, (.slice s34b s34l s34c), (.int .i64 s35), (.int .i64 (IntKind.i64.wrap (s36 + 1))), (.bool true), (.pointer (some ⟨i16, k17, none⟩)), (.int .i64 n18), (.string s3), (.int .i64 n18), (.int .u64 (IntKind.u64.wrap n18)), (.string t23), (.string t24), (.int .i64 (IntKind.i64.wrap (s36 + 1))), s46, s47, s48, s49, s50, s51, s52, s53, s54, s55, s56, s57, s58, s59, s60, s61, s62, s63, s64, s65] H20) (fun v22 H21 => R (.panic v22) H21))
 (f30_J1 R [s0, (.pointer s1), s2, (.string s3), s4, s5, s6, s7, s8, s9, s10, s11, s12, s13, s14, s15, s16, s17, s18, s19, s20, s21, s22, s23, s24, s25, s26, s27, s28, s29, s30, s31, s32, s33, (.slice s34b s34l s34c), (.int .i64 s35), (.int .i64 s36), (.bool false), s38, s39, s40, s41, s42, s43, s44, s45, s46, s47, s48, s49, s50, s51, s52, s53, s54, s55, s56, s57, s58, s59, s60, s61, s62, s63, s64, s65] H)
theorem f30_R0_eq (s0 : Value) (s1 : Option Addr) (s2 : Value) (s3 : ByteArray) (s4 : Value) (s5 : Value) (s6 : Value) (s7 : Value) (s8 : Value) (s9 : Value) (s10 : Value) (s11 : Value) (s12 : Value) (s13 : Value) (s14 : Value) (s15 : Value) (s16 : Value) (s17 : Value) (s18 : Value) (s19 : Value) (s20 : Value) (s21 : Value) (s22 : Value) (s23 : Value) (s24 : Value) (s25 : Value) (s26 : Value) (s27 : Value) (s28 : Value) (s29 : Value) (s30 : Value) (s31 : Value) (s32 : Value) (s33 : Value) (s34b : Option Addr) (s34l : Nat) (s34c : Nat) (s35 : Int) (s36 : Int) (s37 : Value) (s38 : Value) (s39 : Value) (s40 : Value) (s41 : Value) (s42 : Value) (s43 : Value) (s44 : Value) (s45 : Value) (s46 : Value) (s47 : Value) (s48 : Value) (s49 : Value) (s50 : Value) (s51 : Value) (s52 : Value) (s53 : Value) (s54 : Value) (s55 : Value) (s56 : Value) (s57 : Value) (s58 : Value) (s59 : Value) (s60 : Value) (s61 : Value) (s62 : Value) (s63 : Value) (s64 : Value) (s65 : Value) (H : AH) (K0 : List Value → AH → Prop) (R : AEnd → AH → Prop) : awpF Try.prog (codeAt f30_c [1, 1, 0, 1, 0, 0]) (thenF K0 (f30_Q0 R)) [s0, (.pointer s1), s2, (.string s3), s4, s5, s6, s7, s8, s9, s10, s11, s12, s13, s14, s15, s16, s17, s18, s19, s20, s21, s22, s23, s24, s25, s26, s27, s28, s29, s30, s31, s32, s33, (.slice s34b s34l s34c), (.int .i64 s35), (.int .i64 s36), s37, s38, s39, s40, s41, s42, s43, s44, s45, s46, s47, s48, s49, s50, s51, s52, s53, s54, s55, s56, s57, s58, s59, s60, s61, s62, s63, s64, s65] H = f30_R0 s0 s1 s2 s3 s4 s5 s6 s7 s8 s9 s10 s11 s12 s13 s14 s15 s16 s17 s18 s19 s20 s21 s22 s23 s24 s25 s26 s27 s28 s29 s30 s31 s32 s33 s34b s34l s34c s35 s36 s37 s38 s39 s40 s41 s42 s43 s44 s45 s46 s47 s48 s49 s50 s51 s52 s53 s54 s55 s56 s57 s58 s59 s60 s61 s62 s63 s64 s65 H K0 R := by kernel_rfl
def f30_I0 (s0 : Value) (s1 : Option Addr) (s2 : Value) (s4 : Value) (s6 : Value) (s7 : Value) (s8 : Value) (s9 : Value) (s10 : Value) (s11 : Value) (s12 : Value) (s13 : Value) (s14 : Value) (s15 : Value) (s16 : Value) (s17 : Value) (s18 : Value) (s19 : Value) (s20 : Value) (s21 : Value) (s22 : Value) (s23 : Value) (s24 : Value) (s25 : Value) (s26 : Value) (s27 : Value) (s28 : Value) (s29 : Value) (s30 : Value) (s31 : Value) (s32 : Value) (s33 : Value) (s34b : Option Addr) (s34l : Nat) (s34c : Nat) (s35 : Int) (s46 : Value) (s47 : Value) (s48 : Value) (s49 : Value) (s50 : Value) (s51 : Value) (s52 : Value) (s53 : Value) (s54 : Value) (s55 : Value) (s56 : Value) (s57 : Value) (s58 : Value) (s59 : Value) (s60 : Value) (s61 : Value) (s62 : Value) (s63 : Value) (s64 : Value) (s65 : Value) (J : Nat → ByteArray → Int → AH → Prop) (n : Nat) (tm : List Value) (H : AH) : Prop := ∃ (s3 : ByteArray) (s5 : Value) (s36 : Int) (s37 : Value) (s38 : Value) (s39 : Value) (s40 : Value) (s41 : Value) (s42 : Value) (s43 : Value) (s44 : Value) (s45 : Value), tm = [s0, (.pointer s1), s2, (.string s3), s4, s5, s6, s7, s8, s9, s10, s11, s12, s13, s14, s15, s16, s17, s18, s19, s20, s21, s22, s23, s24, s25, s26, s27, s28, s29, s30, s31, s32, s33, (.slice s34b s34l s34c), (.int .i64 s35), (.int .i64 s36), s37, s38, s39, s40, s41, s42, s43, s44, s45, s46, s47, s48, s49, s50, s51, s52, s53, s54, s55, s56, s57, s58, s59, s60, s61, s62, s63, s64, s65] ∧ J n s3 s36 H
theorem f30_I0_mk {s0 : Value} {s1 : Option Addr} {s2 : Value} {s3 : ByteArray} {s4 : Value} {s5 : Value} {s6 : Value} {s7 : Value} {s8 : Value} {s9 : Value} {s10 : Value} {s11 : Value} {s12 : Value} {s13 : Value} {s14 : Value} {s15 : Value} {s16 : Value} {s17 : Value} {s18 : Value} {s19 : Value} {s20 : Value} {s21 : Value} {s22 : Value} {s23 : Value} {s24 : Value} {s25 : Value} {s26 : Value} {s27 : Value} {s28 : Value} {s29 : Value} {s30 : Value} {s31 : Value} {s32 : Value} {s33 : Value} {s34b : Option Addr} {s34l : Nat} {s34c : Nat} {s35 : Int} {s36 : Int} {s37 : Value} {s38 : Value} {s39 : Value} {s40 : Value} {s41 : Value} {s42 : Value} {s43 : Value} {s44 : Value} {s45 : Value} {s46 : Value} {s47 : Value} {s48 : Value} {s49 : Value} {s50 : Value} {s51 : Value} {s52 : Value} {s53 : Value} {s54 : Value} {s55 : Value} {s56 : Value} {s57 : Value} {s58 : Value} {s59 : Value} {s60 : Value} {s61 : Value} {s62 : Value} {s63 : Value} {s64 : Value} {s65 : Value} {J : Nat → ByteArray → Int → AH → Prop} {n : Nat} {H : AH} (h : J n s3 s36 H) : f30_I0 s0 s1 s2 s4 s6 s7 s8 s9 s10 s11 s12 s13 s14 s15 s16 s17 s18 s19 s20 s21 s22 s23 s24 s25 s26 s27 s28 s29 s30 s31 s32 s33 s34b s34l s34c s35 s46 s47 s48 s49 s50 s51 s52 s53 s54 s55 s56 s57 s58 s59 s60 s61 s62 s63 s64 s65 J n [s0, (.pointer s1), s2, (.string s3), s4, s5, s6, s7, s8, s9, s10, s11, s12, s13, s14, s15, s16, s17, s18, s19, s20, s21, s22, s23, s24, s25, s26, s27, s28, s29, s30, s31, s32, s33, (.slice s34b s34l s34c), (.int .i64 s35), (.int .i64 s36), s37, s38, s39, s40, s41, s42, s43, s44, s45, s46, s47, s48, s49, s50, s51, s52, s53, s54, s55, s56, s57, s58, s59, s60, s61, s62, s63, s64, s65] H := ⟨_, _, _, _, _, _, _, _, _, _, _, _, rfl, h⟩
-- loop 0: carried 3:C, 36:?
theorem f30_L0_rule {s0 : Value} {s1 : Option Addr} {s2 : Value} {s3 : ByteArray} {s4 : Value} {s5 : Value} {s6 : Value} {s7 : Value} {s8 : Value} {s9 : Value} {s10 : Value} {s11 : Value} {s12 : Value} {s13 : Value} {s14 : Value} {s15 : Value} {s16 : Value} {s17 : Value} {s18 : Value} {s19 : Value} {s20 : Value} {s21 : Value} {s22 : Value} {s23 : Value} {s24 : Value} {s25 : Value} {s26 : Value} {s27 : Value} {s28 : Value} {s29 : Value} {s30 : Value} {s31 : Value} {s32 : Value} {s33 : Value} {s34b : Option Addr} {s34l : Nat} {s34c : Nat} {s35 : Int} {s36 : Int} {s37 : Value} {s38 : Value} {s39 : Value} {s40 : Value} {s41 : Value} {s42 : Value} {s43 : Value} {s44 : Value} {s45 : Value} {s46 : Value} {s47 : Value} {s48 : Value} {s49 : Value} {s50 : Value} {s51 : Value} {s52 : Value} {s53 : Value} {s54 : Value} {s55 : Value} {s56 : Value} {s57 : Value} {s58 : Value} {s59 : Value} {s60 : Value} {s61 : Value} {s62 : Value} {s63 : Value} {s64 : Value} {s65 : Value} {H : AH} {R : AEnd → AH → Prop} (J : Nat → ByteArray → Int → AH → Prop) (n : Nat) (h0 : J n s3 s36 H)
  (step : ∀ (n : Nat) (s3 : ByteArray) (s36 : Int) (H : AH), J n s3 s36 H → ∀ (s5 : Value) (s37 : Value) (s38 : Value) (s39 : Value) (s40 : Value) (s41 : Value) (s42 : Value) (s43 : Value) (s44 : Value) (s45 : Value), f30_R0 s0 s1 s2 s3 s4 s5 s6 s7 s8 s9 s10 s11 s12 s13 s14 s15 s16 s17 s18 s19 s20 s21 s22 s23 s24 s25 s26 s27 s28 s29 s30 s31 s32 s33 s34b s34l s34c s35 s36 s37 s38 s39 s40 s41 s42 s43 s44 s45 s46 s47 s48 s49 s50 s51 s52 s53 s54 s55 s56 s57 s58 s59 s60 s61 s62 s63 s64 s65 H (fun tm H => ∃ m, m < n ∧ f30_I0 s0 s1 s2 s4 s6 s7 s8 s9 s10 s11 s12 s13 s14 s15 s16 s17 s18 s19 s20 s21 s22 s23 s24 s25 s26 s27 s28 s29 s30 s31 s32 s33 s34b s34l s34c s35 s46 s47 s48 s49 s50 s51 s52 s53 s54 s55 s56 s57 s58 s59 s60 s61 s62 s63 s64 s65 J m tm H) R) : f30_L0 R [s0, (.pointer s1), s2, (.string s3), s4, s5, s6, s7, s8, s9, s10, s11, s12, s13, s14, s15, s16, s17, s18, s19, s20, s21, s22, s23, s24, s25, s26, s27, s28, s29, s30, s31, s32, s33, (.slice s34b s34l s34c), (.int .i64 s35), (.int .i64 s36), s37, s38, s39, s40, s41, s42, s43, s44, s45, s46, s47, s48, s49, s50, s51, s52, s53, s54, s55, s56, s57, s58, s59, s60, s61, s62, s63, s64, s65] H :=
  awpF_loop (f30_I0 s0 s1 s2 s4 s6 s7 s8 s9 s10 s11 s12 s13 s14 s15 s16 s17 s18 s19 s20 s21 s22 s23 s24 s25 s26 s27 s28 s29 s30 s31 s32 s33 s34b s34l s34c s35 s46 s47 s48 s49 s50 s51 s52 s53 s54 s55 s56 s57 s58 s59 s60 s61 s62 s63 s64 s65 J) n (f30_I0_mk h0) (by
    intro n tm H hh
    exact Exists.elim hh fun s3 hh => Exists.elim hh fun s5 hh => Exists.elim hh fun s36 hh => Exists.elim hh fun s37 hh => Exists.elim hh fun s38 hh => Exists.elim hh fun s39 hh => Exists.elim hh fun s40 hh => Exists.elim hh fun s41 hh => Exists.elim hh fun s42 hh => Exists.elim hh fun s43 hh => Exists.elim hh fun s44 hh => Exists.elim hh fun s45 hh => And.elim (fun e h =>
     (by subst e; exact Eq.mpr (f30_R0_eq s0 s1 s2 s3 s4 s5 s6 s7 s8 s9 s10 s11 s12 s13 s14 s15 s16 s17 s18 s19 s20 s21 s22 s23 s24 s25 s26 s27 s28 s29 s30 s31 s32 s33 s34b s34l s34c s35 s36 s37 s38 s39 s40 s41 s42 s43 s44 s45 s46 s47 s48 s49 s50 s51 s52 s53 s54 s55 s56 s57 s58 s59 s60 s61 s62 s63 s64 s65 H _ R) (step n s3 s36 H h s5 s37 s38 s39 s40 s41 s42 s43 s44 s45))) hh)
def f30_R1 (s0 : Value) (s1 : Value) (s2 : Value) (s3 : ByteArray) (s4 : Value) (s5 : Value) (s6 : Value) (s7 : Value) (s8 : Value) (s9 : Value) (s10 : Value) (s11 : Value) (s12 : Value) (s13 : Value) (s14 : Value) (s15 : Value) (s16 : Value) (s17 : Value) (s18 : Value) (s19 : Value) (s20 : Value) (s21 : Value) (s22 : Value) (s23 : Value) (s24 : Value) (s25 : Value) (s26 : Value) (s27 : Value) (s28 : Value) (s29 : Value) (s30 : Value) (s31 : Value) (s32 : Value) (s33 : Value) (s34 : Value) (s35 : Value) (s36 : Value) (s37 : Value) (s38 : Value) (s39 : Value) (s40 : Value) (s41 : Value) (s42 : Value) (s43 : Value) (s44 : Value) (s45 : Value) (s46 : Value) (s47 : Value) (s48 : Value) (s49 : Value) (s50 : Value) (s51 : Value) (s52 : Value) (s53 : Value) (s54b : Option Addr) (s54l : Nat) (s54c : Nat) (s55 : Int) (s56 : Int) (s57 : Value) (s58 : Value) (s59 : Value) (s60 : Value) (s61 : Value) (s62 : Value) (s63 : Value) (s64 : Value) (s65 : Value) (H : AH) (K1 : List Value → AH → Prop) (R : AEnd → AH → Prop) : Prop :=
 wIf (decide (s56 < s55))
 (wIx s54b s54l 4 s56 fun i25 k26 =>
 ldI .i64 i25 k26 H fun n27 =>
 ldS i25 (k26 + 1) H fun t28 =>
 ldL i25 (k26 + 2) H fun z29b z29l z29c =>
 ldL i25 (k26 + 3) H fun z30b z30l z30c =>
 wNew [(.int .i64 0), (.string ({ data := #[] })), (.slice none 0 0), (.slice none 0 0)] H fun i31 H32 =>
 wSt i31 0 [(.int .i64 n27), (.string t28), (.slice z29b z29l z29c), (.slice z30b z30l z30c)] H32 fun H33 =>
 ldI .i64 i31 0 H33 fun n34 =>
 ldS i31 1 H33 fun t35 =>
 ldL i31 2 H33 fun z36b z36l z36c =>
 ldL i31 3 H33 fun z37b z37l z37c =>
 wCall Try.prog 28 [(.agg #[(.int .i64 n34), (.string t35), (.slice z36b z36l z36c), (.slice z37b z37l z37c)])] H33 (fun r38 H39 =>
 opS r38 fun t42 =>
 wCat s3 t42 fun t43 =>
 K1 [s0, s1, s2, (.string t43), s4, s5, s6, (.pointer (some ⟨i31, 0, none⟩)), s8, s9, s10, s11, s12, s13, s14, s15, s16, s17, s18, s19, s20, s21, s22, s23, s24, s25, s26, s27, s28, s29, s30, s31, s32, s33, s34, s35, s36, s37, s38, s39, s40, s41, s42, s43, s44, s45, s46, s47, s48, s49, s50, s51, s52, s53, (.slice s54b s54l s54c), (.int .i64 s55), (.int .i64 (IntKind.i64.wrap (s56 + 1))), (.bool true), (.pointer (some ⟨i25, k26, none⟩)), (.agg #[(.int .i64 n27), (.string t28), (.slice z29b z29l z29c), (.slice z30b z30l z30c)]), (.string s3), (.agg #[(.int .i64 n34), (.string t35), (.slice z36b z36l z36c), (.slice z37b z37l z37c)]), (.string t42), (.string t43), (.int .i64 (IntKind.i64.wrap (s56 + 1))), s65] H39) (fun v41 H40 => R (.panic v41) H40))
 (R (.ret (.string s3)) H)
theorem f30_R1_eq (s0 : Value) (s1 : Value) (s2 : Value) (s3 : ByteArray) (s4 : Value) (s5 : Value) (s6 : Value) (s7 : Value) (s8 : Value) (s9 : Value) (s10 : Value) (s11 : Value) (s12 : Value) (s13 : Value) (s14 : Value) (s15 : Value) (s16 : Value) (s17 : Value) (s18 : Value) (s19 : Value) (s20 : Value) (s21 : Value) (s22 : Value) (s23 : Value) (s24 : Value) (s25 : Value) (s26 : Value) (s27 : Value) (s28 : Value) (s29 : Value) (s30 : Value) (s31 : Value) (s32 : Value) (s33 : Value) (s34 : Value) (s35 : Value) (s36 : Value) (s37 : Value) (s38 : Value) (s39 : Value) (s40 : Value) (s41 : Value) (s42 : Value) (s43 : Value) (s44 : Value) (s45 : Value) (s46 : Value) (s47 : Value) (s48 : Value) (s49 : Value) (s50 : Value) (s51 : Value) (s52 : Value) (s53 : Value) (s54b : Option Addr) (s54l : Nat) (s54c : Nat) (s55 : Int) (s56 : Int) (s57 : Value) (s58 : Value) (s59 : Value) (s60 : Value) (s61 : Value) (s62 : Value) (s63 : Value) (s64 : Value) (s65 : Value) (H : AH) (K1 : List Value → AH → Prop) (R : AEnd → AH → Prop) : awpF Try.prog (codeAt f30_c [1, 1, 1, 1, 0, 1, 0, 0]) (thenF K1 (f30_Q1 R)) [s0, s1, s2, (.string s3), s4, s5, s6, s7, s8, s9, s10, s11, s12, s13, s14, s15, s16, s17, s18, s19, s20, s21, s22, s23, s24, s25, s26, s27, s28, s29, s30, s31, s32, s33, s34, s35, s36, s37, s38, s39, s40, s41, s42, s43, s44, s45, s46, s47, s48, s49, s50, s51, s52, s53, (.slice s54b s54l s54c), (.int .i64 s55), (.int .i64 s56), s57, s58, s59, s60, s61, s62, s63, s64, s65] H = f30_R1 s0 s1 s2 s3 s4 s5 s6 s7 s8 s9 s10 s11 s12 s13 s14 s15 s16 s17 s18 s19 s20 s21 s22 s23 s24 s25 s26 s27 s28 s29 s30 s31 s32 s33 s34 s35 s36 s37 s38 s39 s40 s41 s42 s43 s44 s45 s46 s47 s48 s49 s50 s51 s52 s53 s54b s54l s54c s55 s56 s57 s58 s59 s60 s61 s62 s63 s64 s65 H K1 R := by kernel_rfl
def f30_I1 (s0 : Value) (s1 : Value) (s2 : Value) (s4 : Value) (s5 : Value) (s6 : Value) (s8 : Value) (s9 : Value) (s10 : Value) (s11 : Value) (s12 : Value) (s13 : Value) (s14 : Value) (s15 : Value) (s16 : Value) (s17 : Value) (s18 : Value) (s19 : Value) (s20 : Value) (s21 : Value) (s22 : Value) (s23 : Value) (s24 : Value) (s25 : Value) (s26 : Value) (s27 : Value) (s28 : Value) (s29 : Value) (s30 : Value) (s31 : Value) (s32 : Value) (s33 : Value) (s34 : Value) (s35 : Value) (s36 : Value) (s37 : Value) (s38 : Value) (s39 : Value) (s40 : Value) (s41 : Value) (s42 : Value) (s43 : Value) (s44 : Value) (s45 : Value) (s46 : Value) (s47 : Value) (s48 : Value) (s49 : Value) (s50 : Value) (s51 : Value) (s52 : Value) (s53 : Value) (s54b : Option Addr) (s54l : Nat) (s54c : Nat) (s55 : Int) (s65 : Value) (J : Nat → ByteArray → Int → AH → Prop) (n : Nat) (tm : List Value) (H : AH) : Prop := ∃ (s3 : ByteArray) (s7 : Value) (s56 : Int) (s57 : Value) (s58 : Value) (s59 : Value) (s60 : Value) (s61 : Value) (s62 : Value) (s63 : Value) (s64 : Value), tm = [s0, s1, s2, (.string s3), s4, s5, s6, s7, s8, s9, s10, s11, s12, s13, s14, s15, s16, s17, s18, s19, s20, s21, s22, s23, s24, s25, s26, s27, s28, s29, s30, s31, s32, s33, s34, s35, s36, s37, s38, s39, s40, s41, s42, s43, s44, s45, s46, s47, s48, s49, s50, s51, s52, s53, (.slice s54b s54l s54c), (.int .i64 s55), (.int .i64 s56), s57, s58, s59, s60, s61, s62, s63, s64, s65] ∧ J n s3 s56 H
theorem f30_I1_mk {s0 : Value} {s1 : Value} {s2 : Value} {s3 : ByteArray} {s4 : Value} {s5 : Value} {s6 : Value} {s7 : Value} {s8 : Value} {s9 : Value} {s10 : Value} {s11 : Value} {s12 : Value} {s13 : Value} {s14 : Value} {s15 : Value} {s16 : Value} {s17 : Value} {s18 : Value} {s19 : Value} {s20 : Value} {s21 : Value} {s22 : Value} {s23 : Value} {s24 : Value} {s25 : Value} {s26 : Value} {s27 : Value} {s28 : Value} {s29 : Value} {s30 : Value} {s31 : Value} {s32 : Value} {s33 : Value} {s34 : Value} {s35 : Value} {s36 : Value} {s37 : Value} {s38 : Value} {s39 : Value} {s40 : Value} {s41 : Value} {s42 : Value} {s43 : Value} {s44 : Value} {s45 : Value} {s46 : Value} {s47 : Value} {s48 : Value} {s49 : Value} {s50 : Value} {s51 : Value} {s52 : Value} {s53 : Value} {s54b : Option Addr} {s54l : Nat} {s54c : Nat} {s55 : Int} {s56 : Int} {s57 : Value} {s58 : Value} {s59 : Value} {s60 : Value} {s61 : Value} {s62 : Value} {s63 : Value} {s64 : Value} {s65 : Value} {J : Nat → ByteArray → Int → AH → Prop} {n : Nat} {H : AH} (h : J n s3 s56 H) : f30_I1 s0 s1 s2 s4 s5 s6 s8 s9 s10 s11 s12 s13 s14 s15 s16 s17 s18 s19 s20 s21 s22 s23 s24 s25 s26 s27 s28 s29 s30 s31 s32 s33 s34 s35 s36 s37 s38 s39 s40 s41 s42 s43 s44 s45 s46 s47 s48 s49 s50 s51 s52 s53 s54b s54l s54c s55 s65 J n [s0, s1, s2, (.string s3), s4, s5, s6, s7, s8, s9, s10, s11, s12, s13, s14, s15, s16, s17, s18, s19, s20, s21, s22, s23, s24, s25, s26, s27, s28, s29, s30, s31, s32, s33, s34, s35, s36, s37, s38, s39, s40, s41, s42, s43, s44, s45, s46, s47, s48, s49, s50, s51, s52, s53, (.slice s54b s54l s54c), (.int .i64 s55), (.int .i64 s56), s57, s58, s59, s60, s61, s62, s63, s64, s65] H := ⟨_, _, _, _, _, _, _, _, _, _, _, rfl, h⟩
-- loop 1: carried 3:C, 56:?
theorem f30_L1_rule {s0 : Value} {s1 : Value} {s2 : Value} {s3 : ByteArray} {s4 : Value} {s5 : Value} {s6 : Value} {s7 : Value} {s8 : Value} {s9 : Value} {s10 : Value} {s11 : Value} {s12 : Value} {s13 : Value} {s14 : Value} {s15 : Value} {s16 : Value} {s17 : Value} {s18 : Value} {s19 : Value} {s20 : Value} {s21 : Value} {s22 : Value} {s23 : Value} {s24 : Value} {s25 : Value} {s26 : Value} {s27 : Value} {s28 : Value} {s29 : Value} {s30 : Value} {s31 : Value} {s32 : Value} {s33 : Value} {s34 : Value} {s35 : Value} {s36 : Value} {s37 : Value} {s38 : Value} {s39 : Value} {s40 : Value} {s41 : Value} {s42 : Value} {s43 : Value} {s44 : Value} {s45 : Value} {s46 : Value} {s47 : Value} {s48 : Value} {s49 : Value} {s50 : Value} {s51 : Value} {s52 : Value} {s53 : Value} {s54b : Option Addr} {s54l : Nat} {s54c : Nat} {s55 : Int} {s56 : Int} {s57 : Value} {s58 : Value} {s59 : Value} {s60 : Value} {s61 : Value} {s62 : Value} {s63 : Value} {s64 : Value} {s65 : Value} {H : AH} {R : AEnd → AH → Prop} (J : Nat → ByteArray → Int → AH → Prop) (n : Nat) (h0 : J n s3 s56 H)
  (step : ∀ (n : Nat) (s3 : ByteArray) (s56 : Int) (H : AH), J n s3 s56 H → ∀ (s7 : Value) (s57 : Value) (s58 : Value) (s59 : Value) (s60 : Value) (s61 : Value) (s62 : Value) (s63 : Value) (s64 : Value), f30_R1 s0 s1 s2 s3 s4 s5 s6 s7 s8 s9 s10 s11 s12 s13 s14 s15 s16 s17 s18 s19 s20 s21 s22 s23 s24 s25 s26 s27 s28 s29 s30 s31 s32 s33 s34 s35 s36 s37 s38 s39 s40 s41 s42 s43 s44 s45 s46 s47 s48 s49 s50 s51 s52 s53 s54b s54l s54c s55 s56 s57 s58 s59 s60 s61 s62 s63 s64 s65 H (fun tm H => ∃ m, m < n ∧ f30_I1 s0 s1 s2 s4 s5 s6 s8 s9 s10 s11 s12 s13 s14 s15 s16 s17 s18 s19 s20 s21 s22 s23 s24 s25 s26 s27 s28 s29 s30 s31 s32 s33 s34 s35 s36 s37 s38 s39 s40 s41 s42 s43 s44 s45 s46 s47 s48 s49 s50 s51 s52 s53 s54b s54l s54c s55 s65 J m tm H) R) : f30_L1 R [s0, s1, s2, (.string s3), s4, s5, s6, s7, s8, s9, s10, s11, s12, s13, s14, s15, s16, s17, s18, s19, s20, s21, s22, s23, s24, s25, s26, s27, s28, s29, s30, s31, s32, s33, s34, s35, s36, s37, s38, s39, s40, s41, s42, s43, s44, s45, s46, s47, s48, s49, s50, s51, s52, s53, (.slice s54b s54l s54c), (.int .i64 s55), (.int .i64 s56), s57, s58, s59, s60, s61, s62, s63, s64, s65] H :=
  awpF_loop (f30_I1 s0 s1 s2 s4 s5 s6 s8 s9 s10 s11 s12 s13 s14 s15 s16 s17 s18 s19 s20 s21 s22 s23 s24 s25 s26 s27 s28 s29 s30 s31 s32 s33 s34 s35 s36 s37 s38 s39 s40 s41 s42 s43 s44 s45 s46 s47 s48 s49 s50 s51 s52 s53 s54b s54l s54c s55 s65 J) n (f30_I1_mk h0) (by
    intro n tm H hh
    exact Exists.elim hh fun s3 hh => Exists.elim hh fun s7 hh => Exists.elim hh fun s56 hh => Exists.elim hh fun s57 hh => Exists.elim hh fun s58 hh => Exists.elim hh fun s59 hh => Exists.elim hh fun s60 hh => Exists.elim hh fun s61 hh => Exists.elim hh fun s62 hh => Exists.elim hh fun s63 hh => Exists.elim hh fun s64 hh => And.elim (fun e h =>
     (by subst e; exact Eq.mpr (f30_R1_eq s0 s1 s2 s3 s4 s5 s6 s7 s8 s9 s10 s11 s12 s13 s14 s15 s16 s17 s18 s19 s20 s21 s22 s23 s24 s25 s26 s27 s28 s29 s30 s31 s32 s33 s34 s35 s36 s37 s38 s39 s40 s41 s42 s43 s44 s45 s46 s47 s48 s49 s50 s51 s52 s53 s54b s54l s54c s55 s56 s57 s58 s59 s60 s61 s62 s63 s64 s65 H _ R) (step n s3 s56 H h s7 s57 s58 s59 s60 s61 s62 s63 s64))) hh)
def f30_B (x0_0 : Int) (x0_1 : ByteArray) (x0_2 : ByteArray) (x0_3 : Int) (x0_4b : Option Addr) (x0_4l : Nat) (x0_4c : Nat) (x0_5b : Option Addr) (x0_5l : Nat) (x0_5c : Nat) (x0_6b : Option Addr) (x0_6l : Nat) (x0_6c : Nat) (H : AH) (R : AEnd → AH → Prop) : Prop :=
 wNew [(.int .i64 x0_0), (.string x0_1), (.string x0_2), (.int .i64 x0_3), (.slice x0_4b x0_4l x0_4c), (.slice x0_5b x0_5l x0_5c), (.slice x0_6b x0_6l x0_6c)] H fun i44 H45 =>
 ldI .i64 i44 0 H45 fun n46 =>
 ldI .i64 i44 3 H45 fun n47 =>
 ldS i44 1 H45 fun t48 =>
 ldS i44 2 H45 fun t49 =>
 (wCall Try.prog 68 [(.int .i64 n46)] H45 (fun r50 H51 =>
 opS r50 fun t54 =>
 wPin i44 2 [(.string t49)] H51 <|
 wPin i44 1 [(.string t48)] H51 <|
 wPin i44 3 [(.int .i64 n47)] H51 <|
 (wCall Try.prog 68 [(.int .i64 n47)] H51 (fun r55 H56 =>
 opS r55 fun t59 =>
 wPin i44 2 [(.string t49)] H56 <|
 wPin i44 1 [(.string t48)] H56 <|
 wCat t54 t59 fun t60 =>
 (wCall Try.prog 69 [(.string t48)] H56 (fun r61 H62 =>
 opS r61 fun t65 =>
 wPin i44 2 [(.string t49)] H62 <|
 wCat t60 t65 fun t66 =>
 (wCall Try.prog 69 [(.string t49)] H62 (fun r67 H68 =>
 opS r67 fun t71 =>
 wCat t66 t71 fun t72 =>
 (ldL i44 4 H68 fun z73b z73l z73c =>
 (wCall Try.prog 72 [(.slice z73b z73l z73c)] H68 (fun r74 H75 =>
 opS r74 fun t78 =>
 wCat t72 t78 fun t79 =>
 ldL i44 5 H75 fun z80b z80l z80c =>
 wCall Try.prog 70 [(.int .u64 (IntKind.u64.wrap (z80l : Int)))] H75 (fun r81 H82 =>
 opS r81 fun t85 =>
 wCat t79 t85 fun t86 =>
 f30_J0 R [(.agg #[(.int .i64 x0_0), (.string x0_1), (.string x0_2), (.int .i64 x0_3), (.slice x0_4b x0_4l x0_4c), (.slice x0_5b x0_5l x0_5c), (.slice x0_6b x0_6l x0_6c)]), (.pointer (some ⟨i44, 0, none⟩)), (.string ({ data := #[] })), (.string t86), undef, undef, undef, undef, (.pointer (some ⟨i44, 0, none⟩)), (.int .i64 n46), (.string t54), (.pointer (some ⟨i44, 3, none⟩)), (.int .i64 n47), (.string t59), (.string t60), (.pointer (some ⟨i44, 1, none⟩)), (.string t48), (.string t65), (.string t66), (.pointer (some ⟨i44, 2, none⟩)), (.string t49), (.string t71), (.string t72), (.pointer (some ⟨i44, 4, none⟩)), (.slice z73b z73l z73c), (.string t78), (.string t79), (.pointer (some ⟨i44, 5, none⟩)), (.slice z80b z80l z80c), (.int .i64 (z80l : Int)), (.int .u64 (IntKind.u64.wrap (z80l : Int))), (.string t85), (.string t86), undef, undef, undef, undef, undef, undef, undef, undef, undef, undef, undef, undef, undef, undef, undef, undef, undef, undef, undef, undef, undef, undef, undef, undef, undef, undef, undef, undef, undef, undef, undef, undef, undef] H82) (fun v84 H83 => R (.panic v84) H83)) (fun v77 H76 => R (.panic v77) H76)) ∧
 (ldL i44 5 H68 fun z87b z87l z87c =>
 wCall Try.prog 72 [(.slice z73b z73l z73c)] H68 (fun r88 H89 =>
 opS r88 fun t92 =>
 wCat t72 t92 fun t93 =>
 wCall Try.prog 70 [(.int .u64 (IntKind.u64.wrap (z87l : Int)))] H89 (fun r94 H95 =>
 opS r94 fun t98 =>
 wCat t93 t98 fun t99 =>
 f30_J0 R [(.agg #[(.int .i64 x0_0), (.string x0_1), (.string x0_2), (.int .i64 x0_3), (.slice x0_4b x0_4l x0_4c), (.slice x0_5b x0_5l x0_5c), (.slice x0_6b x0_6l x0_6c)]), (.pointer (some ⟨i44, 0, none⟩)), (.string ({ data := #[] })), (.string t99), undef, undef, undef, undef, (.pointer (some ⟨i44, 0, none⟩)), (.int .i64 n46), (.string t54), (.pointer (some ⟨i44, 3, none⟩)), (.int .i64 n47), (.string t59), (.string t60), (.pointer (some ⟨i44, 1, none⟩)), (.string t48), (.string t65), (.string t66), (.pointer (some ⟨i44, 2, none⟩)), (.string t49), (.string t71), (.string t72), (.pointer (some ⟨i44, 4, none⟩)), (.slice z73b z73l z73c), (.string t92), (.string t93), (.pointer (some ⟨i44, 5, none⟩)), (.slice z87b z87l z87c), (.int .i64 (z87l : Int)), (.int .u64 (IntKind.u64.wrap (z87l : Int))), (.string t98), (.string t99), undef, undef, undef, undef, undef, undef, undef, undef, undef, undef, undef, undef, undef, undef, undef, undef, undef, undef, undef, undef, undef, undef, undef, undef, undef, undef, undef, undef, undef, undef, undef, undef, undef] H95) (fun v97 H96 => R (.panic v97) H96)) (fun v91 H90 => R (.panic v91) H90))) ∧
 (ldL i44 5 H68 fun z100b z100l z100c =>
 ldL i44 4 H68 fun z101b z101l z101c =>
 wCall Try.prog 72 [(.slice z101b z101l z101c)] H68 (fun r102 H103 =>
 opS r102 fun t106 =>
 wCat t72 t106 fun t107 =>
 wCall Try.prog 70 [(.int .u64 (IntKind.u64.wrap (z100l : Int)))] H103 (fun r108 H109 =>
 opS r108 fun t112 =>
 wCat t107 t112 fun t113 =>
 f30_J0 R [(.agg #[(.int .i64 x0_0), (.string x0_1), (.string x0_2), (.int .i64 x0_3), (.slice x0_4b x0_4l x0_4c), (.slice x0_5b x0_5l x0_5c), (.slice x0_6b x0_6l x0_6c)]), (.pointer (some ⟨i44, 0, none⟩)), (.string ({ data := #[] })), (.string t113), undef, undef, undef, undef, (.pointer (some ⟨i44, 0, none⟩)), (.int .i64 n46), (.string t54), (.pointer (some ⟨i44, 3, none⟩)), (.int .i64 n47), (.string t59), (.string t60), (.pointer (some ⟨i44, 1, none⟩)), (.string t48), (.string t65), (.string t66), (.pointer (some ⟨i44, 2, none⟩)), (.string t49), (.string t71), (.string t72), (.pointer (some ⟨i44, 4, none⟩)), (.slice z101b z101l z101c), (.string t106), (.string t107), (.pointer (some ⟨i44, 5, none⟩)), (.slice z100b z100l z100c), (.int .i64 (z100l : Int)), (.int .u64 (IntKind.u64.wrap (z100l : Int))), (.string t112), (.string t113), undef, undef, undef, undef, undef, undef, undef, undef, undef, undef, undef, undef, undef, undef, undef, undef, undef, undef, undef, undef, undef, undef, undef, undef, undef, undef, undef, undef, undef, undef, undef, undef, undef] H109) (fun v111 H110 => R (.panic v111) H110)) (fun v105 H104 => R (.panic v105) H104))) (fun v70 H69 => R (.panic v70) H69)) ∧
 (ldL i44 4 H62 fun z114b z114l z114c =>
 wPin i44 2 [(.string t49)] H62 <|
 (wCall Try.prog 69 [(.string t49)] H62 (fun r115 H116 =>
 opS r115 fun t119 =>
 wCat t66 t119 fun t120 =>
 (wCall Try.prog 72 [(.slice z114b z114l z114c)] H116 (fun r121 H122 =>
 opS r121 fun t125 =>
 wCat t120 t125 fun t126 =>
 ldL i44 5 H122 fun z127b z127l z127c =>
 wCall Try.prog 70 [(.int .u64 (IntKind.u64.wrap (z127l : Int)))] H122 (fun r128 H129 =>
 opS r128 fun t132 =>
 wCat t126 t132 fun t133 =>
 f30_J0 R [(.agg #[(.int .i64 x0_0), (.string x0_1), (.string x0_2), (.int .i64 x0_3), (.slice x0_4b x0_4l x0_4c), (.slice x0_5b x0_5l x0_5c), (.slice x0_6b x0_6l x0_6c)]), (.pointer (some ⟨i44, 0, none⟩)), (.string ({ data := #[] })), (.string t133), undef, undef, undef, undef, (.pointer (some ⟨i44, 0, none⟩)), (.int .i64 n46), (.string t54), (.pointer (some ⟨i44, 3, none⟩)), (.int .i64 n47), (.string t59), (.string t60), (.pointer (some ⟨i44, 1, none⟩)), (.string t48), (.string t65), (.string t66), (.pointer (some ⟨i44, 2, none⟩)), (.string t49), (.string t119), (.string t120), (.pointer (some ⟨i44, 4, none⟩)), (.slice z114b z114l z114c), (.string t125), (.string t126), (.pointer (some ⟨i44, 5, none⟩)), (.slice z127b z127l z127c), (.int .i64 (z127l : Int)), (.int .u64 (IntKind.u64.wrap (z127l : Int))), (.string t132), (.string t133), undef, undef, undef, undef, undef, undef, undef, undef, undef, undef, undef, undef, undef, undef, undef, undef, undef, undef, undef, undef, undef, undef, undef, undef, undef, undef, undef, undef, undef, undef, undef, undef, undef] H129) (fun v131 H130 => R (.panic v131) H130)) (fun v124 H123 => R (.panic v124) H123)) ∧
 (ldL i44 5 H116 fun z134b z134l z134c =>
 wCall Try.prog 72 [(.slice z114b z114l z114c)] H116 (fun r135 H136 =>
 opS r135 fun t139 =>
 wCat t120 t139 fun t140 =>
 wCall Try.prog 70 [(.int .u64 (IntKind.u64.wrap (z134l : Int)))] H136 (fun r141 H142 =>
 opS r141 fun t145 =>
 wCat t140 t145 fun t146 =>
 f30_J0 R [(.agg #[(.int .i64 x0_0), (.string x0_1), (.string x0_2), (.int .i64 x0_3), (.slice x0_4b x0_4l x0_4c), (.slice x0_5b x0_5l x0_5c), (.slice x0_6b x0_6l x0_6c)]), (.pointer (some ⟨i44, 0, none⟩)), (.string ({ data := #[] })), (.string t146), undef, undef, undef, undef, (.pointer (some ⟨i44, 0, none⟩)), (.int .i64 n46), (.string t54), (.pointer (some ⟨i44, 3, none⟩)), (.int .i64 n47), (.string t59), (.string t60), (.pointer (some ⟨i44, 1, none⟩)), (.string t48), (.string t65), (.string t66), (.pointer (some ⟨i44, 2, none⟩)), (.string t49), (.string t119), (.string t120), (.pointer (some ⟨i44, 4, none⟩)), (.slice z114b z114l z114c), (.string t139), (.string t140), (.pointer (some ⟨i44, 5, none⟩)), (.slice z134b z134l z134c), (.int .i64 (z134l : Int)), (.int .u64 (IntKind.u64.wrap (z134l : Int))), (.string t145), (.string t146), undef, undef, undef, undef, undef, undef, undef, undef, undef, undef, undef, undef, undef, undef, undef, undef, undef, undef, undef, undef, undef, undef, undef, undef, undef, undef, undef, undef, undef, undef, undef, undef, undef] H142) (fun v144 H143 => R (.panic v144) H143)) (fun v138 H137 => R (.panic v138) H137))) (fun v118 H117 => R (.panic v118) H117)) ∧
 (ldL i44 5 H62 fun z147b z147l z147c =>
 wPin i44 2 [(.string t49)] H62 <|
 wCall Try.prog 69 [(.string t49)] H62 (fun r148 H149 =>
 opS r148 fun t152 =>
 wCat t66 t152 fun t153 =>
 wCall Try.prog 72 [(.slice z114b z114l z114c)] H149 (fun r154 H155 =>
 opS r154 fun t158 =>
 wCat t153 t158 fun t159 =>
 wCall Try.prog 70 [(.int .u64 (IntKind.u64.wrap (z147l : Int)))] H155 (fun r160 H161 =>
 opS r160 fun t164 =>
 wCat t159 t164 fun t165 =>
 f30_J0 R [(.agg #[(.int .i64 x0_0), (.string x0_1), (.string x0_2), (.int .i64 x0_3), (.slice x0_4b x0_4l x0_4c), (.slice x0_5b x0_5l x0_5c), (.slice x0_6b x0_6l x0_6c)]), (.pointer (some ⟨i44, 0, none⟩)), (.string ({ data := #[] })), (.string t165), undef, undef, undef, undef, (.pointer (some ⟨i44, 0, none⟩)), (.int .i64 n46), (.string t54), (.pointer (some ⟨i44, 3, none⟩)), (.int .i64 n47), (.string t59), (.string t60), (.pointer (some ⟨i44, 1, none⟩)), (.string t48), (.string t65), (.string t66), (.pointer (some ⟨i44, 2, none⟩)), (.string t49), (.string t152), (.string t153), (.pointer (some ⟨i44, 4, none⟩)), (.slice z114b z114l z114c), (.string t158), (.string t159), (.pointer (some ⟨i44, 5, none⟩)), (.slice z147b z147l z147c), (.int .i64 (z147l : Int)), (.int .u64 (IntKind.u64.wrap (z147l : Int))), (.string t164), (.string t165), undef, undef, undef, undef, undef, undef, undef, undef, undef, undef, undef, undef, undef, undef, undef, undef, undef, undef, undef, undef, undef, undef, undef, undef, undef, undef, undef, undef, undef, undef, undef, undef, undef] H161) (fun v163 H162 => R (.panic v163) H162)) (fun v157 H156 => R (.panic v157) H156)) (fun v151 H150 => R (.panic v151) H150))) ∧
 (ldL i44 5 H62 fun z166b z166l z166c =>
 wPin i44 2 [(.string t49)] H62 <|
 (wCall Try.prog 69 [(.string t49)] H62 (fun r167 H168 =>
 opS r167 fun t171 =>
 wCat t66 t171 fun t172 =>
 ldL i44 4 H168 fun z173b z173l z173c =>
 wCall Try.prog 72 [(.slice z173b z173l z173c)] H168 (fun r174 H175 =>
 opS r174 fun t178 =>
 wCat t172 t178 fun t179 =>
 wCall Try.prog 70 [(.int .u64 (IntKind.u64.wrap (z166l : Int)))] H175 (fun r180 H181 =>
 opS r180 fun t184 =>
 wCat t179 t184 fun t185 =>
 f30_J0 R [(.agg #[(.int .i64 x0_0), (.string x0_1), (.string x0_2), (.int .i64 x0_3), (.slice x0_4b x0_4l x0_4c), (.slice x0_5b x0_5l x0_5c), (.slice x0_6b x0_6l x0_6c)]), (.pointer (some ⟨i44, 0, none⟩)), (.string ({ data := #[] })), (.string t185), undef, undef, undef, undef, (.pointer (some ⟨i44, 0, none⟩)), (.int .i64 n46), (.string t54), (.pointer (some ⟨i44, 3, none⟩)), (.int .i64 n47), (.string t59), (.string t60), (.pointer (some ⟨i44, 1, none⟩)), (.string t48), (.string t65), (.string t66), (.pointer (some ⟨i44, 2, none⟩)), (.string t49), (.string t171), (.string t172), (.pointer (some ⟨i44, 4, none⟩)), (.slice z173b z173l z173c), (.string t178), (.string t179), (.pointer (some ⟨i44, 5, none⟩)), (.slice z166b z166l z166c), (.int .i64 (z166l : Int)), (.int .u64 (IntKind.u64.wrap (z166l : Int))), (.string t184), (.string t185), undef, undef, undef, undef, undef, undef, undef, undef, undef, undef, undef, undef, undef, undef, undef, undef, undef, undef, undef, undef, undef, undef, undef, undef, undef, undef, undef, undef, undef, undef, undef, undef, undef] H181) (fun v183 H182 => R (.panic v183) H182)) (fun v177 H176 => R (.panic v177) H176)) (fun v170 H169 => R (.panic v170) H169)) ∧
 (ldL i44 4 H62 fun z186b z186l z186c =>
 wPin i44 2 [(.string t49)] H62 <|
 wCall Try.prog 69 [(.string t49)] H62 (fun r187 H188 =>
 opS r187 fun t191 =>
 wCat t66 t191 fun t192 =>
 wCall Try.prog 72 [(.slice z186b z186l z186c)] H188 (fun r193 H194 =>
 opS r193 fun t197 =>
 wCat t192 t197 fun t198 =>
 wCall Try.prog 70 [(.int .u64 (IntKind.u64.wrap (z166l : Int)))] H194 (fun r199 H200 =>
 opS r199 fun t203 =>
 wCat t198 t203 fun t204 =>
 f30_J0 R [(.agg #[(.int .i64 x0_0), (.string x0_1), (.string x0_2), (.int .i64 x0_3), (.slice x0_4b x0_4l x0_4c), (.slice x0_5b x0_5l x0_5c), (.slice x0_6b x0_6l x0_6c)]), (.pointer (some ⟨i44, 0, none⟩)), (.string ({ data := #[] })), (.string t204), undef, undef, undef, undef, (.pointer (some ⟨i44, 0, none⟩)), (.int .i64 n46), (.string t54), (.pointer (some ⟨i44, 3, none⟩)), (.int .i64 n47), (.string t59), (.string t60), (.pointer (some ⟨i44, 1, none⟩)), (.string t48), (.string t65), (.string t66), (.pointer (some ⟨i44, 2, none⟩)), (.string t49), (.string t191), (.string t192), (.pointer (some ⟨i44, 4, none⟩)), (.slice z186b z186l z186c), (.string t197), (.string t198), (.pointer (some ⟨i44, 5, none⟩)), (.slice z166b z166l z166c), (.int .i64 (z166l : Int)), (.int .u64 (IntKind.u64.wrap (z166l : Int))), (.string t203), (.string t204), undef, undef, undef, undef, undef, undef, undef, undef, undef, undef, undef, undef, undef, undef, undef, undef, undef, undef, undef, undef, undef, undef, undef, undef, undef, undef, undef, undef, undef, undef, undef, undef, undef] H200) (fun v202 H201 => R (.panic v202) H201)) (fun v196 H195 => R (.panic v196) H195)) (fun v190 H189 => R (.panic v190) H189)))) (fun v64 H63 => R (.panic v64) H63)) ∧
 (ldL i44 4 H56 fun z205b z205l z205c =>
 wPin i44 2 [(.string t49)] H56 <|
 wPin i44 1 [(.string t48)] H56 <|
 (wCall Try.prog 69 [(.string t48)] H56 (fun r206 H207 =>
 opS r206 fun t210 =>
 wPin i44 2 [(.string t49)] H207 <|
 wCat t60 t210 fun t211 =>
 (wCall Try.prog 69 [(.string t49)] H207 (fun r212 H213 =>
 opS r212 fun t216 =>
 wCat t211 t216 fun t217 =>
 (wCall Try.prog 72 [(.slice z205b z205l z205c)] H213 (fun r218 H219 =>
 opS r218 fun t222 =>
 wCat t217 t222 fun t223 =>
 ldL i44 5 H219 fun z224b z224l z224c =>
 wCall Try.prog 70 [(.int .u64 (IntKind.u64.wrap (z224l : Int)))] H219 (fun r225 H226 =>
 opS r225 fun t229 =>
 wCat t223 t229 fun t230 =>
 f30_J0 R [(.agg #[(.int .i64 x0_0), (.string x0_1), (.string x0_2), (.int .i64 x0_3), (.slice x0_4b x0_4l x0_4c), (.slice x0_5b x0_5l x0_5c), (.slice x0_6b x0_6l x0_6c)]), (.pointer (some ⟨i44, 0, none⟩)), (.string ({ data := #[] })), (.string t230), undef, undef, undef, undef, (.pointer (some ⟨i44, 0, none⟩)), (.int .i64 n46), (.string t54), (.pointer (some ⟨i44, 3, none⟩)), (.int .i64 n47), (.string t59), (.string t60), (.pointer (some ⟨i44, 1, none⟩)), (.string t48), (.string t210), (.string t211), (.pointer (some ⟨i44, 2, none⟩)), (.string t49), (.string t216), (.string t217), (.pointer (some ⟨i44, 4, none⟩)), (.slice z205b z205l z205c), (.string t222), (.string t223), (.pointer (some ⟨i44, 5, none⟩)), (.slice z224b z224l z224c), (.int .i64 (z224l : Int)), (.int .u64 (IntKind.u64.wrap (z224l : Int))), (.string t229), (.string t230), undef, undef, undef, undef, undef, undef, undef, undef, undef, undef, undef, undef, undef, undef, undef, undef, undef, undef, undef, undef, undef, undef, undef, undef, undef, undef, undef, undef, undef, undef, undef, undef, undef] H226) (fun v228 H227 => R (.panic v228) H227)) (fun v221 H220 => R (.panic v221) H220)) ∧
 (ldL i44 5 H213 fun z231b z231l z231c =>
 wCall Try.prog 72 [(.slice z205b z205l z205c)] H213 (fun r232 H233 =>
 opS r232 fun t236 =>
 wCat t217 t236 fun t237 =>
 wCall Try.prog 70 [(.int .u64 (IntKind.u64.wrap (z231l : Int)))] H233 (fun r238 H239 =>
 opS r238 fun t242 =>
 wCat t237 t242 fun t243 =>
 f30_J0 R [(.agg #[(.int .i64 x0_0), (.string x0_1), (.string x0_2), (.int .i64 x0_3), (.slice x0_4b x0_4l x0_4c), (.slice x0_5b x0_5l x0_5c), (.slice x0_6b x0_6l x0_6c)]), (.pointer (some ⟨i44, 0, none⟩)), (.string ({ data := #[] })), (.string t243), undef, undef, undef, undef, (.pointer (some ⟨i44, 0, none⟩)), (.int .i64 n46), (.string t54), (.pointer (some ⟨i44, 3, none⟩)), (.int .i64 n47), (.string t59), (.string t60), (.pointer (some ⟨i44, 1, none⟩)), (.string t48), (.string t210), (.string t211), (.pointer (some ⟨i44, 2, none⟩)), (.string t49), (.string t216), (.string t217), (.pointer (some ⟨i44, 4, none⟩)), (.slice z205b z205l z205c), (.string t236), (.string t237), (.pointer (some ⟨i44, 5, none⟩)), (.slice z231b z231l z231c), (.int .i64 (z231l : Int)), (.int .u64 (IntKind.u64.wrap (z231l : Int))), (.string t242), (.string t243), undef, undef, undef, undef, undef, undef, undef, undef, undef, undef, undef, undef, undef, undef, undef, undef, undef, undef, undef, undef, undef, undef, undef, undef, undef, undef, undef, undef, undef, undef, undef, undef, undef] H239) (fun v241 H240 => R (.panic v241) H240)) (fun v235 H234 => R (.panic v235) H234))) (fun v215 H214 => R (.panic v215) H214)) ∧
 (ldL i44 5 H207 fun z244b z244l z244c =>
 wPin i44 2 [(.string t49)] H207 <|
 wCall Try.prog 69 [(.string t49)] H207 (fun r245 H246 =>
 opS r245 fun t249 =>
 wCat t211 t249 fun t250 =>
 wCall Try.prog 72 [(.slice z205b z205l z205c)] H246 (fun r251 H252 =>
 opS r251 fun t255 =>
 wCat t250 t255 fun t256 =>
 wCall Try.prog 70 [(.int .u64 (IntKind.u64.wrap (z244l : Int)))] H252 (fun r257 H258 =>
 opS r257 fun t261 =>
 wCat t256 t261 fun t262 =>
 f30_J0 R [(.agg #[(.int .i64 x0_0), (.string x0_1), (.string x0_2), (.int .i64 x0_3), (.slice x0_4b x0_4l x0_4c), (.slice x0_5b x0_5l x0_5c), (.slice x0_6b x0_6l x0_6c)]), (.pointer (some ⟨i44, 0, none⟩)), (.string ({ data := #[] })), (.string t262), undef, undef, undef, undef, (.pointer (some ⟨i44, 0, none⟩)), (.int .i64 n46), (.string t54), (.pointer (some ⟨i44, 3, none⟩)), (.int .i64 n47), (.string t59), (.string t60), (.pointer (some ⟨i44, 1, none⟩)), (.string t48), (.string t210), (.string t211), (.pointer (some ⟨i44, 2, none⟩)), (.string t49), (.string t249), (.string t250), (.pointer (some ⟨i44, 4, none⟩)), (.slice z205b z205l z205c), (.string t255), (.string t256), (.pointer (some ⟨i44, 5, none⟩)), (.slice z244b z244l z244c), (.int .i64 (z244l : Int)), (.int .u64 (IntKind.u64.wrap (z244l : Int))), (.string t261), (.string t262), undef, undef, undef, undef, undef, undef, undef, undef, undef, undef, undef, undef, undef, undef, undef, undef, undef, undef, undef, undef, undef, undef, undef, undef, undef, undef, undef, undef, undef, undef, undef, undef, undef] H258) (fun v260 H259 => R (.panic v260) H259)) (fun v254 H253 => R (.panic v254) H253)) (fun v248 H247 => R (.panic v248) H247))) (fun v209 H208 => R (.panic v209) H208)) ∧
 (ldL i44 5 H56 fun z263b z263l z263c =>
 wPin i44 2 [(.string t49)] H56 <|
 wPin i44 1 [(.string t48)] H56 <|
 wCall Try.prog 69 [(.string t48)] H56 (fun r264 H265 =>
 opS r264 fun t268 =>
 wPin i44 2 [(.string t49)] H265 <|
 wCat t60 t268 fun t269 =>
 wCall Try.prog 69 [(.string t49)] H265 (fun r270 H271 =>
 opS r270 fun t274 =>
 wCat t269 t274 fun t275 =>
 wCall Try.prog 72 [(.slice z205b z205l z205c)] H271 (fun r276 H277 =>
 opS r276 fun t280 =>
 wCat t275 t280 fun t281 =>
 wCall Try.prog 70 [(.int .u64 (IntKind.u64.wrap (z263l : Int)))] H277 (fun r282 H283 =>
 opS r282 fun t286 =>
 wCat t281 t286 fun t287 =>
 f30_J0 R [(.agg #[(.int .i64 x0_0), (.string x0_1), (.string x0_2), (.int .i64 x0_3), (.slice x0_4b x0_4l x0_4c), (.slice x0_5b x0_5l x0_5c), (.slice x0_6b x0_6l x0_6c)]), (.pointer (some ⟨i44, 0, none⟩)), (.string ({ data := #[] })), (.string t287), undef, undef, undef, undef, (.pointer (some ⟨i44, 0, none⟩)), (.int .i64 n46), (.string t54), (.pointer (some ⟨i44, 3, none⟩)), (.int .i64 n47), (.string t59), (.string t60), (.pointer (some ⟨i44, 1, none⟩)), (.string t48), (.string t268), (.string t269), (.pointer (some ⟨i44, 2, none⟩)), (.string t49), (.string t274), (.string t275), (.pointer (some ⟨i44, 4, none⟩)), (.slice z205b z205l z205c), (.string t280), (.string t281), (.pointer (some ⟨i44, 5, none⟩)), (.slice z263b z263l z263c), (.int .i64 (z263l : Int)), (.int .u64 (IntKind.u64.wrap (z263l : Int))), (.string t286), (.string t287), undef, undef, undef, undef, undef, undef, undef, undef, undef, undef, undef, undef, undef, undef, undef, undef, undef, undef, undef, undef, undef, undef, undef, undef, undef, undef, undef, undef, undef, undef, undef, undef, undef] H283) (fun v285 H284 => R (.panic v285) H284)) (fun v279 H278 => R (.panic v279) H278)) (fun v273 H272 => R (.panic v273) H272)) (fun v267 H266 => R (.panic v267) H266))) ∧
 (ldL i44 5 H56 fun z288b z288l z288c =>
 wPin i44 2 [(.string t49)] H56 <|
 wPin i44 1 [(.string t48)] H56 <|
 (wCall Try.prog 69 [(.string t48)] H56 (fun r289 H290 =>
 opS r289 fun t293 =>
 wPin i44 2 [(.string t49)] H290 <|
 wCat t60 t293 fun t294 =>
 (wCall Try.prog 69 [(.string t49)] H290 (fun r295 H296 =>
 opS r295 fun t299 =>
 wCat t294 t299 fun t300 =>
 ldL i44 4 H296 fun z301b z301l z301c =>
 wCall Try.prog 72 [(.slice z301b z301l z301c)] H296 (fun r302 H303 =>
 opS r302 fun t306 =>
 wCat t300 t306 fun t307 =>
 wCall Try.prog 70 [(.int .u64 (IntKind.u64.wrap (z288l : Int)))] H303 (fun r308 H309 =>
 opS r308 fun t312 =>
 wCat t307 t312 fun t313 =>
 f30_J0 R [(.agg #[(.int .i64 x0_0), (.string x0_1), (.string x0_2), (.int .i64 x0_3), (.slice x0_4b x0_4l x0_4c), (.slice x0_5b x0_5l x0_5c), (.slice x0_6b x0_6l x0_6c)]), (.pointer (some ⟨i44, 0, none⟩)), (.string ({ data := #[] })), (.string t313), undef, undef, undef, undef, (.pointer (some ⟨i44, 0, none⟩)), (.int .i64 n46), (.string t54), (.pointer (some ⟨i44, 3, none⟩)), (.int .i64 n47), (.string t59), (.string t60), (.pointer (some ⟨i44, 1, none⟩)), (.string t48), (.string t293), (.string t294), (.pointer (some ⟨i44, 2, none⟩)), (.string t49), (.string t299), (.string t300), (.pointer (some ⟨i44, 4, none⟩)), (.slice z301b z301l z301c), (.string t306), (.string t307), (.pointer (some ⟨i44, 5, none⟩)), (.slice z288b z288l z288c), (.int .i64 (z288l : Int)), (.int .u64 (IntKind.u64.wrap (z288l : Int))), (.string t312), (.string t313), undef, undef, undef, undef, undef, undef, undef, undef, undef, undef, undef, undef, undef, undef, undef, undef, undef, undef, undef, undef, undef, undef, undef, undef, undef, undef, undef, undef, undef, undef, undef, undef, undef] H309) (fun v311 H310 => R (.panic v311) H310)) (fun v305 H304 => R (.panic v305) H304)) (fun v298 H297 => R (.panic v298) H297)) ∧
 (ldL i44 4 H290 fun z314b z314l z314c =>
 wPin i44 2 [(.string t49)] H290 <|
 wCall Try.prog 69 [(.string t49)] H290 (fun r315 H316 =>
 opS r315 fun t319 =>
 wCat t294 t319 fun t320 =>
 wCall Try.prog 72 [(.slice z314b z314l z314c)] H316 (fun r321 H322 =>
 opS r321 fun t325 =>
 wCat t320 t325 fun t326 =>
 wCall Try.prog 70 [(.int .u64 (IntKind.u64.wrap (z288l : Int)))] H322 (fun r327 H328 =>
 opS r327 fun t331 =>
 wCat t326 t331 fun t332 =>
 f30_J0 R [(.agg #[(.int .i64 x0_0), (.string x0_1), (.string x0_2), (.int .i64 x0_3), (.slice x0_4b x0_4l x0_4c), (.slice x0_5b x0_5l x0_5c), (.slice x0_6b x0_6l x0_6c)]), (.pointer (some ⟨i44, 0, none⟩)), (.string ({ data := #[] })), (.string t332), undef, undef, undef, undef, (.pointer (some ⟨i44, 0, none⟩)), (.int .i64 n46), (.string t54), (.pointer (some ⟨i44, 3, none⟩)), (.int .i64 n47), (.string t59), (.string t60), (.pointer (some ⟨i44, 1, none⟩)), (.string t48), (.string t293), (.string t294), (.pointer (some ⟨i44, 2, none⟩)), (.string t49), (.string t319), (.string t320), (.pointer (some ⟨i44, 4, none⟩)), (.slice z314b z314l z314c), (.string t325), (.string t326), (.pointer (some ⟨i44, 5, none⟩)), (.slice z288b z288l z288c), (.int .i64 (z288l : Int)), (.int .u64 (IntKind.u64.wrap (z288l : Int))), (.string t331), (.string t332), undef, undef, undef, undef, undef, undef, undef, undef, undef, undef, undef, undef, undef, undef, undef, undef, undef, undef, undef, undef, undef, undef, undef, undef, undef, undef, undef, undef, undef, undef, undef, undef, undef] H328) (fun v330 H329 => R (.panic v330) H329)) (fun v324 H323 => R (.panic v324) H323)) (fun v318 H317 => R (.panic v318) H317))) (fun v292 H291 => R (.panic v292) H291)) ∧
 (ldL i44 4 H56 fun z333b z333l z333c =>
 wPin i44 2 [(.string t49)] H56 <|
 wPin i44 1 [(.string t48)] H56 <|
 wCall Try.prog 69 [(.string t48)] H56 (fun r334 H335 =>
 opS r334 fun t338 =>
 wPin i44 2 [(.string t49)] H335 <|
 wCat t60 t338 fun t339 =>
 wCall Try.prog 69 [(.string t49)] H335 (fun r340 H341 =>
 opS r340 fun t344 =>
 wCat t339 t344 fun t345 =>
 wCall Try.prog 72 [(.slice z333b z333l z333c)] H341 (fun r346 H347 =>
 opS r346 fun t350 =>
 wCat t345 t350 fun t351 =>
 wCall Try.prog 70 [(.int .u64 (IntKind.u64.wrap (z288l : Int)))] H347 (fun r352 H353 =>
 opS r352 fun t356 =>
 wCat t351 t356 fun t357 =>
 f30_J0 R [(.agg #[(.int .i64 x0_0), (.string x0_1), (.string x0_2), (.int .i64 x0_3), (.slice x0_4b x0_4l x0_4c), (.slice x0_5b x0_5l x0_5c), (.slice x0_6b x0_6l x0_6c)]), (.pointer (some ⟨i44, 0, none⟩)), (.string ({ data := #[] })), (.string t357), undef, undef, undef, undef, (.pointer (some ⟨i44, 0, none⟩)), (.int .i64 n46), (.string t54), (.pointer (some ⟨i44, 3, none⟩)), (.int .i64 n47), (.string t59), (.string t60), (.pointer (some ⟨i44, 1, none⟩)), (.string t48), (.string t338), (.string t339), (.pointer (some ⟨i44, 2, none⟩)), (.string t49), (.string t344), (.string t345), (.pointer (some ⟨i44, 4, none⟩)), (.slice z333b z333l z333c), (.string t350), (.string t351), (.pointer (some ⟨i44, 5, none⟩)), (.slice z288b z288l z288c), (.int .i64 (z288l : Int)), (.int .u64 (IntKind.u64.wrap (z288l : Int))), (.string t356), (.string t357), undef, undef, undef, undef, undef, undef, undef, undef, undef, undef, undef, undef, undef, undef, undef, undef, undef, undef, undef, undef, undef, undef, undef, undef, undef, undef, undef, undef, undef, undef, undef, undef, undef] H353) (fun v355 H354 => R (.panic v355) H354)) (fun v349 H348 => R (.panic v349) H348)) (fun v343 H342 => R (.panic v343) H342)) (fun v337 H336 => R (.panic v337) H336)))) (fun v58 H57 => R (.panic v58) H57)) ∧
 (ldL i44 4 H51 fun z358b z358l z358c =>
 wPin i44 2 [(.string t49)] H51 <|
 wPin i44 1 [(.string t48)] H51 <|
 wPin i44 3 [(.int .i64 n47)] H51 <|
 (wCall Try.prog 68 [(.int .i64 n47)] H51 (fun r359 H360 =>
 opS r359 fun t363 =>
 wPin i44 2 [(.string t49)] H360 <|
 wPin i44 1 [(.string t48)] H360 <|
 wCat t54 t363 fun t364 =>
 (wCall Try.prog 69 [(.string t48)] H360 (fun r365 H366 =>
 opS r365 fun t369 =>
 wPin i44 2 [(.string t49)] H366 <|
 wCat t364 t369 fun t370 =>
 (wCall Try.prog 69 [(.string t49)] H366 (fun r371 H372 =>
 opS r371 fun t375 =>
 wCat t370 t375 fun t376 =>
 (wCall Try.prog 72 [(.slice z358b z358l z358c)] H372 (fun r377 H378 =>
 opS r377 fun t381 =>
 wCat t376 t381 fun t382 =>
 ldL i44 5 H378 fun z383b z383l z383c =>
 wCall Try.prog 70 [(.int .u64 (IntKind.u64.wrap (z383l : Int)))] H378 (fun r384 H385 =>
 opS r384 fun t388 =>
 wCat t382 t388 fun t389 =>
 f30_J0 R [(.agg #[(.int .i64 x0_0), (.string x0_1), (.string x0_2), (.int .i64 x0_3), (.slice x0_4b x0_4l x0_4c), (.slice x0_5b x0_5l x0_5c), (.slice x0_6b x0_6l x0_6c)]), (.pointer (some ⟨i44, 0, none⟩)), (.string ({ data := #[] })), (.string t389), undef, undef, undef, undef, (.pointer (some ⟨i44, 0, none⟩)), (.int .i64 n46), (.string t54), (.pointer (some ⟨i44, 3, none⟩)), (.int .i64 n47), (.string t363), (.string t364), (.pointer (some ⟨i44, 1, none⟩)), (.string t48), (.string t369), (.string t370), (.pointer (some ⟨i44, 2, none⟩)), (.string t49), (.string t375), (.string t376), (.pointer (some ⟨i44, 4, none⟩)), (.slice z358b z358l z358c), (.string t381), (.string t382), (.pointer (some ⟨i44, 5, none⟩)), (.slice z383b z383l z383c), (.int .i64 (z383l : Int)), (.int .u64 (IntKind.u64.wrap (z383l : Int))), (.string t388), (.string t389), undef, undef, undef, undef, undef, undef, undef, undef, undef, undef, undef, undef, undef, undef, undef, undef, undef, undef, undef, undef, undef, undef, undef, undef, undef, undef, undef, undef, undef, undef, undef, undef, undef] H385) (fun v387 H386 => R (.panic v387) H386)) (fun v380 H379 => R (.panic v380) H379)) ∧
 (ldL i44 5 H372 fun z390b z390l z390c =>
 wCall Try.prog 72 [(.slice z358b z358l z358c)] H372 (fun r391 H392 =>
 opS r391 fun t395 =>
 wCat t376 t395 fun t396 =>
 wCall Try.prog 70 [(.int .u64 (IntKind.u64.wrap (z390l : Int)))] H392 (fun r397 H398 =>
 opS r397 fun t401 =>
 wCat t396 t401 fun t402 =>
 f30_J0 R [(.agg #[(.int .i64 x0_0), (.string x0_1), (.string x0_2), (.int .i64 x0_3), (.slice x0_4b x0_4l x0_4c), (.slice x0_5b x0_5l x0_5c), (.slice x0_6b x0_6l x0_6c)]), (.pointer (some ⟨i44, 0, none⟩)), (.string ({ data := #[] })), (.string t402), undef, undef, undef, undef, (.pointer (some ⟨i44, 0, none⟩)), (.int .i64 n46), (.string t54), (.pointer (some ⟨i44, 3, none⟩)), (.int .i64 n47), (.string t363), (.string t364), (.pointer (some ⟨i44, 1, none⟩)), (.string t48), (.string t369), (.string t370), (.pointer (some ⟨i44, 2, none⟩)), (.string t49), (.string t375), (.string t376), (.pointer (some ⟨i44, 4, none⟩)), (.slice z358b z358l z358c), (.string t395), (.string t396), (.pointer (some ⟨i44, 5, none⟩)), (.slice z390b z390l z390c), (.int .i64 (z390l : Int)), (.int .u64 (IntKind.u64.wrap (z390l : Int))), (.string t401), (.string t402), undef, undef, undef, undef, undef, undef, undef, undef, undef, undef, undef, undef, undef, undef, undef, undef, undef, undef, undef, undef, undef, undef, undef, undef, undef, undef, undef, undef, undef, undef, undef, undef, undef] H398) (fun v400 H399 => R (.panic v400) H399)) (fun v394 H393 => R (.panic v394) H393))) (fun v374 H373 => R (.panic v374) H373)) ∧
 (ldL i44 5 H366 fun z403b z403l z403c =>
 wPin i44 2 [(.string t49)] H366 <|
 wCall Try.prog 69 [(.string t49)] H366 (fun r404 H405 =>
 opS r404 fun t408 =>
 wCat t370 t408 fun t409 =>
 wCall Try.prog 72 [(.slice z358b z358l z358c)] H405 (fun r410 H411 =>
 opS r410 fun t414 =>
 wCat t409 t414 fun t415 =>
 wCall Try.prog 70 [(.int .u64 (IntKind.u64.wrap (z403l : Int)))] H411 (fun r416 H417 =>
 opS r416 fun t420 =>
 wCat t415 t420 fun t421 =>
 f30_J0 R [(.agg #[(.int .i64 x0_0), (.string x0_1), (.string x0_2), (.int .i64 x0_3), (.slice x0_4b x0_4l x0_4c), (.slice x0_5b x0_5l x0_5c), (.slice x0_6b x0_6l x0_6c)]), (.pointer (some ⟨i44, 0, none⟩)), (.string ({ data := #[] })), (.string t421), undef, undef, undef, undef, (.pointer (some ⟨i44, 0, none⟩)), (.int .i64 n46), (.string t54), (.pointer (some ⟨i44, 3, none⟩)), (.int .i64 n47), (.string t363), (.string t364), (.pointer (some ⟨i44, 1, none⟩)), (.string t48), (.string t369), (.string t370), (.pointer (some ⟨i44, 2, none⟩)), (.string t49), (.string t408), (.string t409), (.pointer (some ⟨i44, 4, none⟩)), (.slice z358b z358l z358c), (.string t414), (.string t415), (.pointer (some ⟨i44, 5, none⟩)), (.slice z403b z403l z403c), (.int .i64 (z403l : Int)), (.int .u64 (IntKind.u64.wrap (z403l : Int))), (.string t420), (.string t421), undef, undef, undef, undef, undef, undef, undef, undef, undef, undef, undef, undef, undef, undef, undef, undef, undef, undef, undef, undef, undef, undef, undef, undef, undef, undef, undef, undef, undef, undef, undef, undef, undef] H417) (fun v419 H418 => R (.panic v419) H418)) (fun v413 H412 => R (.panic v413) H412)) (fun v407 H406 => R (.panic v407) H406))) (fun v368 H367 => R (.panic v368) H367)) ∧
 (ldL i44 5 H360 fun z422b z422l z422c =>
 wPin i44 2 [(.string t49)] H360 <|
 wPin i44 1 [(.string t48)] H360 <|
 wCall Try.prog 69 [(.string t48)] H360 (fun r423 H424 =>
 opS r423 fun t427 =>
 wPin i44 2 [(.string t49)] H424 <|
 wCat t364 t427 fun t428 =>
 wCall Try.prog 69 [(.string t49)] H424 (fun r429 H430 =>
 opS r429 fun t433 =>
 wCat t428 t433 fun t434 =>
 wCall Try.prog 72 [(.slice z358b z358l z358c)] H430 (fun r435 H436 =>
 opS r435 fun t439 =>
 wCat t434 t439 fun t440 =>
 wCall Try.prog 70 [(.int .u64 (IntKind.u64.wrap (z422l : Int)))] H436 (fun r441 H442 =>
 opS r441 fun t445 =>
 wCat t440 t445 fun t446 =>
 f30_J0 R [(.agg #[(.int .i64 x0_0), (.string x0_1), (.string x0_2), (.int .i64 x0_3), (.slice x0_4b x0_4l x0_4c), (.slice x0_5b x0_5l x0_5c), (.slice x0_6b x0_6l x0_6c)]), (.pointer (some ⟨i44, 0, none⟩)), (.string ({ data := #[] })), (.string t446), undef, undef, undef, undef, (.pointer (some ⟨i44, 0, none⟩)), (.int .i64 n46), (.string t54), (.pointer (some ⟨i44, 3, none⟩)), (.int .i64 n47), (.string t363), (.string t364), (.pointer (some ⟨i44, 1, none⟩)), (.string t48), (.string t427), (.string t428), (.pointer (some ⟨i44, 2, none⟩)), (.string t49), (.string t433), (.string t434), (.pointer (some ⟨i44, 4, none⟩)), (.slice z358b z358l z358c), (.string t439), (.string t440), (.pointer (some ⟨i44, 5, none⟩)), (.slice z422b z422l z422c), (.int .i64 (z422l : Int)), (.int .u64 (IntKind.u64.wrap (z422l : Int))), (.string t445), (.string t446), undef, undef, undef, undef, undef, undef, undef, undef, undef, undef, undef, undef, undef, undef, undef, undef, undef, undef, undef, undef, undef, undef, undef, undef, undef, undef, undef, undef, undef, undef, undef, undef, undef] H442) (fun v444 H443 => R (.panic v444) H443)) (fun v438 H437 => R (.panic v438) H437)) (fun v432 H431 => R (.panic v432) H431)) (fun v426 H425 => R (.panic v426) H425))) (fun v362 H361 => R (.panic v362) H361)) ∧
 (ldL i44 5 H51 fun z447b z447l z447c =>
 wPin i44 2 [(.string t49)] H51 <|
 wPin i44 1 [(.string t48)] H51 <|
 wPin i44 3 [(.int .i64 n47)] H51 <|
 wCall Try.prog 68 [(.int .i64 n47)] H51 (fun r448 H449 =>
 opS r448 fun t452 =>
 wPin i44 2 [(.string t49)] H449 <|
 wPin i44 1 [(.string t48)] H449 <|
 wCat t54 t452 fun t453 =>
 wCall Try.prog 69 [(.string t48)] H449 (fun r454 H455 =>
 opS r454 fun t458 =>
 wPin i44 2 [(.string t49)] H455 <|
 wCat t453 t458 fun t459 =>
 wCall Try.prog 69 [(.string t49)] H455 (fun r460 H461 =>
 opS r460 fun t464 =>
 wCat t459 t464 fun t465 =>
 wCall Try.prog 72 [(.slice z358b z358l z358c)] H461 (fun r466 H467 =>
 opS r466 fun t470 =>
 wCat t465 t470 fun t471 =>
 wCall Try.prog 70 [(.int .u64 (IntKind.u64.wrap (z447l : Int)))] H467 (fun r472 H473 =>
 opS r472 fun t476 =>
 wCat t471 t476 fun t477 =>
 f30_J0 R [(.agg #[(.int .i64 x0_0), (.string x0_1), (.string x0_2), (.int .i64 x0_3), (.slice x0_4b x0_4l x0_4c), (.slice x0_5b x0_5l x0_5c), (.slice x0_6b x0_6l x0_6c)]), (.pointer (some ⟨i44, 0, none⟩)), (.string ({ data := #[] })), (.string t477), undef, undef, undef, undef, (.pointer (some ⟨i44, 0, none⟩)), (.int .i64 n46), (.string t54), (.pointer (some ⟨i44, 3, none⟩)), (.int .i64 n47), (.string t452), (.string t453), (.pointer (some ⟨i44, 1, none⟩)), (.string t48), (.string t458), (.string t459), (.pointer (some ⟨i44, 2, none⟩)), (.string t49), (.string t464), (.string t465), (.pointer (some ⟨i44, 4, none⟩)), (.slice z358b z358l z358c), (.string t470), (.string t471), (.pointer (some ⟨i44, 5, none⟩)), (.slice z447b z447l z447c), (.int .i64 (z447l : Int)), (.int .u64 (IntKind.u64.wrap (z447l : Int))), (.string t476), (.string t477), undef, undef, undef, undef, undef, undef, undef, undef, undef, undef, undef, undef, undef, undef, undef, undef, undef, undef, undef, undef, undef, undef, undef, undef, undef, undef, undef, undef, undef, undef, undef, undef, undef] H473) (fun v475 H474 => R (.panic v475) H474)) (fun v469 H468 => R (.panic v469) H468)) (fun v463 H462 => R (.panic v463) H462)) (fun v457 H456 => R (.panic v457) H456)) (fun v451 H450 => R (.panic v451) H450))) ∧
 (ldL i44 5 H51 fun z478b z478l z478c =>
 wPin i44 2 [(.string t49)] H51 <|
 wPin i44 1 [(.string t48)] H51 <|
 wPin i44 3 [(.int .i64 n47)] H51 <|
 (wCall Try.prog 68 [(.int .i64 n47)] H51 (fun r479 H480 =>
 opS r479 fun t483 =>
 wPin i44 2 [(.string t49)] H480 <|
 wPin i44 1 [(.string t48)] H480 <|
 wCat t54 t483 fun t484 =>
 (wCall Try.prog 69 [(.string t48)] H480 (fun r485 H486 =>
 opS r485 fun t489 =>
 wPin i44 2 [(.string t49)] H486 <|
 wCat t484 t489 fun t490 =>
 (wCall Try.prog 69 [(.string t49)] H486 (fun r491 H492 =>
 opS r491 fun t495 =>
 wCat t490 t495 fun t496 =>
 ldL i44 4 H492 fun z497b z497l z497c =>
 wCall Try.prog 72 [(.slice z497b z497l z497c)] H492 (fun r498 H499 =>
 opS r498 fun t502 =>
 wCat t496 t502 fun t503 =>
 wCall Try.prog 70 [(.int .u64 (IntKind.u64.wrap (z478l : Int)))] H499 (fun r504 H505 =>
 opS r504 fun t508 =>
 wCat t503 t508 fun t509 =>
 f30_J0 R [(.agg #[(.int .i64 x0_0), (.string x0_1), (.string x0_2), (.int .i64 x0_3), (.slice x0_4b x0_4l x0_4c), (.slice x0_5b x0_5l x0_5c), (.slice x0_6b x0_6l x0_6c)]), (.pointer (some ⟨i44, 0, none⟩)), (.string ({ data := #[] })), (.string t509), undef, undef, undef, undef, (.pointer (some ⟨i44, 0, none⟩)), (.int .i64 n46), (.string t54), (.pointer (some ⟨i44, 3, none⟩)), (.int .i64 n47), (.string t483), (.string t484), (.pointer (some ⟨i44, 1, none⟩)), (.string t48), (.string t489), (.string t490), (.pointer (some ⟨i44, 2, none⟩)), (.string t49), (.string t495), (.string t496), (.pointer (some ⟨i44, 4, none⟩)), (.slice z497b z497l z497c), (.string t502), (.string t503), (.pointer (some ⟨i44, 5, none⟩)), (.slice z478b z478l z478c), (.int .i64 (z478l : Int)), (.int .u64 (IntKind.u64.wrap (z478l : Int))), (.string t508), (.string t509), undef, undef, undef, undef, undef, undef, undef, undef, undef, undef, undef, undef, undef, undef, undef, undef, undef, undef, undef, undef, undef, undef, undef, undef, undef, undef, undef, undef, undef, undef, undef, undef, undef] H505) (fun v507 H506 => R (.panic v507) H506)) (fun v501 H500 => R (.panic v501) H500)) (fun v494 H493 => R (.panic v494) H493)) ∧
 (ldL i44 4 H486 fun z510b z510l z510c =>
 wPin i44 2 [(.string t49)] H486 <|
 wCall Try.prog 69 [(.string t49)] H486 (fun r511 H512 =>
 opS r511 fun t515 =>
 wCat t490 t515 fun t516 =>
 wCall Try.prog 72 [(.slice z510b z510l z510c)] H512 (fun r517 H518 =>
 opS r517 fun t521 =>
 wCat t516 t521 fun t522 =>
 wCall Try.prog 70 [(.int .u64 (IntKind.u64.wrap (z478l : Int)))] H518 (fun r523 H524 =>
 opS r523 fun t527 =>
 wCat t522 t527 fun t528 =>
 f30_J0 R [(.agg #[(.int .i64 x0_0), (.string x0_1), (.string x0_2), (.int .i64 x0_3), (.slice x0_4b x0_4l x0_4c), (.slice x0_5b x0_5l x0_5c), (.slice x0_6b x0_6l x0_6c)]), (.pointer (some ⟨i44, 0, none⟩)), (.string ({ data := #[] })), (.string t528), undef, undef, undef, undef, (.pointer (some ⟨i44, 0, none⟩)), (.int .i64 n46), (.string t54), (.pointer (some ⟨i44, 3, none⟩)), (.int .i64 n47), (.string t483), (.string t484), (.pointer (some ⟨i44, 1, none⟩)), (.string t48), (.string t489), (.string t490), (.pointer (some ⟨i44, 2, none⟩)), (.string t49), (.string t515), (.string t516), (.pointer (some ⟨i44, 4, none⟩)), (.slice z510b z510l z510c), (.string t521), (.string t522), (.pointer (some ⟨i44, 5, none⟩)), (.slice z478b z478l z478c), (.int .i64 (z478l : Int)), (.int .u64 (IntKind.u64.wrap (z478l : Int))), (.string t527), (.string t528), undef, undef, undef, undef, undef, undef, undef, undef, undef, undef, undef, undef, undef, undef, undef, undef, undef, undef, undef, undef, undef, undef, undef, undef, undef, undef, undef, undef, undef, undef, undef, undef, undef] H524) (fun v526 H525 => R (.panic v526) H525)) (fun v520 H519 => R (.panic v520) H519)) (fun v514 H513 => R (.panic v514) H513))) (fun v488 H487 => R (.panic v488) H487)) ∧
 (ldL i44 4 H480 fun z529b z529l z529c =>
 wPin i44 2 [(.string t49)] H480 <|
 wPin i44 1 [(.string t48)] H480 <|
 wCall Try.prog 69 [(.string t48)] H480 (fun r530 H531 =>
 opS r530 fun t534 =>
 wPin i44 2 [(.string t49)] H531 <|
 wCat t484 t534 fun t535 =>
 wCall Try.prog 69 [(.string t49)] H531 (fun r536 H537 =>
 opS r536 fun t540 =>
 wCat t535 t540 fun t541 =>
 wCall Try.prog 72 [(.slice z529b z529l z529c)] H537 (fun r542 H543 =>
 opS r542 fun t546 =>
 wCat t541 t546 fun t547 =>
 wCall Try.prog 70 [(.int .u64 (IntKind.u64.wrap (z478l : Int)))] H543 (fun r548 H549 =>
 opS r548 fun t552 =>
 wCat t547 t552 fun t553 =>
 f30_J0 R [(.agg #[(.int .i64 x0_0), (.string x0_1), (.string x0_2), (.int .i64 x0_3), (.slice x0_4b x0_4l x0_4c), (.slice x0_5b x0_5l x0_5c), (.slice x0_6b x0_6l x0_6c)]), (.pointer (some ⟨i44, 0, none⟩)), (.string ({ data := #[] })), (.string t553), undef, undef, undef, undef, (.pointer (some ⟨i44, 0, none⟩)), (.int .i64 n46), (.string t54), (.pointer (some ⟨i44, 3, none⟩)), (.int .i64 n47), (.string t483), (.string t484), (.pointer (some ⟨i44, 1, none⟩)), (.string t48), (.string t534), (.string t535), (.pointer (some ⟨i44, 2, none⟩)), (.string t49), (.string t540), (.string t541), (.pointer (some ⟨i44, 4, none⟩)), (.slice z529b z529l z529c), (.string t546), (.string t547), (.pointer (some ⟨i44, 5, none⟩)), (.slice z478b z478l z478c), (.int .i64 (z478l : Int)), (.int .u64 (IntKind.u64.wrap (z478l : Int))), (.string t552), (.string t553), undef, undef, undef, undef, undef, undef, undef, undef, undef, undef, undef, undef, undef, undef, undef, undef, undef, undef, undef, undef, undef, undef, undef, undef, undef, undef, undef, undef, undef, undef, undef, undef, undef] H549) (fun v551 H550 => R (.panic v551) H550)) (fun v545 H544 => R (.panic v545) H544)) (fun v539 H538 => R (.panic v539) H538)) (fun v533 H532 => R (.panic v533) H532))) (fun v482 H481 => R (.panic v482) H481)) ∧
 (ldL i44 4 H51 fun z554b z554l z554c =>
 wPin i44 2 [(.string t49)] H51 <|
 wPin i44 1 [(.string t48)] H51 <|
 wPin i44 3 [(.int .i64 n47)] H51 <|
 wCall Try.prog 68 [(.int .i64 n47)] H51 (fun r555 H556 =>
 opS r555 fun t559 =>
 wPin i44 2 [(.string t49)] H556 <|
 wPin i44 1 [(.string t48)] H556 <|
 wCat t54 t559 fun t560 =>
 wCall Try.prog 69 [(.string t48)] H556 (fun r561 H562 =>
 opS r561 fun t565 =>
 wPin i44 2 [(.string t49)] H562 <|
 wCat t560 t565 fun t566 =>
 wCall Try.prog 69 [(.string t49)] H562 (fun r567 H568 =>
 opS r567 fun t571 =>
 wCat t566 t571 fun t572 =>
 wCall Try.prog 72 [(.slice z554b z554l z554c)] H568 (fun r573 H574 =>
 opS r573 fun t577 =>
 wCat t572 t577 fun t578 =>
 wCall Try.prog 70 [(.int .u64 (IntKind.u64.wrap (z478l : Int)))] H574 (fun r579 H580 =>
 opS r579 fun t583 =>
 wCat t578 t583 fun t584 =>
 f30_J0 R [(.agg #[(.int .i64 x0_0), (.string x0_1), (.string x0_2), (.int .i64 x0_3), (.slice x0_4b x0_4l x0_4c), (.slice x0_5b x0_5l x0_5c), (.slice x0_6b x0_6l x0_6c)]), (.pointer (some ⟨i44, 0, none⟩)), (.string ({ data := #[] })), (.string t584), undef, undef, undef, undef, (.pointer (some ⟨i44, 0, none⟩)), (.int .i64 n46), (.string t54), (.pointer (some ⟨i44, 3, none⟩)), (.int .i64 n47), (.string t559), (.string t560), (.pointer (some ⟨i44, 1, none⟩)), (.string t48), (.string t565), (.string t566), (.pointer (some ⟨i44, 2, none⟩)), (.string t49), (.string t571), (.string t572), (.pointer (some ⟨i44, 4, none⟩)), (.slice z554b z554l z554c), (.string t577), (.string t578), (.pointer (some ⟨i44, 5, none⟩)), (.slice z478b z478l z478c), (.int .i64 (z478l : Int)), (.int .u64 (IntKind.u64.wrap (z478l : Int))), (.string t583), (.string t584), undef, undef, undef, undef, undef, undef, undef, undef, undef, undef, undef, undef, undef, undef, undef, undef, undef, undef, undef, undef, undef, undef, undef, undef, undef, undef, undef, undef, undef, undef, undef, undef, undef] H580) (fun v582 H581 => R (.panic v582) H581)) (fun v576 H575 => R (.panic v576) H575)) (fun v570 H569 => R (.panic v570) H569)) (fun v564 H563 => R (.panic v564) H563)) (fun v558 H557 => R (.panic v558) H557)))) (fun v53 H52 => R (.panic v53) H52)) ∧
 (ldL i44 4 H45 fun z585b z585l z585c =>
 wPin i44 2 [(.string t49)] H45 <|
 wPin i44 1 [(.string t48)] H45 <|
 wPin i44 3 [(.int .i64 n47)] H45 <|
 wPin i44 0 [(.int .i64 n46)] H45 <|
 (wCall Try.prog 68 [(.int .i64 n46)] H45 (fun r586 H587 =>
 opS r586 fun t590 =>
 wPin i44 2 [(.string t49)] H587 <|
 wPin i44 1 [(.string t48)] H587 <|
 wPin i44 3 [(.int .i64 n47)] H587 <|
 (wCall Try.prog 68 [(.int .i64 n47)] H587 (fun r591 H592 =>
 opS r591 fun t595 =>
 wPin i44 2 [(.string t49)] H592 <|
 wPin i44 1 [(.string t48)] H592 <|
 wCat t590 t595 fun t596 =>
 (wCall Try.prog 69 [(.string t48)] H592 (fun r597 H598 =>
 opS r597 fun t601 =>
 wPin i44 2 [(.string t49)] H598 <|
 wCat t596 t601 fun t602 =>
 (wCall Try.prog 69 [(.string t49)] H598 (fun r603 H604 =>
 opS r603 fun t607 =>
 wCat t602 t607 fun t608 =>
 (wCall Try.prog 72 [(.slice z585b z585l z585c)] H604 (fun r609 H610 =>
 opS r609 fun t613 =>
 wCat t608 t613 fun t614 =>
 ldL i44 5 H610 fun z615b z615l z615c =>
 wCall Try.prog 70 [(.int .u64 (IntKind.u64.wrap (z615l : Int)))] H610 (fun r616 H617 =>
 opS r616 fun t620 =>
 wCat t614 t620 fun t621 =>
 f30_J0 R [(.agg #[(.int .i64 x0_0), (.string x0_1), (.string x0_2), (.int .i64 x0_3), (.slice x0_4b x0_4l x0_4c), (.slice x0_5b x0_5l x0_5c), (.slice x0_6b x0_6l x0_6c)]), (.pointer (some ⟨i44, 0, none⟩)), (.string ({ data := #[] })), (.string t621), undef, undef, undef, undef, (.pointer (some ⟨i44, 0, none⟩)), (.int .i64 n46), (.string t590), (.pointer (some ⟨i44, 3, none⟩)), (.int .i64 n47), (.string t595), (.string t596), (.pointer (some ⟨i44, 1, none⟩)), (.string t48), (.string t601), (.string t602), (.pointer (some ⟨i44, 2, none⟩)), (.string t49), (.string t607), (.string t608), (.pointer (some ⟨i44, 4, none⟩)), (.slice z585b z585l z585c), (.string t613), (.string t614), (.pointer (some ⟨i44, 5, none⟩)), (.slice z615b z615l z615c), (.int .i64 (z615l : Int)), (.int .u64 (IntKind.u64.wrap (z615l : Int))), (.string t620), (.string t621), undef, undef, undef, undef, undef, undef, undef, undef, undef, undef, undef, undef, undef, undef, undef, undef, undef, undef, undef, undef, undef, undef, undef, undef, undef, undef, undef, undef, undef, undef, undef, undef, undef] H617) (fun v619 H618 => R (.panic v619) H618)) (fun v612 H611 => R (.panic v612) H611)) ∧
 (ldL i44 5 H604 fun z622b z622l z622c =>
 wCall Try.prog 72 [(.slice z585b z585l z585c)] H604 (fun r623 H624 =>
 opS r623 fun t627 =>
 wCat t608 t627 fun t628 =>
 wCall Try.prog 70 [(.int .u64 (IntKind.u64.wrap (z622l : Int)))] H624 (fun r629 H630 =>
 opS r629 fun t633 =>
 wCat t628 t633 fun t634 =>
 f30_J0 R [(.agg #[(.int .i64 x0_0), (.string x0_1), (.string x0_2), (.int .i64 x0_3), (.slice x0_4b x0_4l x0_4c), (.slice x0_5b x0_5l x0_5c), (.slice x0_6b x0_6l x0_6c)]), (.pointer (some ⟨i44, 0, none⟩)), (.string ({ data := #[] })), (.string t634), undef, undef, undef, undef, (.pointer (some ⟨i44, 0, none⟩)), (.int .i64 n46), (.string t590), (.pointer (some ⟨i44, 3, none⟩)), (.int .i64 n47), (.string t595), (.string t596), (.pointer (some ⟨i44, 1, none⟩)), (.string t48), (.string t601), (.string t602), (.pointer (some ⟨i44, 2, none⟩)), (.string t49), (.string t607), (.string t608), (.pointer (some ⟨i44, 4, none⟩)), (.slice z585b z585l z585c), (.string t627), (.string t628), (.pointer (some ⟨i44, 5, none⟩)), (.slice z622b z622l z622c), (.int .i64 (z622l : Int)), (.int .u64 (IntKind.u64.wrap (z622l : Int))), (.string t633), (.string t634), undef, undef, undef, undef, undef, undef, undef, undef, undef, undef, undef, undef, undef, undef, undef, undef, undef, undef, undef, undef, undef, undef, undef, undef, undef, undef, undef, undef, undef, undef, undef, undef, undef] H630) (fun v632 H631 => R (.panic v632) H631)) (fun v626 H625 => R (.panic v626) H625))) (fun v606 H605 => R (.panic v606) H605)) ∧
 (ldL i44 5 H598 fun z635b z635l z635c =>
 wPin i44 2 [(.string t49)] H598 <|
 wCall Try.prog 69 [(.string t49)] H598 (fun r636 H637 =>
 opS r636 fun t640 =>
 wCat t602 t640 fun t641 =>
 wCall Try.prog 72 [(.slice z585b z585l z585c)] H637 (fun r642 H643 =>
 opS r642 fun t646 =>
 wCat t641 t646 fun t647 =>
 wCall Try.prog 70 [(.int .u64 (IntKind.u64.wrap (z635l : Int)))] H643 (fun r648 H649 =>
 opS r648 fun t652 =>
 wCat t647 t652 fun t653 =>
 f30_J0 R [(.agg #[(.int .i64 x0_0), (.string x0_1), (.string x0_2), (.int .i64 x0_3), (.slice x0_4b x0_4l x0_4c), (.slice x0_5b x0_5l x0_5c), (.slice x0_6b x0_6l x0_6c)]), (.pointer (some ⟨i44, 0, none⟩)), (.string ({ data := #[] })), (.string t653), undef, undef, undef, undef, (.pointer (some ⟨i44, 0, none⟩)), (.int .i64 n46), (.string t590), (.pointer (some ⟨i44, 3, none⟩)), (.int .i64 n47), (.string t595), (.string t596), (.pointer (some ⟨i44, 1, none⟩)), (.string t48), (.string t601), (.string t602), (.pointer (some ⟨i44, 2, none⟩)), (.string t49), (.string t640), (.string t641), (.pointer (some ⟨i44, 4, none⟩)), (.slice z585b z585l z585c), (.string t646), (.string t647), (.pointer (some ⟨i44, 5, none⟩)), (.slice z635b z635l z635c), (.int .i64 (z635l : Int)), (.int .u64 (IntKind.u64.wrap (z635l : Int))), (.string t652), (.string t653), undef, undef, undef, undef, undef, undef, undef, undef, undef, undef, undef, undef, undef, undef, undef, undef, undef, undef, undef, undef, undef, undef, undef, undef, undef, undef, undef, undef, undef, undef, undef, undef, undef] H649) (fun v651 H650 => R (.panic v651) H650)) (fun v645 H644 => R (.panic v645) H644)) (fun v639 H638 => R (.panic v639) H638))) (fun v600 H599 => R (.panic v600) H599)) ∧
 (ldL i44 5 H592 fun z654b z654l z654c =>
 wPin i44 2 [(.string t49)] H592 <|
 wPin i44 1 [(.string t48)] H592 <|
 wCall Try.prog 69 [(.string t48)] H592 (fun r655 H656 =>
 opS r655 fun t659 =>
 wPin i44 2 [(.string t49)] H656 <|
 wCat t596 t659 fun t660 =>
 wCall Try.prog 69 [(.string t49)] H656 (fun r661 H662 =>
 opS r661 fun t665 =>
 wCat t660 t665 fun t666 =>
 wCall Try.prog 72 [(.slice z585b z585l z585c)] H662 (fun r667 H668 =>
 opS r667 fun t671 =>
 wCat t666 t671 fun t672 =>
 wCall Try.prog 70 [(.int .u64 (IntKind.u64.wrap (z654l : Int)))] H668 (fun r673 H674 =>
 opS r673 fun t677 =>
 wCat t672 t677 fun t678 =>
 f30_J0 R [(.agg #[(.int .i64 x0_0), (.string x0_1), (.string x0_2), (.int .i64 x0_3), (.slice x0_4b x0_4l x0_4c), (.slice x0_5b x0_5l x0_5c), (.slice x0_6b x0_6l x0_6c)]), (.pointer (some ⟨i44, 0, none⟩)), (.string ({ data := #[] })), (.string t678), undef, undef, undef, undef, (.pointer (some ⟨i44, 0, none⟩)), (.int .i64 n46), (.string t590), (.pointer (some ⟨i44, 3, none⟩)), (.int .i64 n47), (.string t595), (.string t596), (.pointer (some ⟨i44, 1, none⟩)), (.string t48), (.string t659), (.string t660), (.pointer (some ⟨i44, 2, none⟩)), (.string t49), (.string t665), (.string t666), (.pointer (some ⟨i44, 4, none⟩)), (.slice z585b z585l z585c), (.string t671), (.string t672), (.pointer (some ⟨i44, 5, none⟩)), (.slice z654b z654l z654c), (.int .i64 (z654l : Int)), (.int .u64 (IntKind.u64.wrap (z654l : Int))), (.string t677), (.string t678), undef, undef, undef, undef, undef, undef, undef, undef, undef, undef, undef, undef, undef, undef, undef, undef, undef, undef, undef, undef, undef, undef, undef, undef, undef, undef, undef, undef, undef, undef, undef, undef, undef] H674) (fun v676 H675 => R (.panic v676) H675)) (fun v670 H669 => R (.panic v670) H669)) (fun v664 H663 => R (.panic v664) H663)) (fun v658 H657 => R (.panic v658) H657))) (fun v594 H593 => R (.panic v594) H593)) ∧
 (ldL i44 5 H587 fun z679b z679l z679c =>
 wPin i44 2 [(.string t49)] H587 <|
 wPin i44 1 [(.string t48)] H587 <|
 wPin i44 3 [(.int .i64 n47)] H587 <|
 wCall Try.prog 68 [(.int .i64 n47)] H587 (fun r680 H681 =>
 opS r680 fun t684 =>
 wPin i44 2 [(.string t49)] H681 <|
 wPin i44 1 [(.string t48)] H681 <|
 wCat t590 t684 fun t685 =>
 wCall Try.prog 69 [(.string t48)] H681 (fun r686 H687 =>
 opS r686 fun t690 =>
 wPin i44 2 [(.string t49)] H687 <|
 wCat t685 t690 fun t691 =>
 wCall Try.prog 69 [(.string t49)] H687 (fun r692 H693 =>
 opS r692 fun t696 =>
 wCat t691 t696 fun t697 =>
 wCall Try.prog 72 [(.slice z585b z585l z585c)] H693 (fun r698 H699 =>
 opS r698 fun t702 =>
 wCat t697 t702 fun t703 =>
 wCall Try.prog 70 [(.int .u64 (IntKind.u64.wrap (z679l : Int)))] H699 (fun r704 H705 =>
 opS r704 fun t708 =>
 wCat t703 t708 fun t709 =>
 f30_J0 R [(.agg #[(.int .i64 x0_0), (.string x0_1), (.string x0_2), (.int .i64 x0_3), (.slice x0_4b x0_4l x0_4c), (.slice x0_5b x0_5l x0_5c), (.slice x0_6b x0_6l x0_6c)]), (.pointer (some ⟨i44, 0, none⟩)), (.string ({ data := #[] })), (.string t709), undef, undef, undef, undef, (.pointer (some ⟨i44, 0, none⟩)), (.int .i64 n46), (.string t590), (.pointer (some ⟨i44, 3, none⟩)), (.int .i64 n47), (.string t684), (.string t685), (.pointer (some ⟨i44, 1, none⟩)), (.string t48), (.string t690), (.string t691), (.pointer (some ⟨i44, 2, none⟩)), (.string t49), (.string t696), (.string t697), (.pointer (some ⟨i44, 4, none⟩)), (.slice z585b z585l z585c), (.string t702), (.string t703), (.pointer (some ⟨i44, 5, none⟩)), (.slice z679b z679l z679c), (.int .i64 (z679l : Int)), (.int .u64 (IntKind.u64.wrap (z679l : Int))), (.string t708), (.string t709), undef, undef, undef, undef, undef, undef, undef, undef, undef, undef, undef, undef, undef, undef, undef, undef, undef, undef, undef, undef, undef, undef, undef, undef, undef, undef, undef, undef, undef, undef, undef, undef, undef] H705) (fun v707 H706 => R (.panic v707) H706)) (fun v701 H700 => R (.panic v701) H700)) (fun v695 H694 => R (.panic v695) H694)) (fun v689 H688 => R (.panic v689) H688)) (fun v683 H682 => R (.panic v683) H682))) (fun v589 H588 => R (.panic v589) H588)) ∧
 (ldL i44 5 H45 fun z710b z710l z710c =>
 wPin i44 2 [(.string t49)] H45 <|
 wPin i44 1 [(.string t48)] H45 <|
 wPin i44 3 [(.int .i64 n47)] H45 <|
 wPin i44 0 [(.int .i64 n46)] H45 <|
 wCall Try.prog 68 [(.int .i64 n46)] H45 (fun r711 H712 =>
 opS r711 fun t715 =>
 wPin i44 2 [(.string t49)] H712 <|
 wPin i44 1 [(.string t48)] H712 <|
 wPin i44 3 [(.int .i64 n47)] H712 <|
 wCall Try.prog 68 [(.int .i64 n47)] H712 (fun r716 H717 =>
 opS r716 fun t720 =>
 wPin i44 2 [(.string t49)] H717 <|
 wPin i44 1 [(.string t48)] H717 <|
 wCat t715 t720 fun t721 =>
 wCall Try.prog 69 [(.string t48)] H717 (fun r722 H723 =>
 opS r722 fun t726 =>
 wPin i44 2 [(.string t49)] H723 <|
 wCat t721 t726 fun t727 =>
 wCall Try.prog 69 [(.string t49)] H723 (fun r728 H729 =>
 opS r728 fun t732 =>
 wCat t727 t732 fun t733 =>
 wCall Try.prog 72 [(.slice z585b z585l z585c)] H729 (fun r734 H735 =>
 opS r734 fun t738 =>
 wCat t733 t738 fun t739 =>
 wCall Try.prog 70 [(.int .u64 (IntKind.u64.wrap (z710l : Int)))] H735 (fun r740 H741 =>
 opS r740 fun t744 =>
 wCat t739 t744 fun t745 =>
 f30_J0 R [(.agg #[(.int .i64 x0_0), (.string x0_1), (.string x0_2), (.int .i64 x0_3), (.slice x0_4b x0_4l x0_4c), (.slice x0_5b x0_5l x0_5c), (.slice x0_6b x0_6l x0_6c)]), (.pointer (some ⟨i44, 0, none⟩)), (.string ({ data := #[] })), (.string t745), undef, undef, undef, undef, (.pointer (some ⟨i44, 0, none⟩)), (.int .i64 n46), (.string t715), (.pointer (some ⟨i44, 3, none⟩)), (.int .i64 n47), (.string t720), (.string t721), (.pointer (some ⟨i44, 1, none⟩)), (.string t48), (.string t726), (.string t727), (.pointer (some ⟨i44, 2, none⟩)), (.string t49), (.string t732), (.string t733), (.pointer (some ⟨i44, 4, none⟩)), (.slice z585b z585l z585c), (.string t738), (.string t739), (.pointer (some ⟨i44, 5, none⟩)), (.slice z710b z710l z710c), (.int .i64 (z710l : Int)), (.int .u64 (IntKind.u64.wrap (z710l : Int))), (.string t744), (.string t745), undef, undef, undef, undef, undef, undef, undef, undef, undef, undef, undef, undef, undef, undef, undef, undef, undef, undef, undef, undef, undef, undef, undef, undef, undef, undef, undef, undef, undef, undef, undef, undef, undef] H741) (fun v743 H742 => R (.panic v743) H742)) (fun v737 H736 => R (.panic v737) H736)) (fun v731 H730 => R (.panic v731) H730)) (fun v725 H724 => R (.panic v725) H724)) (fun v719 H718 => R (.panic v719) H718)) (fun v714 H713 => R (.panic v714) H713))) ∧
 (ldL i44 5 H45 fun z746b z746l z746c =>
 wPin i44 2 [(.string t49)] H45 <|
 wPin i44 1 [(.string t48)] H45 <|
 wPin i44 3 [(.int .i64 n47)] H45 <|
 wPin i44 0 [(.int .i64 n46)] H45 <|
 (wCall Try.prog 68 [(.int .i64 n46)] H45 (fun r747 H748 =>
 opS r747 fun t751 =>
 wPin i44 2 [(.string t49)] H748 <|
 wPin i44 1 [(.string t48)] H748 <|
 wPin i44 3 [(.int .i64 n47)] H748 <|
 (wCall Try.prog 68 [(.int .i64 n47)] H748 (fun r752 H753 =>
 opS r752 fun t756 =>
 wPin i44 2 [(.string t49)] H753 <|
 wPin i44 1 [(.string t48)] H753 <|
 wCat t751 t756 fun t757 =>
 (wCall Try.prog 69 [(.string t48)] H753 (fun r758 H759 =>
 opS r758 fun t762 =>
 wPin i44 2 [(.string t49)] H759 <|
 wCat t757 t762 fun t763 =>
 (wCall Try.prog 69 [(.string t49)] H759 (fun r764 H765 =>
 opS r764 fun t768 =>
 wCat t763 t768 fun t769 =>
 ldL i44 4 H765 fun z770b z770l z770c =>
 wCall Try.prog 72 [(.slice z770b z770l z770c)] H765 (fun r771 H772 =>
 opS r771 fun t775 =>
 wCat t769 t775 fun t776 =>
 wCall Try.prog 70 [(.int .u64 (IntKind.u64.wrap (z746l : Int)))] H772 (fun r777 H778 =>
 opS r777 fun t781 =>
 wCat t776 t781 fun t782 =>
 f30_J0 R [(.agg #[(.int .i64 x0_0), (.string x0_1), (.string x0_2), (.int .i64 x0_3), (.slice x0_4b x0_4l x0_4c), (.slice x0_5b x0_5l x0_5c), (.slice x0_6b x0_6l x0_6c)]), (.pointer (some ⟨i44, 0, none⟩)), (.string ({ data := #[] })), (.string t782), undef, undef, undef, undef, (.pointer (some ⟨i44, 0, none⟩)), (.int .i64 n46), (.string t751), (.pointer (some ⟨i44, 3, none⟩)), (.int .i64 n47), (.string t756), (.string t757), (.pointer (some ⟨i44, 1, none⟩)), (.string t48), (.string t762), (.string t763), (.pointer (some ⟨i44, 2, none⟩)), (.string t49), (.string t768), (.string t769), (.pointer (some ⟨i44, 4, none⟩)), (.slice z770b z770l z770c), (.string t775), (.string t776), (.pointer (some ⟨i44, 5, none⟩)), (.slice z746b z746l z746c), (.int .i64 (z746l : Int)), (.int .u64 (IntKind.u64.wrap (z746l : Int))), (.string t781), (.string t782), undef, undef, undef, undef, undef, undef, undef, undef, undef, undef, undef, undef, undef, undef, undef, undef, undef, undef, undef, undef, undef, undef, undef, undef, undef, undef, undef, undef, undef, undef, undef, undef, undef] H778) (fun v780 H779 => R (.panic v780) H779)) (fun v774 H773 => R (.panic v774) H773)) (fun v767 H766 => R (.panic v767) H766)) ∧
 (ldL i44 4 H759 fun z783b z783l z783c =>
 wPin i44 2 [(.string t49)] H759 <|
 wCall Try.prog 69 [(.string t49)] H759 (fun r784 H785 =>
 opS r784 fun t788 =>
 wCat t763 t788 fun t789 =>
 wCall Try.prog 72 [(.slice z783b z783l z783c)] H785 (fun r790 H791 =>
 opS r790 fun t794 =>
 wCat t789 t794 fun t795 =>
 wCall Try.prog 70 [(.int .u64 (IntKind.u64.wrap (z746l : Int)))] H791 (fun r796 H797 =>
 opS r796 fun t800 =>
 wCat t795 t800 fun t801 =>
 f30_J0 R [(.agg #[(.int .i64 x0_0), (.string x0_1), (.string x0_2), (.int .i64 x0_3), (.slice x0_4b x0_4l x0_4c), (.slice x0_5b x0_5l x0_5c), (.slice x0_6b x0_6l x0_6c)]), (.pointer (some ⟨i44, 0, none⟩)), (.string ({ data := #[] })), (.string t801), undef, undef, undef, undef, (.pointer (some ⟨i44, 0, none⟩)), (.int .i64 n46), (.string t751), (.pointer (some ⟨i44, 3, none⟩)), (.int .i64 n47), (.string t756), (.string t757), (.pointer (some ⟨i44, 1, none⟩)), (.string t48), (.string t762), (.string t763), (.pointer (some ⟨i44, 2, none⟩)), (.string t49), (.string t788), (.string t789), (.pointer (some ⟨i44, 4, none⟩)), (.slice z783b z783l z783c), (.string t794), (.string t795), (.pointer (some ⟨i44, 5, none⟩)), (.slice z746b z746l z746c), (.int .i64 (z746l : Int)), (.int .u64 (IntKind.u64.wrap (z746l : Int))), (.string t800), (.string t801), undef, undef, undef, undef, undef, undef, undef, undef, undef, undef, undef, undef, undef, undef, undef, undef, undef, undef, undef, undef, undef, undef, undef, undef, undef, undef, undef, undef, undef, undef, undef, undef, undef] H797) (fun v799 H798 => R (.panic v799) H798)) (fun v793 H792 => R (.panic v793) H792)) (fun v787 H786 => R (.panic v787) H786))) (fun v761 H760 => R (.panic v761) H760)) ∧
 (ldL i44 4 H753 fun z802b z802l z802c =>
 wPin i44 2 [(.string t49)] H753 <|
 wPin i44 1 [(.string t48)] H753 <|
 wCall Try.prog 69 [(.string t48)] H753 (fun r803 H804 =>
 opS r803 fun t807 =>
 wPin i44 2 [(.string t49)] H804 <|
 wCat t757 t807 fun t808 =>
 wCall Try.prog 69 [(.string t49)] H804 (fun r809 H810 =>
 opS r809 fun t813 =>
 wCat t808 t813 fun t814 =>
 wCall Try.prog 72 [(.slice z802b z802l z802c)] H810 (fun r815 H816 =>
 opS r815 fun t819 =>
 wCat t814 t819 fun t820 =>
 wCall Try.prog 70 [(.int .u64 (IntKind.u64.wrap (z746l : Int)))] H816 (fun r821 H822 =>
 opS r821 fun t825 =>
 wCat t820 t825 fun t826 =>
 f30_J0 R [(.agg #[(.int .i64 x0_0), (.string x0_1), (.string x0_2), (.int .i64 x0_3), (.slice x0_4b x0_4l x0_4c), (.slice x0_5b x0_5l x0_5c), (.slice x0_6b x0_6l x0_6c)]), (.pointer (some ⟨i44, 0, none⟩)), (.string ({ data := #[] })), (.string t826), undef, undef, undef, undef, (.pointer (some ⟨i44, 0, none⟩)), (.int .i64 n46), (.string t751), (.pointer (some ⟨i44, 3, none⟩)), (.int .i64 n47), (.string t756), (.string t757), (.pointer (some ⟨i44, 1, none⟩)), (.string t48), (.string t807), (.string t808), (.pointer (some ⟨i44, 2, none⟩)), (.string t49), (.string t813), (.string t814), (.pointer (some ⟨i44, 4, none⟩)), (.slice z802b z802l z802c), (.string t819), (.string t820), (.pointer (some ⟨i44, 5, none⟩)), (.slice z746b z746l z746c), (.int .i64 (z746l : Int)), (.int .u64 (IntKind.u64.wrap (z746l : Int))), (.string t825), (.string t826), undef, undef, undef, undef, undef, undef, undef, undef, undef, undef, undef, undef, undef, undef, undef, undef, undef, undef, undef, undef, undef, undef, undef, undef, undef, undef, undef, undef, undef, undef, undef, undef, undef] H822) (fun v824 H823 => R (.panic v824) H823)) (fun v818 H817 => R (.panic v818) H817)) (fun v812 H811 => R (.panic v812) H811)) (fun v806 H805 => R (.panic v806) H805))) (fun v755 H754 => R (.panic v755) H754)) ∧
 (ldL i44 4 H748 fun z827b z827l z827c =>
 wPin i44 2 [(.string t49)] H748 <|
 wPin i44 1 [(.string t48)] H748 <|
 wPin i44 3 [(.int .i64 n47)] H748 <|
 wCall Try.prog 68 [(.int .i64 n47)] H748 (fun r828 H829 =>
 opS r828 fun t832 =>
 wPin i44 2 [(.string t49)] H829 <|
 wPin i44 1 [(.string t48)] H829 <|
 wCat t751 t832 fun t833 =>
 wCall Try.prog 69 [(.string t48)] H829 (fun r834 H835 =>
 opS r834 fun t838 =>
 wPin i44 2 [(.string t49)] H835 <|
 wCat t833 t838 fun t839 =>
 wCall Try.prog 69 [(.string t49)] H835 (fun r840 H841 =>
 opS r840 fun t844 =>
 wCat t839 t844 fun t845 =>
 wCall Try.prog 72 [(.slice z827b z827l z827c)] H841 (fun r846 H847 =>
 opS r846 fun t850 =>
 wCat t845 t850 fun t851 =>
 wCall Try.prog 70 [(.int .u64 (IntKind.u64.wrap (z746l : Int)))] H847 (fun r852 H853 =>
 opS r852 fun t856 =>
 wCat t851 t856 fun t857 =>
 f30_J0 R [(.agg #[(.int .i64 x0_0), (.string x0_1), (.string x0_2), (.int .i64 x0_3), (.slice x0_4b x0_4l x0_4c), (.slice x0_5b x0_5l x0_5c), (.slice x0_6b x0_6l x0_6c)]), (.pointer (some ⟨i44, 0, none⟩)), (.string ({ data := #[] })), (.string t857), undef, undef, undef, undef, (.pointer (some ⟨i44, 0, none⟩)), (.int .i64 n46), (.string t751), (.pointer (some ⟨i44, 3, none⟩)), (.int .i64 n47), (.string t832), (.string t833), (.pointer (some ⟨i44, 1, none⟩)), (.string t48), (.string t838), (.string t839), (.pointer (some ⟨i44, 2, none⟩)), (.string t49), (.string t844), (.string t845), (.pointer (some ⟨i44, 4, none⟩)), (.slice z827b z827l z827c), (.string t850), (.string t851), (.pointer (some ⟨i44, 5, none⟩)), (.slice z746b z746l z746c), (.int .i64 (z746l : Int)), (.int .u64 (IntKind.u64.wrap (z746l : Int))), (.string t856), (.string t857), undef, undef, undef, undef, undef, undef, undef, undef, undef, undef, undef, undef, undef, undef, undef, undef, undef, undef, undef, undef, undef, undef, undef, undef, undef, undef, undef, undef, undef, undef, undef, undef, undef] H853) (fun v855 H854 => R (.panic v855) H854)) (fun v849 H848 => R (.panic v849) H848)) (fun v843 H842 => R (.panic v843) H842)) (fun v837 H836 => R (.panic v837) H836)) (fun v831 H830 => R (.panic v831) H830))) (fun v750 H749 => R (.panic v750) H749)) ∧
 (ldL i44 4 H45 fun z858b z858l z858c =>
 wPin i44 2 [(.string t49)] H45 <|
 wPin i44 1 [(.string t48)] H45 <|
 wPin i44 3 [(.int .i64 n47)] H45 <|
 wPin i44 0 [(.int .i64 n46)] H45 <|
 wCall Try.prog 68 [(.int .i64 n46)] H45 (fun r859 H860 =>
 opS r859 fun t863 =>
 wPin i44 2 [(.string t49)] H860 <|
 wPin i44 1 [(.string t48)] H860 <|
 wPin i44 3 [(.int .i64 n47)] H860 <|
 wCall Try.prog 68 [(.int .i64 n47)] H860 (fun r864 H865 =>
 opS r864 fun t868 =>
 wPin i44 2 [(.string t49)] H865 <|
 wPin i44 1 [(.string t48)] H865 <|
 wCat t863 t868 fun t869 =>
 wCall Try.prog 69 [(.string t48)] H865 (fun r870 H871 =>
 opS r870 fun t874 =>
 wPin i44 2 [(.string t49)] H871 <|
 wCat t869 t874 fun t875 =>
 wCall Try.prog 69 [(.string t49)] H871 (fun r876 H877 =>
 opS r876 fun t880 =>
 wCat t875 t880 fun t881 =>
 wCall Try.prog 72 [(.slice z858b z858l z858c)] H877 (fun r882 H883 =>
 opS r882 fun t886 =>
 wCat t881 t886 fun t887 =>
 wCall Try.prog 70 [(.int .u64 (IntKind.u64.wrap (z746l : Int)))] H883 (fun r888 H889 =>
 opS r888 fun t892 =>
 wCat t887 t892 fun t893 =>
 f30_J0 R [(.agg #[(.int .i64 x0_0), (.string x0_1), (.string x0_2), (.int .i64 x0_3), (.slice x0_4b x0_4l x0_4c), (.slice x0_5b x0_5l x0_5c), (.slice x0_6b x0_6l x0_6c)]), (.pointer (some ⟨i44, 0, none⟩)), (.string ({ data := #[] })), (.string t893), undef, undef, undef, undef, (.pointer (some ⟨i44, 0, none⟩)), (.int .i64 n46), (.string t863), (.pointer (some ⟨i44, 3, none⟩)), (.int .i64 n47), (.string t868), (.string t869), (.pointer (some ⟨i44, 1, none⟩)), (.string t48), (.string t874), (.string t875), (.pointer (some ⟨i44, 2, none⟩)), (.string t49), (.string t880), (.string t881), (.pointer (some ⟨i44, 4, none⟩)), (.slice z858b z858l z858c), (.string t886), (.string t887), (.pointer (some ⟨i44, 5, none⟩)), (.slice z746b z746l z746c), (.int .i64 (z746l : Int)), (.int .u64 (IntKind.u64.wrap (z746l : Int))), (.string t892), (.string t893), undef, undef, undef, undef, undef, undef, undef, undef, undef, undef, undef, undef, undef, undef, undef, undef, undef, undef, undef, undef, undef, undef, undef, undef, undef, undef, undef, undef, undef, undef, undef, undef, undef] H889) (fun v891 H890 => R (.panic v891) H890)) (fun v885 H884 => R (.panic v885) H884)) (fun v879 H878 => R (.panic v879) H878)) (fun v873 H872 => R (.panic v873) H872)) (fun v867 H866 => R (.panic v867) H866)) (fun v862 H861 => R (.panic v862) H861)))
theorem f30_eq (x0_0 : Int) (x0_1 : ByteArray) (x0_2 : ByteArray) (x0_3 : Int) (x0_4b : Option Addr) (x0_4l : Nat) (x0_4c : Nat) (x0_5b : Option Addr) (x0_5l : Nat) (x0_5c : Nat) (x0_6b : Option Addr) (x0_6l : Nat) (x0_6c : Nat) (H : AH) (R : AEnd → AH → Prop) : awpF Try.prog f30_c (aPost Try.prog Try.f30 R) (([(.agg #[(.int .i64 x0_0), (.string x0_1), (.string x0_2), (.int .i64 x0_3), (.slice x0_4b x0_4l x0_4c), (.slice x0_5b x0_5l x0_5c), (.slice x0_6b x0_6l x0_6c)])] : List Value) ++ List.replicate (Try.f30.ntmps - (([(.agg #[(.int .i64 x0_0), (.string x0_1), (.string x0_2), (.int .i64 x0_3), (.slice x0_4b x0_4l x0_4c), (.slice x0_5b x0_5l x0_5c), (.slice x0_6b x0_6l x0_6c)])] : List Value)).length) undef) H = f30_B x0_0 x0_1 x0_2 x0_3 x0_4b x0_4l x0_4c x0_5b x0_5l x0_5c x0_6b x0_6l x0_6c H R := by kernel_rfl
theorem f30_call (x0_0 : Int) (x0_1 : ByteArray) (x0_2 : ByteArray) (x0_3 : Int) (x0_4b : Option Addr) (x0_4l : Nat) (x0_4c : Nat) (x0_5b : Option Addr) (x0_5l : Nat) (x0_5c : Nat) (x0_6b : Option Addr) (x0_6l : Nat) (x0_6c : Nat) (H : AH) (R : AEnd → AH → Prop) (h : f30_B x0_0 x0_1 x0_2 x0_3 x0_4b x0_4l x0_4c x0_5b x0_5l x0_5c x0_6b x0_6l x0_6c H R) : ACall Try.prog 30 ([(.agg #[(.int .i64 x0_0), (.string x0_1), (.string x0_2), (.int .i64 x0_3), (.slice x0_4b x0_4l x0_4c), (.slice x0_5b x0_5l x0_5c), (.slice x0_6b x0_6l x0_6c)])] : List Value) H R :=
  acall_of mixed Try.func30 (by kernel_rfl : Try.f30.body = some f30_c) (by kernel_rfl) (by kernel_rfl) (awp_of (Eq.mpr (f30_eq x0_0 x0_1 x0_2 x0_3 x0_4b x0_4l x0_4c x0_5b x0_5l x0_5c x0_6b x0_6l x0_6c H R) h))

/-! f31: switchyard/switchyardref13.RightItem -/
noncomputable def f31_c : Code := Try.f31.body.getD .skip
noncomputable def f31_X0 (R : AEnd → AH → Prop) : AExit → List Value → AH → Prop := thenF (fun tm H => hold (awpF Try.prog (codeAt f31_c [1, 1, 1]) (aPost Try.prog Try.f31 R) tm H)) (aPost Try.prog Try.f31 R)
noncomputable def f31_X1 (R : AEnd → AH → Prop) : AExit → List Value → AH → Prop := inBlockF 0 (f31_X0 R)
noncomputable def f31_Q0 (R : AEnd → AH → Prop) : AExit → List Value → AH → Prop := (f31_X1 R)
def f31_L0 (R : AEnd → AH → Prop) (tm : List Value) (H : AH) : Prop := awpF Try.prog (codeAt f31_c [1, 1, 0, 1, 0]) (f31_Q0 R) tm H
noncomputable def f31_X2 (R : AEnd → AH → Prop) : AExit → List Value → AH → Prop := thenF (fun tm H => hold (awpF Try.prog (codeAt f31_c [1, 1, 1, 1]) (aPost Try.prog Try.f31 R) tm H)) (aPost Try.prog Try.f31 R)
noncomputable def f31_X3 (R : AEnd → AH → Prop) : AExit → List Value → AH → Prop := inBlockF 2 (f31_X2 R)
noncomputable def f31_Q1 (R : AEnd → AH → Prop) : AExit → List Value → AH → Prop := (f31_X3 R)
def f31_L1 (R : AEnd → AH → Prop) (tm : List Value) (H : AH) : Prop := awpF Try.prog (codeAt f31_c [1, 1, 1, 0, 1, 0]) (f31_Q1 R) tm H
noncomputable def f31_X4 (R : AEnd → AH → Prop) : AExit → List Value → AH → Prop := thenF (fun tm H => hold (awpF Try.prog (codeAt f31_c [1, 1]) (aPost Try.prog Try.f31 R) tm H)) (aPost Try.prog Try.f31 R)
def f31_J0 (R : AEnd → AH → Prop) (tm : List Value) (H : AH) : Prop := hold (awpF Try.prog (codeAt f31_c [1, 0, 1]) ((f31_X4 R)) tm H)
def f31_J1 (R : AEnd → AH → Prop) (tm : List Value) (H : AH) : Prop := hold (awpF Try.prog (codeAt f31_c [1, 1]) ((aPost Try.prog Try.f31 R)) tm H)
noncomputable def f31_X5 (K0 : List Value → AH → Prop) (R : AEnd → AH → Prop) : AExit → List Value → AH → Prop := thenF (fun tm H => hold (awpF Try.prog (codeAt f31_c [1, 1, 0, 1, 0, 0, 1, 1, 1]) (thenF K0 (f31_Q0 R)) tm H)) (thenF K0 (f31_Q0 R))
noncomputable def f31_X6 (K0 : List Value → AH → Prop) (R : AEnd → AH → Prop) : AExit → List Value → AH → Prop := inBlockF 1 (f31_X5 K0 R)
def f31_J2 (K0 : List Value → AH → Prop) (R : AEnd → AH → Prop) (tm : List Value) (H : AH) : Prop := hold (awpF Try.prog (codeAt f31_c [1, 1, 0, 1, 0, 0, 1, 1, 0, 0, 1, 1]) ((f31_X6 K0 R)) tm H)
def f31_J3 (R : AEnd → AH → Prop) (tm : List Value) (H : AH) : Prop := hold (awpF Try.prog (codeAt f31_c [1, 1, 1]) ((aPost Try.prog Try.f31 R)) tm H)
-- join 3: live 1:x
def f31_J3_B (s0 : Value) (s1 : Option Addr) (s2 : Value) (s3 : Value) (s4 : Value) (s5 : Value) (s6 : Value) (s7 : Value) (s8 : Value) (s9 : Value) (s10 : Value) (s11 : Value) (s12 : Value) (s13 : Value) (s14 : Value) (s15 : Value) (s16 : Value) (s17 : Value) (s18 : Value) (s19 : Value) (s20 : Value) (s21 : Value) (s22 : Value) (s23 : Value) (s24 : Value) (s25 : Value) (s26 : Value) (s27 : Value) (s28 : Value) (s29 : Value) (s30 : Value) (s31 : Value) (s32 : Value) (s33 : Value) (s34 : Value) (s35 : Value) (s36 : Value) (s37 : Value) (s38 : Value) (s39 : Value) (s40 : Value) (s41 : Value) (s42 : Value) (s43 : Value) (s44 : Value) (s45 : Value) (s46 : Value) (s47 : Value) (s48 : Value) (s53 : Value) (s54 : Value) (s55 : Value) (s56 : Value) (s57 : Value) (s58 : Value) (s59 : Value) (H : AH) (R : AEnd → AH → Prop) : Prop :=
 wPt s1 fun i1 k2 =>
 ldL i1 (k2 + 6) H fun z3b z3l z3c =>
 f31_L1 R [s0, (.pointer s1), s2, s3, s4, s5, s6, s7, s8, s9, s10, s11, s12, s13, s14, s15, s16, s17, s18, s19, s20, s21, s22, s23, s24, s25, s26, s27, s28, s29, s30, s31, s32, s33, s34, s35, s36, s37, s38, s39, s40, s41, s42, s43, s44, s45, s46, s47, s48, (.pointer (some ⟨i1, (k2 + 6), none⟩)), (.slice z3b z3l z3c), (.int .i64 (z3l : Int)), (.int .i64 0), s53, s54, s55, s56, s57, s58, s59] H
theorem f31_J3_eq (s0 : Value) (s1 : Option Addr) (s2 : Value) (s3 : Value) (s4 : Value) (s5 : Value) (s6 : Value) (s7 : Value) (s8 : Value) (s9 : Value) (s10 : Value) (s11 : Value) (s12 : Value) (s13 : Value) (s14 : Value) (s15 : Value) (s16 : Value) (s17 : Value) (s18 : Value) (s19 : Value) (s20 : Value) (s21 : Value) (s22 : Value) (s23 : Value) (s24 : Value) (s25 : Value) (s26 : Value) (s27 : Value) (s28 : Value) (s29 : Value) (s30 : Value) (s31 : Value) (s32 : Value) (s33 : Value) (s34 : Value) (s35 : Value) (s36 : Value) (s37 : Value) (s38 : Value) (s39 : Value) (s40 : Value) (s41 : Value) (s42 : Value) (s43 : Value) (s44 : Value) (s45 : Value) (s46 : Value) (s47 : Value) (s48 : Value) (s49 : Value) (s50 : Value) (s51 : Value) (s52 : Value) (s53 : Value) (s54 : Value) (s55 : Value) (s56 : Value) (s57 : Value) (s58 : Value) (s59 : Value) (H : AH) (R : AEnd → AH → Prop) : f31_J3 R [s0, (.pointer s1), s2, s3, s4, s5, s6, s7, s8, s9, s10, s11, s12, s13, s14, s15, s16, s17, s18, s19, s20, s21, s22, s23, s24, s25, s26, s27, s28, s29, s30, s31, s32, s33, s34, s35, s36, s37, s38, s39, s40, s41, s42, s43, s44, s45, s46, s47, s48, s49, s50, s51, s52, s53, s54, s55, s56, s57, s58, s59] H = f31_J3_B s0 s1 s2 s3 s4 s5 s6 s7 s8 s9 s10 s11 s12 s13 s14 s15 s16 s17 s18 s19 s20 s21 s22 s23 s24 s25 s26 s27 s28 s29 s30 s31 s32 s33 s34 s35 s36 s37 s38 s39 s40 s41 s42 s43 s44 s45 s46 s47 s48 s53 s54 s55 s56 s57 s58 s59 H R := by kernel_rfl
-- join 2: live 1:x, 36:, 37:, 38:, 47:
def f31_J2_B (s0 : Value) (s1 : Option Addr) (s2 : Value) (s3 : Value) (s4 : Value) (s5 : Value) (s6 : Value) (s7 : Value) (s8 : Value) (s9 : Value) (s10 : Value) (s11 : Value) (s12 : Value) (s13 : Value) (s14 : Value) (s15 : Value) (s16 : Value) (s17 : Value) (s18 : Value) (s19 : Value) (s20 : Value) (s21 : Value) (s22 : Value) (s23 : Value) (s24 : Value) (s25 : Value) (s26 : Value) (s27 : Value) (s28 : Value) (s29 : Value) (s30 : Value) (s31 : Value) (s32 : Value) (s33 : Value) (s34 : Value) (s35 : Value) (s36b : Option Addr) (s36l : Nat) (s36c : Nat) (s37 : Int) (s38 : Int) (s39 : Value) (s40 : Value) (s41 : Value) (s42 : Value) (s43 : Value) (s44 : Value) (s45 : Value) (s46 : Value) (s47 : Bool) (s49 : Value) (s50 : Value) (s51 : Value) (s52 : Value) (s53 : Value) (s54 : Value) (s55 : Value) (s56 : Value) (s57 : Value) (s58 : Value) (s59 : Value) (H : AH) (K0 : List Value → AH → Prop) (R : AEnd → AH → Prop) : Prop :=
 wIf s47
 (R (.ret (.bool false)) H)
 (K0 [s0, (.pointer s1), s2, s3, s4, s5, s6, s7, s8, s9, s10, s11, s12, s13, s14, s15, s16, s17, s18, s19, s20, s21, s22, s23, s24, s25, s26, s27, s28, s29, s30, s31, s32, s33, s34, s35, (.slice s36b s36l s36c), (.int .i64 s37), (.int .i64 (IntKind.i64.wrap (s38 + 1))), s39, s40, s41, s42, s43, s44, s45, s46, (.bool false), (.int .i64 (IntKind.i64.wrap (s38 + 1))), s49, s50, s51, s52, s53, s54, s55, s56, s57, s58, s59] H)
theorem f31_J2_eq (s0 : Value) (s1 : Option Addr) (s2 : Value) (s3 : Value) (s4 : Value) (s5 : Value) (s6 : Value) (s7 : Value) (s8 : Value) (s9 : Value) (s10 : Value) (s11 : Value) (s12 : Value) (s13 : Value) (s14 : Value) (s15 : Value) (s16 : Value) (s17 : Value) (s18 : Value) (s19 : Value) (s20 : Value) (s21 : Value) (s22 : Value) (s23 : Value) (s24 : Value) (s25 : Value) (s26 : Value) (s27 : Value) (s28 : Value) (s29 : Value) (s30 : Value) (s31 : Value) (s32 : Value) (s33 : Value) (s34 : Value) (s35 : Value) (s36b : Option Addr) (s36l : Nat) (s36c : Nat) (s37 : Int) (s38 : Int) (s39 : Value) (s40 : Value) (s41 : Value) (s42 : Value) (s43 : Value) (s44 : Value) (s45 : Value) (s46 : Value) (s47 : Bool) (s48 : Value) (s49 : Value) (s50 : Value) (s51 : Value) (s52 : Value) (s53 : Value) (s54 : Value) (s55 : Value) (s56 : Value) (s57 : Value) (s58 : Value) (s59 : Value) (H : AH) (K0 : List Value → AH → Prop) (R : AEnd → AH → Prop) : f31_J2 K0 R [s0, (.pointer s1), s2, s3, s4, s5, s6, s7, s8, s9, s10, s11, s12, s13, s14, s15, s16, s17, s18, s19, s20, s21, s22, s23, s24, s25, s26, s27, s28, s29, s30, s31, s32, s33, s34, s35, (.slice s36b s36l s36c), (.int .i64 s37), (.int .i64 s38), s39, s40, s41, s42, s43, s44, s45, s46, (.bool s47), s48, s49, s50, s51, s52, s53, s54, s55, s56, s57, s58, s59] H = f31_J2_B s0 s1 s2 s3 s4 s5 s6 s7 s8 s9 s10 s11 s12 s13 s14 s15 s16 s17 s18 s19 s20 s21 s22 s23 s24 s25 s26 s27 s28 s29 s30 s31 s32 s33 s34 s35 s36b s36l s36c s37 s38 s39 s40 s41 s42 s43 s44 s45 s46 s47 s49 s50 s51 s52 s53 s54 s55 s56 s57 s58 s59 H K0 R := by kernel_rfl
-- join 1: live 1:x
def f31_J1_B (s0 : Value) (s1 : Option Addr) (s2 : Value) (s3 : Value) (s4 : Value) (s5 : Value) (s6 : Value) (s7 : Value) (s8 : Value) (s9 : Value) (s10 : Value) (s11 : Value) (s12 : Value) (s13 : Value) (s14 : Value) (s15 : Value) (s16 : Value) (s17 : Value) (s18 : Value) (s19 : Value) (s20 : Value) (s21 : Value) (s22 : Value) (s23 : Value) (s24 : Value) (s25 : Value) (s26 : Value) (s27 : Value) (s28 : Value) (s29 : Value) (s30 : Value) (s31 : Value) (s32 : Value) (s33 : Value) (s34 : Value) (s39 : Value) (s40 : Value) (s41 : Value) (s42 : Value) (s43 : Value) (s44 : Value) (s45 : Value) (s46 : Value) (s47 : Value) (s48 : Value) (s49 : Value) (s50 : Value) (s51 : Value) (s52 : Value) (s53 : Value) (s54 : Value) (s55 : Value) (s56 : Value) (s57 : Value) (s58 : Value) (s59 : Value) (H : AH) (R : AEnd → AH → Prop) : Prop :=
 wPt s1 fun i4 k5 =>
 ldL i4 (k5 + 5) H fun z6b z6l z6c =>
 f31_L0 R [s0, (.pointer s1), s2, s3, s4, s5, s6, s7, s8, s9, s10, s11, s12, s13, s14, s15, s16, s17, s18, s19, s20, s21, s22, s23, s24, s25, s26, s27, s28, s29, s30, s31, s32, s33, s34, (.pointer (some ⟨i4, (k5 + 5), none⟩)), (.slice z6b z6l z6c), (.int .i64 (z6l : Int)), (.int .i64 0), s39, s40, s41, s42, s43, s44, s45, s46, s47, s48, s49, s50, s51, s52, s53, s54, s55, s56, s57, s58, s59] H
theorem f31_J1_eq (s0 : Value) (s1 : Option Addr) (s2 : Value) (s3 : Value) (s4 : Value) (s5 : Value) (s6 : Value) (s7 : Value) (s8 : Value) (s9 : Value) (s10 : Value) (s11 : Value) (s12 : Value) (s13 : Value) (s14 : Value) (s15 : Value) (s16 : Value) (s17 : Value) (s18 : Value) (s19 : Value) (s20 : Value) (s21 : Value) (s22 : Value) (s23 : Value) (s24 : Value) (s25 : Value) (s26 : Value) (s27 : Value) (s28 : Value) (s29 : Value) (s30 : Value) (s31 : Value) (s32 : Value) (s33 : Value) (s34 : Value) (s35 : Value) (s36 : Value) (s37 : Value) (s38 : Value) (s39 : Value) (s40 : Value) (s41 : Value) (s42 : Value) (s43 : Value) (s44 : Value) (s45 : Value) (s46 : Value) (s47 : Value) (s48 : Value) (s49 : Value) (s50 : Value) (s51 : Value) (s52 : Value) (s53 : Value) (s54 : Value) (s55 : Value) (s56 : Value) (s57 : Value) (s58 : Value) (s59 : Value) (H : AH) (R : AEnd → AH → Prop) : f31_J1 R [s0, (.pointer s1), s2, s3, s4, s5, s6, s7, s8, s9, s10, s11, s12, s13, s14, s15, s16, s17, s18, s19, s20, s21, s22, s23, s24, s25, s26, s27, s28, s29, s30, s31, s32, s33, s34, s35, s36, s37, s38, s39, s40, s41, s42, s43, s44, s45, s46, s47, s48, s49, s50, s51, s52, s53, s54, s55, s56, s57, s58, s59] H = f31_J1_B s0 s1 s2 s3 s4 s5 s6 s7 s8 s9 s10 s11 s12 s13 s14 s15 s16 s17 s18 s19 s20 s21 s22 s23 s24 s25 s26 s27 s28 s29 s30 s31 s32 s33 s34 s39 s40 s41 s42 s43 s44 s45 s46 s47 s48 s49 s50 s51 s52 s53 s54 s55 s56 s57 s58 s59 H R := by kernel_rfl
-- join 0: live 1:x, 34:
def f31_J0_B (s0 : Value) (s1 : Option Addr) (s2 : Value) (s3 : Value) (s4 : Value) (s5 : Value) (s6 : Value) (s7 : Value) (s8 : Value) (s9 : Value) (s10 : Value) (s11 : Value) (s12 : Value) (s13 : Value) (s14 : Value) (s15 : Value) (s16 : Value) (s17 : Value) (s18 : Value) (s19 : Value) (s20 : Value) (s21 : Value) (s22 : Value) (s23 : Value) (s24 : Value) (s25 : Value) (s26 : Value) (s27 : Value) (s28 : Value) (s29 : Value) (s30 : Value) (s31 : Value) (s32 : Value) (s33 : Value) (s34 : Bool) (s35 : Value) (s36 : Value) (s37 : Value) (s38 : Value) (s39 : Value) (s40 : Value) (s41 : Value) (s42 : Value) (s43 : Value) (s44 : Value) (s45 : Value) (s46 : Value) (s47 : Value) (s48 : Value) (s49 : Value) (s50 : Value) (s51 : Value) (s52 : Value) (s53 : Value) (s54 : Value) (s55 : Value) (s56 : Value) (s57 : Value) (s58 : Value) (s59 : Value) (H : AH) (R : AEnd → AH → Prop) : Prop :=
 wIf s34
 (R (.ret (.bool false)) H)
 (f31_J1 R [s0, (.pointer s1), s2, s3, s4, s5, s6, s7, s8, s9, s10, s11, s12, s13, s14, s15, s16, s17, s18, s19, s20, s21, s22, s23, s24, s25, s26, s27, s28, s29, s30, s31, s32, s33, (.bool false), s35, s36, s37, s38, s39, s40, s41, s42, s43, s44, s45, s46, s47, s48, s49, s50, s51, s52, s53, s54, s55, s56, s57, s58, s59] H)
theorem f31_J0_eq (s0 : Value) (s1 : Option Addr) (s2 : Value) (s3 : Value) (s4 : Value) (s5 : Value) (s6 : Value) (s7 : Value) (s8 : Value) (s9 : Value) (s10 : Value) (s11 : Value) (s12 : Value) (s13 : Value) (s14 : Value) (s15 : Value) (s16 : Value) (s17 : Value) (s18 : Value) (s19 : Value) (s20 : Value) (s21 : Value) (s22 : Value) (s23 : Value) (s24 : Value) (s25 : Value) (s26 : Value) (s27 : Value) (s28 : Value) (s29 : Value) (s30 : Value) (s31 : Value) (s32 : Value) (s33 : Value) (s34 : Bool) (s35 : Value) (s36 : Value) (s37 : Value) (s38 : Value) (s39 : Value) (s40 : Value) (s41 : Value) (s42 : Value) (s43 : Value) (s44 : Value) (s45 : Value) (s46 : Value) (s47 : Value) (s48 : Value) (s49 : Value) (s50 : Value) (s51 : Value) (s52 : Value) (s53 : Value) (s54 : Value) (s55 : Value) (s56 : Value) (s57 : Value) (s58 : Value) (s59 : Value) (H : AH) (R : AEnd → AH → Prop) : f31_J0 R [s0, (.pointer s1), s2, s3, s4, s5, s6, s7, s8, s9, s10, s11, s12, s13, s14, s15, s16, s17, s18, s19, s20, s21, s22, s23, s24, s25, s26, s27, s28, s29, s30, s31, s32, s33, (.bool s34), s35, s36, s37, s38, s39, s40, s41, s42, s43, s44, s45, s46, s47, s48, s49, s50, s51, s52, s53, s54, s55, s56, s57, s58, s59] H = f31_J0_B s0 s1 s2 s3 s4 s5 s6 s7 s8 s9 s10 s11 s12 s13 s14 s15 s16 s17 s18 s19 s20 s21 s22 s23 s24 s25 s26 s27 s28 s29 s30 s31 s32 s33 s34 s35 s36 s37 s38 s39 s40 s41 s42 s43 s44 s45 s46 s47 s48 s49 s50 s51 s52 s53 s54 s55 s56 s57 s58 s59 H R := by kernel_rfl
def f31_R0 (s0 : Value) (s1 : Option Addr) (s2 : Value) (s3 : Value) (s4 : Value) (s5 : Value) (s6 : Value) (s7 : Value) (s8 : Value) (s9 : Value) (s10 : Value) (s11 : Value) (s12 : Value) (s13 : Value) (s14 : Value) (s15 : Value) (s16 : Value) (s17 : Value) (s18 : Value) (s19 : Value) (s20 : Value) (s21 : Value) (s22 : Value) (s23 : Value) (s24 : Value) (s25 : Value) (s26 : Value) (s27 : Value) (s28 : Value) (s29 : Value) (s30 : Value) (s31 : Value) (s32 : Value) (s33 : Value) (s34 : Value) (s35 : Value) (s36b : Option Addr) (s36l : Nat) (s36c : Nat) (s37 : Int) (s38 : Int) (s39 : Value) (s40 : Value) (s41 : Value) (s42 : Value) (s43 : Value) (s44 : Value) (s45 : Value) (s46 : Value) (s47 : Value) (s48 : Value) (s49 : Value) (s50 : Value) (s51 : Value) (s52 : Value) (s53 : Value) (s54 : Value) (s55 : Value) (s56 : Value) (s57 : Value) (s58 : Value) (s59 : Value) (H : AH) (K0 : List Value → AH → Prop) (R : AEnd → AH → Prop) : Prop :=
 wIf (decide (s38 < s37))
 (wIx s36b s36l 1 s38 fun i7 k8 =>
 ldI .i64 i7 k8 H fun n9 =>
 wIf (decide (n9 < 0))
 (f31_J2 K0 R [s0, (.pointer s1), s2, s3, (.int .i64 n9), s5, s6, s7, s8, s9, s10, s11, s12, s13, s14, s15, s16, s17, s18, s19, s20, s21, s22, s23, s24, s25, s26, s27, s28, s29, s30, s31, s32, s33, s34, s35, (.slice s36b s36l s36c), (.int .i64 s37), (.int .i64 s38), (.bool true), (.pointer (some ⟨i7, k8, none⟩)), (.int .i64 n9), (.int .i64 n9), (.bool (decide (n9 < 0))), (.bool true), undef, undef, (.bool true), s48, s49, s50, s51, s52, s53, s54, s55, s56, s57, s58, s59] H)
 (f31_J2 K0 R [s0, (.pointer s1), s2, s3, (.int .i64 n9), s5, s6, s7, s8, s9, s10, s11, s12, s13, s14, s15, s16, s17, s18, s19, s20, s21, s22, s23, s24, s25, s26, s27, s28, s29, s30, s31, s32, s33, s34, s35, (.slice s36b s36l s36c), (.int .i64 s37), (.int .i64 s38), (.bool true), (.pointer (some ⟨i7, k8, none⟩)), (.int .i64 n9), (.int .i64 n9), (.bool (decide (n9 < 0))), (.bool false), (.int .i64 n9), (.bool (decide (n9 > 1000))), (.bool (decide (n9 > 1000))), s48, s49, s50, s51, s52, s53, s54, s55, s56, s57, s58, s59] H))
 (f31_J3 R [s0, (.pointer s1), s2, s3, s4, s5, s6, s7, s8, s9, s10, s11, s12, s13, s14, s15, s16, s17, s18, s19, s20, s21, s22, s23, s24, s25, s26, s27, s28, s29, s30, s31, s32, s33, s34, s35, (.slice s36b s36l s36c), (.int .i64 s37), (.int .i64 s38), (.bool false), s40, s41, s42, s43, s44, s45, s46, s47, s48, s49, s50, s51, s52, s53, s54, s55, s56, s57, s58, s59] H)
theorem f31_R0_eq (s0 : Value) (s1 : Option Addr) (s2 : Value) (s3 : Value) (s4 : Value) (s5 : Value) (s6 : Value) (s7 : Value) (s8 : Value) (s9 : Value) (s10 : Value) (s11 : Value) (s12 : Value) (s13 : Value) (s14 : Value) (s15 : Value) (s16 : Value) (s17 : Value) (s18 : Value) (s19 : Value) (s20 : Value) (s21 : Value) (s22 : Value) (s23 : Value) (s24 : Value) (s25 : Value) (s26 : Value) (s27 : Value) (s28 : Value) (s29 : Value) (s30 : Value) (s31 : Value) (s32 : Value) (s33 : Value) (s34 : Value) (s35 : Value) (s36b : Option Addr) (s36l : Nat) (s36c : Nat) (s37 : Int) (s38 : Int) (s39 : Value) (s40 : Value) (s41 : Value) (s42 : Value) (s43 : Value) (s44 : Value) (s45 : Value) (s46 : Value) (s47 : Value) (s48 : Value) (s49 : Value) (s50 : Value) (s51 : Value) (s52 : Value) (s53 : Value) (s54 : Value) (s55 : Value) (s56 : Value) (s57 : Value) (s58 : Value) (s59 : Value) (H : AH) (K0 : List Value → AH → Prop) (R : AEnd → AH → Prop) : awpF Try.prog (codeAt f31_c [1, 1, 0, 1, 0, 0]) (thenF K0 (f31_Q0 R)) [s0, (.pointer s1), s2, s3, s4, s5, s6, s7, s8, s9, s10, s11, s12, s13, s14, s15, s16, s17, s18, s19, s20, s21, s22, s23, s24, s25, s26, s27, s28, s29, s30, s31, s32, s33, s34, s35, (.slice s36b s36l s36c), (.int .i64 s37), (.int .i64 s38), s39, s40, s41, s42, s43, s44, s45, s46, s47, s48, s49, s50, s51, s52, s53, s54, s55, s56, s57, s58, s59] H = f31_R0 s0 s1 s2 s3 s4 s5 s6 s7 s8 s9 s10 s11 s12 s13 s14 s15 s16 s17 s18 s19 s20 s21 s22 s23 s24 s25 s26 s27 s28 s29 s30 s31 s32 s33 s34 s35 s36b s36l s36c s37 s38 s39 s40 s41 s42 s43 s44 s45 s46 s47 s48 s49 s50 s51 s52 s53 s54 s55 s56 s57 s58 s59 H K0 R := by kernel_rfl
def f31_I0 (s0 : Value) (s1 : Option Addr) (s3 : Value) (s5 : Value) (s6 : Value) (s7 : Value) (s8 : Value) (s9 : Value) (s10 : Value) (s11 : Value) (s12 : Value) (s13 : Value) (s14 : Value) (s15 : Value) (s16 : Value) (s17 : Value) (s18 : Value) (s19 : Value) (s20 : Value) (s21 : Value) (s22 : Value) (s23 : Value) (s24 : Value) (s25 : Value) (s26 : Value) (s27 : Value) (s28 : Value) (s29 : Value) (s30 : Value) (s31 : Value) (s32 : Value) (s33 : Value) (s34 : Value) (s35 : Value) (s36b : Option Addr) (s36l : Nat) (s36c : Nat) (s37 : Int) (s49 : Value) (s50 : Value) (s51 : Value) (s52 : Value) (s53 : Value) (s54 : Value) (s55 : Value) (s56 : Value) (s57 : Value) (s58 : Value) (s59 : Value) (J : Nat → Int → AH → Prop) (n : Nat) (tm : List Value) (H : AH) : Prop := ∃ (s2 : Value) (s4 : Value) (s38 : Int) (s39 : Value) (s40 : Value) (s41 : Value) (s42 : Value) (s43 : Value) (s44 : Value) (s45 : Value) (s46 : Value) (s47 : Value) (s48 : Value), tm = [s0, (.pointer s1), s2, s3, s4, s5, s6, s7, s8, s9, s10, s11, s12, s13, s14, s15, s16, s17, s18, s19, s20, s21, s22, s23, s24, s25, s26, s27, s28, s29, s30, s31, s32, s33, s34, s35, (.slice s36b s36l s36c), (.int .i64 s37), (.int .i64 s38), s39, s40, s41, s42, s43, s44, s45, s46, s47, s48, s49, s50, s51, s52, s53, s54, s55, s56, s57, s58, s59] ∧ J n s38 H
theorem f31_I0_mk {s0 : Value} {s1 : Option Addr} {s2 : Value} {s3 : Value} {s4 : Value} {s5 : Value} {s6 : Value} {s7 : Value} {s8 : Value} {s9 : Value} {s10 : Value} {s11 : Value} {s12 : Value} {s13 : Value} {s14 : Value} {s15 : Value} {s16 : Value} {s17 : Value} {s18 : Value} {s19 : Value} {s20 : Value} {s21 : Value} {s22 : Value} {s23 : Value} {s24 : Value} {s25 : Value} {s26 : Value} {s27 : Value} {s28 : Value} {s29 : Value} {s30 : Value} {s31 : Value} {s32 : Value} {s33 : Value} {s34 : Value} {s35 : Value} {s36b : Option Addr} {s36l : Nat} {s36c : Nat} {s37 : Int} {s38 : Int} {s39 : Value} {s40 : Value} {s41 : Value} {s42 : Value} {s43 : Value} {s44 : Value} {s45 : Value} {s46 : Value} {s47 : Value} {s48 : Value} {s49 : Value} {s50 : Value} {s51 : Value} {s52 : Value} {s53 : Value} {s54 : Value} {s55 : Value} {s56 : Value} {s57 : Value} {s58 : Value} {s59 : Value} {J : Nat → Int → AH → Prop} {n : Nat} {H : AH} (h : J n s38 H) : f31_I0 s0 s1 s3 s5 s6 s7 s8 s9 s10 s11 s12 s13 s14 s15 s16 s17 s18 s19 s20 s21 s22 s23 s24 s25 s26 s27 s28 s29 s30 s31 s32 s33 s34 s35 s36b s36l s36c s37 s49 s50 s51 s52 s53 s54 s55 s56 s57 s58 s59 J n [s0, (.pointer s1), s2, s3, s4, s5, s6, s7, s8, s9, s10, s11, s12, s13, s14, s15, s16, s17, s18, s19, s20, s21, s22, s23, s24, s25, s26, s27, s28, s29, s30, s31, s32, s33, s34, s35, (.slice s36b s36l s36c), (.int .i64 s37), (.int .i64 s38), s39, s40, s41, s42, s43, s44, s45, s46, s47, s48, s49, s50, s51, s52, s53, s54, s55, s56, s57, s58, s59] H := ⟨_, _, _, _, _, _, _, _, _, _, _, _, _, rfl, h⟩
-- loop 0: carried 38:
theorem f31_L0_rule {s0 : Value} {s1 : Option Addr} {s2 : Value} {s3 : Value} {s4 : Value} {s5 : Value} {s6 : Value} {s7 : Value} {s8 : Value} {s9 : Value} {s10 : Value} {s11 : Value} {s12 : Value} {s13 : Value} {s14 : Value} {s15 : Value} {s16 : Value} {s17 : Value} {s18 : Value} {s19 : Value} {s20 : Value} {s21 : Value} {s22 : Value} {s23 : Value} {s24 : Value} {s25 : Value} {s26 : Value} {s27 : Value} {s28 : Value} {s29 : Value} {s30 : Value} {s31 : Value} {s32 : Value} {s33 : Value} {s34 : Value} {s35 : Value} {s36b : Option Addr} {s36l : Nat} {s36c : Nat} {s37 : Int} {s38 : Int} {s39 : Value} {s40 : Value} {s41 : Value} {s42 : Value} {s43 : Value} {s44 : Value} {s45 : Value} {s46 : Value} {s47 : Value} {s48 : Value} {s49 : Value} {s50 : Value} {s51 : Value} {s52 : Value} {s53 : Value} {s54 : Value} {s55 : Value} {s56 : Value} {s57 : Value} {s58 : Value} {s59 : Value} {H : AH} {R : AEnd → AH → Prop} (J : Nat → Int → AH → Prop) (n : Nat) (h0 : J n s38 H)
  (step : ∀ (n : Nat) (s38 : Int) (H : AH), J n s38 H → ∀ (s2 : Value) (s4 : Value) (s39 : Value) (s40 : Value) (s41 : Value) (s42 : Value) (s43 : Value) (s44 : Value) (s45 : Value) (s46 : Value) (s47 : Value) (s48 : Value), f31_R0 s0 s1 s2 s3 s4 s5 s6 s7 s8 s9 s10 s11 s12 s13 s14 s15 s16 s17 s18 s19 s20 s21 s22 s23 s24 s25 s26 s27 s28 s29 s30 s31 s32 s33 s34 s35 s36b s36l s36c s37 s38 s39 s40 s41 s42 s43 s44 s45 s46 s47 s48 s49 s50 s51 s52 s53 s54 s55 s56 s57 s58 s59 H (fun tm H => ∃ m, m < n ∧ f31_I0 s0 s1 s3 s5 s6 s7 s8 s9 s10 s11 s12 s13 s14 s15 s16 s17 s18 s19 s20 s21 s22 s23 s24 s25 s26 s27 s28 s29 s30 s31 s32 s33 s34 s35 s36b s36l s36c s37 s49 s50 s51 s52 s53 s54 s55 s56 s57 s58 s59 J m tm H) R) : f31_L0 R [s0, (.pointer s1), s2, s3, s4, s5, s6, s7, s8, s9, s10, s11, s12, s13, s14, s15, s16, s17, s18, s19, s20, s21, s22, s23, s24, s25, s26, s27, s28, s29, s30, s31, s32, s33, s34, s35, (.slice s36b s36l s36c), (.int .i64 s37), (.int .i64 s38), s39, s40, s41, s42, s43, s44, s45, s46, s47, s48, s49, s50, s51, s52, s53, s54, s55, s56, s57, s58, s59] H :=
  awpF_loop (f31_I0 s0 s1 s3 s5 s6 s7 s8 s9 s10 s11 s12 s13 s14 s15 s16 s17 s18 s19 s20 s21 s22 s23 s24 s25 s26 s27 s28 s29 s30 s31 s32 s33 s34 s35 s36b s36l s36c s37 s49 s50 s51 s52 s53 s54 s55 s56 s57 s58 s59 J) n (f31_I0_mk h0) (by
    intro n tm H hh
    exact Exists.elim hh fun s2 hh => Exists.elim hh fun s4 hh => Exists.elim hh fun s38 hh => Exists.elim hh fun s39 hh => Exists.elim hh fun s40 hh => Exists.elim hh fun s41 hh => Exists.elim hh fun s42 hh => Exists.elim hh fun s43 hh => Exists.elim hh fun s44 hh => Exists.elim hh fun s45 hh => Exists.elim hh fun s46 hh => Exists.elim hh fun s47 hh => Exists.elim hh fun s48 hh => And.elim (fun e h =>
     (by subst e; exact Eq.mpr (f31_R0_eq s0 s1 s2 s3 s4 s5 s6 s7 s8 s9 s10 s11 s12 s13 s14 s15 s16 s17 s18 s19 s20 s21 s22 s23 s24 s25 s26 s27 s28 s29 s30 s31 s32 s33 s34 s35 s36b s36l s36c s37 s38 s39 s40 s41 s42 s43 s44 s45 s46 s47 s48 s49 s50 s51 s52 s53 s54 s55 s56 s57 s58 s59 H _ R) (step n s38 H h s2 s4 s39 s40 s41 s42 s43 s44 s45 s46 s47 s48))) hh)
def f31_R1 (s0 : Value) (s1 : Value) (s2 : Value) (s3 : Value) (s4 : Value) (s5 : Value) (s6 : Value) (s7 : Value) (s8 : Value) (s9 : Value) (s10 : Value) (s11 : Value) (s12 : Value) (s13 : Value) (s14 : Value) (s15 : Value) (s16 : Value) (s17 : Value) (s18 : Value) (s19 : Value) (s20 : Value) (s21 : Value) (s22 : Value) (s23 : Value) (s24 : Value) (s25 : Value) (s26 : Value) (s27 : Value) (s28 : Value) (s29 : Value) (s30 : Value) (s31 : Value) (s32 : Value) (s33 : Value) (s34 : Value) (s35 : Value) (s36 : Value) (s37 : Value) (s38 : Value) (s39 : Value) (s40 : Value) (s41 : Value) (s42 : Value) (s43 : Value) (s44 : Value) (s45 : Value) (s46 : Value) (s47 : Value) (s48 : Value) (s49 : Value) (s50b : Option Addr) (s50l : Nat) (s50c : Nat) (s51 : Int) (s52 : Int) (s53 : Value) (s54 : Value) (s55 : Value) (s56 : Value) (s57 : Value) (s58 : Value) (s59 : Value) (H : AH) (K1 : List Value → AH → Prop) (R : AEnd → AH → Prop) : Prop :=
 wIf (decide (s52 < s51))
 (wIx s50b s50l 4 s52 fun i10 k11 =>
 ldI .i64 i10 k11 H fun n12 =>
 ldS i10 (k11 + 1) H fun t13 =>
 ldL i10 (k11 + 2) H fun z14b z14l z14c =>
 ldL i10 (k11 + 3) H fun z15b z15l z15c =>
 wNew [(.int .i64 0), (.string ({ data := #[] })), (.slice none 0 0), (.slice none 0 0)] H fun i16 H17 =>
 wSt i16 0 [(.int .i64 n12), (.string t13), (.slice z14b z14l z14c), (.slice z15b z15l z15c)] H17 fun H18 =>
 ldI .i64 i16 0 H18 fun n19 =>
 ldS i16 1 H18 fun t20 =>
 ldL i16 2 H18 fun z21b z21l z21c =>
 ldL i16 3 H18 fun z22b z22l z22c =>
 wCall Try.prog 29 [(.agg #[(.int .i64 n19), (.string t20), (.slice z21b z21l z21c), (.slice z22b z22l z22c)])] H18 (fun r23 H24 =>
 opB r23 fun b27 =>
 wIf (!b27)
 (R (.ret (.bool false)) H24)
 (K1 [s0, s1, s2, s3, s4, s5, (.pointer (some ⟨i16, 0, none⟩)), s7, s8, s9, s10, s11, s12, s13, s14, s15, s16, s17, s18, s19, s20, s21, s22, s23, s24, s25, s26, s27, s28, s29, s30, s31, s32, s33, s34, s35, s36, s37, s38, s39, s40, s41, s42, s43, s44, s45, s46, s47, s48, s49, (.slice s50b s50l s50c), (.int .i64 s51), (.int .i64 (IntKind.i64.wrap (s52 + 1))), (.bool true), (.pointer (some ⟨i10, k11, none⟩)), (.agg #[(.int .i64 n12), (.string t13), (.slice z14b z14l z14c), (.slice z15b z15l z15c)]), (.agg #[(.int .i64 n19), (.string t20), (.slice z21b z21l z21c), (.slice z22b z22l z22c)]), (.bool b27), (.bool false), (.int .i64 (IntKind.i64.wrap (s52 + 1)))] H24)) (fun v26 H25 => R (.panic v26) H25))
 (R (.ret (.bool true)) H)
theorem f31_R1_eq (s0 : Value) (s1 : Value) (s2 : Value) (s3 : Value) (s4 : Value) (s5 : Value) (s6 : Value) (s7 : Value) (s8 : Value) (s9 : Value) (s10 : Value) (s11 : Value) (s12 : Value) (s13 : Value) (s14 : Value) (s15 : Value) (s16 : Value) (s17 : Value) (s18 : Value) (s19 : Value) (s20 : Value) (s21 : Value) (s22 : Value) (s23 : Value) (s24 : Value) (s25 : Value) (s26 : Value) (s27 : Value) (s28 : Value) (s29 : Value) (s30 : Value) (s31 : Value) (s32 : Value) (s33 : Value) (s34 : Value) (s35 : Value) (s36 : Value) (s37 : Value) (s38 : Value) (s39 : Value) (s40 : Value) (s41 : Value) (s42 : Value) (s43 : Value) (s44 : Value) (s45 : Value) (s46 : Value) (s47 : Value) (s48 : Value) (s49 : Value) (s50b : Option Addr) (s50l : Nat) (s50c : Nat) (s51 : Int) (s52 : Int) (s53 : Value) (s54 : Value) (s55 : Value) (s56 : Value) (s57 : Value) (s58 : Value) (s59 : Value) (H : AH) (K1 : List Value → AH → Prop) (R : AEnd → AH → Prop) : awpF Try.prog (codeAt f31_c [1, 1, 1, 0, 1, 0, 0]) (thenF K1 (f31_Q1 R)) [s0, s1, s2, s3, s4, s5, s6, s7, s8, s9, s10, s11, s12, s13, s14, s15, s16, s17, s18, s19, s20, s21, s22, s23, s24, s25, s26, s27, s28, s29, s30, s31, s32, s33, s34, s35, s36, s37, s38, s39, s40, s41, s42, s43, s44, s45, s46, s47, s48, s49, (.slice s50b s50l s50c), (.int .i64 s51), (.int .i64 s52), s53, s54, s55, s56, s57, s58, s59] H = f31_R1 s0 s1 s2 s3 s4 s5 s6 s7 s8 s9 s10 s11 s12 s13 s14 s15 s16 s17 s18 s19 s20 s21 s22 s23 s24 s25 s26 s27 s28 s29 s30 s31 s32 s33 s34 s35 s36 s37 s38 s39 s40 s41 s42 s43 s44 s45 s46 s47 s48 s49 s50b s50l s50c s51 s52 s53 s54 s55 s56 s57 s58 s59 H K1 R := by kernel_rfl
def f31_I1 (s0 : Value) (s1 : Value) (s3 : Value) (s4 : Value) (s5 : Value) (s7 : Value) (s8 : Value) (s9 : Value) (s10 : Value) (s11 : Value) (s12 : Value) (s13 : Value) (s14 : Value) (s15 : Value) (s16 : Value) (s17 : Value) (s18 : Value) (s19 : Value) (s20 : Value) (s21 : Value) (s22 : Value) (s23 : Value) (s24 : Value) (s25 : Value) (s26 : Value) (s27 : Value) (s28 : Value) (s29 : Value) (s30 : Value) (s31 : Value) (s32 : Value) (s33 : Value) (s34 : Value) (s35 : Value) (s36 : Value) (s37 : Value) (s38 : Value) (s39 : Value) (s40 : Value) (s41 : Value) (s42 : Value) (s43 : Value) (s44 : Value) (s45 : Value) (s46 : Value) (s47 : Value) (s48 : Value) (s49 : Value) (s50b : Option Addr) (s50l : Nat) (s50c : Nat) (s51 : Int) (J : Nat → Int → AH → Prop) (n : Nat) (tm : List Value) (H : AH) : Prop := ∃ (s2 : Value) (s6 : Value) (s52 : Int) (s53 : Value) (s54 : Value) (s55 : Value) (s56 : Value) (s57 : Value) (s58 : Value) (s59 : Value), tm = [s0, s1, s2, s3, s4, s5, s6, s7, s8, s9, s10, s11, s12, s13, s14, s15, s16, s17, s18, s19, s20, s21, s22, s23, s24, s25, s26, s27, s28, s29, s30, s31, s32, s33, s34, s35, s36, s37, s38, s39, s40, s41, s42, s43, s44, s45, s46, s47, s48, s49, (.slice s50b s50l s50c), (.int .i64 s51), (.int .i64 s52), s53, s54, s55, s56, s57, s58, s59] ∧ J n s52 H
theorem f31_I1_mk {s0 : Value} {s1 : Value} {s2 : Value} {s3 : Value} {s4 : Value} {s5 : Value} {s6 : Value} {s7 : Value} {s8 : Value} {s9 : Value} {s10 : Value} {s11 : Value} {s12 : Value} {s13 : Value} {s14 : Value} {s15 : Value} {s16 : Value} {s17 : Value} {s18 : Value} {s19 : Value} {s20 : Value} {s21 : Value} {s22 : Value} {s23 : Value} {s24 : Value} {s25 : Value} {s26 : Value} {s27 : Value} {s28 : Value} {s29 : Value} {s30 : Value} {s31 : Value} {s32 : Value} {s33 : Value} {s34 : Value} {s35 : Value} {s36 : Value} {s37 : Value} {s38 : Value} {s39 : Value} {s40 : Value} {s41 : Value} {s42 : Value} {s43 : Value} {s44 : Value} {s45 : Value} {s46 : Value} {s47 : Value} {s48 : Value} {s49 : Value} {s50b : Option Addr} {s50l : Nat} {s50c : Nat} {s51 : Int} {s52 : Int} {s53 : Value} {s54 : Value} {s55 : Value} {s56 : Value} {s57 : Value} {s58 : Value} {s59 : Value} {J : Nat → Int → AH → Prop} {n : Nat} {H : AH} (h : J n s52 H) : f31_I1 s0 s1 s3 s4 s5 s7 s8 s9 s10 s11 s12 s13 s14 s15 s16 s17 s18 s19 s20 s21 s22 s23 s24 s25 s26 s27 s28 s29 s30 s31 s32 s33 s34 s35 s36 s37 s38 s39 s40 s41 s42 s43 s44 s45 s46 s47 s48 s49 s50b s50l s50c s51 J n [s0, s1, s2, s3, s4, s5, s6, s7, s8, s9, s10, s11, s12, s13, s14, s15, s16, s17, s18, s19, s20, s21, s22, s23, s24, s25, s26, s27, s28, s29, s30, s31, s32, s33, s34, s35, s36, s37, s38, s39, s40, s41, s42, s43, s44, s45, s46, s47, s48, s49, (.slice s50b s50l s50c), (.int .i64 s51), (.int .i64 s52), s53, s54, s55, s56, s57, s58, s59] H := ⟨_, _, _, _, _, _, _, _, _, _, rfl, h⟩
-- loop 1: carried 52:
theorem f31_L1_rule {s0 : Value} {s1 : Value} {s2 : Value} {s3 : Value} {s4 : Value} {s5 : Value} {s6 : Value} {s7 : Value} {s8 : Value} {s9 : Value} {s10 : Value} {s11 : Value} {s12 : Value} {s13 : Value} {s14 : Value} {s15 : Value} {s16 : Value} {s17 : Value} {s18 : Value} {s19 : Value} {s20 : Value} {s21 : Value} {s22 : Value} {s23 : Value} {s24 : Value} {s25 : Value} {s26 : Value} {s27 : Value} {s28 : Value} {s29 : Value} {s30 : Value} {s31 : Value} {s32 : Value} {s33 : Value} {s34 : Value} {s35 : Value} {s36 : Value} {s37 : Value} {s38 : Value} {s39 : Value} {s40 : Value} {s41 : Value} {s42 : Value} {s43 : Value} {s44 : Value} {s45 : Value} {s46 : Value} {s47 : Value} {s48 : Value} {s49 : Value} {s50b : Option Addr} {s50l : Nat} {s50c : Nat} {s51 : Int} {s52 : Int} {s53 : Value} {s54 : Value} {s55 : Value} {s56 : Value} {s57 : Value} {s58 : Value} {s59 : Value} {H : AH} {R : AEnd → AH → Prop} (J : Nat → Int → AH → Prop) (n : Nat) (h0 : J n s52 H)
  (step : ∀ (n : Nat) (s52 : Int) (H : AH), J n s52 H → ∀ (s2 : Value) (s6 : Value) (s53 : Value) (s54 : Value) (s55 : Value) (s56 : Value) (s57 : Value) (s58 : Value) (s59 : Value), f31_R1 s0 s1 s2 s3 s4 s5 s6 s7 s8 s9 s10 s11 s12 s13 s14 s15 s16 s17 s18 s19 s20 s21 s22 s23 s24 s25 s26 s27 s28 s29 s30 s31 s32 s33 s34 s35 s36 s37 s38 s39 s40 s41 s42 s43 s44 s45 s46 s47 s48 s49 s50b s50l s50c s51 s52 s53 s54 s55 s56 s57 s58 s59 H (fun tm H => ∃ m, m < n ∧ f31_I1 s0 s1 s3 s4 s5 s7 s8 s9 s10 s11 s12 s13 s14 s15 s16 s17 s18 s19 s20 s21 s22 s23 s24 s25 s26 s27 s28 s29 s30 s31 s32 s33 s34 s35 s36 s37 s38 s39 s40 s41 s42 s43 s44 s45 s46 s47 s48 s49 s50b s50l s50c s51 J m tm H) R) : f31_L1 R [s0, s1, s2, s3, s4, s5, s6, s7, s8, s9, s10, s11, s12, s13, s14, s15, s16, s17, s18, s19, s20, s21, s22, s23, s24, s25, s26, s27, s28, s29, s30, s31, s32, s33, s34, s35, s36, s37, s38, s39, s40, s41, s42, s43, s44, s45, s46, s47, s48, s49, (.slice s50b s50l s50c), (.int .i64 s51), (.int .i64 s52), s53, s54, s55, s56, s57, s58, s59] H :=
  awpF_loop (f31_I1 s0 s1 s3 s4 s5 s7 s8 s9 s10 s11 s12 s13 s14 s15 s16 s17 s18 s19 s20 s21 s22 s23 s24 s25 s26 s27 s28 s29 s30 s31 s32 s33 s34 s35 s36 s37 s38 s39 s40 s41 s42 s43 s44 s45 s46 s47 s48 s49 s50b s50l s50c s51 J) n (f31_I1_mk h0) (by
    intro n tm H hh
    exact Exists.elim hh fun s2 hh => Exists.elim hh fun s6 hh => Exists.elim hh fun s52 hh => Exists.elim hh fun s53 hh => Exists.elim hh fun s54 hh => Exists.elim hh fun s55 hh => Exists.elim hh fun s56 hh => Exists.elim hh fun s57 hh => Exists.elim hh fun s58 hh => Exists.elim hh fun s59 hh => And.elim (fun e h =>
     (by subst e; exact Eq.mpr (f31_R1_eq s0 s1 s2 s3 s4 s5 s6 s7 s8 s9 s10 s11 s12 s13 s14 s15 s16 s17 s18 s19 s20 s21 s22 s23 s24 s25 s26 s27 s28 s29 s30 s31 s32 s33 s34 s35 s36 s37 s38 s39 s40 s41 s42 s43 s44 s45 s46 s47 s48 s49 s50b s50l s50c s51 s52 s53 s54 s55 s56 s57 s58 s59 H _ R) (step n s52 H h s2 s6 s53 s54 s55 s56 s57 s58 s59))) hh)
def f31_B (x0_0 : Int) (x0_1 : ByteArray) (x0_2 : ByteArray) (x0_3 : Int) (x0_4b : Option Addr) (x0_4l : Nat) (x0_4c : Nat) (x0_5b : Option Addr) (x0_5l : Nat) (x0_5c : Nat) (x0_6b : Option Addr) (x0_6l : Nat) (x0_6c : Nat) (H : AH) (R : AEnd → AH → Prop) : Prop :=
 wNew [(.int .i64 x0_0), (.string x0_1), (.string x0_2), (.int .i64 x0_3), (.slice x0_4b x0_4l x0_4c), (.slice x0_5b x0_5l x0_5c), (.slice x0_6b x0_6l x0_6c)] H fun i28 H29 =>
 ldS i28 1 H29 fun t30 =>
 wIf (decide ((t30.size : Int) > 24))
 (f31_J0 R [(.agg #[(.int .i64 x0_0), (.string x0_1), (.string x0_2), (.int .i64 x0_3), (.slice x0_4b x0_4l x0_4c), (.slice x0_5b x0_5l x0_5c), (.slice x0_6b x0_6l x0_6c)]), (.pointer (some ⟨i28, 0, none⟩)), (.bool false), undef, undef, undef, undef, (.pointer (some ⟨i28, 1, none⟩)), (.string t30), (.int .i64 (t30.size : Int)), (.bool (decide ((t30.size : Int) > 24))), (.bool true), undef, undef, undef, undef, (.bool true), (.bool true), undef, undef, undef, undef, (.bool true), (.bool true), undef, undef, undef, undef, (.bool true), (.bool true), undef, undef, undef, undef, (.bool true), undef, undef, undef, undef, undef, undef, undef, undef, undef, undef, undef, undef, undef, undef, undef, undef, undef, undef, undef, undef, undef, undef, undef, undef, undef] H29)
 (ldS i28 2 H29 fun t31 =>
 wIf (decide ((t31.size : Int) > 24))
 (f31_J0 R [(.agg #[(.int .i64 x0_0), (.string x0_1), (.string x0_2), (.int .i64 x0_3), (.slice x0_4b x0_4l x0_4c), (.slice x0_5b x0_5l x0_5c), (.slice x0_6b x0_6l x0_6c)]), (.pointer (some ⟨i28, 0, none⟩)), (.bool false), undef, undef, undef, undef, (.pointer (some ⟨i28, 1, none⟩)), (.string t30), (.int .i64 (t30.size : Int)), (.bool (decide ((t30.size : Int) > 24))), (.bool false), (.pointer (some ⟨i28, 2, none⟩)), (.string t31), (.int .i64 (t31.size : Int)), (.bool (decide ((t31.size : Int) > 24))), (.bool (decide ((t31.size : Int) > 24))), (.bool true), undef, undef, undef, undef, (.bool true), (.bool true), undef, undef, undef, undef, (.bool true), (.bool true), undef, undef, undef, undef, (.bool true), undef, undef, undef, undef, undef, undef, undef, undef, undef, undef, undef, undef, undef, undef, undef, undef, undef, undef, undef, undef, undef, undef, undef, undef, undef] H29)
 (ldL i28 4 H29 fun z32b z32l z32c =>
 wCall Try.prog 73 [(.slice z32b z32l z32c)] H29 (fun r33 H34 =>
 opB r33 fun b37 =>
 wIf (!b37)
 (f31_J0 R [(.agg #[(.int .i64 x0_0), (.string x0_1), (.string x0_2), (.int .i64 x0_3), (.slice x0_4b x0_4l x0_4c), (.slice x0_5b x0_5l x0_5c), (.slice x0_6b x0_6l x0_6c)]), (.pointer (some ⟨i28, 0, none⟩)), (.bool false), undef, undef, undef, undef, (.pointer (some ⟨i28, 1, none⟩)), (.string t30), (.int .i64 (t30.size : Int)), (.bool (decide ((t30.size : Int) > 24))), (.bool false), (.pointer (some ⟨i28, 2, none⟩)), (.string t31), (.int .i64 (t31.size : Int)), (.bool (decide ((t31.size : Int) > 24))), (.bool (decide ((t31.size : Int) > 24))), (.bool false), (.pointer (some ⟨i28, 4, none⟩)), (.slice z32b z32l z32c), (.bool b37), (.bool (!b37)), (.bool (!b37)), (.bool true), undef, undef, undef, undef, (.bool true), (.bool true), undef, undef, undef, undef, (.bool true), undef, undef, undef, undef, undef, undef, undef, undef, undef, undef, undef, undef, undef, undef, undef, undef, undef, undef, undef, undef, undef, undef, undef, undef, undef] H34)
 (ldL i28 5 H34 fun z38b z38l z38c =>
 wIf (decide ((z38l : Int) > 16))
 (f31_J0 R [(.agg #[(.int .i64 x0_0), (.string x0_1), (.string x0_2), (.int .i64 x0_3), (.slice x0_4b x0_4l x0_4c), (.slice x0_5b x0_5l x0_5c), (.slice x0_6b x0_6l x0_6c)]), (.pointer (some ⟨i28, 0, none⟩)), (.bool false), undef, undef, undef, undef, (.pointer (some ⟨i28, 1, none⟩)), (.string t30), (.int .i64 (t30.size : Int)), (.bool (decide ((t30.size : Int) > 24))), (.bool false), (.pointer (some ⟨i28, 2, none⟩)), (.string t31), (.int .i64 (t31.size : Int)), (.bool (decide ((t31.size : Int) > 24))), (.bool (decide ((t31.size : Int) > 24))), (.bool false), (.pointer (some ⟨i28, 4, none⟩)), (.slice z32b z32l z32c), (.bool b37), (.bool (!b37)), (.bool (!b37)), (.bool false), (.pointer (some ⟨i28, 5, none⟩)), (.slice z38b z38l z38c), (.int .i64 (z38l : Int)), (.bool (decide ((z38l : Int) > 16))), (.bool (decide ((z38l : Int) > 16))), (.bool true), undef, undef, undef, undef, (.bool true), undef, undef, undef, undef, undef, undef, undef, undef, undef, undef, undef, undef, undef, undef, undef, undef, undef, undef, undef, undef, undef, undef, undef, undef, undef] H34)
 (ldL i28 6 H34 fun z39b z39l z39c =>
 f31_J0 R [(.agg #[(.int .i64 x0_0), (.string x0_1), (.string x0_2), (.int .i64 x0_3), (.slice x0_4b x0_4l x0_4c), (.slice x0_5b x0_5l x0_5c), (.slice x0_6b x0_6l x0_6c)]), (.pointer (some ⟨i28, 0, none⟩)), (.bool false), undef, undef, undef, undef, (.pointer (some ⟨i28, 1, none⟩)), (.string t30), (.int .i64 (t30.size : Int)), (.bool (decide ((t30.size : Int) > 24))), (.bool false), (.pointer (some ⟨i28, 2, none⟩)), (.string t31), (.int .i64 (t31.size : Int)), (.bool (decide ((t31.size : Int) > 24))), (.bool (decide ((t31.size : Int) > 24))), (.bool false), (.pointer (some ⟨i28, 4, none⟩)), (.slice z32b z32l z32c), (.bool b37), (.bool (!b37)), (.bool (!b37)), (.bool false), (.pointer (some ⟨i28, 5, none⟩)), (.slice z38b z38l z38c), (.int .i64 (z38l : Int)), (.bool (decide ((z38l : Int) > 16))), (.bool (decide ((z38l : Int) > 16))), (.bool false), (.pointer (some ⟨i28, 6, none⟩)), (.slice z39b z39l z39c), (.int .i64 (z39l : Int)), (.bool (decide ((z39l : Int) > 4096))), (.bool (decide ((z39l : Int) > 4096))), undef, undef, undef, undef, undef, undef, undef, undef, undef, undef, undef, undef, undef, undef, undef, undef, undef, undef, undef, undef, undef, undef, undef, undef, undef] H34))) (fun v36 H35 => R (.panic v36) H35)))
theorem f31_eq (x0_0 : Int) (x0_1 : ByteArray) (x0_2 : ByteArray) (x0_3 : Int) (x0_4b : Option Addr) (x0_4l : Nat) (x0_4c : Nat) (x0_5b : Option Addr) (x0_5l : Nat) (x0_5c : Nat) (x0_6b : Option Addr) (x0_6l : Nat) (x0_6c : Nat) (H : AH) (R : AEnd → AH → Prop) : awpF Try.prog f31_c (aPost Try.prog Try.f31 R) (([(.agg #[(.int .i64 x0_0), (.string x0_1), (.string x0_2), (.int .i64 x0_3), (.slice x0_4b x0_4l x0_4c), (.slice x0_5b x0_5l x0_5c), (.slice x0_6b x0_6l x0_6c)])] : List Value) ++ List.replicate (Try.f31.ntmps - (([(.agg #[(.int .i64 x0_0), (.string x0_1), (.string x0_2), (.int .i64 x0_3), (.slice x0_4b x0_4l x0_4c), (.slice x0_5b x0_5l x0_5c), (.slice x0_6b x0_6l x0_6c)])] : List Value)).length) undef) H = f31_B x0_0 x0_1 x0_2 x0_3 x0_4b x0_4l x0_4c x0_5b x0_5l x0_5c x0_6b x0_6l x0_6c H R := by kernel_rfl
theorem f31_call (x0_0 : Int) (x0_1 : ByteArray) (x0_2 : ByteArray) (x0_3 : Int) (x0_4b : Option Addr) (x0_4l : Nat) (x0_4c : Nat) (x0_5b : Option Addr) (x0_5l : Nat) (x0_5c : Nat) (x0_6b : Option Addr) (x0_6l : Nat) (x0_6c : Nat) (H : AH) (R : AEnd → AH → Prop) (h : f31_B x0_0 x0_1 x0_2 x0_3 x0_4b x0_4l x0_4c x0_5b x0_5l x0_5c x0_6b x0_6l x0_6c H R) : ACall Try.prog 31 ([(.agg #[(.int .i64 x0_0), (.string x0_1), (.string x0_2), (.int .i64 x0_3), (.slice x0_4b x0_4l x0_4c), (.slice x0_5b x0_5l x0_5c), (.slice x0_6b x0_6l x0_6c)])] : List Value) H R :=
  acall_of mixed Try.func31 (by kernel_rfl : Try.f31.body = some f31_c) (by kernel_rfl) (by kernel_rfl) (awp_of (Eq.mpr (f31_eq x0_0 x0_1 x0_2 x0_3 x0_4b x0_4l x0_4c x0_5b x0_5l x0_5c x0_6b x0_6l x0_6c H R) h))

/-! f35: switchyard/switchyardref13.Dead -/
noncomputable def f35_c : Code := Try.f35.body.getD .skip
def f35_B (x0_0 : Int) (x0_1 : Int) (x0_2 : ByteArray) (x0_3b : Option Addr) (x0_3l : Nat) (x0_3c : Nat) (x0_4b : Option Addr) (x0_4l : Nat) (x0_4c : Nat) (x0_5 : Int) (H : AH) (R : AEnd → AH → Prop) : Prop :=
 wNew [(.int .i64 x0_0), (.int .i64 x0_1), (.string x0_2), (.slice x0_3b x0_3l x0_3c), (.slice x0_4b x0_4l x0_4c), (.int .i64 x0_5)] H fun i1 H2 =>
 ldI .i64 i1 0 H2 fun n3 =>
 ldI .i64 i1 5 H2 fun n4 =>
 (wCall Try.prog 68 [(.int .i64 n3)] H2 (fun r5 H6 =>
 opS r5 fun t9 =>
 wPin i1 5 [(.int .i64 n4)] H6 <|
 ldI .i64 i1 1 H6 fun n10 =>
 ldS i1 2 H6 fun t11 =>
 ldL i1 3 H6 fun z12b z12l z12c =>
 ldL i1 4 H6 fun z13b z13l z13c =>
 wPin i1 5 [(.int .i64 n4)] H6 <|
 wCall Try.prog 28 [(.agg #[(.int .i64 n10), (.string t11), (.slice z12b z12l z12c), (.slice z13b z13l z13c)])] H6 (fun r14 H15 =>
 opS r14 fun t18 =>
 wPin i1 5 [(.int .i64 n4)] H15 <|
 wCat t9 t18 fun t19 =>
 wCall Try.prog 70 [(.int .u64 (IntKind.u64.wrap n4))] H15 (fun r20 H21 =>
 opS r20 fun t24 =>
 wPin i1 5 [(.int .i64 n4)] H21 <|
 wCat t19 t24 fun t25 =>
 R (.ret (.string t25)) H21) (fun v23 H22 => R (.panic v23) H22)) (fun v17 H16 => R (.panic v17) H16)) (fun v8 H7 => R (.panic v8) H7)) ∧
 (ldI .i64 i1 1 H2 fun n26 =>
 ldS i1 2 H2 fun t27 =>
 ldL i1 3 H2 fun z28b z28l z28c =>
 ldL i1 4 H2 fun z29b z29l z29c =>
 wPin i1 5 [(.int .i64 n4)] H2 <|
 wPin i1 0 [(.int .i64 n3)] H2 <|
 wCall Try.prog 68 [(.int .i64 n3)] H2 (fun r30 H31 =>
 opS r30 fun t34 =>
 wPin i1 5 [(.int .i64 n4)] H31 <|
 wCall Try.prog 28 [(.agg #[(.int .i64 n26), (.string t27), (.slice z28b z28l z28c), (.slice z29b z29l z29c)])] H31 (fun r35 H36 =>
 opS r35 fun t39 =>
 wPin i1 5 [(.int .i64 n4)] H36 <|
 wCat t34 t39 fun t40 =>
 wCall Try.prog 70 [(.int .u64 (IntKind.u64.wrap n4))] H36 (fun r41 H42 =>
 opS r41 fun t45 =>
 wPin i1 5 [(.int .i64 n4)] H42 <|
 wCat t40 t45 fun t46 =>
 R (.ret (.string t46)) H42) (fun v44 H43 => R (.panic v44) H43)) (fun v38 H37 => R (.panic v38) H37)) (fun v33 H32 => R (.panic v33) H32))
theorem f35_eq (x0_0 : Int) (x0_1 : Int) (x0_2 : ByteArray) (x0_3b : Option Addr) (x0_3l : Nat) (x0_3c : Nat) (x0_4b : Option Addr) (x0_4l : Nat) (x0_4c : Nat) (x0_5 : Int) (H : AH) (R : AEnd → AH → Prop) : awpF Try.prog f35_c (aPost Try.prog Try.f35 R) (([(.agg #[(.int .i64 x0_0), (.int .i64 x0_1), (.string x0_2), (.slice x0_3b x0_3l x0_3c), (.slice x0_4b x0_4l x0_4c), (.int .i64 x0_5)])] : List Value) ++ List.replicate (Try.f35.ntmps - (([(.agg #[(.int .i64 x0_0), (.int .i64 x0_1), (.string x0_2), (.slice x0_3b x0_3l x0_3c), (.slice x0_4b x0_4l x0_4c), (.int .i64 x0_5)])] : List Value)).length) undef) H = f35_B x0_0 x0_1 x0_2 x0_3b x0_3l x0_3c x0_4b x0_4l x0_4c x0_5 H R := by kernel_rfl
theorem f35_call (x0_0 : Int) (x0_1 : Int) (x0_2 : ByteArray) (x0_3b : Option Addr) (x0_3l : Nat) (x0_3c : Nat) (x0_4b : Option Addr) (x0_4l : Nat) (x0_4c : Nat) (x0_5 : Int) (H : AH) (R : AEnd → AH → Prop) (h : f35_B x0_0 x0_1 x0_2 x0_3b x0_3l x0_3c x0_4b x0_4l x0_4c x0_5 H R) : ACall Try.prog 35 ([(.agg #[(.int .i64 x0_0), (.int .i64 x0_1), (.string x0_2), (.slice x0_3b x0_3l x0_3c), (.slice x0_4b x0_4l x0_4c), (.int .i64 x0_5)])] : List Value) H R :=
  acall_of mixed Try.func35 (by kernel_rfl : Try.f35.body = some f35_c) (by kernel_rfl) (by kernel_rfl) (awp_of (Eq.mpr (f35_eq x0_0 x0_1 x0_2 x0_3b x0_3l x0_3c x0_4b x0_4l x0_4c x0_5 H R) h))

/-! f36: switchyard/switchyardref13.RightDead -/
noncomputable def f36_c : Code := Try.f36.body.getD .skip
def f36_B (x0_0 : Int) (x0_1 : Int) (x0_2 : ByteArray) (x0_3b : Option Addr) (x0_3l : Nat) (x0_3c : Nat) (x0_4b : Option Addr) (x0_4l : Nat) (x0_4c : Nat) (x0_5 : Int) (H : AH) (R : AEnd → AH → Prop) : Prop :=
 wNew [(.int .i64 x0_0), (.int .i64 x0_1), (.string x0_2), (.slice x0_3b x0_3l x0_3c), (.slice x0_4b x0_4l x0_4c), (.int .i64 x0_5)] H fun i1 H2 =>
 ldI .i64 i1 1 H2 fun n3 =>
 ldS i1 2 H2 fun t4 =>
 ldL i1 3 H2 fun z5b z5l z5c =>
 ldL i1 4 H2 fun z6b z6l z6c =>
 wCall Try.prog 29 [(.agg #[(.int .i64 n3), (.string t4), (.slice z5b z5l z5c), (.slice z6b z6l z6c)])] H2 (fun r7 H8 =>
 opB r7 fun b11 =>
 wIf b11
 (ldI .i64 i1 5 H8 fun n12 =>
 wIf (decide (n12 ≥ 0))
 (ldI .i64 i1 5 H8 fun n13 =>
 R (.ret (.bool (decide (n13 ≤ 5)))) H8)
 (R (.ret (.bool false)) H8))
 (R (.ret (.bool false)) H8)) (fun v10 H9 => R (.panic v10) H9)
theorem f36_eq (x0_0 : Int) (x0_1 : Int) (x0_2 : ByteArray) (x0_3b : Option Addr) (x0_3l : Nat) (x0_3c : Nat) (x0_4b : Option Addr) (x0_4l : Nat) (x0_4c : Nat) (x0_5 : Int) (H : AH) (R : AEnd → AH → Prop) : awpF Try.prog f36_c (aPost Try.prog Try.f36 R) (([(.agg #[(.int .i64 x0_0), (.int .i64 x0_1), (.string x0_2), (.slice x0_3b x0_3l x0_3c), (.slice x0_4b x0_4l x0_4c), (.int .i64 x0_5)])] : List Value) ++ List.replicate (Try.f36.ntmps - (([(.agg #[(.int .i64 x0_0), (.int .i64 x0_1), (.string x0_2), (.slice x0_3b x0_3l x0_3c), (.slice x0_4b x0_4l x0_4c), (.int .i64 x0_5)])] : List Value)).length) undef) H = f36_B x0_0 x0_1 x0_2 x0_3b x0_3l x0_3c x0_4b x0_4l x0_4c x0_5 H R := by kernel_rfl
theorem f36_call (x0_0 : Int) (x0_1 : Int) (x0_2 : ByteArray) (x0_3b : Option Addr) (x0_3l : Nat) (x0_3c : Nat) (x0_4b : Option Addr) (x0_4l : Nat) (x0_4c : Nat) (x0_5 : Int) (H : AH) (R : AEnd → AH → Prop) (h : f36_B x0_0 x0_1 x0_2 x0_3b x0_3l x0_3c x0_4b x0_4l x0_4c x0_5 H R) : ACall Try.prog 36 ([(.agg #[(.int .i64 x0_0), (.int .i64 x0_1), (.string x0_2), (.slice x0_3b x0_3l x0_3c), (.slice x0_4b x0_4l x0_4c), (.int .i64 x0_5)])] : List Value) H R :=
  acall_of mixed Try.func36 (by kernel_rfl : Try.f36.body = some f36_c) (by kernel_rfl) (by kernel_rfl) (awp_of (Eq.mpr (f36_eq x0_0 x0_1 x0_2 x0_3b x0_3l x0_3c x0_4b x0_4l x0_4c x0_5 H R) h))

/-! f37: switchyard/switchyardref13.Event -/
noncomputable def f37_c : Code := Try.f37.body.getD .skip
def f37_B (x0_0 : Int) (x0_1 : Int) (x0_2 : ByteArray) (x0_3 : Int) (x0_4 : ByteArray) (x0_5 : ByteArray) (x0_6b : Option Addr) (x0_6l : Nat) (x0_6c : Nat) (H : AH) (R : AEnd → AH → Prop) : Prop :=
 wNew [(.int .i64 x0_0), (.int .i64 x0_1), (.string x0_2), (.int .i64 x0_3), (.string x0_4), (.string x0_5), (.slice x0_6b x0_6l x0_6c)] H fun i1 H2 =>
 ldI .i64 i1 0 H2 fun n3 =>
 ldI .i64 i1 1 H2 fun n4 =>
 ldI .i64 i1 3 H2 fun n5 =>
 ldS i1 2 H2 fun t6 =>
 ldS i1 4 H2 fun t7 =>
 ldS i1 5 H2 fun t8 =>
 (wCall Try.prog 68 [(.int .i64 n3)] H2 (fun r9 H10 =>
 opS r9 fun t13 =>
 wPin i1 5 [(.string t8)] H10 <|
 wPin i1 4 [(.string t7)] H10 <|
 wPin i1 2 [(.string t6)] H10 <|
 wPin i1 3 [(.int .i64 n5)] H10 <|
 wPin i1 1 [(.int .i64 n4)] H10 <|
 (wCall Try.prog 68 [(.int .i64 n4)] H10 (fun r14 H15 =>
 opS r14 fun t18 =>
 wPin i1 5 [(.string t8)] H15 <|
 wPin i1 4 [(.string t7)] H15 <|
 wPin i1 2 [(.string t6)] H15 <|
 wPin i1 3 [(.int .i64 n5)] H15 <|
 wCat t13 t18 fun t19 =>
 (wCall Try.prog 68 [(.int .i64 n5)] H15 (fun r20 H21 =>
 opS r20 fun t24 =>
 wPin i1 5 [(.string t8)] H21 <|
 wPin i1 4 [(.string t7)] H21 <|
 wPin i1 2 [(.string t6)] H21 <|
 wCat t19 t24 fun t25 =>
 (wCall Try.prog 69 [(.string t6)] H21 (fun r26 H27 =>
 opS r26 fun t30 =>
 wPin i1 5 [(.string t8)] H27 <|
 wPin i1 4 [(.string t7)] H27 <|
 wCat t25 t30 fun t31 =>
 (wCall Try.prog 69 [(.string t7)] H27 (fun r32 H33 =>
 opS r32 fun t36 =>
 wPin i1 5 [(.string t8)] H33 <|
 wCat t31 t36 fun t37 =>
 (wCall Try.prog 69 [(.string t8)] H33 (fun r38 H39 =>
 opS r38 fun t42 =>
 wCat t37 t42 fun t43 =>
 ldL i1 6 H39 fun z44b z44l z44c =>
 wCall Try.prog 72 [(.slice z44b z44l z44c)] H39 (fun r45 H46 =>
 opS r45 fun t49 =>
 wCat t43 t49 fun t50 =>
 R (.ret (.string t50)) H46) (fun v48 H47 => R (.panic v48) H47)) (fun v41 H40 => R (.panic v41) H40)) ∧
 (ldL i1 6 H33 fun z51b z51l z51c =>
 wPin i1 5 [(.string t8)] H33 <|
 wCall Try.prog 69 [(.string t8)] H33 (fun r52 H53 =>
 opS r52 fun t56 =>
 wCat t37 t56 fun t57 =>
 wCall Try.prog 72 [(.slice z51b z51l z51c)] H53 (fun r58 H59 =>
 opS r58 fun t62 =>
 wCat t57 t62 fun t63 =>
 R (.ret (.string t63)) H59) (fun v61 H60 => R (.panic v61) H60)) (fun v55 H54 => R (.panic v55) H54))) (fun v35 H34 => R (.panic v35) H34)) ∧
 (ldL i1 6 H27 fun z64b z64l z64c =>
 wPin i1 5 [(.string t8)] H27 <|
 wPin i1 4 [(.string t7)] H27 <|
 wCall Try.prog 69 [(.string t7)] H27 (fun r65 H66 =>
 opS r65 fun t69 =>
 wPin i1 5 [(.string t8)] H66 <|
 wCat t31 t69 fun t70 =>
 wCall Try.prog 69 [(.string t8)] H66 (fun r71 H72 =>
 opS r71 fun t75 =>
 wCat t70 t75 fun t76 =>
 wCall Try.prog 72 [(.slice z64b z64l z64c)] H72 (fun r77 H78 =>
 opS r77 fun t81 =>
 wCat t76 t81 fun t82 =>
 R (.ret (.string t82)) H78) (fun v80 H79 => R (.panic v80) H79)) (fun v74 H73 => R (.panic v74) H73)) (fun v68 H67 => R (.panic v68) H67))) (fun v29 H28 => R (.panic v29) H28)) ∧
 (ldL i1 6 H21 fun z83b z83l z83c =>
 wPin i1 5 [(.string t8)] H21 <|
 wPin i1 4 [(.string t7)] H21 <|
 wPin i1 2 [(.string t6)] H21 <|
 wCall Try.prog 69 [(.string t6)] H21 (fun r84 H85 =>
 opS r84 fun t88 =>
 wPin i1 5 [(.string t8)] H85 <|
 wPin i1 4 [(.string t7)] H85 <|
 wCat t25 t88 fun t89 =>
 wCall Try.prog 69 [(.string t7)] H85 (fun r90 H91 =>
 opS r90 fun t94 =>
 wPin i1 5 [(.string t8)] H91 <|
 wCat t89 t94 fun t95 =>
 wCall Try.prog 69 [(.string t8)] H91 (fun r96 H97 =>
 opS r96 fun t100 =>
 wCat t95 t100 fun t101 =>
 wCall Try.prog 72 [(.slice z83b z83l z83c)] H97 (fun r102 H103 =>
 opS r102 fun t106 =>
 wCat t101 t106 fun t107 =>
 R (.ret (.string t107)) H103) (fun v105 H104 => R (.panic v105) H104)) (fun v99 H98 => R (.panic v99) H98)) (fun v93 H92 => R (.panic v93) H92)) (fun v87 H86 => R (.panic v87) H86))) (fun v23 H22 => R (.panic v23) H22)) ∧
 (ldL i1 6 H15 fun z108b z108l z108c =>
 wPin i1 5 [(.string t8)] H15 <|
 wPin i1 4 [(.string t7)] H15 <|
 wPin i1 2 [(.string t6)] H15 <|
 wPin i1 3 [(.int .i64 n5)] H15 <|
 wCall Try.prog 68 [(.int .i64 n5)] H15 (fun r109 H110 =>
 opS r109 fun t113 =>
 wPin i1 5 [(.string t8)] H110 <|
 wPin i1 4 [(.string t7)] H110 <|
 wPin i1 2 [(.string t6)] H110 <|
 wCat t19 t113 fun t114 =>
 wCall Try.prog 69 [(.string t6)] H110 (fun r115 H116 =>
 opS r115 fun t119 =>
 wPin i1 5 [(.string t8)] H116 <|
 wPin i1 4 [(.string t7)] H116 <|
 wCat t114 t119 fun t120 =>
 wCall Try.prog 69 [(.string t7)] H116 (fun r121 H122 =>
 opS r121 fun t125 =>
 wPin i1 5 [(.string t8)] H122 <|
 wCat t120 t125 fun t126 =>
 wCall Try.prog 69 [(.string t8)] H122 (fun r127 H128 =>
 opS r127 fun t131 =>
 wCat t126 t131 fun t132 =>
 wCall Try.prog 72 [(.slice z108b z108l z108c)] H128 (fun r133 H134 =>
 opS r133 fun t137 =>
 wCat t132 t137 fun t138 =>
 R (.ret (.string t138)) H134) (fun v136 H135 => R (.panic v136) H135)) (fun v130 H129 => R (.panic v130) H129)) (fun v124 H123 => R (.panic v124) H123)) (fun v118 H117 => R (.panic v118) H117)) (fun v112 H111 => R (.panic v112) H111))) (fun v17 H16 => R (.panic v17) H16)) ∧
 (ldL i1 6 H10 fun z139b z139l z139c =>
 wPin i1 5 [(.string t8)] H10 <|
 wPin i1 4 [(.string t7)] H10 <|
 wPin i1 2 [(.string t6)] H10 <|
 wPin i1 3 [(.int .i64 n5)] H10 <|
 wPin i1 1 [(.int .i64 n4)] H10 <|
 wCall Try.prog 68 [(.int .i64 n4)] H10 (fun r140 H141 =>
 opS r140 fun t144 =>
 wPin i1 5 [(.string t8)] H141 <|
 wPin i1 4 [(.string t7)] H141 <|
 wPin i1 2 [(.string t6)] H141 <|
 wPin i1 3 [(.int .i64 n5)] H141 <|
 wCat t13 t144 fun t145 =>
 wCall Try.prog 68 [(.int .i64 n5)] H141 (fun r146 H147 =>
 opS r146 fun t150 =>
 wPin i1 5 [(.string t8)] H147 <|
 wPin i1 4 [(.string t7)] H147 <|
 wPin i1 2 [(.string t6)] H147 <|
 wCat t145 t150 fun t151 =>
 wCall Try.prog 69 [(.string t6)] H147 (fun r152 H153 =>
 opS r152 fun t156 =>
 wPin i1 5 [(.string t8)] H153 <|
 wPin i1 4 [(.string t7)] H153 <|
 wCat t151 t156 fun t157 =>
 wCall Try.prog 69 [(.string t7)] H153 (fun r158 H159 =>
 opS r158 fun t162 =>
 wPin i1 5 [(.string t8)] H159 <|
 wCat t157 t162 fun t163 =>
 wCall Try.prog 69 [(.string t8)] H159 (fun r164 H165 =>
 opS r164 fun t168 =>
 wCat t163 t168 fun t169 =>
 wCall Try.prog 72 [(.slice z139b z139l z139c)] H165 (fun r170 H171 =>
 opS r170 fun t174 =>
 wCat t169 t174 fun t175 =>
 R (.ret (.string t175)) H171) (fun v173 H172 => R (.panic v173) H172)) (fun v167 H166 => R (.panic v167) H166)) (fun v161 H160 => R (.panic v161) H160)) (fun v155 H154 => R (.panic v155) H154)) (fun v149 H148 => R (.panic v149) H148)) (fun v143 H142 => R (.panic v143) H142))) (fun v12 H11 => R (.panic v12) H11)) ∧
 (ldL i1 6 H2 fun z176b z176l z176c =>
 wPin i1 5 [(.string t8)] H2 <|
 wPin i1 4 [(.string t7)] H2 <|
 wPin i1 2 [(.string t6)] H2 <|
 wPin i1 3 [(.int .i64 n5)] H2 <|
 wPin i1 1 [(.int .i64 n4)] H2 <|
 wPin i1 0 [(.int .i64 n3)] H2 <|
 wCall Try.prog 68 [(.int .i64 n3)] H2 (fun r177 H178 =>
 opS r177 fun t181 =>
 wPin i1 5 [(.string t8)] H178 <|
 wPin i1 4 [(.string t7)] H178 <|
 wPin i1 2 [(.string t6)] H178 <|
 wPin i1 3 [(.int .i64 n5)] H178 <|
 wPin i1 1 [(.int .i64 n4)] H178 <|
 wCall Try.prog 68 [(.int .i64 n4)] H178 (fun r182 H183 =>
 opS r182 fun t186 =>
 wPin i1 5 [(.string t8)] H183 <|
 wPin i1 4 [(.string t7)] H183 <|
 wPin i1 2 [(.string t6)] H183 <|
 wPin i1 3 [(.int .i64 n5)] H183 <|
 wCat t181 t186 fun t187 =>
 wCall Try.prog 68 [(.int .i64 n5)] H183 (fun r188 H189 =>
 opS r188 fun t192 =>
 wPin i1 5 [(.string t8)] H189 <|
 wPin i1 4 [(.string t7)] H189 <|
 wPin i1 2 [(.string t6)] H189 <|
 wCat t187 t192 fun t193 =>
 wCall Try.prog 69 [(.string t6)] H189 (fun r194 H195 =>
 opS r194 fun t198 =>
 wPin i1 5 [(.string t8)] H195 <|
 wPin i1 4 [(.string t7)] H195 <|
 wCat t193 t198 fun t199 =>
 wCall Try.prog 69 [(.string t7)] H195 (fun r200 H201 =>
 opS r200 fun t204 =>
 wPin i1 5 [(.string t8)] H201 <|
 wCat t199 t204 fun t205 =>
 wCall Try.prog 69 [(.string t8)] H201 (fun r206 H207 =>
 opS r206 fun t210 =>
 wCat t205 t210 fun t211 =>
 wCall Try.prog 72 [(.slice z176b z176l z176c)] H207 (fun r212 H213 =>
 opS r212 fun t216 =>
 wCat t211 t216 fun t217 =>
 R (.ret (.string t217)) H213) (fun v215 H214 => R (.panic v215) H214)) (fun v209 H208 => R (.panic v209) H208)) (fun v203 H202 => R (.panic v203) H202)) (fun v197 H196 => R (.panic v197) H196)) (fun v191 H190 => R (.panic v191) H190)) (fun v185 H184 => R (.panic v185) H184)) (fun v180 H179 => R (.panic v180) H179))
theorem f37_eq (x0_0 : Int) (x0_1 : Int) (x0_2 : ByteArray) (x0_3 : Int) (x0_4 : ByteArray) (x0_5 : ByteArray) (x0_6b : Option Addr) (x0_6l : Nat) (x0_6c : Nat) (H : AH) (R : AEnd → AH → Prop) : awpF Try.prog f37_c (aPost Try.prog Try.f37 R) (([(.agg #[(.int .i64 x0_0), (.int .i64 x0_1), (.string x0_2), (.int .i64 x0_3), (.string x0_4), (.string x0_5), (.slice x0_6b x0_6l x0_6c)])] : List Value) ++ List.replicate (Try.f37.ntmps - (([(.agg #[(.int .i64 x0_0), (.int .i64 x0_1), (.string x0_2), (.int .i64 x0_3), (.string x0_4), (.string x0_5), (.slice x0_6b x0_6l x0_6c)])] : List Value)).length) undef) H = f37_B x0_0 x0_1 x0_2 x0_3 x0_4 x0_5 x0_6b x0_6l x0_6c H R := by kernel_rfl
theorem f37_call (x0_0 : Int) (x0_1 : Int) (x0_2 : ByteArray) (x0_3 : Int) (x0_4 : ByteArray) (x0_5 : ByteArray) (x0_6b : Option Addr) (x0_6l : Nat) (x0_6c : Nat) (H : AH) (R : AEnd → AH → Prop) (h : f37_B x0_0 x0_1 x0_2 x0_3 x0_4 x0_5 x0_6b x0_6l x0_6c H R) : ACall Try.prog 37 ([(.agg #[(.int .i64 x0_0), (.int .i64 x0_1), (.string x0_2), (.int .i64 x0_3), (.string x0_4), (.string x0_5), (.slice x0_6b x0_6l x0_6c)])] : List Value) H R :=
  acall_of mixed Try.func37 (by kernel_rfl : Try.f37.body = some f37_c) (by kernel_rfl) (by kernel_rfl) (awp_of (Eq.mpr (f37_eq x0_0 x0_1 x0_2 x0_3 x0_4 x0_5 x0_6b x0_6l x0_6c H R) h))

/-! f38: switchyard/switchyardref13.RightEvent -/
noncomputable def f38_c : Code := Try.f38.body.getD .skip
def f38_B (x0_0 : Int) (x0_1 : Int) (x0_2 : ByteArray) (x0_3 : Int) (x0_4 : ByteArray) (x0_5 : ByteArray) (x0_6b : Option Addr) (x0_6l : Nat) (x0_6c : Nat) (H : AH) (R : AEnd → AH → Prop) : Prop :=
 wNew [(.int .i64 x0_0), (.int .i64 x0_1), (.string x0_2), (.int .i64 x0_3), (.string x0_4), (.string x0_5), (.slice x0_6b x0_6l x0_6c)] H fun i1 H2 =>
 ldS i1 2 H2 fun t3 =>
 wIf (decide ((t3.size : Int) ≤ 24))
 (ldS i1 4 H2 fun t4 =>
 wIf (decide ((t4.size : Int) ≤ 24))
 (ldS i1 5 H2 fun t5 =>
 wIf (decide ((t5.size : Int) ≤ 24))
 (ldL i1 6 H2 fun z6b z6l z6c =>
 wCall Try.prog 73 [(.slice z6b z6l z6c)] H2 (fun r7 H8 =>
 opB r7 fun b11 =>
 R (.ret (.bool b11)) H8) (fun v10 H9 => R (.panic v10) H9))
 (R (.ret (.bool false)) H2))
 (R (.ret (.bool false)) H2))
 (R (.ret (.bool false)) H2)
theorem f38_eq (x0_0 : Int) (x0_1 : Int) (x0_2 : ByteArray) (x0_3 : Int) (x0_4 : ByteArray) (x0_5 : ByteArray) (x0_6b : Option Addr) (x0_6l : Nat) (x0_6c : Nat) (H : AH) (R : AEnd → AH → Prop) : awpF Try.prog f38_c (aPost Try.prog Try.f38 R) (([(.agg #[(.int .i64 x0_0), (.int .i64 x0_1), (.string x0_2), (.int .i64 x0_3), (.string x0_4), (.string x0_5), (.slice x0_6b x0_6l x0_6c)])] : List Value) ++ List.replicate (Try.f38.ntmps - (([(.agg #[(.int .i64 x0_0), (.int .i64 x0_1), (.string x0_2), (.int .i64 x0_3), (.string x0_4), (.string x0_5), (.slice x0_6b x0_6l x0_6c)])] : List Value)).length) undef) H = f38_B x0_0 x0_1 x0_2 x0_3 x0_4 x0_5 x0_6b x0_6l x0_6c H R := by kernel_rfl
theorem f38_call (x0_0 : Int) (x0_1 : Int) (x0_2 : ByteArray) (x0_3 : Int) (x0_4 : ByteArray) (x0_5 : ByteArray) (x0_6b : Option Addr) (x0_6l : Nat) (x0_6c : Nat) (H : AH) (R : AEnd → AH → Prop) (h : f38_B x0_0 x0_1 x0_2 x0_3 x0_4 x0_5 x0_6b x0_6l x0_6c H R) : ACall Try.prog 38 ([(.agg #[(.int .i64 x0_0), (.int .i64 x0_1), (.string x0_2), (.int .i64 x0_3), (.string x0_4), (.string x0_5), (.slice x0_6b x0_6l x0_6c)])] : List Value) H R :=
  acall_of mixed Try.func38 (by kernel_rfl : Try.f38.body = some f38_c) (by kernel_rfl) (by kernel_rfl) (awp_of (Eq.mpr (f38_eq x0_0 x0_1 x0_2 x0_3 x0_4 x0_5 x0_6b x0_6l x0_6c H R) h))

/-! f39: switchyard/switchyardref13.Sub -/
noncomputable def f39_c : Code := Try.f39.body.getD .skip
def f39_B (x0_0 : Int) (x0_1 : ByteArray) (x0_2 : Int) (H : AH) (R : AEnd → AH → Prop) : Prop :=
 wNew [(.int .i64 x0_0), (.string x0_1), (.int .i64 x0_2)] H fun i1 H2 =>
 ldI .i64 i1 0 H2 fun n3 =>
 ldI .i64 i1 2 H2 fun n4 =>
 ldS i1 1 H2 fun t5 =>
 wCall Try.prog 68 [(.int .i64 n3)] H2 (fun r6 H7 =>
 opS r6 fun t10 =>
 wPin i1 1 [(.string t5)] H7 <|
 wPin i1 2 [(.int .i64 n4)] H7 <|
 wCall Try.prog 68 [(.int .i64 n4)] H7 (fun r11 H12 =>
 opS r11 fun t15 =>
 wPin i1 1 [(.string t5)] H12 <|
 wCat t10 t15 fun t16 =>
 wCall Try.prog 69 [(.string t5)] H12 (fun r17 H18 =>
 opS r17 fun t21 =>
 wCat t16 t21 fun t22 =>
 R (.ret (.string t22)) H18) (fun v20 H19 => R (.panic v20) H19)) (fun v14 H13 => R (.panic v14) H13)) (fun v9 H8 => R (.panic v9) H8)
theorem f39_eq (x0_0 : Int) (x0_1 : ByteArray) (x0_2 : Int) (H : AH) (R : AEnd → AH → Prop) : awpF Try.prog f39_c (aPost Try.prog Try.f39 R) (([(.agg #[(.int .i64 x0_0), (.string x0_1), (.int .i64 x0_2)])] : List Value) ++ List.replicate (Try.f39.ntmps - (([(.agg #[(.int .i64 x0_0), (.string x0_1), (.int .i64 x0_2)])] : List Value)).length) undef) H = f39_B x0_0 x0_1 x0_2 H R := by kernel_rfl
theorem f39_call (x0_0 : Int) (x0_1 : ByteArray) (x0_2 : Int) (H : AH) (R : AEnd → AH → Prop) (h : f39_B x0_0 x0_1 x0_2 H R) : ACall Try.prog 39 ([(.agg #[(.int .i64 x0_0), (.string x0_1), (.int .i64 x0_2)])] : List Value) H R :=
  acall_of mixed Try.func39 (by kernel_rfl : Try.f39.body = some f39_c) (by kernel_rfl) (by kernel_rfl) (awp_of (Eq.mpr (f39_eq x0_0 x0_1 x0_2 H R) h))

/-! f40: switchyard/switchyardref13.RightSub -/
noncomputable def f40_c : Code := Try.f40.body.getD .skip
def f40_B (x0_0 : Int) (x0_1 : ByteArray) (x0_2 : Int) (H : AH) (R : AEnd → AH → Prop) : Prop :=
 wNew [(.int .i64 x0_0), (.string x0_1), (.int .i64 x0_2)] H fun i1 H2 =>
 ldS i1 1 H2 fun t3 =>
 R (.ret (.bool (decide ((t3.size : Int) ≤ 24)))) H2
theorem f40_eq (x0_0 : Int) (x0_1 : ByteArray) (x0_2 : Int) (H : AH) (R : AEnd → AH → Prop) : awpF Try.prog f40_c (aPost Try.prog Try.f40 R) (([(.agg #[(.int .i64 x0_0), (.string x0_1), (.int .i64 x0_2)])] : List Value) ++ List.replicate (Try.f40.ntmps - (([(.agg #[(.int .i64 x0_0), (.string x0_1), (.int .i64 x0_2)])] : List Value)).length) undef) H = f40_B x0_0 x0_1 x0_2 H R := by kernel_rfl
theorem f40_call (x0_0 : Int) (x0_1 : ByteArray) (x0_2 : Int) (H : AH) (R : AEnd → AH → Prop) (h : f40_B x0_0 x0_1 x0_2 H R) : ACall Try.prog 40 ([(.agg #[(.int .i64 x0_0), (.string x0_1), (.int .i64 x0_2)])] : List Value) H R :=
  acall_of mixed Try.func40 (by kernel_rfl : Try.f40.body = some f40_c) (by kernel_rfl) (by kernel_rfl) (awp_of (Eq.mpr (f40_eq x0_0 x0_1 x0_2 H R) h))

/-! f68: switchyard/switchyardref02.Number -/
noncomputable def f68_c : Code := Try.f68.body.getD .skip
def f68_B (x0 : Int) (H : AH) (R : AEnd → AH → Prop) : Prop :=
 wIf (decide (x0 < 0))
 (wCall Try.prog 70 [(.int .u64 (IntKind.u64.wrap ((IntKind.u64.wrap (2 * (IntKind.u64.wrap (IntKind.i64.wrap (0 - (IntKind.i64.wrap (x0 + 1))))))) + 1)))] H (fun r1 H2 =>
 opS r1 fun t5 =>
 R (.ret (.string t5)) H2) (fun v4 H3 => R (.panic v4) H3))
 (wCall Try.prog 70 [(.int .u64 (IntKind.u64.wrap (2 * (IntKind.u64.wrap x0))))] H (fun r6 H7 =>
 opS r6 fun t10 =>
 R (.ret (.string t10)) H7) (fun v9 H8 => R (.panic v9) H8))
theorem f68_eq (x0 : Int) (H : AH) (R : AEnd → AH → Prop) : awpF Try.prog f68_c (aPost Try.prog Try.f68 R) (([(.int .i64 x0)] : List Value) ++ List.replicate (Try.f68.ntmps - (([(.int .i64 x0)] : List Value)).length) undef) H = f68_B x0 H R := by kernel_rfl
theorem f68_call (x0 : Int) (H : AH) (R : AEnd → AH → Prop) (h : f68_B x0 H R) : ACall Try.prog 68 ([(.int .i64 x0)] : List Value) H R :=
  acall_of mixed Try.func68 (by kernel_rfl : Try.f68.body = some f68_c) (by kernel_rfl) (by kernel_rfl) (awp_of (Eq.mpr (f68_eq x0 H R) h))

/-! f69: switchyard/switchyardref02.Text -/
noncomputable def f69_c : Code := Try.f69.body.getD .skip
def f69_B (x0 : ByteArray) (H : AH) (R : AEnd → AH → Prop) : Prop :=
 wCall Try.prog 70 [(.int .u64 (IntKind.u64.wrap (x0.size : Int)))] H (fun r1 H2 =>
 opS r1 fun t5 =>
 wCat t5 x0 fun t6 =>
 R (.ret (.string t6)) H2) (fun v4 H3 => R (.panic v4) H3)
theorem f69_eq (x0 : ByteArray) (H : AH) (R : AEnd → AH → Prop) : awpF Try.prog f69_c (aPost Try.prog Try.f69 R) (([(.string x0)] : List Value) ++ List.replicate (Try.f69.ntmps - (([(.string x0)] : List Value)).length) undef) H = f69_B x0 H R := by kernel_rfl
theorem f69_call (x0 : ByteArray) (H : AH) (R : AEnd → AH → Prop) (h : f69_B x0 H R) : ACall Try.prog 69 ([(.string x0)] : List Value) H R :=
  acall_of mixed Try.func69 (by kernel_rfl : Try.f69.body = some f69_c) (by kernel_rfl) (by kernel_rfl) (awp_of (Eq.mpr (f69_eq x0 H R) h))

/-! f70: switchyard/switchyardref02.Count -/
noncomputable def f70_c : Code := Try.f70.body.getD .skip
noncomputable def f70_X0 (R : AEnd → AH → Prop) : AExit → List Value → AH → Prop := thenF (fun tm H => hold (awpF Try.prog (codeAt f70_c [1, 1, 1]) (aPost Try.prog Try.f70 R) tm H)) (aPost Try.prog Try.f70 R)
noncomputable def f70_X1 (R : AEnd → AH → Prop) : AExit → List Value → AH → Prop := inBlockF 0 (f70_X0 R)
noncomputable def f70_Q0 (R : AEnd → AH → Prop) : AExit → List Value → AH → Prop := (f70_X1 R)
def f70_L0 (R : AEnd → AH → Prop) (tm : List Value) (H : AH) : Prop := awpF Try.prog (codeAt f70_c [1, 1, 0, 0]) (f70_Q0 R) tm H
def f70_J0 (R : AEnd → AH → Prop) (tm : List Value) (H : AH) : Prop := hold (awpF Try.prog (codeAt f70_c [1, 1, 1]) ((aPost Try.prog Try.f70 R)) tm H)
-- join 0: live 0:n, 3:b
def f70_J0_B (s0 : Int) (s3b : Option Addr) (s3l : Nat) (s3c : Nat) (H : AH) (R : AEnd → AH → Prop) : Prop :=
 wBs [(.int .u8 (IntKind.u8.wrap s0))] 1 H fun i1 H2 =>
 wAppL 5 1 1 s3b s3l s3c (some ⟨i1, 0, none⟩) 1 0 H2 fun z3b z3l z3c H4 =>
 wB2S z3b z3l z3c H4 fun t5 =>
 R (.ret (.string t5)) H4
theorem f70_J0_eq (s0 : Int) (s1 : Value) (s2 : Value) (s3b : Option Addr) (s3l : Nat) (s3c : Nat) (s4 : Value) (s5 : Value) (s6 : Value) (s7 : Value) (s8 : Value) (s9 : Value) (s10 : Value) (s11 : Value) (s12 : Value) (s13 : Value) (s14 : Value) (s15 : Value) (s16 : Value) (s17 : Value) (s18 : Value) (s19 : Value) (s20 : Value) (H : AH) (R : AEnd → AH → Prop) : f70_J0 R [(.int .u64 s0), s1, s2, (.slice s3b s3l s3c), s4, s5, s6, s7, s8, s9, s10, s11, s12, s13, s14, s15, s16, s17, s18, s19, s20] H = f70_J0_B s0 s3b s3l s3c H R := by kernel_rfl
def f70_R0 (s0 : Int) (s1 : Value) (s2 : Value) (s3b : Option Addr) (s3l : Nat) (s3c : Nat) (s4 : Value) (s5 : Value) (s6 : Value) (s7 : Value) (s8 : Value) (s9 : Value) (s10 : Value) (s11 : Value) (s12 : Value) (s13 : Value) (s14 : Value) (s15 : Value) (s16 : Value) (s17 : Value) (s18 : Value) (s19 : Value) (s20 : Value) (H : AH) (K0 : List Value → AH → Prop) (R : AEnd → AH → Prop) : Prop :=
 wIf (decide (s0 ≥ 128))
 (wBs [(.int .u8 (IntKind.u8.wrap (IntKind.u64.wrap (128 + (Int.tmod s0 128)))))] 1 H fun i6 H7 =>
 wAppL 5 1 1 s3b s3l s3c (some ⟨i6, 0, none⟩) 1 0 H7 fun z8b z8l z8c H9 =>
 K0 [(.int .u64 (IntKind.u64.wrap (Int.tdiv s0 128))), s1, s2, (.slice z8b z8l z8c), (.int .u64 s0), (.bool true), (.slice s3b s3l s3c), (.int .u64 s0), (.int .u64 (Int.tmod s0 128)), (.int .u64 (IntKind.u64.wrap (128 + (Int.tmod s0 128)))), (.int .u8 (IntKind.u8.wrap (IntKind.u64.wrap (128 + (Int.tmod s0 128))))), (.slice (some ⟨i6, 0, none⟩) 1 0), (.slice z8b z8l z8c), (.int .u64 s0), (.int .u64 (IntKind.u64.wrap (Int.tdiv s0 128))), s15, s16, s17, s18, s19, s20] H9)
 (f70_J0 R [(.int .u64 s0), s1, s2, (.slice s3b s3l s3c), (.int .u64 s0), (.bool false), s6, s7, s8, s9, s10, s11, s12, s13, s14, s15, s16, s17, s18, s19, s20] H)
theorem f70_R0_eq (s0 : Int) (s1 : Value) (s2 : Value) (s3b : Option Addr) (s3l : Nat) (s3c : Nat) (s4 : Value) (s5 : Value) (s6 : Value) (s7 : Value) (s8 : Value) (s9 : Value) (s10 : Value) (s11 : Value) (s12 : Value) (s13 : Value) (s14 : Value) (s15 : Value) (s16 : Value) (s17 : Value) (s18 : Value) (s19 : Value) (s20 : Value) (H : AH) (K0 : List Value → AH → Prop) (R : AEnd → AH → Prop) : awpF Try.prog (codeAt f70_c [1, 1, 0, 0, 0]) (thenF K0 (f70_Q0 R)) [(.int .u64 s0), s1, s2, (.slice s3b s3l s3c), s4, s5, s6, s7, s8, s9, s10, s11, s12, s13, s14, s15, s16, s17, s18, s19, s20] H = f70_R0 s0 s1 s2 s3b s3l s3c s4 s5 s6 s7 s8 s9 s10 s11 s12 s13 s14 s15 s16 s17 s18 s19 s20 H K0 R := by kernel_rfl
def f70_I0 (s1 : Value) (s2 : Value) (s15 : Value) (s16 : Value) (s17 : Value) (s18 : Value) (s19 : Value) (s20 : Value) (J : Nat → Int → Option Addr → Nat → Nat → AH → Prop) (n : Nat) (tm : List Value) (H : AH) : Prop := ∃ (s0 : Int) (s3b : Option Addr) (s3l : Nat) (s3c : Nat) (s4 : Value) (s5 : Value) (s6 : Value) (s7 : Value) (s8 : Value) (s9 : Value) (s10 : Value) (s11 : Value) (s12 : Value) (s13 : Value) (s14 : Value), tm = [(.int .u64 s0), s1, s2, (.slice s3b s3l s3c), s4, s5, s6, s7, s8, s9, s10, s11, s12, s13, s14, s15, s16, s17, s18, s19, s20] ∧ J n s0 s3b s3l s3c H
theorem f70_I0_mk {s0 : Int} {s1 : Value} {s2 : Value} {s3b : Option Addr} {s3l : Nat} {s3c : Nat} {s4 : Value} {s5 : Value} {s6 : Value} {s7 : Value} {s8 : Value} {s9 : Value} {s10 : Value} {s11 : Value} {s12 : Value} {s13 : Value} {s14 : Value} {s15 : Value} {s16 : Value} {s17 : Value} {s18 : Value} {s19 : Value} {s20 : Value} {J : Nat → Int → Option Addr → Nat → Nat → AH → Prop} {n : Nat} {H : AH} (h : J n s0 s3b s3l s3c H) : f70_I0 s1 s2 s15 s16 s17 s18 s19 s20 J n [(.int .u64 s0), s1, s2, (.slice s3b s3l s3c), s4, s5, s6, s7, s8, s9, s10, s11, s12, s13, s14, s15, s16, s17, s18, s19, s20] H := ⟨_, _, _, _, _, _, _, _, _, _, _, _, _, _, _, rfl, h⟩
-- loop 0: carried 0:n, 3:b
theorem f70_L0_rule {s0 : Int} {s1 : Value} {s2 : Value} {s3b : Option Addr} {s3l : Nat} {s3c : Nat} {s4 : Value} {s5 : Value} {s6 : Value} {s7 : Value} {s8 : Value} {s9 : Value} {s10 : Value} {s11 : Value} {s12 : Value} {s13 : Value} {s14 : Value} {s15 : Value} {s16 : Value} {s17 : Value} {s18 : Value} {s19 : Value} {s20 : Value} {H : AH} {R : AEnd → AH → Prop} (J : Nat → Int → Option Addr → Nat → Nat → AH → Prop) (n : Nat) (h0 : J n s0 s3b s3l s3c H)
  (step : ∀ (n : Nat) (s0 : Int) (s3b : Option Addr) (s3l : Nat) (s3c : Nat) (H : AH), J n s0 s3b s3l s3c H → ∀ (s4 : Value) (s5 : Value) (s6 : Value) (s7 : Value) (s8 : Value) (s9 : Value) (s10 : Value) (s11 : Value) (s12 : Value) (s13 : Value) (s14 : Value), f70_R0 s0 s1 s2 s3b s3l s3c s4 s5 s6 s7 s8 s9 s10 s11 s12 s13 s14 s15 s16 s17 s18 s19 s20 H (fun tm H => ∃ m, m < n ∧ f70_I0 s1 s2 s15 s16 s17 s18 s19 s20 J m tm H) R) : f70_L0 R [(.int .u64 s0), s1, s2, (.slice s3b s3l s3c), s4, s5, s6, s7, s8, s9, s10, s11, s12, s13, s14, s15, s16, s17, s18, s19, s20] H :=
  awpF_loop (f70_I0 s1 s2 s15 s16 s17 s18 s19 s20 J) n (f70_I0_mk h0) (by
    intro n tm H hh
    exact Exists.elim hh fun s0 hh => Exists.elim hh fun s3b hh => Exists.elim hh fun s3l hh => Exists.elim hh fun s3c hh => Exists.elim hh fun s4 hh => Exists.elim hh fun s5 hh => Exists.elim hh fun s6 hh => Exists.elim hh fun s7 hh => Exists.elim hh fun s8 hh => Exists.elim hh fun s9 hh => Exists.elim hh fun s10 hh => Exists.elim hh fun s11 hh => Exists.elim hh fun s12 hh => Exists.elim hh fun s13 hh => Exists.elim hh fun s14 hh => And.elim (fun e h =>
     (by subst e; exact Eq.mpr (f70_R0_eq s0 s1 s2 s3b s3l s3c s4 s5 s6 s7 s8 s9 s10 s11 s12 s13 s14 s15 s16 s17 s18 s19 s20 H _ R) (step n s0 s3b s3l s3c H h s4 s5 s6 s7 s8 s9 s10 s11 s12 s13 s14))) hh)
def f70_B (x0 : Int) (H : AH) (R : AEnd → AH → Prop) : Prop :=
 f70_L0 R [(.int .u64 x0), undef, (.string ({ data := #[] })), (.slice none 0 0), undef, undef, undef, undef, undef, undef, undef, undef, undef, undef, undef, undef, undef, undef, undef, undef, undef] H
theorem f70_eq (x0 : Int) (H : AH) (R : AEnd → AH → Prop) : awpF Try.prog f70_c (aPost Try.prog Try.f70 R) (([(.int .u64 x0)] : List Value) ++ List.replicate (Try.f70.ntmps - (([(.int .u64 x0)] : List Value)).length) undef) H = f70_B x0 H R := by kernel_rfl
theorem f70_call (x0 : Int) (H : AH) (R : AEnd → AH → Prop) (h : f70_B x0 H R) : ACall Try.prog 70 ([(.int .u64 x0)] : List Value) H R :=
  acall_of mixed Try.func70 (by kernel_rfl : Try.f70.body = some f70_c) (by kernel_rfl) (by kernel_rfl) (awp_of (Eq.mpr (f70_eq x0 H R) h))

/-! f71: switchyard/switchyardref06.Name -/
noncomputable def f71_c : Code := Try.f71.body.getD .skip
noncomputable def f71_X0 (R : AEnd → AH → Prop) : AExit → List Value → AH → Prop := thenF (fun tm H => hold (awpF Try.prog (codeAt f71_c [1, 1, 1]) (aPost Try.prog Try.f71 R) tm H)) (aPost Try.prog Try.f71 R)
noncomputable def f71_X1 (R : AEnd → AH → Prop) : AExit → List Value → AH → Prop := inBlockF 0 (f71_X0 R)
noncomputable def f71_Q0 (R : AEnd → AH → Prop) : AExit → List Value → AH → Prop := (f71_X1 R)
def f71_L0 (R : AEnd → AH → Prop) (tm : List Value) (H : AH) : Prop := awpF Try.prog (codeAt f71_c [1, 1, 0, 1, 0]) (f71_Q0 R) tm H
def f71_J0 (R : AEnd → AH → Prop) (tm : List Value) (H : AH) : Prop := hold (awpF Try.prog (codeAt f71_c [1, 1]) ((aPost Try.prog Try.f71 R)) tm H)
noncomputable def f71_X2 (K0 : List Value → AH → Prop) (R : AEnd → AH → Prop) : AExit → List Value → AH → Prop := thenF (fun tm H => hold (awpF Try.prog (codeAt f71_c [1, 1, 0, 1, 0, 0, 1]) (thenF K0 (f71_Q0 R)) tm H)) (thenF K0 (f71_Q0 R))
def f71_J1 (K0 : List Value → AH → Prop) (R : AEnd → AH → Prop) (tm : List Value) (H : AH) : Prop := hold (awpF Try.prog (codeAt f71_c [1, 1, 0, 1, 0, 0, 0, 1]) ((f71_X2 K0 R)) tm H)
def f71_J2 (K0 : List Value → AH → Prop) (R : AEnd → AH → Prop) (tm : List Value) (H : AH) : Prop := hold (awpF Try.prog (codeAt f71_c [1, 1, 0, 1, 0, 0, 1]) ((thenF K0 (f71_Q0 R))) tm H)
def f71_J3 (K0 : List Value → AH → Prop) (R : AEnd → AH → Prop) (tm : List Value) (H : AH) : Prop := hold (awpF Try.prog (codeAt f71_c [1, 1, 0, 1, 0, 0, 1, 1]) ((thenF K0 (f71_Q0 R))) tm H)
-- join 3: live 0:s, 3:ok, 4:i
def f71_J3_B (s0 : ByteArray) (s1 : Value) (s2 : Value) (s3 : Bool) (s4 : Int) (s5 : Value) (s6 : Value) (s7 : Value) (s8 : Value) (s9 : Value) (s10 : Value) (s11 : Value) (s12 : Value) (s13 : Value) (s14 : Value) (s15 : Value) (s16 : Value) (s17 : Value) (s18 : Value) (s19 : Value) (s22 : Value) (s23 : Value) (s24 : Value) (s25 : Value) (s26 : Value) (s27 : Value) (s28 : Value) (s29 : Value) (s30 : Value) (s31 : Value) (s32 : Value) (s33 : Value) (s34 : Value) (s35 : Value) (s36 : Value) (H : AH) (K0 : List Value → AH → Prop) (R : AEnd → AH → Prop) : Prop :=
 K0 [(.string s0), s1, s2, (.bool s3), (.int .i64 (IntKind.i64.wrap (s4 + 1))), s5, s6, s7, s8, s9, s10, s11, s12, s13, s14, s15, s16, s17, s18, s19, (.int .i64 s4), (.int .i64 (IntKind.i64.wrap (s4 + 1))), s22, s23, s24, s25, s26, s27, s28, s29, s30, s31, s32, s33, s34, s35, s36] H
theorem f71_J3_eq (s0 : ByteArray) (s1 : Value) (s2 : Value) (s3 : Bool) (s4 : Int) (s5 : Value) (s6 : Value) (s7 : Value) (s8 : Value) (s9 : Value) (s10 : Value) (s11 : Value) (s12 : Value) (s13 : Value) (s14 : Value) (s15 : Value) (s16 : Value) (s17 : Value) (s18 : Value) (s19 : Value) (s20 : Value) (s21 : Value) (s22 : Value) (s23 : Value) (s24 : Value) (s25 : Value) (s26 : Value) (s27 : Value) (s28 : Value) (s29 : Value) (s30 : Value) (s31 : Value) (s32 : Value) (s33 : Value) (s34 : Value) (s35 : Value) (s36 : Value) (H : AH) (K0 : List Value → AH → Prop) (R : AEnd → AH → Prop) : f71_J3 K0 R [(.string s0), s1, s2, (.bool s3), (.int .i64 s4), s5, s6, s7, s8, s9, s10, s11, s12, s13, s14, s15, s16, s17, s18, s19, s20, s21, s22, s23, s24, s25, s26, s27, s28, s29, s30, s31, s32, s33, s34, s35, s36] H = f71_J3_B s0 s1 s2 s3 s4 s5 s6 s7 s8 s9 s10 s11 s12 s13 s14 s15 s16 s17 s18 s19 s22 s23 s24 s25 s26 s27 s28 s29 s30 s31 s32 s33 s34 s35 s36 H K0 R := by kernel_rfl
-- join 2: live 0:s, 4:i
def f71_J2_B (s0 : ByteArray) (s1 : Value) (s2 : Value) (s4 : Int) (s5 : Value) (s6 : Value) (s7 : Value) (s8 : Value) (s9 : Value) (s10 : Value) (s11 : Value) (s12 : Value) (s13 : Value) (s14 : Value) (s15 : Value) (s16 : Value) (s17 : Value) (s18 : Value) (s19 : Value) (s20 : Value) (s21 : Value) (s36 : Value) (H : AH) (K0 : List Value → AH → Prop) (R : AEnd → AH → Prop) : Prop :=
 wIxS s0 s4 fun n1 =>
 wCall Try.prog 119 [(.int .u8 n1), (.string ({ data := #[97, 98, 99, 100, 101, 102, 103, 104, 105, 106, 107, 108, 109, 110, 111, 112, 113, 114, 115, 116, 117, 118, 119, 120, 121, 122, 65, 66, 67, 68, 69, 70, 71, 72, 73, 74, 75, 76, 77, 78, 79, 80, 81, 82, 83, 84, 85, 86, 87, 88, 89, 90] }))] H (fun r2 H3 =>
 opB r2 fun b6 =>
 wIf b6
 (f71_J3 K0 R [(.string s0), s1, s2, (.bool true), (.int .i64 s4), s5, s6, s7, s8, s9, s10, s11, s12, s13, s14, s15, s16, s17, s18, s19, s20, s21, (.string s0), (.int .i64 s4), (.int .u8 n1), (.bool b6), (.bool true), undef, undef, undef, undef, undef, undef, undef, undef, (.bool true), s36] H3)
 (wIf (decide (s4 > 0))
 (wIxS s0 s4 fun n7 =>
 wCall Try.prog 119 [(.int .u8 n7), (.string ({ data := #[48, 49, 50, 51, 52, 53, 54, 55, 56, 57, 95] }))] H3 (fun r8 H9 =>
 opB r8 fun b12 =>
 f71_J3 K0 R [(.string s0), s1, s2, (.bool b12), (.int .i64 s4), s5, s6, s7, s8, s9, s10, s11, s12, s13, s14, s15, s16, s17, s18, s19, s20, s21, (.string s0), (.int .i64 s4), (.int .u8 n1), (.bool b6), (.bool false), (.int .i64 s4), (.bool (decide (s4 > 0))), (.bool true), (.string s0), (.int .i64 s4), (.int .u8 n7), (.bool b12), (.bool b12), (.bool b12), s36] H9) (fun v11 H10 => R (.panic v11) H10))
 (f71_J3 K0 R [(.string s0), s1, s2, (.bool false), (.int .i64 s4), s5, s6, s7, s8, s9, s10, s11, s12, s13, s14, s15, s16, s17, s18, s19, s20, s21, (.string s0), (.int .i64 s4), (.int .u8 n1), (.bool b6), (.bool false), (.int .i64 s4), (.bool (decide (s4 > 0))), (.bool false), undef, undef, undef, undef, (.bool false), (.bool false), s36] H3))) (fun v5 H4 => R (.panic v5) H4)
theorem f71_J2_eq (s0 : ByteArray) (s1 : Value) (s2 : Value) (s3 : Value) (s4 : Int) (s5 : Value) (s6 : Value) (s7 : Value) (s8 : Value) (s9 : Value) (s10 : Value) (s11 : Value) (s12 : Value) (s13 : Value) (s14 : Value) (s15 : Value) (s16 : Value) (s17 : Value) (s18 : Value) (s19 : Value) (s20 : Value) (s21 : Value) (s22 : Value) (s23 : Value) (s24 : Value) (s25 : Value) (s26 : Value) (s27 : Value) (s28 : Value) (s29 : Value) (s30 : Value) (s31 : Value) (s32 : Value) (s33 : Value) (s34 : Value) (s35 : Value) (s36 : Value) (H : AH) (K0 : List Value → AH → Prop) (R : AEnd → AH → Prop) : f71_J2 K0 R [(.string s0), s1, s2, s3, (.int .i64 s4), s5, s6, s7, s8, s9, s10, s11, s12, s13, s14, s15, s16, s17, s18, s19, s20, s21, s22, s23, s24, s25, s26, s27, s28, s29, s30, s31, s32, s33, s34, s35, s36] H = f71_J2_B s0 s1 s2 s4 s5 s6 s7 s8 s9 s10 s11 s12 s13 s14 s15 s16 s17 s18 s19 s20 s21 s36 H K0 R := by kernel_rfl
-- join 1: live 0:s, 3:ok, 4:i, 19:
def f71_J1_B (s0 : ByteArray) (s1 : Value) (s2 : Value) (s3 : Bool) (s4 : Int) (s5 : Value) (s6 : Value) (s7 : Value) (s8 : Value) (s9 : Value) (s10 : Value) (s11 : Value) (s12 : Value) (s13 : Value) (s14 : Value) (s15 : Value) (s16 : Value) (s17 : Value) (s18 : Value) (s19 : Bool) (s20 : Value) (s21 : Value) (s22 : Value) (s23 : Value) (s24 : Value) (s25 : Value) (s26 : Value) (s27 : Value) (s28 : Value) (s29 : Value) (s30 : Value) (s31 : Value) (s32 : Value) (s33 : Value) (s34 : Value) (s35 : Value) (s36 : Value) (H : AH) (K0 : List Value → AH → Prop) (R : AEnd → AH → Prop) : Prop :=
 wIf s19
 (f71_J2 K0 R [(.string s0), s1, s2, (.bool s3), (.int .i64 s4), s5, s6, s7, s8, s9, s10, s11, s12, s13, s14, s15, s16, s17, s18, (.bool true), s20, s21, s22, s23, s24, s25, s26, s27, s28, s29, s30, s31, s32, s33, s34, s35, s36] H)
 (R (.ret (.bool s3)) H)
theorem f71_J1_eq (s0 : ByteArray) (s1 : Value) (s2 : Value) (s3 : Bool) (s4 : Int) (s5 : Value) (s6 : Value) (s7 : Value) (s8 : Value) (s9 : Value) (s10 : Value) (s11 : Value) (s12 : Value) (s13 : Value) (s14 : Value) (s15 : Value) (s16 : Value) (s17 : Value) (s18 : Value) (s19 : Bool) (s20 : Value) (s21 : Value) (s22 : Value) (s23 : Value) (s24 : Value) (s25 : Value) (s26 : Value) (s27 : Value) (s28 : Value) (s29 : Value) (s30 : Value) (s31 : Value) (s32 : Value) (s33 : Value) (s34 : Value) (s35 : Value) (s36 : Value) (H : AH) (K0 : List Value → AH → Prop) (R : AEnd → AH → Prop) : f71_J1 K0 R [(.string s0), s1, s2, (.bool s3), (.int .i64 s4), s5, s6, s7, s8, s9, s10, s11, s12, s13, s14, s15, s16, s17, s18, (.bool s19), s20, s21, s22, s23, s24, s25, s26, s27, s28, s29, s30, s31, s32, s33, s34, s35, s36] H = f71_J1_B s0 s1 s2 s3 s4 s5 s6 s7 s8 s9 s10 s11 s12 s13 s14 s15 s16 s17 s18 s19 s20 s21 s22 s23 s24 s25 s26 s27 s28 s29 s30 s31 s32 s33 s34 s35 s36 H K0 R := by kernel_rfl
-- join 0: live 0:s, 3:ok
def f71_J0_B (s0 : ByteArray) (s1 : Value) (s2 : Value) (s3 : Bool) (s5 : Value) (s6 : Value) (s7 : Value) (s8 : Value) (s9 : Value) (s10 : Value) (s11 : Value) (s12 : Value) (s13 : Value) (s14 : Value) (s15 : Value) (s16 : Value) (s17 : Value) (s18 : Value) (s19 : Value) (s20 : Value) (s21 : Value) (s22 : Value) (s23 : Value) (s24 : Value) (s25 : Value) (s26 : Value) (s27 : Value) (s28 : Value) (s29 : Value) (s30 : Value) (s31 : Value) (s32 : Value) (s33 : Value) (s34 : Value) (s35 : Value) (s36 : Value) (H : AH) (R : AEnd → AH → Prop) : Prop :=
 f71_L0 R [(.string s0), s1, s2, (.bool s3), (.int .i64 0), s5, s6, s7, s8, s9, s10, s11, s12, s13, s14, s15, s16, s17, s18, s19, s20, s21, s22, s23, s24, s25, s26, s27, s28, s29, s30, s31, s32, s33, s34, s35, s36] H
theorem f71_J0_eq (s0 : ByteArray) (s1 : Value) (s2 : Value) (s3 : Bool) (s4 : Value) (s5 : Value) (s6 : Value) (s7 : Value) (s8 : Value) (s9 : Value) (s10 : Value) (s11 : Value) (s12 : Value) (s13 : Value) (s14 : Value) (s15 : Value) (s16 : Value) (s17 : Value) (s18 : Value) (s19 : Value) (s20 : Value) (s21 : Value) (s22 : Value) (s23 : Value) (s24 : Value) (s25 : Value) (s26 : Value) (s27 : Value) (s28 : Value) (s29 : Value) (s30 : Value) (s31 : Value) (s32 : Value) (s33 : Value) (s34 : Value) (s35 : Value) (s36 : Value) (H : AH) (R : AEnd → AH → Prop) : f71_J0 R [(.string s0), s1, s2, (.bool s3), s4, s5, s6, s7, s8, s9, s10, s11, s12, s13, s14, s15, s16, s17, s18, s19, s20, s21, s22, s23, s24, s25, s26, s27, s28, s29, s30, s31, s32, s33, s34, s35, s36] H = f71_J0_B s0 s1 s2 s3 s5 s6 s7 s8 s9 s10 s11 s12 s13 s14 s15 s16 s17 s18 s19 s20 s21 s22 s23 s24 s25 s26 s27 s28 s29 s30 s31 s32 s33 s34 s35 s36 H R := by kernel_rfl
def f71_R0 (s0 : ByteArray) (s1 : Value) (s2 : Value) (s3 : Bool) (s4 : Int) (s5 : Value) (s6 : Value) (s7 : Value) (s8 : Value) (s9 : Value) (s10 : Value) (s11 : Value) (s12 : Value) (s13 : Value) (s14 : Value) (s15 : Value) (s16 : Value) (s17 : Value) (s18 : Value) (s19 : Value) (s20 : Value) (s21 : Value) (s22 : Value) (s23 : Value) (s24 : Value) (s25 : Value) (s26 : Value) (s27 : Value) (s28 : Value) (s29 : Value) (s30 : Value) (s31 : Value) (s32 : Value) (s33 : Value) (s34 : Value) (s35 : Value) (s36 : Value) (H : AH) (K0 : List Value → AH → Prop) (R : AEnd → AH → Prop) : Prop :=
 wIf (decide (s4 < (s0.size : Int)))
 (f71_J1 K0 R [(.string s0), s1, s2, (.bool s3), (.int .i64 s4), s5, s6, s7, s8, s9, s10, s11, s12, (.int .i64 s4), (.string s0), (.int .i64 (s0.size : Int)), (.bool (decide (s4 < (s0.size : Int)))), (.bool true), (.bool s3), (.bool s3), s20, s21, s22, s23, s24, s25, s26, s27, s28, s29, s30, s31, s32, s33, s34, s35, s36] H)
 (f71_J1 K0 R [(.string s0), s1, s2, (.bool s3), (.int .i64 s4), s5, s6, s7, s8, s9, s10, s11, s12, (.int .i64 s4), (.string s0), (.int .i64 (s0.size : Int)), (.bool (decide (s4 < (s0.size : Int)))), (.bool false), undef, (.bool false), s20, s21, s22, s23, s24, s25, s26, s27, s28, s29, s30, s31, s32, s33, s34, s35, s36] H)
theorem f71_R0_eq (s0 : ByteArray) (s1 : Value) (s2 : Value) (s3 : Bool) (s4 : Int) (s5 : Value) (s6 : Value) (s7 : Value) (s8 : Value) (s9 : Value) (s10 : Value) (s11 : Value) (s12 : Value) (s13 : Value) (s14 : Value) (s15 : Value) (s16 : Value) (s17 : Value) (s18 : Value) (s19 : Value) (s20 : Value) (s21 : Value) (s22 : Value) (s23 : Value) (s24 : Value) (s25 : Value) (s26 : Value) (s27 : Value) (s28 : Value) (s29 : Value) (s30 : Value) (s31 : Value) (s32 : Value) (s33 : Value) (s34 : Value) (s35 : Value) (s36 : Value) (H : AH) (K0 : List Value → AH → Prop) (R : AEnd → AH → Prop) : awpF Try.prog (codeAt f71_c [1, 1, 0, 1, 0, 0]) (thenF K0 (f71_Q0 R)) [(.string s0), s1, s2, (.bool s3), (.int .i64 s4), s5, s6, s7, s8, s9, s10, s11, s12, s13, s14, s15, s16, s17, s18, s19, s20, s21, s22, s23, s24, s25, s26, s27, s28, s29, s30, s31, s32, s33, s34, s35, s36] H = f71_R0 s0 s1 s2 s3 s4 s5 s6 s7 s8 s9 s10 s11 s12 s13 s14 s15 s16 s17 s18 s19 s20 s21 s22 s23 s24 s25 s26 s27 s28 s29 s30 s31 s32 s33 s34 s35 s36 H K0 R := by kernel_rfl
def f71_I0 (s0 : ByteArray) (s1 : Value) (s2 : Value) (s5 : Value) (s6 : Value) (s7 : Value) (s8 : Value) (s9 : Value) (s10 : Value) (s11 : Value) (s12 : Value) (s36 : Value) (J : Nat → Bool → Int → AH → Prop) (n : Nat) (tm : List Value) (H : AH) : Prop := ∃ (s3 : Bool) (s4 : Int) (s13 : Value) (s14 : Value) (s15 : Value) (s16 : Value) (s17 : Value) (s18 : Value) (s19 : Value) (s20 : Value) (s21 : Value) (s22 : Value) (s23 : Value) (s24 : Value) (s25 : Value) (s26 : Value) (s27 : Value) (s28 : Value) (s29 : Value) (s30 : Value) (s31 : Value) (s32 : Value) (s33 : Value) (s34 : Value) (s35 : Value), tm = [(.string s0), s1, s2, (.bool s3), (.int .i64 s4), s5, s6, s7, s8, s9, s10, s11, s12, s13, s14, s15, s16, s17, s18, s19, s20, s21, s22, s23, s24, s25, s26, s27, s28, s29, s30, s31, s32, s33, s34, s35, s36] ∧ J n s3 s4 H
theorem f71_I0_mk {s0 : ByteArray} {s1 : Value} {s2 : Value} {s3 : Bool} {s4 : Int} {s5 : Value} {s6 : Value} {s7 : Value} {s8 : Value} {s9 : Value} {s10 : Value} {s11 : Value} {s12 : Value} {s13 : Value} {s14 : Value} {s15 : Value} {s16 : Value} {s17 : Value} {s18 : Value} {s19 : Value} {s20 : Value} {s21 : Value} {s22 : Value} {s23 : Value} {s24 : Value} {s25 : Value} {s26 : Value} {s27 : Value} {s28 : Value} {s29 : Value} {s30 : Value} {s31 : Value} {s32 : Value} {s33 : Value} {s34 : Value} {s35 : Value} {s36 : Value} {J : Nat → Bool → Int → AH → Prop} {n : Nat} {H : AH} (h : J n s3 s4 H) : f71_I0 s0 s1 s2 s5 s6 s7 s8 s9 s10 s11 s12 s36 J n [(.string s0), s1, s2, (.bool s3), (.int .i64 s4), s5, s6, s7, s8, s9, s10, s11, s12, s13, s14, s15, s16, s17, s18, s19, s20, s21, s22, s23, s24, s25, s26, s27, s28, s29, s30, s31, s32, s33, s34, s35, s36] H := ⟨_, _, _, _, _, _, _, _, _, _, _, _, _, _, _, _, _, _, _, _, _, _, _, _, _, rfl, h⟩
-- loop 0: carried 3:ok, 4:i
theorem f71_L0_rule {s0 : ByteArray} {s1 : Value} {s2 : Value} {s3 : Bool} {s4 : Int} {s5 : Value} {s6 : Value} {s7 : Value} {s8 : Value} {s9 : Value} {s10 : Value} {s11 : Value} {s12 : Value} {s13 : Value} {s14 : Value} {s15 : Value} {s16 : Value} {s17 : Value} {s18 : Value} {s19 : Value} {s20 : Value} {s21 : Value} {s22 : Value} {s23 : Value} {s24 : Value} {s25 : Value} {s26 : Value} {s27 : Value} {s28 : Value} {s29 : Value} {s30 : Value} {s31 : Value} {s32 : Value} {s33 : Value} {s34 : Value} {s35 : Value} {s36 : Value} {H : AH} {R : AEnd → AH → Prop} (J : Nat → Bool → Int → AH → Prop) (n : Nat) (h0 : J n s3 s4 H)
  (step : ∀ (n : Nat) (s3 : Bool) (s4 : Int) (H : AH), J n s3 s4 H → ∀ (s13 : Value) (s14 : Value) (s15 : Value) (s16 : Value) (s17 : Value) (s18 : Value) (s19 : Value) (s20 : Value) (s21 : Value) (s22 : Value) (s23 : Value) (s24 : Value) (s25 : Value) (s26 : Value) (s27 : Value) (s28 : Value) (s29 : Value) (s30 : Value) (s31 : Value) (s32 : Value) (s33 : Value) (s34 : Value) (s35 : Value), f71_R0 s0 s1 s2 s3 s4 s5 s6 s7 s8 s9 s10 s11 s12 s13 s14 s15 s16 s17 s18 s19 s20 s21 s22 s23 s24 s25 s26 s27 s28 s29 s30 s31 s32 s33 s34 s35 s36 H (fun tm H => ∃ m, m < n ∧ f71_I0 s0 s1 s2 s5 s6 s7 s8 s9 s10 s11 s12 s36 J m tm H) R) : f71_L0 R [(.string s0), s1, s2, (.bool s3), (.int .i64 s4), s5, s6, s7, s8, s9, s10, s11, s12, s13, s14, s15, s16, s17, s18, s19, s20, s21, s22, s23, s24, s25, s26, s27, s28, s29, s30, s31, s32, s33, s34, s35, s36] H :=
  awpF_loop (f71_I0 s0 s1 s2 s5 s6 s7 s8 s9 s10 s11 s12 s36 J) n (f71_I0_mk h0) (by
    intro n tm H hh
    exact Exists.elim hh fun s3 hh => Exists.elim hh fun s4 hh => Exists.elim hh fun s13 hh => Exists.elim hh fun s14 hh => Exists.elim hh fun s15 hh => Exists.elim hh fun s16 hh => Exists.elim hh fun s17 hh => Exists.elim hh fun s18 hh => Exists.elim hh fun s19 hh => Exists.elim hh fun s20 hh => Exists.elim hh fun s21 hh => Exists.elim hh fun s22 hh => Exists.elim hh fun s23 hh => Exists.elim hh fun s24 hh => Exists.elim hh fun s25 hh => Exists.elim hh fun s26 hh => Exists.elim hh fun s27 hh => Exists.elim hh fun s28 hh => Exists.elim hh fun s29 hh => Exists.elim hh fun s30 hh => Exists.elim hh fun s31 hh => Exists.elim hh fun s32 hh => Exists.elim hh fun s33 hh => Exists.elim hh fun s34 hh => Exists.elim hh fun s35 hh => And.elim (fun e h =>
     (by subst e; exact Eq.mpr (f71_R0_eq s0 s1 s2 s3 s4 s5 s6 s7 s8 s9 s10 s11 s12 s13 s14 s15 s16 s17 s18 s19 s20 s21 s22 s23 s24 s25 s26 s27 s28 s29 s30 s31 s32 s33 s34 s35 s36 H _ R) (step n s3 s4 H h s13 s14 s15 s16 s17 s18 s19 s20 s21 s22 s23 s24 s25 s26 s27 s28 s29 s30 s31 s32 s33 s34 s35))) hh)
def f71_B (x0 : ByteArray) (H : AH) (R : AEnd → AH → Prop) : Prop :=
 wIf (decide ((x0.size : Int) > 0))
 (f71_J0 R [(.string x0), undef, (.bool false), (.bool (decide ((x0.size : Int) ≤ 24))), undef, (.string x0), (.int .i64 (x0.size : Int)), (.bool (decide ((x0.size : Int) > 0))), (.bool true), (.string x0), (.int .i64 (x0.size : Int)), (.bool (decide ((x0.size : Int) ≤ 24))), (.bool (decide ((x0.size : Int) ≤ 24))), undef, undef, undef, undef, undef, undef, undef, undef, undef, undef, undef, undef, undef, undef, undef, undef, undef, undef, undef, undef, undef, undef, undef, undef] H)
 (f71_J0 R [(.string x0), undef, (.bool false), (.bool false), undef, (.string x0), (.int .i64 (x0.size : Int)), (.bool (decide ((x0.size : Int) > 0))), (.bool false), undef, undef, undef, (.bool false), undef, undef, undef, undef, undef, undef, undef, undef, undef, undef, undef, undef, undef, undef, undef, undef, undef, undef, undef, undef, undef, undef, undef, undef] H)
theorem f71_eq (x0 : ByteArray) (H : AH) (R : AEnd → AH → Prop) : awpF Try.prog f71_c (aPost Try.prog Try.f71 R) (([(.string x0)] : List Value) ++ List.replicate (Try.f71.ntmps - (([(.string x0)] : List Value)).length) undef) H = f71_B x0 H R := by kernel_rfl
theorem f71_call (x0 : ByteArray) (H : AH) (R : AEnd → AH → Prop) (h : f71_B x0 H R) : ACall Try.prog 71 ([(.string x0)] : List Value) H R :=
  acall_of mixed Try.func71 (by kernel_rfl : Try.f71.body = some f71_c) (by kernel_rfl) (by kernel_rfl) (awp_of (Eq.mpr (f71_eq x0 H R) h))

/-! f72: switchyard/switchyardref13.Row -/
noncomputable def f72_c : Code := Try.f72.body.getD .skip
noncomputable def f72_X0 (R : AEnd → AH → Prop) : AExit → List Value → AH → Prop := thenF (fun tm H => hold (awpF Try.prog (codeAt f72_c [1, 1, 1]) (aPost Try.prog Try.f72 R) tm H)) (aPost Try.prog Try.f72 R)
noncomputable def f72_X1 (R : AEnd → AH → Prop) : AExit → List Value → AH → Prop := inBlockF 0 (f72_X0 R)
noncomputable def f72_Q0 (R : AEnd → AH → Prop) : AExit → List Value → AH → Prop := (f72_X1 R)
def f72_L0 (R : AEnd → AH → Prop) (tm : List Value) (H : AH) : Prop := awpF Try.prog (codeAt f72_c [1, 1, 0, 1, 0]) (f72_Q0 R) tm H
def f72_R0 (s0 : Value) (s1 : Value) (s2 : Value) (s3 : ByteArray) (s4 : Value) (s5 : Value) (s6 : Value) (s7 : Value) (s8 : Value) (s9 : Value) (s10b : Option Addr) (s10l : Nat) (s10c : Nat) (s11 : Int) (s12 : Int) (s13 : Value) (s14 : Value) (s15 : Value) (s16 : Value) (s17 : Value) (s18 : Value) (s19 : Value) (s20 : Value) (s21 : Value) (H : AH) (K0 : List Value → AH → Prop) (R : AEnd → AH → Prop) : Prop :=
 wIf (decide (s12 < s11))
 (wIx s10b s10l 4 s12 fun i1 k2 =>
 ldI .i64 i1 k2 H fun n3 =>
 ldI .i64 i1 (k2 + 1) H fun n4 =>
 ldS i1 (k2 + 2) H fun t5 =>
 ldL i1 (k2 + 3) H fun z6b z6l z6c =>
 wNew [(.int .i64 0), (.int .i64 0), (.string ({ data := #[] })), (.slice none 0 0)] H fun i7 H8 =>
 wSt i7 0 [(.int .i64 n3), (.int .i64 n4), (.string t5), (.slice z6b z6l z6c)] H8 fun H9 =>
 ldI .i64 i7 0 H9 fun n10 =>
 ldI .i64 i7 1 H9 fun n11 =>
 ldS i7 2 H9 fun t12 =>
 ldL i7 3 H9 fun z13b z13l z13c =>
 wCall Try.prog 26 [(.agg #[(.int .i64 n10), (.int .i64 n11), (.string t12), (.slice z13b z13l z13c)])] H9 (fun r14 H15 =>
 opS r14 fun t18 =>
 wCat s3 t18 fun t19 =>
 K0 [s0, s1, s2, (.string t19), s4, (.pointer (some ⟨i7, 0, none⟩)), s6, s7, s8, s9, (.slice s10b s10l s10c), (.int .i64 s11), (.int .i64 (IntKind.i64.wrap (s12 + 1))), (.bool true), (.pointer (some ⟨i1, k2, none⟩)), (.agg #[(.int .i64 n3), (.int .i64 n4), (.string t5), (.slice z6b z6l z6c)]), (.string s3), (.agg #[(.int .i64 n10), (.int .i64 n11), (.string t12), (.slice z13b z13l z13c)]), (.string t18), (.string t19), (.int .i64 (IntKind.i64.wrap (s12 + 1))), s21] H15) (fun v17 H16 => R (.panic v17) H16))
 (R (.ret (.string s3)) H)
theorem f72_R0_eq (s0 : Value) (s1 : Value) (s2 : Value) (s3 : ByteArray) (s4 : Value) (s5 : Value) (s6 : Value) (s7 : Value) (s8 : Value) (s9 : Value) (s10b : Option Addr) (s10l : Nat) (s10c : Nat) (s11 : Int) (s12 : Int) (s13 : Value) (s14 : Value) (s15 : Value) (s16 : Value) (s17 : Value) (s18 : Value) (s19 : Value) (s20 : Value) (s21 : Value) (H : AH) (K0 : List Value → AH → Prop) (R : AEnd → AH → Prop) : awpF Try.prog (codeAt f72_c [1, 1, 0, 1, 0, 0]) (thenF K0 (f72_Q0 R)) [s0, s1, s2, (.string s3), s4, s5, s6, s7, s8, s9, (.slice s10b s10l s10c), (.int .i64 s11), (.int .i64 s12), s13, s14, s15, s16, s17, s18, s19, s20, s21] H = f72_R0 s0 s1 s2 s3 s4 s5 s6 s7 s8 s9 s10b s10l s10c s11 s12 s13 s14 s15 s16 s17 s18 s19 s20 s21 H K0 R := by kernel_rfl
def f72_I0 (s0 : Value) (s1 : Value) (s2 : Value) (s4 : Value) (s6 : Value) (s7 : Value) (s8 : Value) (s9 : Value) (s10b : Option Addr) (s10l : Nat) (s10c : Nat) (s11 : Int) (s21 : Value) (J : Nat → ByteArray → Int → AH → Prop) (n : Nat) (tm : List Value) (H : AH) : Prop := ∃ (s3 : ByteArray) (s5 : Value) (s12 : Int) (s13 : Value) (s14 : Value) (s15 : Value) (s16 : Value) (s17 : Value) (s18 : Value) (s19 : Value) (s20 : Value), tm = [s0, s1, s2, (.string s3), s4, s5, s6, s7, s8, s9, (.slice s10b s10l s10c), (.int .i64 s11), (.int .i64 s12), s13, s14, s15, s16, s17, s18, s19, s20, s21] ∧ J n s3 s12 H
theorem f72_I0_mk {s0 : Value} {s1 : Value} {s2 : Value} {s3 : ByteArray} {s4 : Value} {s5 : Value} {s6 : Value} {s7 : Value} {s8 : Value} {s9 : Value} {s10b : Option Addr} {s10l : Nat} {s10c : Nat} {s11 : Int} {s12 : Int} {s13 : Value} {s14 : Value} {s15 : Value} {s16 : Value} {s17 : Value} {s18 : Value} {s19 : Value} {s20 : Value} {s21 : Value} {J : Nat → ByteArray → Int → AH → Prop} {n : Nat} {H : AH} (h : J n s3 s12 H) : f72_I0 s0 s1 s2 s4 s6 s7 s8 s9 s10b s10l s10c s11 s21 J n [s0, s1, s2, (.string s3), s4, s5, s6, s7, s8, s9, (.slice s10b s10l s10c), (.int .i64 s11), (.int .i64 s12), s13, s14, s15, s16, s17, s18, s19, s20, s21] H := ⟨_, _, _, _, _, _, _, _, _, _, _, rfl, h⟩
-- loop 0: carried 3:s, 12:
theorem f72_L0_rule {s0 : Value} {s1 : Value} {s2 : Value} {s3 : ByteArray} {s4 : Value} {s5 : Value} {s6 : Value} {s7 : Value} {s8 : Value} {s9 : Value} {s10b : Option Addr} {s10l : Nat} {s10c : Nat} {s11 : Int} {s12 : Int} {s13 : Value} {s14 : Value} {s15 : Value} {s16 : Value} {s17 : Value} {s18 : Value} {s19 : Value} {s20 : Value} {s21 : Value} {H : AH} {R : AEnd → AH → Prop} (J : Nat → ByteArray → Int → AH → Prop) (n : Nat) (h0 : J n s3 s12 H)
  (step : ∀ (n : Nat) (s3 : ByteArray) (s12 : Int) (H : AH), J n s3 s12 H → ∀ (s5 : Value) (s13 : Value) (s14 : Value) (s15 : Value) (s16 : Value) (s17 : Value) (s18 : Value) (s19 : Value) (s20 : Value), f72_R0 s0 s1 s2 s3 s4 s5 s6 s7 s8 s9 s10b s10l s10c s11 s12 s13 s14 s15 s16 s17 s18 s19 s20 s21 H (fun tm H => ∃ m, m < n ∧ f72_I0 s0 s1 s2 s4 s6 s7 s8 s9 s10b s10l s10c s11 s21 J m tm H) R) : f72_L0 R [s0, s1, s2, (.string s3), s4, s5, s6, s7, s8, s9, (.slice s10b s10l s10c), (.int .i64 s11), (.int .i64 s12), s13, s14, s15, s16, s17, s18, s19, s20, s21] H :=
  awpF_loop (f72_I0 s0 s1 s2 s4 s6 s7 s8 s9 s10b s10l s10c s11 s21 J) n (f72_I0_mk h0) (by
    intro n tm H hh
    exact Exists.elim hh fun s3 hh => Exists.elim hh fun s5 hh => Exists.elim hh fun s12 hh => Exists.elim hh fun s13 hh => Exists.elim hh fun s14 hh => Exists.elim hh fun s15 hh => Exists.elim hh fun s16 hh => Exists.elim hh fun s17 hh => Exists.elim hh fun s18 hh => Exists.elim hh fun s19 hh => Exists.elim hh fun s20 hh => And.elim (fun e h =>
     (by subst e; exact Eq.mpr (f72_R0_eq s0 s1 s2 s3 s4 s5 s6 s7 s8 s9 s10b s10l s10c s11 s12 s13 s14 s15 s16 s17 s18 s19 s20 s21 H _ R) (step n s3 s12 H h s5 s13 s14 s15 s16 s17 s18 s19 s20))) hh)
def f72_B (x0b : Option Addr) (x0l : Nat) (x0c : Nat) (H : AH) (R : AEnd → AH → Prop) : Prop :=
 wCall Try.prog 70 [(.int .u64 (IntKind.u64.wrap (x0l : Int)))] H (fun r20 H21 =>
 opS r20 fun t24 =>
 f72_L0 R [(.slice x0b x0l x0c), undef, (.string ({ data := #[] })), (.string t24), undef, undef, (.slice x0b x0l x0c), (.int .i64 (x0l : Int)), (.int .u64 (IntKind.u64.wrap (x0l : Int))), (.string t24), (.slice x0b x0l x0c), (.int .i64 (x0l : Int)), (.int .i64 0), undef, undef, undef, undef, undef, undef, undef, undef, undef] H21) (fun v23 H22 => R (.panic v23) H22)
theorem f72_eq (x0b : Option Addr) (x0l : Nat) (x0c : Nat) (H : AH) (R : AEnd → AH → Prop) : awpF Try.prog f72_c (aPost Try.prog Try.f72 R) (([(.slice x0b x0l x0c)] : List Value) ++ List.replicate (Try.f72.ntmps - (([(.slice x0b x0l x0c)] : List Value)).length) undef) H = f72_B x0b x0l x0c H R := by kernel_rfl
theorem f72_call (x0b : Option Addr) (x0l : Nat) (x0c : Nat) (H : AH) (R : AEnd → AH → Prop) (h : f72_B x0b x0l x0c H R) : ACall Try.prog 72 ([(.slice x0b x0l x0c)] : List Value) H R :=
  acall_of mixed Try.func72 (by kernel_rfl : Try.f72.body = some f72_c) (by kernel_rfl) (by kernel_rfl) (awp_of (Eq.mpr (f72_eq x0b x0l x0c H R) h))

/-! f73: switchyard/switchyardref13.RightRow -/
noncomputable def f73_c : Code := Try.f73.body.getD .skip
noncomputable def f73_X0 (R : AEnd → AH → Prop) : AExit → List Value → AH → Prop := thenF (fun tm H => hold (awpF Try.prog (codeAt f73_c [1, 1, 1]) (aPost Try.prog Try.f73 R) tm H)) (aPost Try.prog Try.f73 R)
noncomputable def f73_X1 (R : AEnd → AH → Prop) : AExit → List Value → AH → Prop := inBlockF 0 (f73_X0 R)
noncomputable def f73_Q0 (R : AEnd → AH → Prop) : AExit → List Value → AH → Prop := (f73_X1 R)
def f73_L0 (R : AEnd → AH → Prop) (tm : List Value) (H : AH) : Prop := awpF Try.prog (codeAt f73_c [1, 1, 0, 1, 0]) (f73_Q0 R) tm H
def f73_R0 (s0 : Value) (s1 : Value) (s2 : Value) (s3 : Value) (s4 : Value) (s5 : Value) (s6 : Value) (s7 : Value) (s8b : Option Addr) (s8l : Nat) (s8c : Nat) (s9 : Int) (s10 : Int) (s11 : Value) (s12 : Value) (s13 : Value) (s14 : Value) (s15 : Value) (s16 : Value) (s17 : Value) (H : AH) (K0 : List Value → AH → Prop) (R : AEnd → AH → Prop) : Prop :=
 wIf (decide (s10 < s9))
 (wIx s8b s8l 4 s10 fun i1 k2 =>
 ldI .i64 i1 k2 H fun n3 =>
 ldI .i64 i1 (k2 + 1) H fun n4 =>
 ldS i1 (k2 + 2) H fun t5 =>
 ldL i1 (k2 + 3) H fun z6b z6l z6c =>
 wNew [(.int .i64 0), (.int .i64 0), (.string ({ data := #[] })), (.slice none 0 0)] H fun i7 H8 =>
 wSt i7 0 [(.int .i64 n3), (.int .i64 n4), (.string t5), (.slice z6b z6l z6c)] H8 fun H9 =>
 ldI .i64 i7 0 H9 fun n10 =>
 ldI .i64 i7 1 H9 fun n11 =>
 ldS i7 2 H9 fun t12 =>
 ldL i7 3 H9 fun z13b z13l z13c =>
 wCall Try.prog 27 [(.agg #[(.int .i64 n10), (.int .i64 n11), (.string t12), (.slice z13b z13l z13c)])] H9 (fun r14 H15 =>
 opB r14 fun b18 =>
 wIf (!b18)
 (R (.ret (.bool false)) H15)
 (K0 [s0, s1, s2, s3, (.pointer (some ⟨i7, 0, none⟩)), s5, s6, s7, (.slice s8b s8l s8c), (.int .i64 s9), (.int .i64 (IntKind.i64.wrap (s10 + 1))), (.bool true), (.pointer (some ⟨i1, k2, none⟩)), (.agg #[(.int .i64 n3), (.int .i64 n4), (.string t5), (.slice z6b z6l z6c)]), (.agg #[(.int .i64 n10), (.int .i64 n11), (.string t12), (.slice z13b z13l z13c)]), (.bool b18), (.bool false), (.int .i64 (IntKind.i64.wrap (s10 + 1)))] H15)) (fun v17 H16 => R (.panic v17) H16))
 (R (.ret (.bool true)) H)
theorem f73_R0_eq (s0 : Value) (s1 : Value) (s2 : Value) (s3 : Value) (s4 : Value) (s5 : Value) (s6 : Value) (s7 : Value) (s8b : Option Addr) (s8l : Nat) (s8c : Nat) (s9 : Int) (s10 : Int) (s11 : Value) (s12 : Value) (s13 : Value) (s14 : Value) (s15 : Value) (s16 : Value) (s17 : Value) (H : AH) (K0 : List Value → AH → Prop) (R : AEnd → AH → Prop) : awpF Try.prog (codeAt f73_c [1, 1, 0, 1, 0, 0]) (thenF K0 (f73_Q0 R)) [s0, s1, s2, s3, s4, s5, s6, s7, (.slice s8b s8l s8c), (.int .i64 s9), (.int .i64 s10), s11, s12, s13, s14, s15, s16, s17] H = f73_R0 s0 s1 s2 s3 s4 s5 s6 s7 s8b s8l s8c s9 s10 s11 s12 s13 s14 s15 s16 s17 H K0 R := by kernel_rfl
def f73_I0 (s0 : Value) (s1 : Value) (s3 : Value) (s5 : Value) (s6 : Value) (s7 : Value) (s8b : Option Addr) (s8l : Nat) (s8c : Nat) (s9 : Int) (J : Nat → Int → AH → Prop) (n : Nat) (tm : List Value) (H : AH) : Prop := ∃ (s2 : Value) (s4 : Value) (s10 : Int) (s11 : Value) (s12 : Value) (s13 : Value) (s14 : Value) (s15 : Value) (s16 : Value) (s17 : Value), tm = [s0, s1, s2, s3, s4, s5, s6, s7, (.slice s8b s8l s8c), (.int .i64 s9), (.int .i64 s10), s11, s12, s13, s14, s15, s16, s17] ∧ J n s10 H
theorem f73_I0_mk {s0 : Value} {s1 : Value} {s2 : Value} {s3 : Value} {s4 : Value} {s5 : Value} {s6 : Value} {s7 : Value} {s8b : Option Addr} {s8l : Nat} {s8c : Nat} {s9 : Int} {s10 : Int} {s11 : Value} {s12 : Value} {s13 : Value} {s14 : Value} {s15 : Value} {s16 : Value} {s17 : Value} {J : Nat → Int → AH → Prop} {n : Nat} {H : AH} (h : J n s10 H) : f73_I0 s0 s1 s3 s5 s6 s7 s8b s8l s8c s9 J n [s0, s1, s2, s3, s4, s5, s6, s7, (.slice s8b s8l s8c), (.int .i64 s9), (.int .i64 s10), s11, s12, s13, s14, s15, s16, s17] H := ⟨_, _, _, _, _, _, _, _, _, _, rfl, h⟩
-- loop 0: carried 10:
theorem f73_L0_rule {s0 : Value} {s1 : Value} {s2 : Value} {s3 : Value} {s4 : Value} {s5 : Value} {s6 : Value} {s7 : Value} {s8b : Option Addr} {s8l : Nat} {s8c : Nat} {s9 : Int} {s10 : Int} {s11 : Value} {s12 : Value} {s13 : Value} {s14 : Value} {s15 : Value} {s16 : Value} {s17 : Value} {H : AH} {R : AEnd → AH → Prop} (J : Nat → Int → AH → Prop) (n : Nat) (h0 : J n s10 H)
  (step : ∀ (n : Nat) (s10 : Int) (H : AH), J n s10 H → ∀ (s2 : Value) (s4 : Value) (s11 : Value) (s12 : Value) (s13 : Value) (s14 : Value) (s15 : Value) (s16 : Value) (s17 : Value), f73_R0 s0 s1 s2 s3 s4 s5 s6 s7 s8b s8l s8c s9 s10 s11 s12 s13 s14 s15 s16 s17 H (fun tm H => ∃ m, m < n ∧ f73_I0 s0 s1 s3 s5 s6 s7 s8b s8l s8c s9 J m tm H) R) : f73_L0 R [s0, s1, s2, s3, s4, s5, s6, s7, (.slice s8b s8l s8c), (.int .i64 s9), (.int .i64 s10), s11, s12, s13, s14, s15, s16, s17] H :=
  awpF_loop (f73_I0 s0 s1 s3 s5 s6 s7 s8b s8l s8c s9 J) n (f73_I0_mk h0) (by
    intro n tm H hh
    exact Exists.elim hh fun s2 hh => Exists.elim hh fun s4 hh => Exists.elim hh fun s10 hh => Exists.elim hh fun s11 hh => Exists.elim hh fun s12 hh => Exists.elim hh fun s13 hh => Exists.elim hh fun s14 hh => Exists.elim hh fun s15 hh => Exists.elim hh fun s16 hh => Exists.elim hh fun s17 hh => And.elim (fun e h =>
     (by subst e; exact Eq.mpr (f73_R0_eq s0 s1 s2 s3 s4 s5 s6 s7 s8b s8l s8c s9 s10 s11 s12 s13 s14 s15 s16 s17 H _ R) (step n s10 H h s2 s4 s11 s12 s13 s14 s15 s16 s17))) hh)
def f73_B (x0b : Option Addr) (x0l : Nat) (x0c : Nat) (H : AH) (R : AEnd → AH → Prop) : Prop :=
 wIf (decide ((x0l : Int) > 16))
 (R (.ret (.bool false)) H)
 (f73_L0 R [(.slice x0b x0l x0c), undef, (.bool false), undef, undef, (.slice x0b x0l x0c), (.int .i64 (x0l : Int)), (.bool false), (.slice x0b x0l x0c), (.int .i64 (x0l : Int)), (.int .i64 0), undef, undef, undef, undef, undef, undef, undef] H)
theorem f73_eq (x0b : Option Addr) (x0l : Nat) (x0c : Nat) (H : AH) (R : AEnd → AH → Prop) : awpF Try.prog f73_c (aPost Try.prog Try.f73 R) (([(.slice x0b x0l x0c)] : List Value) ++ List.replicate (Try.f73.ntmps - (([(.slice x0b x0l x0c)] : List Value)).length) undef) H = f73_B x0b x0l x0c H R := by kernel_rfl
theorem f73_call (x0b : Option Addr) (x0l : Nat) (x0c : Nat) (H : AH) (R : AEnd → AH → Prop) (h : f73_B x0b x0l x0c H R) : ACall Try.prog 73 ([(.slice x0b x0l x0c)] : List Value) H R :=
  acall_of mixed Try.func73 (by kernel_rfl : Try.f73.body = some f73_c) (by kernel_rfl) (by kernel_rfl) (awp_of (Eq.mpr (f73_eq x0b x0l x0c H R) h))

/-! f119: switchyard/switchyardref06.in -/
noncomputable def f119_c : Code := Try.f119.body.getD .skip
noncomputable def f119_X0 (R : AEnd → AH → Prop) : AExit → List Value → AH → Prop := thenF (fun tm H => hold (awpF Try.prog (codeAt f119_c [1, 1]) (aPost Try.prog Try.f119 R) tm H)) (aPost Try.prog Try.f119 R)
noncomputable def f119_X1 (R : AEnd → AH → Prop) : AExit → List Value → AH → Prop := inBlockF 0 (f119_X0 R)
noncomputable def f119_Q0 (R : AEnd → AH → Prop) : AExit → List Value → AH → Prop := (f119_X1 R)
def f119_L0 (R : AEnd → AH → Prop) (tm : List Value) (H : AH) : Prop := awpF Try.prog (codeAt f119_c [1, 0, 1, 0]) (f119_Q0 R) tm H
def f119_R0 (s0 : Int) (s1 : ByteArray) (s2 : Value) (s3 : Value) (s4 : Value) (s5 : Int) (s6 : Value) (s7 : Value) (s8 : Value) (s9 : Value) (s10 : Value) (s11 : Value) (s12 : Value) (s13 : Value) (s14 : Value) (s15 : Value) (s16 : Value) (H : AH) (K0 : List Value → AH → Prop) (R : AEnd → AH → Prop) : Prop :=
 wIf (decide (s5 < (s1.size : Int)))
 (wIxS s1 s5 fun n1 =>
 wIf (decide (n1 = s0))
 (R (.ret (.bool true)) H)
 (K0 [(.int .u8 s0), (.string s1), s2, s3, s4, (.int .i64 (IntKind.i64.wrap (s5 + 1))), (.int .i64 s5), (.string s1), (.int .i64 (s1.size : Int)), (.bool true), (.int .i64 s5), (.int .i64 (IntKind.i64.wrap (s5 + 1))), (.string s1), (.int .i64 s5), (.int .u8 n1), (.int .u8 s0), (.bool false)] H))
 (R (.ret (.bool false)) H)
theorem f119_R0_eq (s0 : Int) (s1 : ByteArray) (s2 : Value) (s3 : Value) (s4 : Value) (s5 : Int) (s6 : Value) (s7 : Value) (s8 : Value) (s9 : Value) (s10 : Value) (s11 : Value) (s12 : Value) (s13 : Value) (s14 : Value) (s15 : Value) (s16 : Value) (H : AH) (K0 : List Value → AH → Prop) (R : AEnd → AH → Prop) : awpF Try.prog (codeAt f119_c [1, 0, 1, 0, 0]) (thenF K0 (f119_Q0 R)) [(.int .u8 s0), (.string s1), s2, s3, s4, (.int .i64 s5), s6, s7, s8, s9, s10, s11, s12, s13, s14, s15, s16] H = f119_R0 s0 s1 s2 s3 s4 s5 s6 s7 s8 s9 s10 s11 s12 s13 s14 s15 s16 H K0 R := by kernel_rfl
def f119_I0 (s0 : Int) (s1 : ByteArray) (s2 : Value) (s3 : Value) (J : Nat → Int → AH → Prop) (n : Nat) (tm : List Value) (H : AH) : Prop := ∃ (s4 : Value) (s5 : Int) (s6 : Value) (s7 : Value) (s8 : Value) (s9 : Value) (s10 : Value) (s11 : Value) (s12 : Value) (s13 : Value) (s14 : Value) (s15 : Value) (s16 : Value), tm = [(.int .u8 s0), (.string s1), s2, s3, s4, (.int .i64 s5), s6, s7, s8, s9, s10, s11, s12, s13, s14, s15, s16] ∧ J n s5 H
theorem f119_I0_mk {s0 : Int} {s1 : ByteArray} {s2 : Value} {s3 : Value} {s4 : Value} {s5 : Int} {s6 : Value} {s7 : Value} {s8 : Value} {s9 : Value} {s10 : Value} {s11 : Value} {s12 : Value} {s13 : Value} {s14 : Value} {s15 : Value} {s16 : Value} {J : Nat → Int → AH → Prop} {n : Nat} {H : AH} (h : J n s5 H) : f119_I0 s0 s1 s2 s3 J n [(.int .u8 s0), (.string s1), s2, s3, s4, (.int .i64 s5), s6, s7, s8, s9, s10, s11, s12, s13, s14, s15, s16] H := ⟨_, _, _, _, _, _, _, _, _, _, _, _, _, rfl, h⟩
-- loop 0: carried 5:i
theorem f119_L0_rule {s0 : Int} {s1 : ByteArray} {s2 : Value} {s3 : Value} {s4 : Value} {s5 : Int} {s6 : Value} {s7 : Value} {s8 : Value} {s9 : Value} {s10 : Value} {s11 : Value} {s12 : Value} {s13 : Value} {s14 : Value} {s15 : Value} {s16 : Value} {H : AH} {R : AEnd → AH → Prop} (J : Nat → Int → AH → Prop) (n : Nat) (h0 : J n s5 H)
  (step : ∀ (n : Nat) (s5 : Int) (H : AH), J n s5 H → ∀ (s4 : Value) (s6 : Value) (s7 : Value) (s8 : Value) (s9 : Value) (s10 : Value) (s11 : Value) (s12 : Value) (s13 : Value) (s14 : Value) (s15 : Value) (s16 : Value), f119_R0 s0 s1 s2 s3 s4 s5 s6 s7 s8 s9 s10 s11 s12 s13 s14 s15 s16 H (fun tm H => ∃ m, m < n ∧ f119_I0 s0 s1 s2 s3 J m tm H) R) : f119_L0 R [(.int .u8 s0), (.string s1), s2, s3, s4, (.int .i64 s5), s6, s7, s8, s9, s10, s11, s12, s13, s14, s15, s16] H :=
  awpF_loop (f119_I0 s0 s1 s2 s3 J) n (f119_I0_mk h0) (by
    intro n tm H hh
    exact Exists.elim hh fun s4 hh => Exists.elim hh fun s5 hh => Exists.elim hh fun s6 hh => Exists.elim hh fun s7 hh => Exists.elim hh fun s8 hh => Exists.elim hh fun s9 hh => Exists.elim hh fun s10 hh => Exists.elim hh fun s11 hh => Exists.elim hh fun s12 hh => Exists.elim hh fun s13 hh => Exists.elim hh fun s14 hh => Exists.elim hh fun s15 hh => Exists.elim hh fun s16 hh => And.elim (fun e h =>
     (by subst e; exact Eq.mpr (f119_R0_eq s0 s1 s2 s3 s4 s5 s6 s7 s8 s9 s10 s11 s12 s13 s14 s15 s16 H _ R) (step n s5 H h s4 s6 s7 s8 s9 s10 s11 s12 s13 s14 s15 s16))) hh)
def f119_B (x0 : Int) (x1 : ByteArray) (H : AH) (R : AEnd → AH → Prop) : Prop :=
 f119_L0 R [(.int .u8 x0), (.string x1), undef, undef, (.bool false), (.int .i64 0), undef, undef, undef, undef, undef, undef, undef, undef, undef, undef, undef] H
theorem f119_eq (x0 : Int) (x1 : ByteArray) (H : AH) (R : AEnd → AH → Prop) : awpF Try.prog f119_c (aPost Try.prog Try.f119 R) (([(.int .u8 x0), (.string x1)] : List Value) ++ List.replicate (Try.f119.ntmps - (([(.int .u8 x0), (.string x1)] : List Value)).length) undef) H = f119_B x0 x1 H R := by kernel_rfl
theorem f119_call (x0 : Int) (x1 : ByteArray) (H : AH) (R : AEnd → AH → Prop) (h : f119_B x0 x1 H R) : ACall Try.prog 119 ([(.int .u8 x0), (.string x1)] : List Value) H R :=
  acall_of mixed Try.func119 (by kernel_rfl : Try.f119.body = some f119_c) (by kernel_rfl) (by kernel_rfl) (awp_of (Eq.mpr (f119_eq x0 x1 H R) h))

end Go.Proofs.Ytfghglacfjncmaa
