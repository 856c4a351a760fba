/- Bodies of functions as nested rules: printed by genw.py, a program of this claim. -/
import Derived.Test.YtnjhcnefgeodcaaDoorWTy
namespace Go.Proofs.YtnjhcnefgeodcaaDoor
open Go.RowKit
set_option linter.unusedVariables false
set_option maxRecDepth 100000

/-! f3: switchyard/switchyardlaw04.FramePuts -/
noncomputable def f3_c : Code := Tryd.f3.body.getD .skip
def f3_B (x0_0 : Int) (x0_1 : Int) (x0_2 : Int) (x0_3 : ByteArray) (x1 : Int) (H : AH) (R : AEnd → AH → Prop) : Prop :=
 wNew [(.int .u32 x0_0), (.int .u64 x0_1), (.int .i64 x0_2), (.string x0_3)] H fun i1 H2 =>
 wCall Tryd.prog 9 [] H2 (fun r3 H4 =>
 opB r3 fun b7 =>
 wIf (!b7)
 (R (.ret (.bool false)) H4)
 (ldS i1 3 H4 fun t8 =>
 wIf (decide ((t8.size : Int) > 20000))
 (wCall Tryd.prog 9 [] H4 (fun r9 H10 =>
 opB r9 fun b13 =>
 R (.ret (.bool b13)) H10) (fun v12 H11 => R (.panic v12) H11))
 (ldI .u32 i1 0 H4 fun n14 =>
 ldI .u64 i1 1 H4 fun n15 =>
 ldI .i64 i1 2 H4 fun n16 =>
 ldS i1 3 H4 fun t17 =>
 wCall Tryd.prog 10 [(.agg #[(.int .u32 n14), (.int .u64 n15), (.int .i64 n16), (.string t17)])] H4 (fun r18 H19 =>
 opT 2 r18 fun l22 =>
 opS (l22.headD undef) fun t23 =>
 opI .i64 (l22.tail.headD undef) fun n24 =>
 ldI .u32 i1 0 H19 fun n25 =>
 ldI .u64 i1 1 H19 fun n26 =>
 ldI .i64 i1 2 H19 fun n27 =>
 ldS i1 3 H19 fun t28 =>
 wCall Tryd.prog 11 [(.agg #[(.int .u32 n25), (.int .u64 n26), (.int .i64 n27), (.string t28)])] H19 (fun r29 H30 =>
 opT 2 r29 fun l33 =>
 opS (l33.headD undef) fun t34 =>
 opI .i64 (l33.tail.headD undef) fun n35 =>
 wCall Tryd.prog 9 [] H30 (fun r36 H37 =>
 opB r36 fun b40 =>
 wIf b40
 (wIf (decide (t23 = t34))
 (wIf (decide (n24 = n35))
 (wCall Tryd.prog 12 [(.int .i64 x1)] H37 (fun r41 H42 =>
 opI .i64 r41 fun n45 =>
 wCall Tryd.prog 13 [(.int .i64 x1)] H42 (fun r46 H47 =>
 opI .i64 r46 fun n50 =>
 R (.ret (.bool (decide (n45 = n50)))) H47) (fun v49 H48 => R (.panic v49) H48)) (fun v44 H43 => R (.panic v44) H43))
 (R (.ret (.bool false)) H37))
 (R (.ret (.bool false)) H37))
 (R (.ret (.bool false)) H37)) (fun v39 H38 => R (.panic v39) H38)) (fun v32 H31 => R (.panic v32) H31)) (fun v21 H20 => R (.panic v21) H20)))) (fun v6 H5 => R (.panic v6) H5)
theorem f3_eq (x0_0 : Int) (x0_1 : Int) (x0_2 : Int) (x0_3 : ByteArray) (x1 : Int) (H : AH) (R : AEnd → AH → Prop) : awpF Tryd.prog f3_c (aPost Tryd.prog Tryd.f3 R) (([(.agg #[(.int .u32 x0_0), (.int .u64 x0_1), (.int .i64 x0_2), (.string x0_3)]), (.int .i64 x1)] : List Value) ++ List.replicate (Tryd.f3.ntmps - (([(.agg #[(.int .u32 x0_0), (.int .u64 x0_1), (.int .i64 x0_2), (.string x0_3)]), (.int .i64 x1)] : List Value)).length) undef) H = f3_B x0_0 x0_1 x0_2 x0_3 x1 H R := by kernel_rfl
theorem f3_call (x0_0 : Int) (x0_1 : Int) (x0_2 : Int) (x0_3 : ByteArray) (x1 : Int) (H : AH) (R : AEnd → AH → Prop) (h : f3_B x0_0 x0_1 x0_2 x0_3 x1 H R) : ACall Tryd.prog 3 ([(.agg #[(.int .u32 x0_0), (.int .u64 x0_1), (.int .i64 x0_2), (.string x0_3)]), (.int .i64 x1)] : List Value) H R :=
  acall_of mixed Tryd.func3 (by kernel_rfl : Tryd.f3.body = some f3_c) (by kernel_rfl) (by kernel_rfl) (awp_of (Eq.mpr (f3_eq x0_0 x0_1 x0_2 x0_3 x1 H R) h))

/-! f4: switchyard/switchyardlaw04.FrameBack -/
noncomputable def f4_c : Code := Tryd.f4.body.getD .skip
noncomputable def f4_X0 (R : AEnd → AH → Prop) : AExit → List Value → AH → Prop := thenF (fun tm H => hold (awpF Tryd.prog (codeAt f4_c [1, 1, 1]) (aPost Tryd.prog Tryd.f4 R) tm H)) (aPost Tryd.prog Tryd.f4 R)
def f4_J0 (R : AEnd → AH → Prop) (tm : List Value) (H : AH) : Prop := hold (awpF Tryd.prog (codeAt f4_c [1, 1, 0, 1]) ((f4_X0 R)) tm H)
def f4_J1 (R : AEnd → AH → Prop) (tm : List Value) (H : AH) : Prop := hold (awpF Tryd.prog (codeAt f4_c [1, 1, 1]) ((aPost Tryd.prog Tryd.f4 R)) tm H)
-- join 1: live 1:o, 2:.
def f4_J1_B (s1 : ByteArray) (s2 : Option Addr) (H : AH) (R : AEnd → AH → Prop) : Prop :=
 wPt s2 fun i1 k2 =>
 ldI .u32 i1 k2 H fun n3 =>
 ldI .u64 i1 (k2 + 1) H fun n4 =>
 ldI .i64 i1 (k2 + 2) H fun n5 =>
 ldS i1 (k2 + 3) H fun t6 =>
 wCall Tryd.prog 10 [(.agg #[(.int .u32 n3), (.int .u64 n4), (.int .i64 n5), (.string t6)])] H (fun r7 H8 =>
 opT 2 r7 fun l11 =>
 opS (l11.headD undef) fun t12 =>
 opI .i64 (l11.tail.headD undef) fun n13 =>
 wIf (!decide (n13 = 0))
 (wCall Tryd.prog 9 [] H8 (fun r14 H15 =>
 opB r14 fun b18 =>
 wIf b18
 (R (.ret (.bool (decide (n13 = 2)))) H15)
 (R (.ret (.bool false)) H15)) (fun v17 H16 => R (.panic v17) H16))
 (wCat t12 s1 fun t19 =>
 wCall Tryd.prog 14 [(.string t19)] H8 (fun r20 H21 =>
 opT 2 r20 fun l24 =>
 opA 4 (l24.headD undef) fun l25 =>
 opI .u32 (l25.headD undef) fun n26 =>
 opI .u64 (l25.tail.headD undef) fun n27 =>
 opI .i64 (l25.tail.tail.headD undef) fun n28 =>
 opS (l25.tail.tail.tail.headD undef) fun t29 =>
 opI .i64 (l24.tail.headD undef) fun n30 =>
 wNew [(.int .u32 0), (.int .u64 0), (.int .i64 0), (.string ({ data := #[] }))] H21 fun i31 H32 =>
 wSt i31 0 [(.int .u32 n26), (.int .u64 n27), (.int .i64 n28), (.string t29)] H32 fun H33 =>
 wSlS t12 0 (IntKind.i64.wrap ((t12.size : Int) - 64)) fun t34 =>
 wCall Tryd.prog 14 [(.string t34)] H33 (fun r35 H36 =>
 opT 2 r35 fun l39 =>
 opA 4 (l39.headD undef) fun l40 =>
 opI .u32 (l40.headD undef) fun n41 =>
 opI .u64 (l40.tail.headD undef) fun n42 =>
 opI .i64 (l40.tail.tail.headD undef) fun n43 =>
 opS (l40.tail.tail.tail.headD undef) fun t44 =>
 opI .i64 (l39.tail.headD undef) fun n45 =>
 wNew [(.int .u32 0), (.int .u64 0), (.int .i64 0), (.string ({ data := #[] }))] H36 fun i46 H47 =>
 wSt i46 0 [(.int .u32 n41), (.int .u64 n42), (.int .i64 n43), (.string t44)] H47 fun H48 =>
 wCall Tryd.prog 9 [] H48 (fun r49 H50 =>
 opB r49 fun b53 =>
 wIf b53
 (wIf (decide (n30 = 0))
 (ldI .u32 i31 0 H50 fun n54 =>
 ldI .u64 i31 1 H50 fun n55 =>
 ldI .i64 i31 2 H50 fun n56 =>
 ldS i31 3 H50 fun t57 =>
 wPt s2 fun i58 k59 =>
 ldI .u32 i58 k59 H50 fun n60 =>
 ldI .u64 i58 (k59 + 1) H50 fun n61 =>
 ldI .i64 i58 (k59 + 2) H50 fun n62 =>
 ldS i58 (k59 + 3) H50 fun t63 =>
 wIf ((decide (n54 = n60)) && ((decide (n55 = n61)) && ((decide (n56 = n62)) && ((decide (t57 = t63)) && true))))
 (wPt s2 fun i64 k65 =>
 ldS i64 (k65 + 3) H50 fun t66 =>
 wCall Tryd.prog 12 [(.int .i64 (t66.size : Int))] H50 (fun r67 H68 =>
 opI .i64 r67 fun n71 =>
 wIf (decide ((t12.size : Int) = (IntKind.i64.wrap (64 * n71))))
 (R (.ret (.bool (decide (n45 = 3)))) H68)
 (R (.ret (.bool false)) H68)) (fun v70 H69 => R (.panic v70) H69))
 (R (.ret (.bool false)) H50))
 (R (.ret (.bool false)) H50))
 (R (.ret (.bool false)) H50)) (fun v52 H51 => R (.panic v52) H51)) (fun v38 H37 => R (.panic v38) H37)) (fun v23 H22 => R (.panic v23) H22))) (fun v10 H9 => R (.panic v10) H9)
theorem f4_J1_eq (s0 : Value) (s1 : ByteArray) (s2 : Option Addr) (s3 : Value) (s4 : Value) (s5 : Value) (s6 : Value) (s7 : Value) (s8 : Value) (s9 : Value) (s10 : Value) (s11 : Value) (s12 : Value) (s13 : Value) (s14 : Value) (s15 : Value) (s16 : Value) (s17 : Value) (s18 : Value) (s19 : Value) (s20 : Value) (s21 : Value) (s22 : Value) (s23 : Value) (s24 : Value) (s25 : Value) (s26 : Value) (s27 : Value) (s28 : Value) (s29 : Value) (s30 : Value) (s31 : Value) (s32 : Value) (s33 : Value) (s34 : Value) (s35 : Value) (s36 : Value) (s37 : Value) (s38 : Value) (s39 : Value) (s40 : Value) (s41 : Value) (s42 : Value) (s43 : Value) (s44 : Value) (s45 : Value) (s46 : Value) (s47 : Value) (s48 : Value) (s49 : Value) (s50 : Value) (s51 : Value) (s52 : Value) (s53 : Value) (s54 : Value) (s55 : Value) (s56 : Value) (s57 : Value) (s58 : Value) (s59 : Value) (s60 : Value) (s61 : Value) (s62 : Value) (s63 : Value) (s64 : Value) (s65 : Value) (s66 : Value) (s67 : Value) (s68 : Value) (s69 : Value) (s70 : Value) (s71 : Value) (s72 : Value) (s73 : Value) (s74 : Value) (H : AH) (R : AEnd → AH → Prop) : f4_J1 R [s0, (.string s1), (.pointer s2), s3, s4, s5, s6, s7, s8, s9, s10, s11, s12, s13, s14, s15, s16, s17, s18, s19, s20, s21, s22, s23, s24, s25, s26, s27, s28, s29, s30, s31, s32, s33, s34, s35, s36, s37, s38, s39, s40, s41, s42, s43, s44, s45, s46, s47, s48, s49, s50, s51, s52, s53, s54, s55, s56, s57, s58, s59, s60, s61, s62, s63, s64, s65, s66, s67, s68, s69, s70, s71, s72, s73, s74] H = f4_J1_B s1 s2 H R := by kernel_rfl
-- join 0: live 1:o, 2:., 21:?
def f4_J0_B (s0 : Value) (s1 : ByteArray) (s2 : Option Addr) (s3 : Value) (s4 : Value) (s5 : Value) (s6 : Value) (s7 : Value) (s8 : Value) (s9 : Value) (s10 : Value) (s11 : Value) (s12 : Value) (s13 : Value) (s14 : Value) (s15 : Value) (s16 : Value) (s17 : Value) (s18 : Value) (s19 : Value) (s20 : Value) (s21 : Bool) (s22 : Value) (s23 : Value) (s24 : Value) (s25 : Value) (s26 : Value) (s27 : Value) (s28 : Value) (s29 : Value) (s30 : Value) (s31 : Value) (s32 : Value) (s33 : Value) (s34 : Value) (s35 : Value) (s36 : Value) (s37 : Value) (s38 : Value) (s39 : Value) (s40 : Value) (s41 : Value) (s42 : Value) (s43 : Value) (s44 : Value) (s45 : Value) (s46 : Value) (s47 : Value) (s48 : Value) (s49 : Value) (s50 : Value) (s51 : Value) (s52 : Value) (s53 : Value) (s54 : Value) (s55 : Value) (s56 : Value) (s57 : Value) (s58 : Value) (s59 : Value) (s60 : Value) (s61 : Value) (s62 : Value) (s63 : Value) (s64 : Value) (s65 : Value) (s66 : Value) (s67 : Value) (s68 : Value) (s69 : Value) (s70 : Value) (s71 : Value) (s72 : Value) (s73 : Value) (s74 : Value) (H : AH) (R : AEnd → AH → Prop) : Prop :=
 wIf s21
 (wCall Tryd.prog 9 [] H (fun r72 H73 =>
 opB r72 fun b76 =>
 R (.ret (.bool b76)) H73) (fun v75 H74 => R (.panic v75) H74))
 (f4_J1 R [s0, (.string s1), (.pointer s2), s3, s4, s5, s6, s7, s8, s9, s10, s11, s12, s13, s14, s15, s16, s17, s18, s19, s20, (.bool false), s22, s23, s24, s25, s26, s27, s28, s29, s30, s31, s32, s33, s34, s35, s36, s37, s38, s39, s40, s41, s42, s43, s44, s45, s46, s47, s48, s49, s50, s51, s52, s53, s54, s55, s56, s57, s58, s59, s60, s61, s62, s63, s64, s65, s66, s67, s68, s69, s70, s71, s72, s73, s74] H)
theorem f4_J0_eq (s0 : Value) (s1 : ByteArray) (s2 : Option Addr) (s3 : Value) (s4 : Value) (s5 : Value) (s6 : Value) (s7 : Value) (s8 : Value) (s9 : Value) (s10 : Value) (s11 : Value) (s12 : Value) (s13 : Value) (s14 : Value) (s15 : Value) (s16 : Value) (s17 : Value) (s18 : Value) (s19 : Value) (s20 : Value) (s21 : Bool) (s22 : Value) (s23 : Value) (s24 : Value) (s25 : Value) (s26 : Value) (s27 : Value) (s28 : Value) (s29 : Value) (s30 : Value) (s31 : Value) (s32 : Value) (s33 : Value) (s34 : Value) (s35 : Value) (s36 : Value) (s37 : Value) (s38 : Value) (s39 : Value) (s40 : Value) (s41 : Value) (s42 : Value) (s43 : Value) (s44 : Value) (s45 : Value) (s46 : Value) (s47 : Value) (s48 : Value) (s49 : Value) (s50 : Value) (s51 : Value) (s52 : Value) (s53 : Value) (s54 : Value) (s55 : Value) (s56 : Value) (s57 : Value) (s58 : Value) (s59 : Value) (s60 : Value) (s61 : Value) (s62 : Value) (s63 : Value) (s64 : Value) (s65 : Value) (s66 : Value) (s67 : Value) (s68 : Value) (s69 : Value) (s70 : Value) (s71 : Value) (s72 : Value) (s73 : Value) (s74 : Value) (H : AH) (R : AEnd → AH → Prop) : f4_J0 R [s0, (.string s1), (.pointer s2), s3, s4, s5, s6, s7, s8, s9, s10, s11, s12, s13, s14, s15, s16, s17, s18, s19, s20, (.bool s21), s22, s23, s24, s25, s26, s27, s28, s29, s30, s31, s32, s33, s34, s35, s36, s37, s38, s39, s40, s41, s42, s43, s44, s45, s46, s47, s48, s49, s50, s51, s52, s53, s54, s55, s56, s57, s58, s59, s60, s61, s62, s63, s64, s65, s66, s67, s68, s69, s70, s71, s72, s73, s74] H = f4_J0_B s0 s1 s2 s3 s4 s5 s6 s7 s8 s9 s10 s11 s12 s13 s14 s15 s16 s17 s18 s19 s20 s21 s22 s23 s24 s25 s26 s27 s28 s29 s30 s31 s32 s33 s34 s35 s36 s37 s38 s39 s40 s41 s42 s43 s44 s45 s46 s47 s48 s49 s50 s51 s52 s53 s54 s55 s56 s57 s58 s59 s60 s61 s62 s63 s64 s65 s66 s67 s68 s69 s70 s71 s72 s73 s74 H R := by kernel_rfl
def f4_B (x0_0 : Int) (x0_1 : Int) (x0_2 : Int) (x0_3 : ByteArray) (x1 : ByteArray) (H : AH) (R : AEnd → AH → Prop) : Prop :=
 wNew [(.int .u32 x0_0), (.int .u64 x0_1), (.int .i64 x0_2), (.string x0_3)] H fun i77 H78 =>
 wCall Tryd.prog 9 [] H78 (fun r79 H80 =>
 opB r79 fun b83 =>
 wIf (!b83)
 (R (.ret (.bool false)) H80)
 (ldS i77 3 H80 fun t84 =>
 wIf (decide ((t84.size : Int) > 20000))
 (f4_J0 R [(.agg #[(.int .u32 x0_0), (.int .u64 x0_1), (.int .i64 x0_2), (.string x0_3)]), (.string x1), (.pointer (some ⟨i77, 0, none⟩)), undef, (.bool false), undef, undef, undef, undef, undef, undef, (.bool b83), (.bool false), (.pointer (some ⟨i77, 3, none⟩)), (.string t84), (.int .i64 (t84.size : Int)), (.bool (decide ((t84.size : Int) > 20000))), (.bool true), undef, undef, undef, (.bool true), undef, undef, undef, undef, undef, undef, undef, undef, undef, undef, undef, undef, undef, undef, undef, undef, undef, undef, undef, undef, undef, undef, undef, undef, undef, undef, undef, undef, undef, undef, undef, undef, undef, undef, undef, undef, undef, undef, undef, undef, undef, undef, undef, undef, undef, undef, undef, undef, undef, undef, undef, undef, undef] H80)
 (f4_J0 R [(.agg #[(.int .u32 x0_0), (.int .u64 x0_1), (.int .i64 x0_2), (.string x0_3)]), (.string x1), (.pointer (some ⟨i77, 0, none⟩)), undef, (.bool false), undef, undef, undef, undef, undef, undef, (.bool b83), (.bool false), (.pointer (some ⟨i77, 3, none⟩)), (.string t84), (.int .i64 (t84.size : Int)), (.bool (decide ((t84.size : Int) > 20000))), (.bool false), (.string x1), (.int .i64 (x1.size : Int)), (.bool (decide ((x1.size : Int) > 1000))), (.bool (decide ((x1.size : Int) > 1000))), undef, undef, undef, undef, undef, undef, undef, undef, undef, undef, undef, undef, undef, undef, undef, undef, undef, undef, undef, undef, undef, undef, undef, undef, undef, undef, undef, undef, undef, undef, undef, undef, undef, undef, undef, undef, undef, undef, undef, undef, undef, undef, undef, undef, undef, undef, undef, undef, undef, undef, undef, undef, undef] H80))) (fun v82 H81 => R (.panic v82) H81)
theorem f4_eq (x0_0 : Int) (x0_1 : Int) (x0_2 : Int) (x0_3 : ByteArray) (x1 : ByteArray) (H : AH) (R : AEnd → AH → Prop) : awpF Tryd.prog f4_c (aPost Tryd.prog Tryd.f4 R) (([(.agg #[(.int .u32 x0_0), (.int .u64 x0_1), (.int .i64 x0_2), (.string x0_3)]), (.string x1)] : List Value) ++ List.replicate (Tryd.f4.ntmps - (([(.agg #[(.int .u32 x0_0), (.int .u64 x0_1), (.int .i64 x0_2), (.string x0_3)]), (.string x1)] : List Value)).length) undef) H = f4_B x0_0 x0_1 x0_2 x0_3 x1 H R := by kernel_rfl
theorem f4_call (x0_0 : Int) (x0_1 : Int) (x0_2 : Int) (x0_3 : ByteArray) (x1 : ByteArray) (H : AH) (R : AEnd → AH → Prop) (h : f4_B x0_0 x0_1 x0_2 x0_3 x1 H R) : ACall Tryd.prog 4 ([(.agg #[(.int .u32 x0_0), (.int .u64 x0_1), (.int .i64 x0_2), (.string x0_3)]), (.string x1)] : List Value) H R :=
  acall_of mixed Tryd.func4 (by kernel_rfl : Tryd.f4.body = some f4_c) (by kernel_rfl) (by kernel_rfl) (awp_of (Eq.mpr (f4_eq x0_0 x0_1 x0_2 x0_3 x1 H R) h))

/-! f5: switchyard/switchyardlaw04.FrameTurns -/
noncomputable def f5_c : Code := Tryd.f5.body.getD .skip
noncomputable def f5_X0 (R : AEnd → AH → Prop) : AExit → List Value → AH → Prop := thenF (fun tm H => hold (awpF Tryd.prog (codeAt f5_c [1, 1, 1, 1, 1, 1, 1, 1]) (aPost Tryd.prog Tryd.f5 R) tm H)) (aPost Tryd.prog Tryd.f5 R)
noncomputable def f5_X1 (R : AEnd → AH → Prop) : AExit → List Value → AH → Prop := inBlockF 0 (f5_X0 R)
noncomputable def f5_Q0 (R : AEnd → AH → Prop) : AExit → List Value → AH → Prop := (f5_X1 R)
def f5_L0 (R : AEnd → AH → Prop) (tm : List Value) (H : AH) : Prop := awpF Tryd.prog (codeAt f5_c [1, 1, 1, 1, 1, 1, 1, 0, 1, 0]) (f5_Q0 R) tm H
noncomputable def f5_X2 (R : AEnd → AH → Prop) : AExit → List Value → AH → Prop := thenF (fun tm H => hold (awpF Tryd.prog (codeAt f5_c [1, 1, 1, 1]) (aPost Tryd.prog Tryd.f5 R) tm H)) (aPost Tryd.prog Tryd.f5 R)
def f5_J0 (R : AEnd → AH → Prop) (tm : List Value) (H : AH) : Prop := hold (awpF Tryd.prog (codeAt f5_c [1, 1, 1, 0, 1]) ((f5_X2 R)) tm H)
def f5_J1 (R : AEnd → AH → Prop) (tm : List Value) (H : AH) : Prop := hold (awpF Tryd.prog (codeAt f5_c [1, 1, 1, 1]) ((aPost Tryd.prog Tryd.f5 R)) tm H)
noncomputable def f5_X3 (R : AEnd → AH → Prop) : AExit → List Value → AH → Prop := thenF (fun tm H => hold (awpF Tryd.prog (codeAt f5_c [1, 1, 1, 1, 1, 1, 1]) (aPost Tryd.prog Tryd.f5 R) tm H)) (aPost Tryd.prog Tryd.f5 R)
def f5_J2 (R : AEnd → AH → Prop) (tm : List Value) (H : AH) : Prop := hold (awpF Tryd.prog (codeAt f5_c [1, 1, 1, 1, 1, 1, 0, 1]) ((f5_X3 R)) tm H)
def f5_J3 (R : AEnd → AH → Prop) (tm : List Value) (H : AH) : Prop := hold (awpF Tryd.prog (codeAt f5_c [1, 1, 1, 1, 1, 1, 1]) ((aPost Tryd.prog Tryd.f5 R)) tm H)
def f5_J4 (R : AEnd → AH → Prop) (tm : List Value) (H : AH) : Prop := hold (awpF Tryd.prog (codeAt f5_c [1, 1, 1, 1, 1, 1, 1, 1]) ((aPost Tryd.prog Tryd.f5 R)) tm H)
-- join 4: live 9:o
def f5_J4_B (s9b : Option Addr) (s9l : Nat) (s9c : Nat) (H : AH) (R : AEnd → AH → Prop) : Prop :=
 wB2S s9b s9l s9c H fun t1 =>
 wCall Tryd.prog 14 [(.string t1)] H (fun r2 H3 =>
 opT 2 r2 fun l6 =>
 opA 4 (l6.headD undef) fun l7 =>
 opI .u32 (l7.headD undef) fun n8 =>
 opI .u64 (l7.tail.headD undef) fun n9 =>
 opI .i64 (l7.tail.tail.headD undef) fun n10 =>
 opS (l7.tail.tail.tail.headD undef) fun t11 =>
 opI .i64 (l6.tail.headD undef) fun n12 =>
 wNew [(.int .u32 0), (.int .u64 0), (.int .i64 0), (.string ({ data := #[] }))] H3 fun i13 H14 =>
 wSt i13 0 [(.int .u32 n8), (.int .u64 n9), (.int .i64 n10), (.string t11)] H14 fun H15 =>
 wCall Tryd.prog 9 [] H15 (fun r16 H17 =>
 opB r16 fun b20 =>
 wIf b20
 (R (.ret (.bool (decide (n12 = 4)))) H17)
 (R (.ret (.bool false)) H17)) (fun v19 H18 => R (.panic v19) H18)) (fun v5 H4 => R (.panic v5) H4)
theorem f5_J4_eq (s0 : Value) (s1 : Value) (s2 : Value) (s3 : Value) (s4 : Value) (s5 : Value) (s6 : Value) (s7 : Value) (s8 : Value) (s9b : Option Addr) (s9l : Nat) (s9c : Nat) (s10 : Value) (s11 : Value) (s12 : Value) (s13 : Value) (s14 : Value) (s15 : Value) (s16 : Value) (s17 : Value) (s18 : Value) (s19 : Value) (s20 : Value) (s21 : Value) (s22 : Value) (s23 : Value) (s24 : Value) (s25 : Value) (s26 : Value) (s27 : Value) (s28 : Value) (s29 : Value) (s30 : Value) (s31 : Value) (s32 : Value) (s33 : Value) (s34 : Value) (s35 : Value) (s36 : Value) (s37 : Value) (s38 : Value) (s39 : Value) (s40 : Value) (s41 : Value) (s42 : Value) (s43 : Value) (s44 : Value) (s45 : Value) (s46 : Value) (s47 : Value) (s48 : Value) (s49 : Value) (s50 : Value) (s51 : Value) (s52 : Value) (s53 : Value) (s54 : Value) (s55 : Value) (s56 : Value) (s57 : Value) (s58 : Value) (s59 : Value) (s60 : Value) (s61 : Value) (s62 : Value) (s63 : Value) (s64 : Value) (s65 : Value) (s66 : Value) (s67 : Value) (s68 : Value) (s69 : Value) (s70 : Value) (s71 : Value) (s72 : Value) (s73 : Value) (s74 : Value) (s75 : Value) (s76 : Value) (s77 : Value) (s78 : Value) (s79 : Value) (s80 : Value) (s81 : Value) (s82 : Value) (s83 : Value) (s84 : Value) (s85 : Value) (H : AH) (R : AEnd → AH → Prop) : f5_J4 R [s0, s1, s2, s3, s4, s5, s6, s7, s8, (.slice s9b s9l s9c), s10, s11, s12, s13, s14, s15, s16, s17, s18, s19, s20, s21, s22, s23, s24, s25, s26, s27, s28, s29, s30, s31, s32, s33, s34, s35, s36, s37, s38, s39, s40, s41, s42, s43, s44, s45, s46, s47, s48, s49, s50, s51, s52, s53, s54, s55, s56, s57, s58, s59, s60, s61, s62, s63, s64, s65, s66, s67, s68, s69, s70, s71, s72, s73, s74, s75, s76, s77, s78, s79, s80, s81, s82, s83, s84, s85] H = f5_J4_B s9b s9l s9c H R := by kernel_rfl
-- join 3: live 2:., 9:o, 10:A
def f5_J3_B (s0 : Value) (s1 : Value) (s2 : Int) (s3 : Value) (s4 : Value) (s5 : Value) (s6 : Value) (s7 : Value) (s8 : Value) (s9b : Option Addr) (s9l : Nat) (s9c : Nat) (s10 : Int) (s11 : Value) (s12 : Value) (s13 : Value) (s14 : Value) (s15 : Value) (s16 : Value) (s17 : Value) (s18 : Value) (s19 : Value) (s20 : Value) (s21 : Value) (s22 : Value) (s23 : Value) (s24 : Value) (s25 : Value) (s26 : Value) (s27 : Value) (s28 : Value) (s29 : Value) (s30 : Value) (s31 : Value) (s32 : Value) (s33 : Value) (s34 : Value) (s35 : Value) (s36 : Value) (s37 : Value) (s38 : Value) (s39 : Value) (s40 : Value) (s41 : Value) (s42 : Value) (s43 : Value) (s44 : Value) (s45 : Value) (s46 : Value) (s47 : Value) (s48 : Value) (s49 : Value) (s50 : Value) (s51 : Value) (s52 : Value) (s53 : Value) (s54 : Value) (s55 : Value) (s56 : Value) (s57 : Value) (s59 : Value) (s60 : Value) (s61 : Value) (s62 : Value) (s63 : Value) (s64 : Value) (s65 : Value) (s66 : Value) (s67 : Value) (s68 : Value) (s69 : Value) (s70 : Value) (s71 : Value) (s72 : Value) (s73 : Value) (s74 : Value) (s75 : Value) (s76 : Value) (s77 : Value) (s78 : Value) (s79 : Value) (s80 : Value) (s81 : Value) (s82 : Value) (s83 : Value) (s84 : Value) (s85 : Value) (H : AH) (R : AEnd → AH → Prop) : Prop :=
 f5_L0 R [s0, s1, (.int .u32 s2), s3, s4, s5, s6, s7, s8, (.slice s9b s9l s9c), (.int .i64 s10), s11, s12, s13, s14, s15, s16, s17, s18, s19, s20, s21, s22, s23, s24, s25, s26, s27, s28, s29, s30, s31, s32, s33, s34, s35, s36, s37, s38, s39, s40, s41, s42, s43, s44, s45, s46, s47, s48, s49, s50, s51, s52, s53, s54, s55, s56, s57, (.int .i64 0), s59, s60, s61, s62, s63, s64, s65, s66, s67, s68, s69, s70, s71, s72, s73, s74, s75, s76, s77, s78, s79, s80, s81, s82, s83, s84, s85] H
theorem f5_J3_eq (s0 : Value) (s1 : Value) (s2 : Int) (s3 : Value) (s4 : Value) (s5 : Value) (s6 : Value) (s7 : Value) (s8 : Value) (s9b : Option Addr) (s9l : Nat) (s9c : Nat) (s10 : Int) (s11 : Value) (s12 : Value) (s13 : Value) (s14 : Value) (s15 : Value) (s16 : Value) (s17 : Value) (s18 : Value) (s19 : Value) (s20 : Value) (s21 : Value) (s22 : Value) (s23 : Value) (s24 : Value) (s25 : Value) (s26 : Value) (s27 : Value) (s28 : Value) (s29 : Value) (s30 : Value) (s31 : Value) (s32 : Value) (s33 : Value) (s34 : Value) (s35 : Value) (s36 : Value) (s37 : Value) (s38 : Value) (s39 : Value) (s40 : Value) (s41 : Value) (s42 : Value) (s43 : Value) (s44 : Value) (s45 : Value) (s46 : Value) (s47 : Value) (s48 : Value) (s49 : Value) (s50 : Value) (s51 : Value) (s52 : Value) (s53 : Value) (s54 : Value) (s55 : Value) (s56 : Value) (s57 : Value) (s58 : Value) (s59 : Value) (s60 : Value) (s61 : Value) (s62 : Value) (s63 : Value) (s64 : Value) (s65 : Value) (s66 : Value) (s67 : Value) (s68 : Value) (s69 : Value) (s70 : Value) (s71 : Value) (s72 : Value) (s73 : Value) (s74 : Value) (s75 : Value) (s76 : Value) (s77 : Value) (s78 : Value) (s79 : Value) (s80 : Value) (s81 : Value) (s82 : Value) (s83 : Value) (s84 : Value) (s85 : Value) (H : AH) (R : AEnd → AH → Prop) : f5_J3 R [s0, s1, (.int .u32 s2), s3, s4, s5, s6, s7, s8, (.slice s9b s9l s9c), (.int .i64 s10), s11, s12, s13, s14, s15, s16, s17, s18, s19, s20, s21, s22, s23, s24, s25, s26, s27, s28, s29, s30, s31, s32, s33, s34, s35, s36, s37, s38, s39, s40, s41, s42, s43, s44, s45, s46, s47, s48, s49, s50, s51, s52, s53, s54, s55, s56, s57, s58, s59, s60, s61, s62, s63, s64, s65, s66, s67, s68, s69, s70, s71, s72, s73, s74, s75, s76, s77, s78, s79, s80, s81, s82, s83, s84, s85] H = f5_J3_B s0 s1 s2 s3 s4 s5 s6 s7 s8 s9b s9l s9c s10 s11 s12 s13 s14 s15 s16 s17 s18 s19 s20 s21 s22 s23 s24 s25 s26 s27 s28 s29 s30 s31 s32 s33 s34 s35 s36 s37 s38 s39 s40 s41 s42 s43 s44 s45 s46 s47 s48 s49 s50 s51 s52 s53 s54 s55 s56 s57 s59 s60 s61 s62 s63 s64 s65 s66 s67 s68 s69 s70 s71 s72 s73 s74 s75 s76 s77 s78 s79 s80 s81 s82 s83 s84 s85 H R := by kernel_rfl
-- join 2: live 1:o, 2:., 9:o, 10:A, 48:?
def f5_J2_B (s0 : Value) (s1 : Int) (s2 : Int) (s3 : Value) (s4 : Value) (s5 : Value) (s6 : Value) (s7 : Value) (s8 : Value) (s9b : Option Addr) (s9l : Nat) (s9c : Nat) (s10 : Int) (s11 : Value) (s12 : Value) (s13 : Value) (s14 : Value) (s15 : Value) (s16 : Value) (s17 : Value) (s18 : Value) (s19 : Value) (s20 : Value) (s21 : Value) (s22 : Value) (s23 : Value) (s24 : Value) (s25 : Value) (s26 : Value) (s27 : Value) (s28 : Value) (s29 : Value) (s30 : Value) (s31 : Value) (s32 : Value) (s33 : Value) (s34 : Value) (s35 : Value) (s36 : Value) (s37 : Value) (s38 : Value) (s39 : Value) (s40 : Value) (s41 : Value) (s42 : Value) (s43 : Value) (s44 : Value) (s45 : Value) (s46 : Value) (s47 : Value) (s48 : Bool) (s49 : Value) (s50 : Value) (s51 : Value) (s52 : Value) (s53 : Value) (s54 : Value) (s55 : Value) (s56 : Value) (s57 : Value) (s58 : Value) (s59 : Value) (s60 : Value) (s61 : Value) (s62 : Value) (s63 : Value) (s64 : Value) (s65 : Value) (s66 : Value) (s67 : Value) (s68 : Value) (s69 : Value) (s70 : Value) (s71 : Value) (s72 : Value) (s73 : Value) (s74 : Value) (s75 : Value) (s76 : Value) (s77 : Value) (s78 : Value) (s79 : Value) (s80 : Value) (s81 : Value) (s82 : Value) (s83 : Value) (s84 : Value) (s85 : Value) (H : AH) (R : AEnd → AH → Prop) : Prop :=
 wIf s48
 (wNz (IntKind.u64.wrap (IntKind.i64.wrap ((s9l : Int) - 24)))
 (f5_J3 R [s0, (.int .i64 s1), (.int .u32 s2), s3, s4, s5, s6, s7, s8, (.slice s9b s9l s9c), (.int .i64 (IntKind.i64.wrap (21 + (IntKind.i64.wrap (Int.tmod (IntKind.u64.wrap s1) (IntKind.u64.wrap (IntKind.i64.wrap ((s9l : Int) - 24)))))))), s11, s12, s13, s14, s15, s16, s17, s18, s19, s20, s21, s22, s23, s24, s25, s26, s27, s28, s29, s30, s31, s32, s33, s34, s35, s36, s37, s38, s39, s40, s41, s42, s43, s44, s45, s46, s47, (.bool true), (.int .i64 s1), (.int .u64 (IntKind.u64.wrap s1)), (.slice s9b s9l s9c), (.int .i64 (s9l : Int)), (.int .i64 (IntKind.i64.wrap ((s9l : Int) - 24))), (.int .u64 (IntKind.u64.wrap (IntKind.i64.wrap ((s9l : Int) - 24)))), (.int .u64 (Int.tmod (IntKind.u64.wrap s1) (IntKind.u64.wrap (IntKind.i64.wrap ((s9l : Int) - 24))))), (.int .i64 (IntKind.i64.wrap (Int.tmod (IntKind.u64.wrap s1) (IntKind.u64.wrap (IntKind.i64.wrap ((s9l : Int) - 24)))))), (.int .i64 (IntKind.i64.wrap (21 + (IntKind.i64.wrap (Int.tmod (IntKind.u64.wrap s1) (IntKind.u64.wrap (IntKind.i64.wrap ((s9l : Int) - 24)))))))), s58, s59, s60, s61, s62, s63, s64, s65, s66, s67, s68, s69, s70, s71, s72, s73, s74, s75, s76, s77, s78, s79, s80, s81, s82, s83, s84, s85] H))
 (f5_J3 R [s0, (.int .i64 s1), (.int .u32 s2), s3, s4, s5, s6, s7, s8, (.slice s9b s9l s9c), (.int .i64 s10), s11, s12, s13, s14, s15, s16, s17, s18, s19, s20, s21, s22, s23, s24, s25, s26, s27, s28, s29, s30, s31, s32, s33, s34, s35, s36, s37, s38, s39, s40, s41, s42, s43, s44, s45, s46, s47, (.bool false), s49, s50, s51, s52, s53, s54, s55, s56, s57, s58, s59, s60, s61, s62, s63, s64, s65, s66, s67, s68, s69, s70, s71, s72, s73, s74, s75, s76, s77, s78, s79, s80, s81, s82, s83, s84, s85] H)
theorem f5_J2_eq (s0 : Value) (s1 : Int) (s2 : Int) (s3 : Value) (s4 : Value) (s5 : Value) (s6 : Value) (s7 : Value) (s8 : Value) (s9b : Option Addr) (s9l : Nat) (s9c : Nat) (s10 : Int) (s11 : Value) (s12 : Value) (s13 : Value) (s14 : Value) (s15 : Value) (s16 : Value) (s17 : Value) (s18 : Value) (s19 : Value) (s20 : Value) (s21 : Value) (s22 : Value) (s23 : Value) (s24 : Value) (s25 : Value) (s26 : Value) (s27 : Value) (s28 : Value) (s29 : Value) (s30 : Value) (s31 : Value) (s32 : Value) (s33 : Value) (s34 : Value) (s35 : Value) (s36 : Value) (s37 : Value) (s38 : Value) (s39 : Value) (s40 : Value) (s41 : Value) (s42 : Value) (s43 : Value) (s44 : Value) (s45 : Value) (s46 : Value) (s47 : Value) (s48 : Bool) (s49 : Value) (s50 : Value) (s51 : Value) (s52 : Value) (s53 : Value) (s54 : Value) (s55 : Value) (s56 : Value) (s57 : Value) (s58 : Value) (s59 : Value) (s60 : Value) (s61 : Value) (s62 : Value) (s63 : Value) (s64 : Value) (s65 : Value) (s66 : Value) (s67 : Value) (s68 : Value) (s69 : Value) (s70 : Value) (s71 : Value) (s72 : Value) (s73 : Value) (s74 : Value) (s75 : Value) (s76 : Value) (s77 : Value) (s78 : Value) (s79 : Value) (s80 : Value) (s81 : Value) (s82 : Value) (s83 : Value) (s84 : Value) (s85 : Value) (H : AH) (R : AEnd → AH → Prop) : f5_J2 R [s0, (.int .i64 s1), (.int .u32 s2), s3, s4, s5, s6, s7, s8, (.slice s9b s9l s9c), (.int .i64 s10), s11, s12, s13, s14, s15, s16, s17, s18, s19, s20, s21, s22, s23, s24, s25, s26, s27, s28, s29, s30, s31, s32, s33, s34, s35, s36, s37, s38, s39, s40, s41, s42, s43, s44, s45, s46, s47, (.bool s48), s49, s50, s51, s52, s53, s54, s55, s56, s57, s58, s59, s60, s61, s62, s63, s64, s65, s66, s67, s68, s69, s70, s71, s72, s73, s74, s75, s76, s77, s78, s79, s80, s81, s82, s83, s84, s85] H = f5_J2_B s0 s1 s2 s3 s4 s5 s6 s7 s8 s9b s9l s9c s10 s11 s12 s13 s14 s15 s16 s17 s18 s19 s20 s21 s22 s23 s24 s25 s26 s27 s28 s29 s30 s31 s32 s33 s34 s35 s36 s37 s38 s39 s40 s41 s42 s43 s44 s45 s46 s47 s48 s49 s50 s51 s52 s53 s54 s55 s56 s57 s58 s59 s60 s61 s62 s63 s64 s65 s66 s67 s68 s69 s70 s71 s72 s73 s74 s75 s76 s77 s78 s79 s80 s81 s82 s83 s84 s85 H R := by kernel_rfl
-- join 1: live 1:o, 2:., 7:.
def f5_J1_B (s0 : Value) (s1 : Int) (s2 : Int) (s3 : Value) (s4 : Value) (s5 : Value) (s6 : Value) (s7 : ByteArray) (s8 : Value) (s11 : Value) (s12 : Value) (s13 : Value) (s14 : Value) (s15 : Value) (s16 : Value) (s17 : Value) (s18 : Value) (s19 : Value) (s20 : Value) (s21 : Value) (s22 : Value) (s23 : Value) (s24 : Value) (s25 : Value) (s26 : Value) (s27 : Value) (s28 : Value) (s29 : Value) (s30 : Value) (s31 : Value) (s32 : Value) (s33 : Value) (s49 : Value) (s50 : Value) (s51 : Value) (s52 : Value) (s53 : Value) (s54 : Value) (s55 : Value) (s56 : Value) (s57 : Value) (s58 : Value) (s59 : Value) (s60 : Value) (s61 : Value) (s62 : Value) (s63 : Value) (s64 : Value) (s65 : Value) (s66 : Value) (s67 : Value) (s68 : Value) (s69 : Value) (s70 : Value) (s71 : Value) (s72 : Value) (s73 : Value) (s74 : Value) (s75 : Value) (s76 : Value) (s77 : Value) (s78 : Value) (s79 : Value) (s80 : Value) (s81 : Value) (s82 : Value) (s83 : Value) (s84 : Value) (s85 : Value) (H : AH) (R : AEnd → AH → Prop) : Prop :=
 wS2B s7 H fun i21 H22 =>
 wIf (decide ((Int.tmod s1 2) = 0))
 (f5_J2 R [s0, (.int .i64 s1), (.int .u32 s2), s3, s4, s5, s6, (.string s7), s8, (.slice (some ⟨i21, 0, none⟩) s7.size 0), (.int .i64 (IntKind.i64.wrap (4 + (IntKind.i64.wrap (Int.tmod (IntKind.u64.wrap s1) 10))))), s11, s12, s13, s14, s15, s16, s17, s18, s19, s20, s21, s22, s23, s24, s25, s26, s27, s28, s29, s30, s31, s32, s33, (.string s7), (.slice (some ⟨i21, 0, none⟩) s7.size 0), (.int .i64 s1), (.int .u64 (IntKind.u64.wrap s1)), (.int .u64 (Int.tmod (IntKind.u64.wrap s1) 10)), (.int .i64 (IntKind.i64.wrap (Int.tmod (IntKind.u64.wrap s1) 10))), (.int .i64 (IntKind.i64.wrap (4 + (IntKind.i64.wrap (Int.tmod (IntKind.u64.wrap s1) 10))))), (.int .i64 s1), (.int .i64 (Int.tmod s1 2)), (.bool (decide ((Int.tmod s1 2) = 0))), (.bool true), (.slice (some ⟨i21, 0, none⟩) s7.size 0), (.int .i64 (s7.size : Int)), (.bool (decide ((s7.size : Int) > 25))), (.bool (decide ((s7.size : Int) > 25))), s49, s50, s51, s52, s53, s54, s55, s56, s57, s58, s59, s60, s61, s62, s63, s64, s65, s66, s67, s68, s69, s70, s71, s72, s73, s74, s75, s76, s77, s78, s79, s80, s81, s82, s83, s84, s85] H22)
 (f5_J2 R [s0, (.int .i64 s1), (.int .u32 s2), s3, s4, s5, s6, (.string s7), s8, (.slice (some ⟨i21, 0, none⟩) s7.size 0), (.int .i64 (IntKind.i64.wrap (4 + (IntKind.i64.wrap (Int.tmod (IntKind.u64.wrap s1) 10))))), s11, s12, s13, s14, s15, s16, s17, s18, s19, s20, s21, s22, s23, s24, s25, s26, s27, s28, s29, s30, s31, s32, s33, (.string s7), (.slice (some ⟨i21, 0, none⟩) s7.size 0), (.int .i64 s1), (.int .u64 (IntKind.u64.wrap s1)), (.int .u64 (Int.tmod (IntKind.u64.wrap s1) 10)), (.int .i64 (IntKind.i64.wrap (Int.tmod (IntKind.u64.wrap s1) 10))), (.int .i64 (IntKind.i64.wrap (4 + (IntKind.i64.wrap (Int.tmod (IntKind.u64.wrap s1) 10))))), (.int .i64 s1), (.int .i64 (Int.tmod s1 2)), (.bool (decide ((Int.tmod s1 2) = 0))), (.bool false), undef, undef, undef, (.bool false), s49, s50, s51, s52, s53, s54, s55, s56, s57, s58, s59, s60, s61, s62, s63, s64, s65, s66, s67, s68, s69, s70, s71, s72, s73, s74, s75, s76, s77, s78, s79, s80, s81, s82, s83, s84, s85] H22)
theorem f5_J1_eq (s0 : Value) (s1 : Int) (s2 : Int) (s3 : Value) (s4 : Value) (s5 : Value) (s6 : Value) (s7 : ByteArray) (s8 : Value) (s9 : Value) (s10 : Value) (s11 : Value) (s12 : Value) (s13 : Value) (s14 : Value) (s15 : Value) (s16 : Value) (s17 : Value) (s18 : Value) (s19 : Value) (s20 : Value) (s21 : Value) (s22 : Value) (s23 : Value) (s24 : Value) (s25 : Value) (s26 : Value) (s27 : Value) (s28 : Value) (s29 : Value) (s30 : Value) (s31 : Value) (s32 : Value) (s33 : Value) (s34 : Value) (s35 : Value) (s36 : Value) (s37 : Value) (s38 : Value) (s39 : Value) (s40 : Value) (s41 : Value) (s42 : Value) (s43 : Value) (s44 : Value) (s45 : Value) (s46 : Value) (s47 : Value) (s48 : Value) (s49 : Value) (s50 : Value) (s51 : Value) (s52 : Value) (s53 : Value) (s54 : Value) (s55 : Value) (s56 : Value) (s57 : Value) (s58 : Value) (s59 : Value) (s60 : Value) (s61 : Value) (s62 : Value) (s63 : Value) (s64 : Value) (s65 : Value) (s66 : Value) (s67 : Value) (s68 : Value) (s69 : Value) (s70 : Value) (s71 : Value) (s72 : Value) (s73 : Value) (s74 : Value) (s75 : Value) (s76 : Value) (s77 : Value) (s78 : Value) (s79 : Value) (s80 : Value) (s81 : Value) (s82 : Value) (s83 : Value) (s84 : Value) (s85 : Value) (H : AH) (R : AEnd → AH → Prop) : f5_J1 R [s0, (.int .i64 s1), (.int .u32 s2), s3, s4, s5, s6, (.string s7), s8, s9, s10, s11, s12, s13, s14, s15, s16, s17, s18, s19, s20, s21, s22, s23, s24, s25, s26, s27, s28, s29, s30, s31, s32, s33, s34, s35, s36, s37, s38, s39, s40, s41, s42, s43, s44, s45, s46, s47, s48, s49, s50, s51, s52, s53, s54, s55, s56, s57, s58, s59, s60, s61, s62, s63, s64, s65, s66, s67, s68, s69, s70, s71, s72, s73, s74, s75, s76, s77, s78, s79, s80, s81, s82, s83, s84, s85] H = f5_J1_B s0 s1 s2 s3 s4 s5 s6 s7 s8 s11 s12 s13 s14 s15 s16 s17 s18 s19 s20 s21 s22 s23 s24 s25 s26 s27 s28 s29 s30 s31 s32 s33 s49 s50 s51 s52 s53 s54 s55 s56 s57 s58 s59 s60 s61 s62 s63 s64 s65 s66 s67 s68 s69 s70 s71 s72 s73 s74 s75 s76 s77 s78 s79 s80 s81 s82 s83 s84 s85 H R := by kernel_rfl
-- join 0: live 1:o, 2:., 7:., 32:?
def f5_J0_B (s0 : Value) (s1 : Int) (s2 : Int) (s3 : Value) (s4 : Value) (s5 : Value) (s6 : Value) (s7 : ByteArray) (s8 : Value) (s9 : Value) (s10 : Value) (s11 : Value) (s12 : Value) (s13 : Value) (s14 : Value) (s15 : Value) (s16 : Value) (s17 : Value) (s18 : Value) (s19 : Value) (s20 : Value) (s21 : Value) (s22 : Value) (s23 : Value) (s24 : Value) (s25 : Value) (s26 : Value) (s27 : Value) (s28 : Value) (s29 : Value) (s30 : Value) (s31 : Value) (s32 : Bool) (s33 : Value) (s34 : Value) (s35 : Value) (s36 : Value) (s37 : Value) (s38 : Value) (s39 : Value) (s40 : Value) (s41 : Value) (s42 : Value) (s43 : Value) (s44 : Value) (s45 : Value) (s46 : Value) (s47 : Value) (s48 : Value) (s49 : Value) (s50 : Value) (s51 : Value) (s52 : Value) (s53 : Value) (s54 : Value) (s55 : Value) (s56 : Value) (s57 : Value) (s58 : Value) (s59 : Value) (s60 : Value) (s61 : Value) (s62 : Value) (s63 : Value) (s64 : Value) (s65 : Value) (s66 : Value) (s67 : Value) (s68 : Value) (s69 : Value) (s70 : Value) (s71 : Value) (s72 : Value) (s73 : Value) (s74 : Value) (s75 : Value) (s76 : Value) (s77 : Value) (s78 : Value) (s79 : Value) (s80 : Value) (s81 : Value) (s82 : Value) (s83 : Value) (s84 : Value) (s85 : Value) (H : AH) (R : AEnd → AH → Prop) : Prop :=
 wIf s32
 (wCall Tryd.prog 9 [] H (fun r23 H24 =>
 opB r23 fun b27 =>
 R (.ret (.bool b27)) H24) (fun v26 H25 => R (.panic v26) H25))
 (f5_J1 R [s0, (.int .i64 s1), (.int .u32 s2), s3, s4, s5, s6, (.string s7), s8, s9, s10, s11, s12, s13, s14, s15, s16, s17, s18, s19, s20, s21, s22, s23, s24, s25, s26, s27, s28, s29, s30, s31, (.bool false), s33, s34, s35, s36, s37, s38, s39, s40, s41, s42, s43, s44, s45, s46, s47, s48, s49, s50, s51, s52, s53, s54, s55, s56, s57, s58, s59, s60, s61, s62, s63, s64, s65, s66, s67, s68, s69, s70, s71, s72, s73, s74, s75, s76, s77, s78, s79, s80, s81, s82, s83, s84, s85] H)
theorem f5_J0_eq (s0 : Value) (s1 : Int) (s2 : Int) (s3 : Value) (s4 : Value) (s5 : Value) (s6 : Value) (s7 : ByteArray) (s8 : Value) (s9 : Value) (s10 : Value) (s11 : Value) (s12 : Value) (s13 : Value) (s14 : Value) (s15 : Value) (s16 : Value) (s17 : Value) (s18 : Value) (s19 : Value) (s20 : Value) (s21 : Value) (s22 : Value) (s23 : Value) (s24 : Value) (s25 : Value) (s26 : Value) (s27 : Value) (s28 : Value) (s29 : Value) (s30 : Value) (s31 : Value) (s32 : Bool) (s33 : Value) (s34 : Value) (s35 : Value) (s36 : Value) (s37 : Value) (s38 : Value) (s39 : Value) (s40 : Value) (s41 : Value) (s42 : Value) (s43 : Value) (s44 : Value) (s45 : Value) (s46 : Value) (s47 : Value) (s48 : Value) (s49 : Value) (s50 : Value) (s51 : Value) (s52 : Value) (s53 : Value) (s54 : Value) (s55 : Value) (s56 : Value) (s57 : Value) (s58 : Value) (s59 : Value) (s60 : Value) (s61 : Value) (s62 : Value) (s63 : Value) (s64 : Value) (s65 : Value) (s66 : Value) (s67 : Value) (s68 : Value) (s69 : Value) (s70 : Value) (s71 : Value) (s72 : Value) (s73 : Value) (s74 : Value) (s75 : Value) (s76 : Value) (s77 : Value) (s78 : Value) (s79 : Value) (s80 : Value) (s81 : Value) (s82 : Value) (s83 : Value) (s84 : Value) (s85 : Value) (H : AH) (R : AEnd → AH → Prop) : f5_J0 R [s0, (.int .i64 s1), (.int .u32 s2), s3, s4, s5, s6, (.string s7), s8, s9, s10, s11, s12, s13, s14, s15, s16, s17, s18, s19, s20, s21, s22, s23, s24, s25, s26, s27, s28, s29, s30, s31, (.bool s32), s33, s34, s35, s36, s37, s38, s39, s40, s41, s42, s43, s44, s45, s46, s47, s48, s49, s50, s51, s52, s53, s54, s55, s56, s57, s58, s59, s60, s61, s62, s63, s64, s65, s66, s67, s68, s69, s70, s71, s72, s73, s74, s75, s76, s77, s78, s79, s80, s81, s82, s83, s84, s85] H = f5_J0_B s0 s1 s2 s3 s4 s5 s6 s7 s8 s9 s10 s11 s12 s13 s14 s15 s16 s17 s18 s19 s20 s21 s22 s23 s24 s25 s26 s27 s28 s29 s30 s31 s32 s33 s34 s35 s36 s37 s38 s39 s40 s41 s42 s43 s44 s45 s46 s47 s48 s49 s50 s51 s52 s53 s54 s55 s56 s57 s58 s59 s60 s61 s62 s63 s64 s65 s66 s67 s68 s69 s70 s71 s72 s73 s74 s75 s76 s77 s78 s79 s80 s81 s82 s83 s84 s85 H R := by kernel_rfl
def f5_R0 (s0 : Value) (s1 : Value) (s2 : Int) (s3 : Value) (s4 : Value) (s5 : Value) (s6 : Value) (s7 : Value) (s8 : Value) (s9b : Option Addr) (s9l : Nat) (s9c : Nat) (s10 : Int) (s11 : Value) (s12 : Value) (s13 : Value) (s14 : Value) (s15 : Value) (s16 : Value) (s17 : Value) (s18 : Value) (s19 : Value) (s20 : Value) (s21 : Value) (s22 : Value) (s23 : Value) (s24 : Value) (s25 : Value) (s26 : Value) (s27 : Value) (s28 : Value) (s29 : Value) (s30 : Value) (s31 : Value) (s32 : Value) (s33 : Value) (s34 : Value) (s35 : Value) (s36 : Value) (s37 : Value) (s38 : Value) (s39 : Value) (s40 : Value) (s41 : Value) (s42 : Value) (s43 : Value) (s44 : Value) (s45 : Value) (s46 : Value) (s47 : Value) (s48 : Value) (s49 : Value) (s50 : Value) (s51 : Value) (s52 : Value) (s53 : Value) (s54 : Value) (s55 : Value) (s56 : Value) (s57 : Value) (s58 : Int) (s59 : Value) (s60 : Value) (s61 : Value) (s62 : Value) (s63 : Value) (s64 : Value) (s65 : Value) (s66 : Value) (s67 : Value) (s68 : Value) (s69 : Value) (s70 : Value) (s71 : Value) (s72 : Value) (s73 : Value) (s74 : Value) (s75 : Value) (s76 : Value) (s77 : Value) (s78 : Value) (s79 : Value) (s80 : Value) (s81 : Value) (s82 : Value) (s83 : Value) (s84 : Value) (s85 : Value) (H : AH) (K0 : List Value → AH → Prop) (R : AEnd → AH → Prop) : Prop :=
 wIf (decide (s58 < 4))
 (wIx s9b s9l 1 (IntKind.i64.wrap (s10 + s58)) fun i28 k29 =>
 wNn (IntKind.i64.wrap (8 * s58))
 (ldI .u8 i28 k29 H fun n30 =>
 wIx s9b s9l 1 (IntKind.i64.wrap (s10 + s58)) fun i31 k32 =>
 wSt i31 k32 [(.int .u8 (IntKind.u8.wrap ((BitVec.ofInt IntKind.u8.bits n30) ^^^ (BitVec.ofInt IntKind.u8.bits (IntKind.u8.wrap (Int.fdiv s2 (2 ^ (min (Int.toNat (IntKind.i64.wrap (8 * s58))) IntKind.u32.bits)))))).toNat))] H fun H33 =>
 K0 [s0, s1, (.int .u32 s2), s3, s4, s5, s6, s7, s8, (.slice s9b s9l s9c), (.int .i64 s10), (.int .i64 s58), s12, s13, s14, s15, s16, s17, s18, s19, s20, s21, s22, s23, s24, s25, s26, s27, s28, s29, s30, s31, s32, s33, s34, s35, s36, s37, s38, s39, s40, s41, s42, s43, s44, s45, s46, s47, s48, s49, s50, s51, s52, s53, s54, s55, s56, s57, (.int .i64 (IntKind.i64.wrap (s58 + 1))), (.bool true), (.int .i64 s58), (.slice s9b s9l s9c), (.int .i64 s10), (.int .i64 s58), (.int .i64 (IntKind.i64.wrap (s10 + s58))), (.pointer (some ⟨i28, k29, none⟩)), (.int .u8 n30), (.int .u32 s2), (.int .i64 s58), (.int .i64 (IntKind.i64.wrap (8 * s58))), (.int .u32 (Int.fdiv s2 (2 ^ (min (Int.toNat (IntKind.i64.wrap (8 * s58))) IntKind.u32.bits)))), (.int .u8 (IntKind.u8.wrap (Int.fdiv s2 (2 ^ (min (Int.toNat (IntKind.i64.wrap (8 * s58))) IntKind.u32.bits))))), (.int .u8 (IntKind.u8.wrap ((BitVec.ofInt IntKind.u8.bits n30) ^^^ (BitVec.ofInt IntKind.u8.bits (IntKind.u8.wrap (Int.fdiv s2 (2 ^ (min (Int.toNat (IntKind.i64.wrap (8 * s58))) IntKind.u32.bits)))))).toNat)), (.pointer (some ⟨i31, k32, none⟩)), (.int .i64 (IntKind.i64.wrap (s58 + 1))), s75, s76, s77, s78, s79, s80, s81, s82, s83, s84, s85] H33))
 (f5_J4 R [s0, s1, (.int .u32 s2), s3, s4, s5, s6, s7, s8, (.slice s9b s9l s9c), (.int .i64 s10), s11, s12, s13, s14, s15, s16, s17, s18, s19, s20, s21, s22, s23, s24, s25, s26, s27, s28, s29, s30, s31, s32, s33, s34, s35, s36, s37, s38, s39, s40, s41, s42, s43, s44, s45, s46, s47, s48, s49, s50, s51, s52, s53, s54, s55, s56, s57, (.int .i64 s58), (.bool false), s60, s61, s62, s63, s64, s65, s66, s67, s68, s69, s70, s71, s72, s73, s74, s75, s76, s77, s78, s79, s80, s81, s82, s83, s84, s85] H)
theorem f5_R0_eq (s0 : Value) (s1 : Value) (s2 : Int) (s3 : Value) (s4 : Value) (s5 : Value) (s6 : Value) (s7 : Value) (s8 : Value) (s9b : Option Addr) (s9l : Nat) (s9c : Nat) (s10 : Int) (s11 : Value) (s12 : Value) (s13 : Value) (s14 : Value) (s15 : Value) (s16 : Value) (s17 : Value) (s18 : Value) (s19 : Value) (s20 : Value) (s21 : Value) (s22 : Value) (s23 : Value) (s24 : Value) (s25 : Value) (s26 : Value) (s27 : Value) (s28 : Value) (s29 : Value) (s30 : Value) (s31 : Value) (s32 : Value) (s33 : Value) (s34 : Value) (s35 : Value) (s36 : Value) (s37 : Value) (s38 : Value) (s39 : Value) (s40 : Value) (s41 : Value) (s42 : Value) (s43 : Value) (s44 : Value) (s45 : Value) (s46 : Value) (s47 : Value) (s48 : Value) (s49 : Value) (s50 : Value) (s51 : Value) (s52 : Value) (s53 : Value) (s54 : Value) (s55 : Value) (s56 : Value) (s57 : Value) (s58 : Int) (s59 : Value) (s60 : Value) (s61 : Value) (s62 : Value) (s63 : Value) (s64 : Value) (s65 : Value) (s66 : Value) (s67 : Value) (s68 : Value) (s69 : Value) (s70 : Value) (s71 : Value) (s72 : Value) (s73 : Value) (s74 : Value) (s75 : Value) (s76 : Value) (s77 : Value) (s78 : Value) (s79 : Value) (s80 : Value) (s81 : Value) (s82 : Value) (s83 : Value) (s84 : Value) (s85 : Value) (H : AH) (K0 : List Value → AH → Prop) (R : AEnd → AH → Prop) : awpF Tryd.prog (codeAt f5_c [1, 1, 1, 1, 1, 1, 1, 0, 1, 0, 0]) (thenF K0 (f5_Q0 R)) [s0, s1, (.int .u32 s2), s3, s4, s5, s6, s7, s8, (.slice s9b s9l s9c), (.int .i64 s10), s11, s12, s13, s14, s15, s16, s17, s18, s19, s20, s21, s22, s23, s24, s25, s26, s27, s28, s29, s30, s31, s32, s33, s34, s35, s36, s37, s38, s39, s40, s41, s42, s43, s44, s45, s46, s47, s48, s49, s50, s51, s52, s53, s54, s55, s56, s57, (.int .i64 s58), s59, s60, s61, s62, s63, s64, s65, s66, s67, s68, s69, s70, s71, s72, s73, s74, s75, s76, s77, s78, s79, s80, s81, s82, s83, s84, s85] H = f5_R0 s0 s1 s2 s3 s4 s5 s6 s7 s8 s9b s9l s9c s10 s11 s12 s13 s14 s15 s16 s17 s18 s19 s20 s21 s22 s23 s24 s25 s26 s27 s28 s29 s30 s31 s32 s33 s34 s35 s36 s37 s38 s39 s40 s41 s42 s43 s44 s45 s46 s47 s48 s49 s50 s51 s52 s53 s54 s55 s56 s57 s58 s59 s60 s61 s62 s63 s64 s65 s66 s67 s68 s69 s70 s71 s72 s73 s74 s75 s76 s77 s78 s79 s80 s81 s82 s83 s84 s85 H K0 R := by kernel_rfl
def f5_I0 (s0 : Value) (s1 : Value) (s2 : Int) (s3 : Value) (s4 : Value) (s5 : Value) (s6 : Value) (s7 : Value) (s8 : Value) (s9b : Option Addr) (s9l : Nat) (s9c : Nat) (s10 : Int) (s12 : Value) (s13 : Value) (s14 : Value) (s15 : Value) (s16 : Value) (s17 : Value) (s18 : Value) (s19 : Value) (s20 : Value) (s21 : Value) (s22 : Value) (s23 : Value) (s24 : Value) (s25 : Value) (s26 : Value) (s27 : Value) (s28 : Value) (s29 : Value) (s30 : Value) (s31 : Value) (s32 : Value) (s33 : Value) (s34 : Value) (s35 : Value) (s36 : Value) (s37 : Value) (s38 : Value) (s39 : Value) (s40 : Value) (s41 : Value) (s42 : Value) (s43 : Value) (s44 : Value) (s45 : Value) (s46 : Value) (s47 : Value) (s48 : Value) (s49 : Value) (s50 : Value) (s51 : Value) (s52 : Value) (s53 : Value) (s54 : Value) (s55 : Value) (s56 : Value) (s57 : Value) (s75 : Value) (s76 : Value) (s77 : Value) (s78 : Value) (s79 : Value) (s80 : Value) (s81 : Value) (s82 : Value) (s83 : Value) (s84 : Value) (s85 : Value) (J : Nat → Int → AH → Prop) (n : Nat) (tm : List Value) (H : AH) : Prop := ∃ (s11 : Value) (s58 : Int) (s59 : Value) (s60 : Value) (s61 : Value) (s62 : Value) (s63 : Value) (s64 : Value) (s65 : Value) (s66 : Value) (s67 : Value) (s68 : Value) (s69 : Value) (s70 : Value) (s71 : Value) (s72 : Value) (s73 : Value) (s74 : Value), tm = [s0, s1, (.int .u32 s2), s3, s4, s5, s6, s7, s8, (.slice s9b s9l s9c), (.int .i64 s10), s11, s12, s13, s14, s15, s16, s17, s18, s19, s20, s21, s22, s23, s24, s25, s26, s27, s28, s29, s30, s31, s32, s33, s34, s35, s36, s37, s38, s39, s40, s41, s42, s43, s44, s45, s46, s47, s48, s49, s50, s51, s52, s53, s54, s55, s56, s57, (.int .i64 s58), s59, s60, s61, s62, s63, s64, s65, s66, s67, s68, s69, s70, s71, s72, s73, s74, s75, s76, s77, s78, s79, s80, s81, s82, s83, s84, s85] ∧ J n s58 H
theorem f5_I0_mk {s0 : Value} {s1 : Value} {s2 : Int} {s3 : Value} {s4 : Value} {s5 : Value} {s6 : Value} {s7 : Value} {s8 : Value} {s9b : Option Addr} {s9l : Nat} {s9c : Nat} {s10 : Int} {s11 : Value} {s12 : Value} {s13 : Value} {s14 : Value} {s15 : Value} {s16 : Value} {s17 : Value} {s18 : Value} {s19 : Value} {s20 : Value} {s21 : Value} {s22 : Value} {s23 : Value} {s24 : Value} {s25 : Value} {s26 : Value} {s27 : Value} {s28 : Value} {s29 : Value} {s30 : Value} {s31 : Value} {s32 : Value} {s33 : Value} {s34 : Value} {s35 : Value} {s36 : Value} {s37 : Value} {s38 : Value} {s39 : Value} {s40 : Value} {s41 : Value} {s42 : Value} {s43 : Value} {s44 : Value} {s45 : Value} {s46 : Value} {s47 : Value} {s48 : Value} {s49 : Value} {s50 : Value} {s51 : Value} {s52 : Value} {s53 : Value} {s54 : Value} {s55 : Value} {s56 : Value} {s57 : Value} {s58 : Int} {s59 : Value} {s60 : Value} {s61 : Value} {s62 : Value} {s63 : Value} {s64 : Value} {s65 : Value} {s66 : Value} {s67 : Value} {s68 : Value} {s69 : Value} {s70 : Value} {s71 : Value} {s72 : Value} {s73 : Value} {s74 : Value} {s75 : Value} {s76 : Value} {s77 : Value} {s78 : Value} {s79 : Value} {s80 : Value} {s81 : Value} {s82 : Value} {s83 : Value} {s84 : Value} {s85 : Value} {J : Nat → Int → AH → Prop} {n : Nat} {H : AH} (h : J n s58 H) : f5_I0 s0 s1 s2 s3 s4 s5 s6 s7 s8 s9b s9l s9c s10 s12 s13 s14 s15 s16 s17 s18 s19 s20 s21 s22 s23 s24 s25 s26 s27 s28 s29 s30 s31 s32 s33 s34 s35 s36 s37 s38 s39 s40 s41 s42 s43 s44 s45 s46 s47 s48 s49 s50 s51 s52 s53 s54 s55 s56 s57 s75 s76 s77 s78 s79 s80 s81 s82 s83 s84 s85 J n [s0, s1, (.int .u32 s2), s3, s4, s5, s6, s7, s8, (.slice s9b s9l s9c), (.int .i64 s10), s11, s12, s13, s14, s15, s16, s17, s18, s19, s20, s21, s22, s23, s24, s25, s26, s27, s28, s29, s30, s31, s32, s33, s34, s35, s36, s37, s38, s39, s40, s41, s42, s43, s44, s45, s46, s47, s48, s49, s50, s51, s52, s53, s54, s55, s56, s57, (.int .i64 s58), s59, s60, s61, s62, s63, s64, s65, s66, s67, s68, s69, s70, s71, s72, s73, s74, s75, s76, s77, s78, s79, s80, s81, s82, s83, s84, s85] H := ⟨_, _, _, _, _, _, _, _, _, _, _, _, _, _, _, _, _, _, rfl, h⟩
-- loop 0: carried 58:?
theorem f5_L0_rule {s0 : Value} {s1 : Value} {s2 : Int} {s3 : Value} {s4 : Value} {s5 : Value} {s6 : Value} {s7 : Value} {s8 : Value} {s9b : Option Addr} {s9l : Nat} {s9c : Nat} {s10 : Int} {s11 : Value} {s12 : Value} {s13 : Value} {s14 : Value} {s15 : Value} {s16 : Value} {s17 : Value} {s18 : Value} {s19 : Value} {s20 : Value} {s21 : Value} {s22 : Value} {s23 : Value} {s24 : Value} {s25 : Value} {s26 : Value} {s27 : Value} {s28 : Value} {s29 : Value} {s30 : Value} {s31 : Value} {s32 : Value} {s33 : Value} {s34 : Value} {s35 : Value} {s36 : Value} {s37 : Value} {s38 : Value} {s39 : Value} {s40 : Value} {s41 : Value} {s42 : Value} {s43 : Value} {s44 : Value} {s45 : Value} {s46 : Value} {s47 : Value} {s48 : Value} {s49 : Value} {s50 : Value} {s51 : Value} {s52 : Value} {s53 : Value} {s54 : Value} {s55 : Value} {s56 : Value} {s57 : Value} {s58 : Int} {s59 : Value} {s60 : Value} {s61 : Value} {s62 : Value} {s63 : Value} {s64 : Value} {s65 : Value} {s66 : Value} {s67 : Value} {s68 : Value} {s69 : Value} {s70 : Value} {s71 : Value} {s72 : Value} {s73 : Value} {s74 : Value} {s75 : Value} {s76 : Value} {s77 : Value} {s78 : Value} {s79 : Value} {s80 : Value} {s81 : Value} {s82 : Value} {s83 : Value} {s84 : Value} {s85 : Value} {H : AH} {R : AEnd → AH → Prop} (J : Nat → Int → AH → Prop) (n : Nat) (h0 : J n s58 H)
  (step : ∀ (n : Nat) (s58 : Int) (H : AH), J n s58 H → ∀ (s11 : Value) (s59 : Value) (s60 : Value) (s61 : Value) (s62 : Value) (s63 : Value) (s64 : Value) (s65 : Value) (s66 : Value) (s67 : Value) (s68 : Value) (s69 : Value) (s70 : Value) (s71 : Value) (s72 : Value) (s73 : Value) (s74 : Value), f5_R0 s0 s1 s2 s3 s4 s5 s6 s7 s8 s9b s9l s9c s10 s11 s12 s13 s14 s15 s16 s17 s18 s19 s20 s21 s22 s23 s24 s25 s26 s27 s28 s29 s30 s31 s32 s33 s34 s35 s36 s37 s38 s39 s40 s41 s42 s43 s44 s45 s46 s47 s48 s49 s50 s51 s52 s53 s54 s55 s56 s57 s58 s59 s60 s61 s62 s63 s64 s65 s66 s67 s68 s69 s70 s71 s72 s73 s74 s75 s76 s77 s78 s79 s80 s81 s82 s83 s84 s85 H (fun tm H => ∃ m, m < n ∧ f5_I0 s0 s1 s2 s3 s4 s5 s6 s7 s8 s9b s9l s9c s10 s12 s13 s14 s15 s16 s17 s18 s19 s20 s21 s22 s23 s24 s25 s26 s27 s28 s29 s30 s31 s32 s33 s34 s35 s36 s37 s38 s39 s40 s41 s42 s43 s44 s45 s46 s47 s48 s49 s50 s51 s52 s53 s54 s55 s56 s57 s75 s76 s77 s78 s79 s80 s81 s82 s83 s84 s85 J m tm H) R) : f5_L0 R [s0, s1, (.int .u32 s2), s3, s4, s5, s6, s7, s8, (.slice s9b s9l s9c), (.int .i64 s10), s11, s12, s13, s14, s15, s16, s17, s18, s19, s20, s21, s22, s23, s24, s25, s26, s27, s28, s29, s30, s31, s32, s33, s34, s35, s36, s37, s38, s39, s40, s41, s42, s43, s44, s45, s46, s47, s48, s49, s50, s51, s52, s53, s54, s55, s56, s57, (.int .i64 s58), s59, s60, s61, s62, s63, s64, s65, s66, s67, s68, s69, s70, s71, s72, s73, s74, s75, s76, s77, s78, s79, s80, s81, s82, s83, s84, s85] H :=
  awpF_loop (f5_I0 s0 s1 s2 s3 s4 s5 s6 s7 s8 s9b s9l s9c s10 s12 s13 s14 s15 s16 s17 s18 s19 s20 s21 s22 s23 s24 s25 s26 s27 s28 s29 s30 s31 s32 s33 s34 s35 s36 s37 s38 s39 s40 s41 s42 s43 s44 s45 s46 s47 s48 s49 s50 s51 s52 s53 s54 s55 s56 s57 s75 s76 s77 s78 s79 s80 s81 s82 s83 s84 s85 J) n (f5_I0_mk h0) (by
    rintro n tm H ⟨s11, s58, s59, s60, s61, s62, s63, s64, s65, s66, s67, s68, s69, s70, s71, s72, s73, s74, rfl, h⟩
    exact Eq.mpr (f5_R0_eq s0 s1 s2 s3 s4 s5 s6 s7 s8 s9b s9l s9c s10 s11 s12 s13 s14 s15 s16 s17 s18 s19 s20 s21 s22 s23 s24 s25 s26 s27 s28 s29 s30 s31 s32 s33 s34 s35 s36 s37 s38 s39 s40 s41 s42 s43 s44 s45 s46 s47 s48 s49 s50 s51 s52 s53 s54 s55 s56 s57 s58 s59 s60 s61 s62 s63 s64 s65 s66 s67 s68 s69 s70 s71 s72 s73 s74 s75 s76 s77 s78 s79 s80 s81 s82 s83 s84 s85 H _ R) (step n s58 H h s11 s59 s60 s61 s62 s63 s64 s65 s66 s67 s68 s69 s70 s71 s72 s73 s74))
def f5_B (x0_0 : Int) (x0_1 : Int) (x0_2 : Int) (x0_3 : ByteArray) (x1 : Int) (x2 : Int) (H : AH) (R : AEnd → AH → Prop) : Prop :=
 wNew [(.int .u32 x0_0), (.int .u64 x0_1), (.int .i64 x0_2), (.string x0_3)] H fun i34 H35 =>
 wCall Tryd.prog 9 [] H35 (fun r36 H37 =>
 opB r36 fun b40 =>
 wIf (!b40)
 (R (.ret (.bool false)) H37)
 (ldI .u32 i34 0 H37 fun n41 =>
 ldI .u64 i34 1 H37 fun n42 =>
 ldI .i64 i34 2 H37 fun n43 =>
 ldS i34 3 H37 fun t44 =>
 wCall Tryd.prog 10 [(.agg #[(.int .u32 n41), (.int .u64 n42), (.int .i64 n43), (.string t44)])] H37 (fun r45 H46 =>
 opT 2 r45 fun l49 =>
 opS (l49.headD undef) fun t50 =>
 opI .i64 (l49.tail.headD undef) fun n51 =>
 ldS i34 3 H46 fun t52 =>
 wIf (decide ((t52.size : Int) > 20000))
 (f5_J0 R [(.agg #[(.int .u32 x0_0), (.int .u64 x0_1), (.int .i64 x0_2), (.string x0_3)]), (.int .i64 x1), (.int .u32 x2), (.pointer (some ⟨i34, 0, none⟩)), undef, undef, (.bool false), (.string t50), (.int .i64 n51), undef, undef, undef, undef, undef, (.bool b40), (.bool false), (.tuple #[(.string t50), (.int .i64 n51)]), (.agg #[(.int .u32 n41), (.int .u64 n42), (.int .i64 n43), (.string t44)]), (.tuple #[(.string t50), (.int .i64 n51)]), (.string t50), (.int .i64 n51), (.pointer (some ⟨i34, 3, none⟩)), (.string t52), (.int .i64 (t52.size : Int)), (.bool (decide ((t52.size : Int) > 20000))), (.bool true), undef, undef, (.bool true), (.bool true), undef, undef, (.bool true), undef, undef, undef, undef, undef, undef, undef, undef, undef, undef, undef, undef, undef, undef, undef, undef, undef, undef, undef, undef, undef, undef, undef, undef, undef, undef, undef, undef, undef, undef, undef, undef, undef, undef, undef, undef, undef, undef, undef, undef, undef, undef, undef, undef, undef, undef, undef, undef, undef, undef, undef, undef, undef] H46)
 (wIf (!decide (n51 = 0))
 (f5_J0 R [(.agg #[(.int .u32 x0_0), (.int .u64 x0_1), (.int .i64 x0_2), (.string x0_3)]), (.int .i64 x1), (.int .u32 x2), (.pointer (some ⟨i34, 0, none⟩)), undef, undef, (.bool false), (.string t50), (.int .i64 n51), undef, undef, undef, undef, undef, (.bool b40), (.bool false), (.tuple #[(.string t50), (.int .i64 n51)]), (.agg #[(.int .u32 n41), (.int .u64 n42), (.int .i64 n43), (.string t44)]), (.tuple #[(.string t50), (.int .i64 n51)]), (.string t50), (.int .i64 n51), (.pointer (some ⟨i34, 3, none⟩)), (.string t52), (.int .i64 (t52.size : Int)), (.bool (decide ((t52.size : Int) > 20000))), (.bool false), (.int .i64 n51), (.bool (!decide (n51 = 0))), (.bool (!decide (n51 = 0))), (.bool true), undef, undef, (.bool true), undef, undef, undef, undef, undef, undef, undef, undef, undef, undef, undef, undef, undef, undef, undef, undef, undef, undef, undef, undef, undef, undef, undef, undef, undef, undef, undef, undef, undef, undef, undef, undef, undef, undef, undef, undef, undef, undef, undef, undef, undef, undef, undef, undef, undef, undef, undef, undef, undef, undef, undef, undef, undef] H46)
 (f5_J0 R [(.agg #[(.int .u32 x0_0), (.int .u64 x0_1), (.int .i64 x0_2), (.string x0_3)]), (.int .i64 x1), (.int .u32 x2), (.pointer (some ⟨i34, 0, none⟩)), undef, undef, (.bool false), (.string t50), (.int .i64 n51), undef, undef, undef, undef, undef, (.bool b40), (.bool false), (.tuple #[(.string t50), (.int .i64 n51)]), (.agg #[(.int .u32 n41), (.int .u64 n42), (.int .i64 n43), (.string t44)]), (.tuple #[(.string t50), (.int .i64 n51)]), (.string t50), (.int .i64 n51), (.pointer (some ⟨i34, 3, none⟩)), (.string t52), (.int .i64 (t52.size : Int)), (.bool (decide ((t52.size : Int) > 20000))), (.bool false), (.int .i64 n51), (.bool (!decide (n51 = 0))), (.bool (!decide (n51 = 0))), (.bool false), (.int .u32 x2), (.bool (decide (x2 = 0))), (.bool (decide (x2 = 0))), undef, undef, undef, undef, undef, undef, undef, undef, undef, undef, undef, undef, undef, undef, undef, undef, undef, undef, undef, undef, undef, undef, undef, undef, undef, undef, undef, undef, undef, undef, undef, undef, undef, undef, undef, undef, undef, undef, undef, undef, undef, undef, undef, undef, undef, undef, undef, undef, undef, undef, undef, undef, undef] H46))) (fun v48 H47 => R (.panic v48) H47))) (fun v39 H38 => R (.panic v39) H38)
theorem f5_eq (x0_0 : Int) (x0_1 : Int) (x0_2 : Int) (x0_3 : ByteArray) (x1 : Int) (x2 : Int) (H : AH) (R : AEnd → AH → Prop) : awpF Tryd.prog f5_c (aPost Tryd.prog Tryd.f5 R) (([(.agg #[(.int .u32 x0_0), (.int .u64 x0_1), (.int .i64 x0_2), (.string x0_3)]), (.int .i64 x1), (.int .u32 x2)] : List Value) ++ List.replicate (Tryd.f5.ntmps - (([(.agg #[(.int .u32 x0_0), (.int .u64 x0_1), (.int .i64 x0_2), (.string x0_3)]), (.int .i64 x1), (.int .u32 x2)] : List Value)).length) undef) H = f5_B x0_0 x0_1 x0_2 x0_3 x1 x2 H R := by kernel_rfl
theorem f5_call (x0_0 : Int) (x0_1 : Int) (x0_2 : Int) (x0_3 : ByteArray) (x1 : Int) (x2 : Int) (H : AH) (R : AEnd → AH → Prop) (h : f5_B x0_0 x0_1 x0_2 x0_3 x1 x2 H R) : ACall Tryd.prog 5 ([(.agg #[(.int .u32 x0_0), (.int .u64 x0_1), (.int .i64 x0_2), (.string x0_3)]), (.int .i64 x1), (.int .u32 x2)] : List Value) H R :=
  acall_of mixed Tryd.func5 (by kernel_rfl : Tryd.f5.body = some f5_c) (by kernel_rfl) (by kernel_rfl) (awp_of (Eq.mpr (f5_eq x0_0 x0_1 x0_2 x0_3 x1 x2 H R) h))

/-! f6: switchyard/switchyardlaw04.FrameGets -/
noncomputable def f6_c : Code := Tryd.f6.body.getD .skip
def f6_B (x0 : ByteArray) (H : AH) (R : AEnd → AH → Prop) : Prop :=
 wCall Tryd.prog 9 [] H (fun r1 H2 =>
 opB r1 fun b5 =>
 wIf (!b5)
 (R (.ret (.bool false)) H2)
 (wIf (decide ((x0.size : Int) > 20000))
 (wCall Tryd.prog 9 [] H2 (fun r6 H7 =>
 opB r6 fun b10 =>
 R (.ret (.bool b10)) H7) (fun v9 H8 => R (.panic v9) H8))
 (wCall Tryd.prog 14 [(.string x0)] H2 (fun r11 H12 =>
 opT 2 r11 fun l15 =>
 opA 4 (l15.headD undef) fun l16 =>
 opI .u32 (l16.headD undef) fun n17 =>
 opI .u64 (l16.tail.headD undef) fun n18 =>
 opI .i64 (l16.tail.tail.headD undef) fun n19 =>
 opS (l16.tail.tail.tail.headD undef) fun t20 =>
 opI .i64 (l15.tail.headD undef) fun n21 =>
 wNew [(.int .u32 0), (.int .u64 0), (.int .i64 0), (.string ({ data := #[] }))] H12 fun i22 H23 =>
 wSt i22 0 [(.int .u32 n17), (.int .u64 n18), (.int .i64 n19), (.string t20)] H23 fun H24 =>
 wCall Tryd.prog 15 [(.string x0)] H24 (fun r25 H26 =>
 opT 2 r25 fun l29 =>
 opA 4 (l29.headD undef) fun l30 =>
 opI .u32 (l30.headD undef) fun n31 =>
 opI .u64 (l30.tail.headD undef) fun n32 =>
 opI .i64 (l30.tail.tail.headD undef) fun n33 =>
 opS (l30.tail.tail.tail.headD undef) fun t34 =>
 opI .i64 (l29.tail.headD undef) fun n35 =>
 wNew [(.int .u32 0), (.int .u64 0), (.int .i64 0), (.string ({ data := #[] }))] H26 fun i36 H37 =>
 wSt i36 0 [(.int .u32 n31), (.int .u64 n32), (.int .i64 n33), (.string t34)] H37 fun H38 =>
 wCall Tryd.prog 16 [(.string x0)] H38 (fun r39 H40 =>
 opT 2 r39 fun l43 =>
 opA 4 (l43.headD undef) fun l44 =>
 opI .u32 (l44.headD undef) fun n45 =>
 opI .u32 (l44.tail.headD undef) fun n46 =>
 opI .u32 (l44.tail.tail.headD undef) fun n47 =>
 opI .u64 (l44.tail.tail.tail.headD undef) fun n48 =>
 opB (l43.tail.headD undef) fun b49 =>
 wNew [(.int .u32 0), (.int .u32 0), (.int .u32 0), (.int .u64 0)] H40 fun i50 H51 =>
 wSt i50 0 [(.int .u32 n45), (.int .u32 n46), (.int .u32 n47), (.int .u64 n48)] H51 fun H52 =>
 wCall Tryd.prog 17 [(.string x0)] H52 (fun r53 H54 =>
 opT 2 r53 fun l57 =>
 opA 4 (l57.headD undef) fun l58 =>
 opI .u32 (l58.headD undef) fun n59 =>
 opI .u32 (l58.tail.headD undef) fun n60 =>
 opI .u32 (l58.tail.tail.headD undef) fun n61 =>
 opI .u64 (l58.tail.tail.tail.headD undef) fun n62 =>
 opB (l57.tail.headD undef) fun b63 =>
 wNew [(.int .u32 0), (.int .u32 0), (.int .u32 0), (.int .u64 0)] H54 fun i64 H65 =>
 wSt i64 0 [(.int .u32 n59), (.int .u32 n60), (.int .u32 n61), (.int .u64 n62)] H65 fun H66 =>
 wCall Tryd.prog 9 [] H66 (fun r67 H68 =>
 opB r67 fun b71 =>
 wIf b71
 (ldI .u32 i22 0 H68 fun n72 =>
 ldI .u64 i22 1 H68 fun n73 =>
 ldI .i64 i22 2 H68 fun n74 =>
 ldS i22 3 H68 fun t75 =>
 ldI .u32 i36 0 H68 fun n76 =>
 ldI .u64 i36 1 H68 fun n77 =>
 ldI .i64 i36 2 H68 fun n78 =>
 ldS i36 3 H68 fun t79 =>
 wIf ((decide (n72 = n76)) && ((decide (n73 = n77)) && ((decide (n74 = n78)) && ((decide (t75 = t79)) && true))))
 (wIf (decide (n21 = n35))
 (ldI .u32 i50 0 H68 fun n80 =>
 ldI .u32 i50 1 H68 fun n81 =>
 ldI .u32 i50 2 H68 fun n82 =>
 ldI .u64 i50 3 H68 fun n83 =>
 ldI .u32 i64 0 H68 fun n84 =>
 ldI .u32 i64 1 H68 fun n85 =>
 ldI .u32 i64 2 H68 fun n86 =>
 ldI .u64 i64 3 H68 fun n87 =>
 wIf ((decide (n80 = n84)) && ((decide (n81 = n85)) && ((decide (n82 = n86)) && ((decide (n83 = n87)) && true))))
 (R (.ret (.bool (b49 == b63))) H68)
 (R (.ret (.bool false)) H68))
 (R (.ret (.bool false)) H68))
 (R (.ret (.bool false)) H68))
 (R (.ret (.bool false)) H68)) (fun v70 H69 => R (.panic v70) H69)) (fun v56 H55 => R (.panic v56) H55)) (fun v42 H41 => R (.panic v42) H41)) (fun v28 H27 => R (.panic v28) H27)) (fun v14 H13 => R (.panic v14) H13)))) (fun v4 H3 => R (.panic v4) H3)
theorem f6_eq (x0 : ByteArray) (H : AH) (R : AEnd → AH → Prop) : awpF Tryd.prog f6_c (aPost Tryd.prog Tryd.f6 R) (([(.string x0)] : List Value) ++ List.replicate (Tryd.f6.ntmps - (([(.string x0)] : List Value)).length) undef) H = f6_B x0 H R := by kernel_rfl
theorem f6_call (x0 : ByteArray) (H : AH) (R : AEnd → AH → Prop) (h : f6_B x0 H R) : ACall Tryd.prog 6 ([(.string x0)] : List Value) H R :=
  acall_of mixed Tryd.func6 (by kernel_rfl : Tryd.f6.body = some f6_c) (by kernel_rfl) (by kernel_rfl) (awp_of (Eq.mpr (f6_eq x0 H R) h))

/-! f7: switchyard/switchyardlaw04.FrameHeads -/
noncomputable def f7_c : Code := Tryd.f7.body.getD .skip
def f7_B (x0_0 : Int) (x0_1 : Int) (x0_2 : Int) (x0_3 : Int) (H : AH) (R : AEnd → AH → Prop) : Prop :=
 wNew [(.int .u32 x0_0), (.int .u32 x0_1), (.int .u32 x0_2), (.int .u64 x0_3)] H fun i1 H2 =>
 wCall Tryd.prog 9 [] H2 (fun r3 H4 =>
 opB r3 fun b7 =>
 wIf (!b7)
 (R (.ret (.bool false)) H4)
 (ldI .u32 i1 0 H4 fun n8 =>
 ldI .u32 i1 1 H4 fun n9 =>
 ldI .u32 i1 2 H4 fun n10 =>
 ldI .u64 i1 3 H4 fun n11 =>
 wCall Tryd.prog 18 [(.agg #[(.int .u32 n8), (.int .u32 n9), (.int .u32 n10), (.int .u64 n11)])] H4 (fun r12 H13 =>
 opT 2 r12 fun l16 =>
 opS (l16.headD undef) fun t17 =>
 opI .i64 (l16.tail.headD undef) fun n18 =>
 ldI .u32 i1 0 H13 fun n19 =>
 ldI .u32 i1 1 H13 fun n20 =>
 ldI .u32 i1 2 H13 fun n21 =>
 ldI .u64 i1 3 H13 fun n22 =>
 wCall Tryd.prog 19 [(.agg #[(.int .u32 n19), (.int .u32 n20), (.int .u32 n21), (.int .u64 n22)])] H13 (fun r23 H24 =>
 opT 2 r23 fun l27 =>
 opS (l27.headD undef) fun t28 =>
 opI .i64 (l27.tail.headD undef) fun n29 =>
 wCall Tryd.prog 16 [(.string t17)] H24 (fun r30 H31 =>
 opT 2 r30 fun l34 =>
 opA 4 (l34.headD undef) fun l35 =>
 opI .u32 (l35.headD undef) fun n36 =>
 opI .u32 (l35.tail.headD undef) fun n37 =>
 opI .u32 (l35.tail.tail.headD undef) fun n38 =>
 opI .u64 (l35.tail.tail.tail.headD undef) fun n39 =>
 opB (l34.tail.headD undef) fun b40 =>
 wNew [(.int .u32 0), (.int .u32 0), (.int .u32 0), (.int .u64 0)] H31 fun i41 H42 =>
 wSt i41 0 [(.int .u32 n36), (.int .u32 n37), (.int .u32 n38), (.int .u64 n39)] H42 fun H43 =>
 wCall Tryd.prog 9 [] H43 (fun r44 H45 =>
 opB r44 fun b48 =>
 wIf b48
 (wIf (decide (t17 = t28))
 (wIf (decide (n18 = n29))
 (wIf (b40 == (decide (n18 = 0)))
 (wIf (!b40)
 (R (.ret (.bool true)) H45)
 (ldI .u32 i41 0 H45 fun n49 =>
 ldI .u32 i41 1 H45 fun n50 =>
 ldI .u32 i41 2 H45 fun n51 =>
 ldI .u64 i41 3 H45 fun n52 =>
 ldI .u32 i1 0 H45 fun n53 =>
 ldI .u32 i1 1 H45 fun n54 =>
 ldI .u32 i1 2 H45 fun n55 =>
 ldI .u64 i1 3 H45 fun n56 =>
 R (.ret (.bool ((decide (n49 = n53)) && ((decide (n50 = n54)) && ((decide (n51 = n55)) && ((decide (n52 = n56)) && true)))))) H45))
 (R (.ret (.bool false)) H45))
 (R (.ret (.bool false)) H45))
 (R (.ret (.bool false)) H45))
 (R (.ret (.bool false)) H45)) (fun v47 H46 => R (.panic v47) H46)) (fun v33 H32 => R (.panic v33) H32)) (fun v26 H25 => R (.panic v26) H25)) (fun v15 H14 => R (.panic v15) H14))) (fun v6 H5 => R (.panic v6) H5)
theorem f7_eq (x0_0 : Int) (x0_1 : Int) (x0_2 : Int) (x0_3 : Int) (H : AH) (R : AEnd → AH → Prop) : awpF Tryd.prog f7_c (aPost Tryd.prog Tryd.f7 R) (([(.agg #[(.int .u32 x0_0), (.int .u32 x0_1), (.int .u32 x0_2), (.int .u64 x0_3)])] : List Value) ++ List.replicate (Tryd.f7.ntmps - (([(.agg #[(.int .u32 x0_0), (.int .u32 x0_1), (.int .u32 x0_2), (.int .u64 x0_3)])] : List Value)).length) undef) H = f7_B x0_0 x0_1 x0_2 x0_3 H R := by kernel_rfl
theorem f7_call (x0_0 : Int) (x0_1 : Int) (x0_2 : Int) (x0_3 : Int) (H : AH) (R : AEnd → AH → Prop) (h : f7_B x0_0 x0_1 x0_2 x0_3 H R) : ACall Tryd.prog 7 ([(.agg #[(.int .u32 x0_0), (.int .u32 x0_1), (.int .u32 x0_2), (.int .u64 x0_3)])] : List Value) H R :=
  acall_of mixed Tryd.func7 (by kernel_rfl : Tryd.f7.body = some f7_c) (by kernel_rfl) (by kernel_rfl) (awp_of (Eq.mpr (f7_eq x0_0 x0_1 x0_2 x0_3 H R) h))

/-! f8: switchyard/switchyardlaw04.FrameHeadTurns -/
noncomputable def f8_c : Code := Tryd.f8.body.getD .skip
noncomputable def f8_X0 (R : AEnd → AH → Prop) : AExit → List Value → AH → Prop := thenF (fun tm H => hold (awpF Tryd.prog (codeAt f8_c [1, 1, 1, 1, 1, 1, 1]) (aPost Tryd.prog Tryd.f8 R) tm H)) (aPost Tryd.prog Tryd.f8 R)
noncomputable def f8_X1 (R : AEnd → AH → Prop) : AExit → List Value → AH → Prop := inBlockF 0 (f8_X0 R)
noncomputable def f8_Q0 (R : AEnd → AH → Prop) : AExit → List Value → AH → Prop := (f8_X1 R)
def f8_L0 (R : AEnd → AH → Prop) (tm : List Value) (H : AH) : Prop := awpF Tryd.prog (codeAt f8_c [1, 1, 1, 1, 1, 1, 0, 1, 0]) (f8_Q0 R) tm H
noncomputable def f8_X2 (R : AEnd → AH → Prop) : AExit → List Value → AH → Prop := thenF (fun tm H => hold (awpF Tryd.prog (codeAt f8_c [1, 1, 1, 1]) (aPost Tryd.prog Tryd.f8 R) tm H)) (aPost Tryd.prog Tryd.f8 R)
def f8_J0 (R : AEnd → AH → Prop) (tm : List Value) (H : AH) : Prop := hold (awpF Tryd.prog (codeAt f8_c [1, 1, 1, 0, 1]) ((f8_X2 R)) tm H)
def f8_J1 (R : AEnd → AH → Prop) (tm : List Value) (H : AH) : Prop := hold (awpF Tryd.prog (codeAt f8_c [1, 1, 1, 1]) ((aPost Tryd.prog Tryd.f8 R)) tm H)
def f8_J2 (R : AEnd → AH → Prop) (tm : List Value) (H : AH) : Prop := hold (awpF Tryd.prog (codeAt f8_c [1, 1, 1, 1, 1, 1, 1]) ((aPost Tryd.prog Tryd.f8 R)) tm H)
-- join 2: live 9:o
def f8_J2_B (s9b : Option Addr) (s9l : Nat) (s9c : Nat) (H : AH) (R : AEnd → AH → Prop) : Prop :=
 wB2S s9b s9l s9c H fun t1 =>
 wCall Tryd.prog 16 [(.string t1)] H (fun r2 H3 =>
 opT 2 r2 fun l6 =>
 opA 4 (l6.headD undef) fun l7 =>
 opI .u32 (l7.headD undef) fun n8 =>
 opI .u32 (l7.tail.headD undef) fun n9 =>
 opI .u32 (l7.tail.tail.headD undef) fun n10 =>
 opI .u64 (l7.tail.tail.tail.headD undef) fun n11 =>
 opB (l6.tail.headD undef) fun b12 =>
 wNew [(.int .u32 0), (.int .u32 0), (.int .u32 0), (.int .u64 0)] H3 fun i13 H14 =>
 wSt i13 0 [(.int .u32 n8), (.int .u32 n9), (.int .u32 n10), (.int .u64 n11)] H14 fun H15 =>
 wCall Tryd.prog 9 [] H15 (fun r16 H17 =>
 opB r16 fun b20 =>
 wIf b20
 (R (.ret (.bool (!b12))) H17)
 (R (.ret (.bool false)) H17)) (fun v19 H18 => R (.panic v19) H18)) (fun v5 H4 => R (.panic v5) H4)
theorem f8_J2_eq (s0 : Value) (s1 : Value) (s2 : Value) (s3 : Value) (s4 : Value) (s5 : Value) (s6 : Value) (s7 : Value) (s8 : Value) (s9b : Option Addr) (s9l : Nat) (s9c : Nat) (s10 : Value) (s11 : Value) (s12 : Value) (s13 : Value) (s14 : Value) (s15 : Value) (s16 : Value) (s17 : Value) (s18 : Value) (s19 : Value) (s20 : Value) (s21 : Value) (s22 : Value) (s23 : Value) (s24 : Value) (s25 : Value) (s26 : Value) (s27 : Value) (s28 : Value) (s29 : Value) (s30 : Value) (s31 : Value) (s32 : Value) (s33 : Value) (s34 : Value) (s35 : Value) (s36 : Value) (s37 : Value) (s38 : Value) (s39 : Value) (s40 : Value) (s41 : Value) (s42 : Value) (s43 : Value) (s44 : Value) (s45 : Value) (s46 : Value) (s47 : Value) (s48 : Value) (s49 : Value) (s50 : Value) (s51 : Value) (s52 : Value) (s53 : Value) (s54 : Value) (s55 : Value) (s56 : Value) (s57 : Value) (s58 : Value) (s59 : Value) (s60 : Value) (s61 : Value) (s62 : Value) (s63 : Value) (s64 : Value) (s65 : Value) (s66 : Value) (H : AH) (R : AEnd → AH → Prop) : f8_J2 R [s0, s1, s2, s3, s4, s5, s6, s7, s8, (.slice s9b s9l s9c), s10, s11, s12, s13, s14, s15, s16, s17, s18, s19, s20, s21, s22, s23, s24, s25, s26, s27, s28, s29, s30, s31, s32, s33, s34, s35, s36, s37, s38, s39, s40, s41, s42, s43, s44, s45, s46, s47, s48, s49, s50, s51, s52, s53, s54, s55, s56, s57, s58, s59, s60, s61, s62, s63, s64, s65, s66] H = f8_J2_B s9b s9l s9c H R := by kernel_rfl
-- join 1: live 1:o, 2:., 7:.
def f8_J1_B (s0 : Value) (s1 : Int) (s2 : Int) (s3 : Value) (s4 : Value) (s5 : Value) (s6 : Value) (s7 : ByteArray) (s8 : Value) (s11 : Value) (s12 : Value) (s13 : Value) (s14 : Value) (s15 : Value) (s16 : Value) (s17 : Value) (s18 : Value) (s19 : Value) (s20 : Value) (s21 : Value) (s22 : Value) (s23 : Value) (s24 : Value) (s25 : Value) (s26 : Value) (s27 : Value) (s40 : Value) (s41 : Value) (s42 : Value) (s43 : Value) (s44 : Value) (s45 : Value) (s46 : Value) (s47 : Value) (s48 : Value) (s49 : Value) (s50 : Value) (s51 : Value) (s52 : Value) (s53 : Value) (s54 : Value) (s55 : Value) (s56 : Value) (s57 : Value) (s58 : Value) (s59 : Value) (s60 : Value) (s61 : Value) (s62 : Value) (s63 : Value) (s64 : Value) (s65 : Value) (s66 : Value) (H : AH) (R : AEnd → AH → Prop) : Prop :=
 wS2B s7 H fun i21 H22 =>
 wNz (IntKind.u64.wrap (IntKind.i64.wrap ((s7.size : Int) - 7)))
 (f8_L0 R [s0, (.int .i64 s1), (.int .u32 s2), s3, s4, s5, s6, (.string s7), s8, (.slice (some ⟨i21, 0, none⟩) s7.size 0), (.int .i64 (IntKind.i64.wrap (4 + (IntKind.i64.wrap (Int.tmod (IntKind.u64.wrap s1) (IntKind.u64.wrap (IntKind.i64.wrap ((s7.size : Int) - 7)))))))), s11, s12, s13, s14, s15, s16, s17, s18, s19, s20, s21, s22, s23, s24, s25, s26, s27, (.string s7), (.slice (some ⟨i21, 0, none⟩) s7.size 0), (.int .i64 s1), (.int .u64 (IntKind.u64.wrap s1)), (.slice (some ⟨i21, 0, none⟩) s7.size 0), (.int .i64 (s7.size : Int)), (.int .i64 (IntKind.i64.wrap ((s7.size : Int) - 7))), (.int .u64 (IntKind.u64.wrap (IntKind.i64.wrap ((s7.size : Int) - 7)))), (.int .u64 (Int.tmod (IntKind.u64.wrap s1) (IntKind.u64.wrap (IntKind.i64.wrap ((s7.size : Int) - 7))))), (.int .i64 (IntKind.i64.wrap (Int.tmod (IntKind.u64.wrap s1) (IntKind.u64.wrap (IntKind.i64.wrap ((s7.size : Int) - 7)))))), (.int .i64 (IntKind.i64.wrap (4 + (IntKind.i64.wrap (Int.tmod (IntKind.u64.wrap s1) (IntKind.u64.wrap (IntKind.i64.wrap ((s7.size : Int) - 7)))))))), (.int .i64 0), s40, s41, s42, s43, s44, s45, s46, s47, s48, s49, s50, s51, s52, s53, s54, s55, s56, s57, s58, s59, s60, s61, s62, s63, s64, s65, s66] H22)
theorem f8_J1_eq (s0 : Value) (s1 : Int) (s2 : Int) (s3 : Value) (s4 : Value) (s5 : Value) (s6 : Value) (s7 : ByteArray) (s8 : Value) (s9 : Value) (s10 : Value) (s11 : Value) (s12 : Value) (s13 : Value) (s14 : Value) (s15 : Value) (s16 : Value) (s17 : Value) (s18 : Value) (s19 : Value) (s20 : Value) (s21 : Value) (s22 : Value) (s23 : Value) (s24 : Value) (s25 : Value) (s26 : Value) (s27 : Value) (s28 : Value) (s29 : Value) (s30 : Value) (s31 : Value) (s32 : Value) (s33 : Value) (s34 : Value) (s35 : Value) (s36 : Value) (s37 : Value) (s38 : Value) (s39 : Value) (s40 : Value) (s41 : Value) (s42 : Value) (s43 : Value) (s44 : Value) (s45 : Value) (s46 : Value) (s47 : Value) (s48 : Value) (s49 : Value) (s50 : Value) (s51 : Value) (s52 : Value) (s53 : Value) (s54 : Value) (s55 : Value) (s56 : Value) (s57 : Value) (s58 : Value) (s59 : Value) (s60 : Value) (s61 : Value) (s62 : Value) (s63 : Value) (s64 : Value) (s65 : Value) (s66 : Value) (H : AH) (R : AEnd → AH → Prop) : f8_J1 R [s0, (.int .i64 s1), (.int .u32 s2), s3, s4, s5, s6, (.string s7), s8, s9, s10, s11, s12, s13, s14, s15, s16, s17, s18, s19, s20, s21, s22, s23, s24, s25, s26, s27, s28, s29, s30, s31, s32, s33, s34, s35, s36, s37, s38, s39, s40, s41, s42, s43, s44, s45, s46, s47, s48, s49, s50, s51, s52, s53, s54, s55, s56, s57, s58, s59, s60, s61, s62, s63, s64, s65, s66] H = f8_J1_B s0 s1 s2 s3 s4 s5 s6 s7 s8 s11 s12 s13 s14 s15 s16 s17 s18 s19 s20 s21 s22 s23 s24 s25 s26 s27 s40 s41 s42 s43 s44 s45 s46 s47 s48 s49 s50 s51 s52 s53 s54 s55 s56 s57 s58 s59 s60 s61 s62 s63 s64 s65 s66 H R := by kernel_rfl
-- join 0: live 1:o, 2:., 7:., 26:?
def f8_J0_B (s0 : Value) (s1 : Int) (s2 : Int) (s3 : Value) (s4 : Value) (s5 : Value) (s6 : Value) (s7 : ByteArray) (s8 : Value) (s9 : Value) (s10 : Value) (s11 : Value) (s12 : Value) (s13 : Value) (s14 : Value) (s15 : Value) (s16 : Value) (s17 : Value) (s18 : Value) (s19 : Value) (s20 : Value) (s21 : Value) (s22 : Value) (s23 : Value) (s24 : Value) (s25 : Value) (s26 : Bool) (s27 : Value) (s28 : Value) (s29 : Value) (s30 : Value) (s31 : Value) (s32 : Value) (s33 : Value) (s34 : Value) (s35 : Value) (s36 : Value) (s37 : Value) (s38 : Value) (s39 : Value) (s40 : Value) (s41 : Value) (s42 : Value) (s43 : Value) (s44 : Value) (s45 : Value) (s46 : Value) (s47 : Value) (s48 : Value) (s49 : Value) (s50 : Value) (s51 : Value) (s52 : Value) (s53 : Value) (s54 : Value) (s55 : Value) (s56 : Value) (s57 : Value) (s58 : Value) (s59 : Value) (s60 : Value) (s61 : Value) (s62 : Value) (s63 : Value) (s64 : Value) (s65 : Value) (s66 : Value) (H : AH) (R : AEnd → AH → Prop) : Prop :=
 wIf s26
 (wCall Tryd.prog 9 [] H (fun r23 H24 =>
 opB r23 fun b27 =>
 R (.ret (.bool b27)) H24) (fun v26 H25 => R (.panic v26) H25))
 (f8_J1 R [s0, (.int .i64 s1), (.int .u32 s2), s3, s4, s5, s6, (.string s7), s8, s9, s10, s11, s12, s13, s14, s15, s16, s17, s18, s19, s20, s21, s22, s23, s24, s25, (.bool false), s27, s28, s29, s30, s31, s32, s33, s34, s35, s36, s37, s38, s39, s40, s41, s42, s43, s44, s45, s46, s47, s48, s49, s50, s51, s52, s53, s54, s55, s56, s57, s58, s59, s60, s61, s62, s63, s64, s65, s66] H)
theorem f8_J0_eq (s0 : Value) (s1 : Int) (s2 : Int) (s3 : Value) (s4 : Value) (s5 : Value) (s6 : Value) (s7 : ByteArray) (s8 : Value) (s9 : Value) (s10 : Value) (s11 : Value) (s12 : Value) (s13 : Value) (s14 : Value) (s15 : Value) (s16 : Value) (s17 : Value) (s18 : Value) (s19 : Value) (s20 : Value) (s21 : Value) (s22 : Value) (s23 : Value) (s24 : Value) (s25 : Value) (s26 : Bool) (s27 : Value) (s28 : Value) (s29 : Value) (s30 : Value) (s31 : Value) (s32 : Value) (s33 : Value) (s34 : Value) (s35 : Value) (s36 : Value) (s37 : Value) (s38 : Value) (s39 : Value) (s40 : Value) (s41 : Value) (s42 : Value) (s43 : Value) (s44 : Value) (s45 : Value) (s46 : Value) (s47 : Value) (s48 : Value) (s49 : Value) (s50 : Value) (s51 : Value) (s52 : Value) (s53 : Value) (s54 : Value) (s55 : Value) (s56 : Value) (s57 : Value) (s58 : Value) (s59 : Value) (s60 : Value) (s61 : Value) (s62 : Value) (s63 : Value) (s64 : Value) (s65 : Value) (s66 : Value) (H : AH) (R : AEnd → AH → Prop) : f8_J0 R [s0, (.int .i64 s1), (.int .u32 s2), s3, s4, s5, s6, (.string s7), s8, s9, s10, s11, s12, s13, s14, s15, s16, s17, s18, s19, s20, s21, s22, s23, s24, s25, (.bool s26), s27, s28, s29, s30, s31, s32, s33, s34, s35, s36, s37, s38, s39, s40, s41, s42, s43, s44, s45, s46, s47, s48, s49, s50, s51, s52, s53, s54, s55, s56, s57, s58, s59, s60, s61, s62, s63, s64, s65, s66] H = f8_J0_B s0 s1 s2 s3 s4 s5 s6 s7 s8 s9 s10 s11 s12 s13 s14 s15 s16 s17 s18 s19 s20 s21 s22 s23 s24 s25 s26 s27 s28 s29 s30 s31 s32 s33 s34 s35 s36 s37 s38 s39 s40 s41 s42 s43 s44 s45 s46 s47 s48 s49 s50 s51 s52 s53 s54 s55 s56 s57 s58 s59 s60 s61 s62 s63 s64 s65 s66 H R := by kernel_rfl
def f8_R0 (s0 : Value) (s1 : Value) (s2 : Int) (s3 : Value) (s4 : Value) (s5 : Value) (s6 : Value) (s7 : Value) (s8 : Value) (s9b : Option Addr) (s9l : Nat) (s9c : Nat) (s10 : Int) (s11 : Value) (s12 : Value) (s13 : Value) (s14 : Value) (s15 : Value) (s16 : Value) (s17 : Value) (s18 : Value) (s19 : Value) (s20 : Value) (s21 : Value) (s22 : Value) (s23 : Value) (s24 : Value) (s25 : Value) (s26 : Value) (s27 : Value) (s28 : Value) (s29 : Value) (s30 : Value) (s31 : Value) (s32 : Value) (s33 : Value) (s34 : Value) (s35 : Value) (s36 : Value) (s37 : Value) (s38 : Value) (s39 : Int) (s40 : Value) (s41 : Value) (s42 : Value) (s43 : Value) (s44 : Value) (s45 : Value) (s46 : Value) (s47 : Value) (s48 : Value) (s49 : Value) (s50 : Value) (s51 : Value) (s52 : Value) (s53 : Value) (s54 : Value) (s55 : Value) (s56 : Value) (s57 : Value) (s58 : Value) (s59 : Value) (s60 : Value) (s61 : Value) (s62 : Value) (s63 : Value) (s64 : Value) (s65 : Value) (s66 : Value) (H : AH) (K0 : List Value → AH → Prop) (R : AEnd → AH → Prop) : Prop :=
 wIf (decide (s39 < 4))
 (wIx s9b s9l 1 (IntKind.i64.wrap (s10 + s39)) fun i28 k29 =>
 wNn (IntKind.i64.wrap (8 * s39))
 (ldI .u8 i28 k29 H fun n30 =>
 wIx s9b s9l 1 (IntKind.i64.wrap (s10 + s39)) fun i31 k32 =>
 wSt i31 k32 [(.int .u8 (IntKind.u8.wrap ((BitVec.ofInt IntKind.u8.bits n30) ^^^ (BitVec.ofInt IntKind.u8.bits (IntKind.u8.wrap (Int.fdiv s2 (2 ^ (min (Int.toNat (IntKind.i64.wrap (8 * s39))) IntKind.u32.bits)))))).toNat))] H fun H33 =>
 K0 [s0, s1, (.int .u32 s2), s3, s4, s5, s6, s7, s8, (.slice s9b s9l s9c), (.int .i64 s10), (.int .i64 s39), s12, s13, s14, s15, s16, s17, s18, s19, s20, s21, s22, s23, s24, s25, s26, s27, s28, s29, s30, s31, s32, s33, s34, s35, s36, s37, s38, (.int .i64 (IntKind.i64.wrap (s39 + 1))), (.bool true), (.int .i64 s39), (.slice s9b s9l s9c), (.int .i64 s10), (.int .i64 s39), (.int .i64 (IntKind.i64.wrap (s10 + s39))), (.pointer (some ⟨i28, k29, none⟩)), (.int .u8 n30), (.int .u32 s2), (.int .i64 s39), (.int .i64 (IntKind.i64.wrap (8 * s39))), (.int .u32 (Int.fdiv s2 (2 ^ (min (Int.toNat (IntKind.i64.wrap (8 * s39))) IntKind.u32.bits)))), (.int .u8 (IntKind.u8.wrap (Int.fdiv s2 (2 ^ (min (Int.toNat (IntKind.i64.wrap (8 * s39))) IntKind.u32.bits))))), (.int .u8 (IntKind.u8.wrap ((BitVec.ofInt IntKind.u8.bits n30) ^^^ (BitVec.ofInt IntKind.u8.bits (IntKind.u8.wrap (Int.fdiv s2 (2 ^ (min (Int.toNat (IntKind.i64.wrap (8 * s39))) IntKind.u32.bits)))))).toNat)), (.pointer (some ⟨i31, k32, none⟩)), (.int .i64 (IntKind.i64.wrap (s39 + 1))), s56, s57, s58, s59, s60, s61, s62, s63, s64, s65, s66] H33))
 (f8_J2 R [s0, s1, (.int .u32 s2), s3, s4, s5, s6, s7, s8, (.slice s9b s9l s9c), (.int .i64 s10), s11, s12, s13, s14, s15, s16, s17, s18, s19, s20, s21, s22, s23, s24, s25, s26, s27, s28, s29, s30, s31, s32, s33, s34, s35, s36, s37, s38, (.int .i64 s39), (.bool false), s41, s42, s43, s44, s45, s46, s47, s48, s49, s50, s51, s52, s53, s54, s55, s56, s57, s58, s59, s60, s61, s62, s63, s64, s65, s66] H)
theorem f8_R0_eq (s0 : Value) (s1 : Value) (s2 : Int) (s3 : Value) (s4 : Value) (s5 : Value) (s6 : Value) (s7 : Value) (s8 : Value) (s9b : Option Addr) (s9l : Nat) (s9c : Nat) (s10 : Int) (s11 : Value) (s12 : Value) (s13 : Value) (s14 : Value) (s15 : Value) (s16 : Value) (s17 : Value) (s18 : Value) (s19 : Value) (s20 : Value) (s21 : Value) (s22 : Value) (s23 : Value) (s24 : Value) (s25 : Value) (s26 : Value) (s27 : Value) (s28 : Value) (s29 : Value) (s30 : Value) (s31 : Value) (s32 : Value) (s33 : Value) (s34 : Value) (s35 : Value) (s36 : Value) (s37 : Value) (s38 : Value) (s39 : Int) (s40 : Value) (s41 : Value) (s42 : Value) (s43 : Value) (s44 : Value) (s45 : Value) (s46 : Value) (s47 : Value) (s48 : Value) (s49 : Value) (s50 : Value) (s51 : Value) (s52 : Value) (s53 : Value) (s54 : Value) (s55 : Value) (s56 : Value) (s57 : Value) (s58 : Value) (s59 : Value) (s60 : Value) (s61 : Value) (s62 : Value) (s63 : Value) (s64 : Value) (s65 : Value) (s66 : Value) (H : AH) (K0 : List Value → AH → Prop) (R : AEnd → AH → Prop) : awpF Tryd.prog (codeAt f8_c [1, 1, 1, 1, 1, 1, 0, 1, 0, 0]) (thenF K0 (f8_Q0 R)) [s0, s1, (.int .u32 s2), s3, s4, s5, s6, s7, s8, (.slice s9b s9l s9c), (.int .i64 s10), s11, s12, s13, s14, s15, s16, s17, s18, s19, s20, s21, s22, s23, s24, s25, s26, s27, s28, s29, s30, s31, s32, s33, s34, s35, s36, s37, s38, (.int .i64 s39), s40, s41, s42, s43, s44, s45, s46, s47, s48, s49, s50, s51, s52, s53, s54, s55, s56, s57, s58, s59, s60, s61, s62, s63, s64, s65, s66] H = f8_R0 s0 s1 s2 s3 s4 s5 s6 s7 s8 s9b s9l s9c s10 s11 s12 s13 s14 s15 s16 s17 s18 s19 s20 s21 s22 s23 s24 s25 s26 s27 s28 s29 s30 s31 s32 s33 s34 s35 s36 s37 s38 s39 s40 s41 s42 s43 s44 s45 s46 s47 s48 s49 s50 s51 s52 s53 s54 s55 s56 s57 s58 s59 s60 s61 s62 s63 s64 s65 s66 H K0 R := by kernel_rfl
def f8_I0 (s0 : Value) (s1 : Value) (s2 : Int) (s3 : Value) (s4 : Value) (s5 : Value) (s6 : Value) (s7 : Value) (s8 : Value) (s9b : Option Addr) (s9l : Nat) (s9c : Nat) (s10 : Int) (s12 : Value) (s13 : Value) (s14 : Value) (s15 : Value) (s16 : Value) (s17 : Value) (s18 : Value) (s19 : Value) (s20 : Value) (s21 : Value) (s22 : Value) (s23 : Value) (s24 : Value) (s25 : Value) (s26 : Value) (s27 : Value) (s28 : Value) (s29 : Value) (s30 : Value) (s31 : Value) (s32 : Value) (s33 : Value) (s34 : Value) (s35 : Value) (s36 : Value) (s37 : Value) (s38 : Value) (s56 : Value) (s57 : Value) (s58 : Value) (s59 : Value) (s60 : Value) (s61 : Value) (s62 : Value) (s63 : Value) (s64 : Value) (s65 : Value) (s66 : Value) (J : Nat → Int → AH → Prop) (n : Nat) (tm : List Value) (H : AH) : Prop := ∃ (s11 : Value) (s39 : Int) (s40 : Value) (s41 : Value) (s42 : Value) (s43 : Value) (s44 : Value) (s45 : Value) (s46 : Value) (s47 : Value) (s48 : Value) (s49 : Value) (s50 : Value) (s51 : Value) (s52 : Value) (s53 : Value) (s54 : Value) (s55 : Value), tm = [s0, s1, (.int .u32 s2), s3, s4, s5, s6, s7, s8, (.slice s9b s9l s9c), (.int .i64 s10), s11, s12, s13, s14, s15, s16, s17, s18, s19, s20, s21, s22, s23, s24, s25, s26, s27, s28, s29, s30, s31, s32, s33, s34, s35, s36, s37, s38, (.int .i64 s39), s40, s41, s42, s43, s44, s45, s46, s47, s48, s49, s50, s51, s52, s53, s54, s55, s56, s57, s58, s59, s60, s61, s62, s63, s64, s65, s66] ∧ J n s39 H
theorem f8_I0_mk {s0 : Value} {s1 : Value} {s2 : Int} {s3 : Value} {s4 : Value} {s5 : Value} {s6 : Value} {s7 : Value} {s8 : Value} {s9b : Option Addr} {s9l : Nat} {s9c : Nat} {s10 : Int} {s11 : Value} {s12 : Value} {s13 : Value} {s14 : Value} {s15 : Value} {s16 : Value} {s17 : Value} {s18 : Value} {s19 : Value} {s20 : Value} {s21 : Value} {s22 : Value} {s23 : Value} {s24 : Value} {s25 : Value} {s26 : Value} {s27 : Value} {s28 : Value} {s29 : Value} {s30 : Value} {s31 : Value} {s32 : Value} {s33 : Value} {s34 : Value} {s35 : Value} {s36 : Value} {s37 : Value} {s38 : Value} {s39 : Int} {s40 : Value} {s41 : Value} {s42 : Value} {s43 : Value} {s44 : Value} {s45 : Value} {s46 : Value} {s47 : Value} {s48 : Value} {s49 : Value} {s50 : Value} {s51 : Value} {s52 : Value} {s53 : Value} {s54 : Value} {s55 : Value} {s56 : Value} {s57 : Value} {s58 : Value} {s59 : Value} {s60 : Value} {s61 : Value} {s62 : Value} {s63 : Value} {s64 : Value} {s65 : Value} {s66 : Value} {J : Nat → Int → AH → Prop} {n : Nat} {H : AH} (h : J n s39 H) : f8_I0 s0 s1 s2 s3 s4 s5 s6 s7 s8 s9b s9l s9c s10 s12 s13 s14 s15 s16 s17 s18 s19 s20 s21 s22 s23 s24 s25 s26 s27 s28 s29 s30 s31 s32 s33 s34 s35 s36 s37 s38 s56 s57 s58 s59 s60 s61 s62 s63 s64 s65 s66 J n [s0, s1, (.int .u32 s2), s3, s4, s5, s6, s7, s8, (.slice s9b s9l s9c), (.int .i64 s10), s11, s12, s13, s14, s15, s16, s17, s18, s19, s20, s21, s22, s23, s24, s25, s26, s27, s28, s29, s30, s31, s32, s33, s34, s35, s36, s37, s38, (.int .i64 s39), s40, s41, s42, s43, s44, s45, s46, s47, s48, s49, s50, s51, s52, s53, s54, s55, s56, s57, s58, s59, s60, s61, s62, s63, s64, s65, s66] H := ⟨_, _, _, _, _, _, _, _, _, _, _, _, _, _, _, _, _, _, rfl, h⟩
-- loop 0: carried 39:?
theorem f8_L0_rule {s0 : Value} {s1 : Value} {s2 : Int} {s3 : Value} {s4 : Value} {s5 : Value} {s6 : Value} {s7 : Value} {s8 : Value} {s9b : Option Addr} {s9l : Nat} {s9c : Nat} {s10 : Int} {s11 : Value} {s12 : Value} {s13 : Value} {s14 : Value} {s15 : Value} {s16 : Value} {s17 : Value} {s18 : Value} {s19 : Value} {s20 : Value} {s21 : Value} {s22 : Value} {s23 : Value} {s24 : Value} {s25 : Value} {s26 : Value} {s27 : Value} {s28 : Value} {s29 : Value} {s30 : Value} {s31 : Value} {s32 : Value} {s33 : Value} {s34 : Value} {s35 : Value} {s36 : Value} {s37 : Value} {s38 : Value} {s39 : Int} {s40 : Value} {s41 : Value} {s42 : Value} {s43 : Value} {s44 : Value} {s45 : Value} {s46 : Value} {s47 : Value} {s48 : Value} {s49 : Value} {s50 : Value} {s51 : Value} {s52 : Value} {s53 : Value} {s54 : Value} {s55 : Value} {s56 : Value} {s57 : Value} {s58 : Value} {s59 : Value} {s60 : Value} {s61 : Value} {s62 : Value} {s63 : Value} {s64 : Value} {s65 : Value} {s66 : Value} {H : AH} {R : AEnd → AH → Prop} (J : Nat → Int → AH → Prop) (n : Nat) (h0 : J n s39 H)
  (step : ∀ (n : Nat) (s39 : Int) (H : AH), J n s39 H → ∀ (s11 : Value) (s40 : Value) (s41 : Value) (s42 : Value) (s43 : Value) (s44 : Value) (s45 : Value) (s46 : Value) (s47 : Value) (s48 : Value) (s49 : Value) (s50 : Value) (s51 : Value) (s52 : Value) (s53 : Value) (s54 : Value) (s55 : Value), f8_R0 s0 s1 s2 s3 s4 s5 s6 s7 s8 s9b s9l s9c s10 s11 s12 s13 s14 s15 s16 s17 s18 s19 s20 s21 s22 s23 s24 s25 s26 s27 s28 s29 s30 s31 s32 s33 s34 s35 s36 s37 s38 s39 s40 s41 s42 s43 s44 s45 s46 s47 s48 s49 s50 s51 s52 s53 s54 s55 s56 s57 s58 s59 s60 s61 s62 s63 s64 s65 s66 H (fun tm H => ∃ m, m < n ∧ f8_I0 s0 s1 s2 s3 s4 s5 s6 s7 s8 s9b s9l s9c s10 s12 s13 s14 s15 s16 s17 s18 s19 s20 s21 s22 s23 s24 s25 s26 s27 s28 s29 s30 s31 s32 s33 s34 s35 s36 s37 s38 s56 s57 s58 s59 s60 s61 s62 s63 s64 s65 s66 J m tm H) R) : f8_L0 R [s0, s1, (.int .u32 s2), s3, s4, s5, s6, s7, s8, (.slice s9b s9l s9c), (.int .i64 s10), s11, s12, s13, s14, s15, s16, s17, s18, s19, s20, s21, s22, s23, s24, s25, s26, s27, s28, s29, s30, s31, s32, s33, s34, s35, s36, s37, s38, (.int .i64 s39), s40, s41, s42, s43, s44, s45, s46, s47, s48, s49, s50, s51, s52, s53, s54, s55, s56, s57, s58, s59, s60, s61, s62, s63, s64, s65, s66] H :=
  awpF_loop (f8_I0 s0 s1 s2 s3 s4 s5 s6 s7 s8 s9b s9l s9c s10 s12 s13 s14 s15 s16 s17 s18 s19 s20 s21 s22 s23 s24 s25 s26 s27 s28 s29 s30 s31 s32 s33 s34 s35 s36 s37 s38 s56 s57 s58 s59 s60 s61 s62 s63 s64 s65 s66 J) n (f8_I0_mk h0) (by
    rintro n tm H ⟨s11, s39, s40, s41, s42, s43, s44, s45, s46, s47, s48, s49, s50, s51, s52, s53, s54, s55, rfl, h⟩
    exact Eq.mpr (f8_R0_eq s0 s1 s2 s3 s4 s5 s6 s7 s8 s9b s9l s9c s10 s11 s12 s13 s14 s15 s16 s17 s18 s19 s20 s21 s22 s23 s24 s25 s26 s27 s28 s29 s30 s31 s32 s33 s34 s35 s36 s37 s38 s39 s40 s41 s42 s43 s44 s45 s46 s47 s48 s49 s50 s51 s52 s53 s54 s55 s56 s57 s58 s59 s60 s61 s62 s63 s64 s65 s66 H _ R) (step n s39 H h s11 s40 s41 s42 s43 s44 s45 s46 s47 s48 s49 s50 s51 s52 s53 s54 s55))
def f8_B (x0_0 : Int) (x0_1 : Int) (x0_2 : Int) (x0_3 : Int) (x1 : Int) (x2 : Int) (H : AH) (R : AEnd → AH → Prop) : Prop :=
 wNew [(.int .u32 x0_0), (.int .u32 x0_1), (.int .u32 x0_2), (.int .u64 x0_3)] H fun i34 H35 =>
 wCall Tryd.prog 9 [] H35 (fun r36 H37 =>
 opB r36 fun b40 =>
 wIf (!b40)
 (R (.ret (.bool false)) H37)
 (ldI .u32 i34 0 H37 fun n41 =>
 ldI .u32 i34 1 H37 fun n42 =>
 ldI .u32 i34 2 H37 fun n43 =>
 ldI .u64 i34 3 H37 fun n44 =>
 wCall Tryd.prog 18 [(.agg #[(.int .u32 n41), (.int .u32 n42), (.int .u32 n43), (.int .u64 n44)])] H37 (fun r45 H46 =>
 opT 2 r45 fun l49 =>
 opS (l49.headD undef) fun t50 =>
 opI .i64 (l49.tail.headD undef) fun n51 =>
 wIf (!decide (n51 = 0))
 (f8_J0 R [(.agg #[(.int .u32 x0_0), (.int .u32 x0_1), (.int .u32 x0_2), (.int .u64 x0_3)]), (.int .i64 x1), (.int .u32 x2), (.pointer (some ⟨i34, 0, none⟩)), undef, undef, (.bool false), (.string t50), (.int .i64 n51), undef, undef, undef, undef, undef, (.bool b40), (.bool false), (.tuple #[(.string t50), (.int .i64 n51)]), (.agg #[(.int .u32 n41), (.int .u32 n42), (.int .u32 n43), (.int .u64 n44)]), (.tuple #[(.string t50), (.int .i64 n51)]), (.string t50), (.int .i64 n51), (.int .i64 n51), (.bool (!decide (n51 = 0))), (.bool true), undef, undef, (.bool true), undef, undef, undef, undef, undef, undef, undef, undef, undef, undef, undef, undef, undef, undef, undef, undef, undef, undef, undef, undef, undef, undef, undef, undef, undef, undef, undef, undef, undef, undef, undef, undef, undef, undef, undef, undef, undef, undef, undef, undef] H46)
 (f8_J0 R [(.agg #[(.int .u32 x0_0), (.int .u32 x0_1), (.int .u32 x0_2), (.int .u64 x0_3)]), (.int .i64 x1), (.int .u32 x2), (.pointer (some ⟨i34, 0, none⟩)), undef, undef, (.bool false), (.string t50), (.int .i64 n51), undef, undef, undef, undef, undef, (.bool b40), (.bool false), (.tuple #[(.string t50), (.int .i64 n51)]), (.agg #[(.int .u32 n41), (.int .u32 n42), (.int .u32 n43), (.int .u64 n44)]), (.tuple #[(.string t50), (.int .i64 n51)]), (.string t50), (.int .i64 n51), (.int .i64 n51), (.bool (!decide (n51 = 0))), (.bool false), (.int .u32 x2), (.bool (decide (x2 = 0))), (.bool (decide (x2 = 0))), undef, undef, undef, undef, undef, undef, undef, undef, undef, undef, undef, undef, undef, undef, undef, undef, undef, undef, undef, undef, undef, undef, undef, undef, undef, undef, undef, undef, undef, undef, undef, undef, undef, undef, undef, undef, undef, undef, undef, undef] H46)) (fun v48 H47 => R (.panic v48) H47))) (fun v39 H38 => R (.panic v39) H38)
theorem f8_eq (x0_0 : Int) (x0_1 : Int) (x0_2 : Int) (x0_3 : Int) (x1 : Int) (x2 : Int) (H : AH) (R : AEnd → AH → Prop) : awpF Tryd.prog f8_c (aPost Tryd.prog Tryd.f8 R) (([(.agg #[(.int .u32 x0_0), (.int .u32 x0_1), (.int .u32 x0_2), (.int .u64 x0_3)]), (.int .i64 x1), (.int .u32 x2)] : List Value) ++ List.replicate (Tryd.f8.ntmps - (([(.agg #[(.int .u32 x0_0), (.int .u32 x0_1), (.int .u32 x0_2), (.int .u64 x0_3)]), (.int .i64 x1), (.int .u32 x2)] : List Value)).length) undef) H = f8_B x0_0 x0_1 x0_2 x0_3 x1 x2 H R := by kernel_rfl
theorem f8_call (x0_0 : Int) (x0_1 : Int) (x0_2 : Int) (x0_3 : Int) (x1 : Int) (x2 : Int) (H : AH) (R : AEnd → AH → Prop) (h : f8_B x0_0 x0_1 x0_2 x0_3 x1 x2 H R) : ACall Tryd.prog 8 ([(.agg #[(.int .u32 x0_0), (.int .u32 x0_1), (.int .u32 x0_2), (.int .u64 x0_3)]), (.int .i64 x1), (.int .u32 x2)] : List Value) H R :=
  acall_of mixed Tryd.func8 (by kernel_rfl : Tryd.f8.body = some f8_c) (by kernel_rfl) (by kernel_rfl) (awp_of (Eq.mpr (f8_eq x0_0 x0_1 x0_2 x0_3 x1 x2 H R) h))

end Go.Proofs.YtnjhcnefgeodcaaDoor
