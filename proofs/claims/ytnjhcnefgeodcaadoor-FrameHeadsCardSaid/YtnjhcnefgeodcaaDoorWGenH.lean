/- Bodies of functions as nested rules: printed by genw.py, a program of this claim. -/
import Derived.Test.YtnjhcnefgeodcaaDoorWTy
namespace Go.Proofs.YtnjhcnefgeodcaaDoor
open Go.RowKit
set_option linter.unusedVariables false
set_option maxRecDepth 100000

/-! f19: switchyard/switchyardref04.PutHead -/
noncomputable def f19_c : Code := Tryd.f19.body.getD .skip
noncomputable def f19_X0 (R : AEnd → AH → Prop) : AExit → List Value → AH → Prop := thenF (fun tm H => hold (awpF Tryd.prog (codeAt f19_c [1, 1]) (aPost Tryd.prog Tryd.f19 R) tm H)) (aPost Tryd.prog Tryd.f19 R)
def f19_J0 (R : AEnd → AH → Prop) (tm : List Value) (H : AH) : Prop := hold (awpF Tryd.prog (codeAt f19_c [1, 0, 1]) ((f19_X0 R)) tm H)
def f19_J1 (R : AEnd → AH → Prop) (tm : List Value) (H : AH) : Prop := hold (awpF Tryd.prog (codeAt f19_c [1, 1]) ((aPost Tryd.prog Tryd.f19 R)) tm H)
def f19_J2 (R : AEnd → AH → Prop) (tm : List Value) (H : AH) : Prop := hold (awpF Tryd.prog (codeAt f19_c [1, 1, 1]) ((aPost Tryd.prog Tryd.f19 R)) tm H)
-- join 2: live 4:s
def f19_J2_B (s4 : ByteArray) (H : AH) (R : AEnd → AH → Prop) : Prop :=
 wCall Tryd.prog 25 [(.string s4)] H (fun r1 H2 =>
 opI .u32 r1 fun n5 =>
 wCall Tryd.prog 23 [(.int .u64 (IntKind.u64.wrap n5)), (.int .i64 4)] H2 (fun r6 H7 =>
 opS r6 fun t10 =>
 wCat t10 s4 fun t11 =>
 R (.ret (.tuple #[(.string t11), (.int .i64 0)])) H7) (fun v9 H8 => R (.panic v9) H8)) (fun v4 H3 => R (.panic v4) H3)
theorem f19_J2_eq (s0 : Value) (s1 : Value) (s2 : Value) (s3 : Value) (s4 : ByteArray) (s5 : Value) (s6 : Value) (s7 : Value) (s8 : Value) (s9 : Value) (s10 : Value) (s11 : Value) (s12 : Value) (s13 : Value) (s14 : Value) (s15 : Value) (s16 : Value) (s17 : Value) (s18 : Value) (s19 : Value) (s20 : Value) (s21 : Value) (s22 : Value) (s23 : Value) (s24 : Value) (s25 : Value) (s26 : Value) (s27 : Value) (s28 : Value) (s29 : Value) (s30 : Value) (s31 : Value) (s32 : Value) (s33 : Value) (s34 : Value) (s35 : Value) (s36 : Value) (s37 : Value) (s38 : Value) (s39 : Value) (s40 : Value) (s41 : Value) (s42 : Value) (s43 : Value) (s44 : Value) (s45 : Value) (s46 : Value) (s47 : Value) (s48 : Value) (s49 : Value) (s50 : Value) (s51 : Value) (s52 : Value) (s53 : Value) (s54 : Value) (H : AH) (R : AEnd → AH → Prop) : f19_J2 R [s0, s1, s2, s3, (.string s4), s5, s6, s7, s8, s9, s10, s11, s12, s13, s14, s15, s16, s17, s18, s19, s20, s21, s22, s23, s24, s25, s26, s27, s28, s29, s30, s31, s32, s33, s34, s35, s36, s37, s38, s39, s40, s41, s42, s43, s44, s45, s46, s47, s48, s49, s50, s51, s52, s53, s54] H = f19_J2_B s4 H R := by kernel_rfl
-- join 1: live 1:h
def f19_J1_B (s0 : Value) (s1 : Option Addr) (s2 : Value) (s3 : Value) (s5 : Value) (s6 : Value) (s7 : Value) (s8 : Value) (s9 : Value) (s10 : Value) (s11 : Value) (s12 : Value) (s13 : Value) (s14 : Value) (s15 : Value) (s16 : Value) (s17 : Value) (s18 : Value) (s19 : Value) (s20 : Value) (s21 : Value) (s22 : Value) (s23 : Value) (s24 : Value) (s25 : Value) (s26 : Value) (s49 : Value) (s50 : Value) (s51 : Value) (s52 : Value) (s53 : Value) (s54 : Value) (H : AH) (R : AEnd → AH → Prop) : Prop :=
 wPt s1 fun i12 k13 =>
 wPt s1 fun i14 k15 =>
 wPt s1 fun i16 k17 =>
 wPt s1 fun i18 k19 =>
 ldI .u32 i12 k13 H fun n20 =>
 ldI .u32 i14 (k15 + 1) H fun n21 =>
 ldI .u32 i16 (k17 + 2) H fun n22 =>
 ldI .u64 i18 (k19 + 3) H fun n23 =>
 (wCall Tryd.prog 23 [(.int .u64 (IntKind.u64.wrap n20)), (.int .i64 4)] H (fun r24 H25 =>
 opS r24 fun t28 =>
 wPin i18 (k19 + 3) [(.int .u64 n23)] H25 <|
 wPin i16 (k17 + 2) [(.int .u32 n22)] H25 <|
 wPin i14 (k15 + 1) [(.int .u32 n21)] H25 <|
 wPin i12 k13 [(.int .u32 n20)] H25 <|
 wCat ({ data := #[72] }) t28 fun t29 =>
 (wCall Tryd.prog 23 [(.int .u64 (IntKind.u64.wrap n21)), (.int .i64 4)] H25 (fun r30 H31 =>
 opS r30 fun t34 =>
 wPin i18 (k19 + 3) [(.int .u64 n23)] H31 <|
 wPin i16 (k17 + 2) [(.int .u32 n22)] H31 <|
 wPin i14 (k15 + 1) [(.int .u32 n21)] H31 <|
 wPin i12 k13 [(.int .u32 n20)] H31 <|
 wCat t29 t34 fun t35 =>
 (wCall Tryd.prog 23 [(.int .u64 (IntKind.u64.wrap n22)), (.int .i64 4)] H31 (fun r36 H37 =>
 opS r36 fun t40 =>
 wPin i18 (k19 + 3) [(.int .u64 n23)] H37 <|
 wPin i16 (k17 + 2) [(.int .u32 n22)] H37 <|
 wPin i14 (k15 + 1) [(.int .u32 n21)] H37 <|
 wPin i12 k13 [(.int .u32 n20)] H37 <|
 wCat t35 t40 fun t41 =>
 (wCall Tryd.prog 23 [(.int .u64 n23), (.int .i64 8)] H37 (fun r42 H43 =>
 opS r42 fun t46 =>
 wPin i16 (k17 + 2) [(.int .u32 n22)] H43 <|
 wPin i14 (k15 + 1) [(.int .u32 n21)] H43 <|
 wPin i12 k13 [(.int .u32 n20)] H43 <|
 wCat t41 t46 fun t47 =>
 wMk [(.int .u8 0)] 1 1 39 39 H43 fun i48 H49 =>
 wPin i16 (k17 + 2) [(.int .u32 n22)] H49 <|
 wPin i14 (k15 + 1) [(.int .u32 n21)] H49 <|
 wPin i12 k13 [(.int .u32 n20)] H49 <|
 wB2S (some ⟨i48, 0, none⟩) (Int.toNat 39) 0 H49 fun t50 =>
 wPin i16 (k17 + 2) [(.int .u32 n22)] H49 <|
 wPin i14 (k15 + 1) [(.int .u32 n21)] H49 <|
 wPin i12 k13 [(.int .u32 n20)] H49 <|
 wCat t47 t50 fun t51 =>
 f19_J2 R [s0, (.pointer s1), s2, s3, (.string t51), s5, s6, s7, s8, s9, s10, s11, s12, s13, s14, s15, s16, s17, s18, s19, s20, s21, s22, s23, s24, s25, s26, (.pointer (some ⟨i12, k13, none⟩)), (.int .u32 n20), (.int .u64 (IntKind.u64.wrap n20)), (.string t28), (.string t29), (.pointer (some ⟨i14, (k15 + 1), none⟩)), (.int .u32 n21), (.int .u64 (IntKind.u64.wrap n21)), (.string t34), (.string t35), (.pointer (some ⟨i16, (k17 + 2), none⟩)), (.int .u32 n22), (.int .u64 (IntKind.u64.wrap n22)), (.string t40), (.string t41), (.pointer (some ⟨i18, (k19 + 3), none⟩)), (.int .u64 n23), (.string t46), (.string t47), (.slice (some ⟨i48, 0, none⟩) (Int.toNat 39) 0), (.string t50), (.string t51), s49, s50, s51, s52, s53, s54] H49) (fun v45 H44 => R (.panic v45) H44)) ∧
 (wMk [(.int .u8 0)] 1 1 39 39 H37 fun i52 H53 =>
 wPin i18 (k19 + 3) [(.int .u64 n23)] H53 <|
 wPin i16 (k17 + 2) [(.int .u32 n22)] H53 <|
 wPin i14 (k15 + 1) [(.int .u32 n21)] H53 <|
 wPin i12 k13 [(.int .u32 n20)] H53 <|
 (wCall Tryd.prog 23 [(.int .u64 n23), (.int .i64 8)] H53 (fun r54 H55 =>
 opS r54 fun t58 =>
 wPin i16 (k17 + 2) [(.int .u32 n22)] H55 <|
 wPin i14 (k15 + 1) [(.int .u32 n21)] H55 <|
 wPin i12 k13 [(.int .u32 n20)] H55 <|
 wCat t41 t58 fun t59 =>
 wB2S (some ⟨i52, 0, none⟩) (Int.toNat 39) 0 H55 fun t60 =>
 wPin i16 (k17 + 2) [(.int .u32 n22)] H55 <|
 wPin i14 (k15 + 1) [(.int .u32 n21)] H55 <|
 wPin i12 k13 [(.int .u32 n20)] H55 <|
 wCat t59 t60 fun t61 =>
 f19_J2 R [s0, (.pointer s1), s2, s3, (.string t61), s5, s6, s7, s8, s9, s10, s11, s12, s13, s14, s15, s16, s17, s18, s19, s20, s21, s22, s23, s24, s25, s26, (.pointer (some ⟨i12, k13, none⟩)), (.int .u32 n20), (.int .u64 (IntKind.u64.wrap n20)), (.string t28), (.string t29), (.pointer (some ⟨i14, (k15 + 1), none⟩)), (.int .u32 n21), (.int .u64 (IntKind.u64.wrap n21)), (.string t34), (.string t35), (.pointer (some ⟨i16, (k17 + 2), none⟩)), (.int .u32 n22), (.int .u64 (IntKind.u64.wrap n22)), (.string t40), (.string t41), (.pointer (some ⟨i18, (k19 + 3), none⟩)), (.int .u64 n23), (.string t58), (.string t59), (.slice (some ⟨i52, 0, none⟩) (Int.toNat 39) 0), (.string t60), (.string t61), s49, s50, s51, s52, s53, s54] H55) (fun v57 H56 => R (.panic v57) H56)) ∧
 (wB2S (some ⟨i52, 0, none⟩) (Int.toNat 39) 0 H53 fun t62 =>
 wPin i18 (k19 + 3) [(.int .u64 n23)] H53 <|
 wPin i16 (k17 + 2) [(.int .u32 n22)] H53 <|
 wPin i14 (k15 + 1) [(.int .u32 n21)] H53 <|
 wPin i12 k13 [(.int .u32 n20)] H53 <|
 wCall Tryd.prog 23 [(.int .u64 n23), (.int .i64 8)] H53 (fun r63 H64 =>
 opS r63 fun t67 =>
 wPin i16 (k17 + 2) [(.int .u32 n22)] H64 <|
 wPin i14 (k15 + 1) [(.int .u32 n21)] H64 <|
 wPin i12 k13 [(.int .u32 n20)] H64 <|
 wCat t41 t67 fun t68 =>
 wCat t68 t62 fun t69 =>
 f19_J2 R [s0, (.pointer s1), s2, s3, (.string t69), s5, s6, s7, s8, s9, s10, s11, s12, s13, s14, s15, s16, s17, s18, s19, s20, s21, s22, s23, s24, s25, s26, (.pointer (some ⟨i12, k13, none⟩)), (.int .u32 n20), (.int .u64 (IntKind.u64.wrap n20)), (.string t28), (.string t29), (.pointer (some ⟨i14, (k15 + 1), none⟩)), (.int .u32 n21), (.int .u64 (IntKind.u64.wrap n21)), (.string t34), (.string t35), (.pointer (some ⟨i16, (k17 + 2), none⟩)), (.int .u32 n22), (.int .u64 (IntKind.u64.wrap n22)), (.string t40), (.string t41), (.pointer (some ⟨i18, (k19 + 3), none⟩)), (.int .u64 n23), (.string t67), (.string t68), (.slice (some ⟨i52, 0, none⟩) (Int.toNat 39) 0), (.string t62), (.string t69), s49, s50, s51, s52, s53, s54] H64) (fun v66 H65 => R (.panic v66) H65)))) (fun v39 H38 => R (.panic v39) H38)) ∧
 (wMk [(.int .u8 0)] 1 1 39 39 H31 fun i70 H71 =>
 wPin i18 (k19 + 3) [(.int .u64 n23)] H71 <|
 wPin i16 (k17 + 2) [(.int .u32 n22)] H71 <|
 wPin i14 (k15 + 1) [(.int .u32 n21)] H71 <|
 wPin i12 k13 [(.int .u32 n20)] H71 <|
 (wCall Tryd.prog 23 [(.int .u64 (IntKind.u64.wrap n22)), (.int .i64 4)] H71 (fun r72 H73 =>
 opS r72 fun t76 =>
 wPin i18 (k19 + 3) [(.int .u64 n23)] H73 <|
 wPin i16 (k17 + 2) [(.int .u32 n22)] H73 <|
 wPin i14 (k15 + 1) [(.int .u32 n21)] H73 <|
 wPin i12 k13 [(.int .u32 n20)] H73 <|
 wCat t35 t76 fun t77 =>
 (wCall Tryd.prog 23 [(.int .u64 n23), (.int .i64 8)] H73 (fun r78 H79 =>
 opS r78 fun t82 =>
 wPin i16 (k17 + 2) [(.int .u32 n22)] H79 <|
 wPin i14 (k15 + 1) [(.int .u32 n21)] H79 <|
 wPin i12 k13 [(.int .u32 n20)] H79 <|
 wCat t77 t82 fun t83 =>
 wB2S (some ⟨i70, 0, none⟩) (Int.toNat 39) 0 H79 fun t84 =>
 wPin i16 (k17 + 2) [(.int .u32 n22)] H79 <|
 wPin i14 (k15 + 1) [(.int .u32 n21)] H79 <|
 wPin i12 k13 [(.int .u32 n20)] H79 <|
 wCat t83 t84 fun t85 =>
 f19_J2 R [s0, (.pointer s1), s2, s3, (.string t85), s5, s6, s7, s8, s9, s10, s11, s12, s13, s14, s15, s16, s17, s18, s19, s20, s21, s22, s23, s24, s25, s26, (.pointer (some ⟨i12, k13, none⟩)), (.int .u32 n20), (.int .u64 (IntKind.u64.wrap n20)), (.string t28), (.string t29), (.pointer (some ⟨i14, (k15 + 1), none⟩)), (.int .u32 n21), (.int .u64 (IntKind.u64.wrap n21)), (.string t34), (.string t35), (.pointer (some ⟨i16, (k17 + 2), none⟩)), (.int .u32 n22), (.int .u64 (IntKind.u64.wrap n22)), (.string t76), (.string t77), (.pointer (some ⟨i18, (k19 + 3), none⟩)), (.int .u64 n23), (.string t82), (.string t83), (.slice (some ⟨i70, 0, none⟩) (Int.toNat 39) 0), (.string t84), (.string t85), s49, s50, s51, s52, s53, s54] H79) (fun v81 H80 => R (.panic v81) H80)) ∧
 (wB2S (some ⟨i70, 0, none⟩) (Int.toNat 39) 0 H73 fun t86 =>
 wPin i18 (k19 + 3) [(.int .u64 n23)] H73 <|
 wPin i16 (k17 + 2) [(.int .u32 n22)] H73 <|
 wPin i14 (k15 + 1) [(.int .u32 n21)] H73 <|
 wPin i12 k13 [(.int .u32 n20)] H73 <|
 wCall Tryd.prog 23 [(.int .u64 n23), (.int .i64 8)] H73 (fun r87 H88 =>
 opS r87 fun t91 =>
 wPin i16 (k17 + 2) [(.int .u32 n22)] H88 <|
 wPin i14 (k15 + 1) [(.int .u32 n21)] H88 <|
 wPin i12 k13 [(.int .u32 n20)] H88 <|
 wCat t77 t91 fun t92 =>
 wCat t92 t86 fun t93 =>
 f19_J2 R [s0, (.pointer s1), s2, s3, (.string t93), s5, s6, s7, s8, s9, s10, s11, s12, s13, s14, s15, s16, s17, s18, s19, s20, s21, s22, s23, s24, s25, s26, (.pointer (some ⟨i12, k13, none⟩)), (.int .u32 n20), (.int .u64 (IntKind.u64.wrap n20)), (.string t28), (.string t29), (.pointer (some ⟨i14, (k15 + 1), none⟩)), (.int .u32 n21), (.int .u64 (IntKind.u64.wrap n21)), (.string t34), (.string t35), (.pointer (some ⟨i16, (k17 + 2), none⟩)), (.int .u32 n22), (.int .u64 (IntKind.u64.wrap n22)), (.string t76), (.string t77), (.pointer (some ⟨i18, (k19 + 3), none⟩)), (.int .u64 n23), (.string t91), (.string t92), (.slice (some ⟨i70, 0, none⟩) (Int.toNat 39) 0), (.string t86), (.string t93), s49, s50, s51, s52, s53, s54] H88) (fun v90 H89 => R (.panic v90) H89))) (fun v75 H74 => R (.panic v75) H74)) ∧
 (wB2S (some ⟨i70, 0, none⟩) (Int.toNat 39) 0 H71 fun t94 =>
 wPin i18 (k19 + 3) [(.int .u64 n23)] H71 <|
 wPin i16 (k17 + 2) [(.int .u32 n22)] H71 <|
 wPin i14 (k15 + 1) [(.int .u32 n21)] H71 <|
 wPin i12 k13 [(.int .u32 n20)] H71 <|
 wCall Tryd.prog 23 [(.int .u64 (IntKind.u64.wrap n22)), (.int .i64 4)] H71 (fun r95 H96 =>
 opS r95 fun t99 =>
 wPin i18 (k19 + 3) [(.int .u64 n23)] H96 <|
 wPin i16 (k17 + 2) [(.int .u32 n22)] H96 <|
 wPin i14 (k15 + 1) [(.int .u32 n21)] H96 <|
 wPin i12 k13 [(.int .u32 n20)] H96 <|
 wCat t35 t99 fun t100 =>
 wCall Tryd.prog 23 [(.int .u64 n23), (.int .i64 8)] H96 (fun r101 H102 =>
 opS r101 fun t105 =>
 wPin i16 (k17 + 2) [(.int .u32 n22)] H102 <|
 wPin i14 (k15 + 1) [(.int .u32 n21)] H102 <|
 wPin i12 k13 [(.int .u32 n20)] H102 <|
 wCat t100 t105 fun t106 =>
 wCat t106 t94 fun t107 =>
 f19_J2 R [s0, (.pointer s1), s2, s3, (.string t107), s5, s6, s7, s8, s9, s10, s11, s12, s13, s14, s15, s16, s17, s18, s19, s20, s21, s22, s23, s24, s25, s26, (.pointer (some ⟨i12, k13, none⟩)), (.int .u32 n20), (.int .u64 (IntKind.u64.wrap n20)), (.string t28), (.string t29), (.pointer (some ⟨i14, (k15 + 1), none⟩)), (.int .u32 n21), (.int .u64 (IntKind.u64.wrap n21)), (.string t34), (.string t35), (.pointer (some ⟨i16, (k17 + 2), none⟩)), (.int .u32 n22), (.int .u64 (IntKind.u64.wrap n22)), (.string t99), (.string t100), (.pointer (some ⟨i18, (k19 + 3), none⟩)), (.int .u64 n23), (.string t105), (.string t106), (.slice (some ⟨i70, 0, none⟩) (Int.toNat 39) 0), (.string t94), (.string t107), s49, s50, s51, s52, s53, s54] H102) (fun v104 H103 => R (.panic v104) H103)) (fun v98 H97 => R (.panic v98) H97)))) (fun v33 H32 => R (.panic v33) H32)) ∧
 (wMk [(.int .u8 0)] 1 1 39 39 H25 fun i108 H109 =>
 wPin i18 (k19 + 3) [(.int .u64 n23)] H109 <|
 wPin i16 (k17 + 2) [(.int .u32 n22)] H109 <|
 wPin i14 (k15 + 1) [(.int .u32 n21)] H109 <|
 wPin i12 k13 [(.int .u32 n20)] H109 <|
 (wCall Tryd.prog 23 [(.int .u64 (IntKind.u64.wrap n21)), (.int .i64 4)] H109 (fun r110 H111 =>
 opS r110 fun t114 =>
 wPin i18 (k19 + 3) [(.int .u64 n23)] H111 <|
 wPin i16 (k17 + 2) [(.int .u32 n22)] H111 <|
 wPin i14 (k15 + 1) [(.int .u32 n21)] H111 <|
 wPin i12 k13 [(.int .u32 n20)] H111 <|
 wCat t29 t114 fun t115 =>
 (wCall Tryd.prog 23 [(.int .u64 (IntKind.u64.wrap n22)), (.int .i64 4)] H111 (fun r116 H117 =>
 opS r116 fun t120 =>
 wPin i18 (k19 + 3) [(.int .u64 n23)] H117 <|
 wPin i16 (k17 + 2) [(.int .u32 n22)] H117 <|
 wPin i14 (k15 + 1) [(.int .u32 n21)] H117 <|
 wPin i12 k13 [(.int .u32 n20)] H117 <|
 wCat t115 t120 fun t121 =>
 (wCall Tryd.prog 23 [(.int .u64 n23), (.int .i64 8)] H117 (fun r122 H123 =>
 opS r122 fun t126 =>
 wPin i16 (k17 + 2) [(.int .u32 n22)] H123 <|
 wPin i14 (k15 + 1) [(.int .u32 n21)] H123 <|
 wPin i12 k13 [(.int .u32 n20)] H123 <|
 wCat t121 t126 fun t127 =>
 wB2S (some ⟨i108, 0, none⟩) (Int.toNat 39) 0 H123 fun t128 =>
 wPin i16 (k17 + 2) [(.int .u32 n22)] H123 <|
 wPin i14 (k15 + 1) [(.int .u32 n21)] H123 <|
 wPin i12 k13 [(.int .u32 n20)] H123 <|
 wCat t127 t128 fun t129 =>
 f19_J2 R [s0, (.pointer s1), s2, s3, (.string t129), s5, s6, s7, s8, s9, s10, s11, s12, s13, s14, s15, s16, s17, s18, s19, s20, s21, s22, s23, s24, s25, s26, (.pointer (some ⟨i12, k13, none⟩)), (.int .u32 n20), (.int .u64 (IntKind.u64.wrap n20)), (.string t28), (.string t29), (.pointer (some ⟨i14, (k15 + 1), none⟩)), (.int .u32 n21), (.int .u64 (IntKind.u64.wrap n21)), (.string t114), (.string t115), (.pointer (some ⟨i16, (k17 + 2), none⟩)), (.int .u32 n22), (.int .u64 (IntKind.u64.wrap n22)), (.string t120), (.string t121), (.pointer (some ⟨i18, (k19 + 3), none⟩)), (.int .u64 n23), (.string t126), (.string t127), (.slice (some ⟨i108, 0, none⟩) (Int.toNat 39) 0), (.string t128), (.string t129), s49, s50, s51, s52, s53, s54] H123) (fun v125 H124 => R (.panic v125) H124)) ∧
 (wB2S (some ⟨i108, 0, none⟩) (Int.toNat 39) 0 H117 fun t130 =>
 wPin i18 (k19 + 3) [(.int .u64 n23)] H117 <|
 wPin i16 (k17 + 2) [(.int .u32 n22)] H117 <|
 wPin i14 (k15 + 1) [(.int .u32 n21)] H117 <|
 wPin i12 k13 [(.int .u32 n20)] H117 <|
 wCall Tryd.prog 23 [(.int .u64 n23), (.int .i64 8)] H117 (fun r131 H132 =>
 opS r131 fun t135 =>
 wPin i16 (k17 + 2) [(.int .u32 n22)] H132 <|
 wPin i14 (k15 + 1) [(.int .u32 n21)] H132 <|
 wPin i12 k13 [(.int .u32 n20)] H132 <|
 wCat t121 t135 fun t136 =>
 wCat t136 t130 fun t137 =>
 f19_J2 R [s0, (.pointer s1), s2, s3, (.string t137), s5, s6, s7, s8, s9, s10, s11, s12, s13, s14, s15, s16, s17, s18, s19, s20, s21, s22, s23, s24, s25, s26, (.pointer (some ⟨i12, k13, none⟩)), (.int .u32 n20), (.int .u64 (IntKind.u64.wrap n20)), (.string t28), (.string t29), (.pointer (some ⟨i14, (k15 + 1), none⟩)), (.int .u32 n21), (.int .u64 (IntKind.u64.wrap n21)), (.string t114), (.string t115), (.pointer (some ⟨i16, (k17 + 2), none⟩)), (.int .u32 n22), (.int .u64 (IntKind.u64.wrap n22)), (.string t120), (.string t121), (.pointer (some ⟨i18, (k19 + 3), none⟩)), (.int .u64 n23), (.string t135), (.string t136), (.slice (some ⟨i108, 0, none⟩) (Int.toNat 39) 0), (.string t130), (.string t137), s49, s50, s51, s52, s53, s54] H132) (fun v134 H133 => R (.panic v134) H133))) (fun v119 H118 => R (.panic v119) H118)) ∧
 (wB2S (some ⟨i108, 0, none⟩) (Int.toNat 39) 0 H111 fun t138 =>
 wPin i18 (k19 + 3) [(.int .u64 n23)] H111 <|
 wPin i16 (k17 + 2) [(.int .u32 n22)] H111 <|
 wPin i14 (k15 + 1) [(.int .u32 n21)] H111 <|
 wPin i12 k13 [(.int .u32 n20)] H111 <|
 wCall Tryd.prog 23 [(.int .u64 (IntKind.u64.wrap n22)), (.int .i64 4)] H111 (fun r139 H140 =>
 opS r139 fun t143 =>
 wPin i18 (k19 + 3) [(.int .u64 n23)] H140 <|
 wPin i16 (k17 + 2) [(.int .u32 n22)] H140 <|
 wPin i14 (k15 + 1) [(.int .u32 n21)] H140 <|
 wPin i12 k13 [(.int .u32 n20)] H140 <|
 wCat t115 t143 fun t144 =>
 wCall Tryd.prog 23 [(.int .u64 n23), (.int .i64 8)] H140 (fun r145 H146 =>
 opS r145 fun t149 =>
 wPin i16 (k17 + 2) [(.int .u32 n22)] H146 <|
 wPin i14 (k15 + 1) [(.int .u32 n21)] H146 <|
 wPin i12 k13 [(.int .u32 n20)] H146 <|
 wCat t144 t149 fun t150 =>
 wCat t150 t138 fun t151 =>
 f19_J2 R [s0, (.pointer s1), s2, s3, (.string t151), s5, s6, s7, s8, s9, s10, s11, s12, s13, s14, s15, s16, s17, s18, s19, s20, s21, s22, s23, s24, s25, s26, (.pointer (some ⟨i12, k13, none⟩)), (.int .u32 n20), (.int .u64 (IntKind.u64.wrap n20)), (.string t28), (.string t29), (.pointer (some ⟨i14, (k15 + 1), none⟩)), (.int .u32 n21), (.int .u64 (IntKind.u64.wrap n21)), (.string t114), (.string t115), (.pointer (some ⟨i16, (k17 + 2), none⟩)), (.int .u32 n22), (.int .u64 (IntKind.u64.wrap n22)), (.string t143), (.string t144), (.pointer (some ⟨i18, (k19 + 3), none⟩)), (.int .u64 n23), (.string t149), (.string t150), (.slice (some ⟨i108, 0, none⟩) (Int.toNat 39) 0), (.string t138), (.string t151), s49, s50, s51, s52, s53, s54] H146) (fun v148 H147 => R (.panic v148) H147)) (fun v142 H141 => R (.panic v142) H141))) (fun v113 H112 => R (.panic v113) H112)) ∧
 (wB2S (some ⟨i108, 0, none⟩) (Int.toNat 39) 0 H109 fun t152 =>
 wPin i18 (k19 + 3) [(.int .u64 n23)] H109 <|
 wPin i16 (k17 + 2) [(.int .u32 n22)] H109 <|
 wPin i14 (k15 + 1) [(.int .u32 n21)] H109 <|
 wPin i12 k13 [(.int .u32 n20)] H109 <|
 wCall Tryd.prog 23 [(.int .u64 (IntKind.u64.wrap n21)), (.int .i64 4)] H109 (fun r153 H154 =>
 opS r153 fun t157 =>
 wPin i18 (k19 + 3) [(.int .u64 n23)] H154 <|
 wPin i16 (k17 + 2) [(.int .u32 n22)] H154 <|
 wPin i14 (k15 + 1) [(.int .u32 n21)] H154 <|
 wPin i12 k13 [(.int .u32 n20)] H154 <|
 wCat t29 t157 fun t158 =>
 wCall Tryd.prog 23 [(.int .u64 (IntKind.u64.wrap n22)), (.int .i64 4)] H154 (fun r159 H160 =>
 opS r159 fun t163 =>
 wPin i18 (k19 + 3) [(.int .u64 n23)] H160 <|
 wPin i16 (k17 + 2) [(.int .u32 n22)] H160 <|
 wPin i14 (k15 + 1) [(.int .u32 n21)] H160 <|
 wPin i12 k13 [(.int .u32 n20)] H160 <|
 wCat t158 t163 fun t164 =>
 wCall Tryd.prog 23 [(.int .u64 n23), (.int .i64 8)] H160 (fun r165 H166 =>
 opS r165 fun t169 =>
 wPin i16 (k17 + 2) [(.int .u32 n22)] H166 <|
 wPin i14 (k15 + 1) [(.int .u32 n21)] H166 <|
 wPin i12 k13 [(.int .u32 n20)] H166 <|
 wCat t164 t169 fun t170 =>
 wCat t170 t152 fun t171 =>
 f19_J2 R [s0, (.pointer s1), s2, s3, (.string t171), s5, s6, s7, s8, s9, s10, s11, s12, s13, s14, s15, s16, s17, s18, s19, s20, s21, s22, s23, s24, s25, s26, (.pointer (some ⟨i12, k13, none⟩)), (.int .u32 n20), (.int .u64 (IntKind.u64.wrap n20)), (.string t28), (.string t29), (.pointer (some ⟨i14, (k15 + 1), none⟩)), (.int .u32 n21), (.int .u64 (IntKind.u64.wrap n21)), (.string t157), (.string t158), (.pointer (some ⟨i16, (k17 + 2), none⟩)), (.int .u32 n22), (.int .u64 (IntKind.u64.wrap n22)), (.string t163), (.string t164), (.pointer (some ⟨i18, (k19 + 3), none⟩)), (.int .u64 n23), (.string t169), (.string t170), (.slice (some ⟨i108, 0, none⟩) (Int.toNat 39) 0), (.string t152), (.string t171), s49, s50, s51, s52, s53, s54] H166) (fun v168 H167 => R (.panic v168) H167)) (fun v162 H161 => R (.panic v162) H161)) (fun v156 H155 => R (.panic v156) H155)))) (fun v27 H26 => R (.panic v27) H26)) ∧
 (wMk [(.int .u8 0)] 1 1 39 39 H fun i172 H173 =>
 wPin i18 (k19 + 3) [(.int .u64 n23)] H173 <|
 wPin i16 (k17 + 2) [(.int .u32 n22)] H173 <|
 wPin i14 (k15 + 1) [(.int .u32 n21)] H173 <|
 wPin i12 k13 [(.int .u32 n20)] H173 <|
 (wCall Tryd.prog 23 [(.int .u64 (IntKind.u64.wrap n20)), (.int .i64 4)] H173 (fun r174 H175 =>
 opS r174 fun t178 =>
 wPin i18 (k19 + 3) [(.int .u64 n23)] H175 <|
 wPin i16 (k17 + 2) [(.int .u32 n22)] H175 <|
 wPin i14 (k15 + 1) [(.int .u32 n21)] H175 <|
 wPin i12 k13 [(.int .u32 n20)] H175 <|
 wCat ({ data := #[72] }) t178 fun t179 =>
 (wCall Tryd.prog 23 [(.int .u64 (IntKind.u64.wrap n21)), (.int .i64 4)] H175 (fun r180 H181 =>
 opS r180 fun t184 =>
 wPin i18 (k19 + 3) [(.int .u64 n23)] H181 <|
 wPin i16 (k17 + 2) [(.int .u32 n22)] H181 <|
 wPin i14 (k15 + 1) [(.int .u32 n21)] H181 <|
 wPin i12 k13 [(.int .u32 n20)] H181 <|
 wCat t179 t184 fun t185 =>
 (wCall Tryd.prog 23 [(.int .u64 (IntKind.u64.wrap n22)), (.int .i64 4)] H181 (fun r186 H187 =>
 opS r186 fun t190 =>
 wPin i18 (k19 + 3) [(.int .u64 n23)] H187 <|
 wPin i16 (k17 + 2) [(.int .u32 n22)] H187 <|
 wPin i14 (k15 + 1) [(.int .u32 n21)] H187 <|
 wPin i12 k13 [(.int .u32 n20)] H187 <|
 wCat t185 t190 fun t191 =>
 (wCall Tryd.prog 23 [(.int .u64 n23), (.int .i64 8)] H187 (fun r192 H193 =>
 opS r192 fun t196 =>
 wPin i16 (k17 + 2) [(.int .u32 n22)] H193 <|
 wPin i14 (k15 + 1) [(.int .u32 n21)] H193 <|
 wPin i12 k13 [(.int .u32 n20)] H193 <|
 wCat t191 t196 fun t197 =>
 wB2S (some ⟨i172, 0, none⟩) (Int.toNat 39) 0 H193 fun t198 =>
 wPin i16 (k17 + 2) [(.int .u32 n22)] H193 <|
 wPin i14 (k15 + 1) [(.int .u32 n21)] H193 <|
 wPin i12 k13 [(.int .u32 n20)] H193 <|
 wCat t197 t198 fun t199 =>
 f19_J2 R [s0, (.pointer s1), s2, s3, (.string t199), s5, s6, s7, s8, s9, s10, s11, s12, s13, s14, s15, s16, s17, s18, s19, s20, s21, s22, s23, s24, s25, s26, (.pointer (some ⟨i12, k13, none⟩)), (.int .u32 n20), (.int .u64 (IntKind.u64.wrap n20)), (.string t178), (.string t179), (.pointer (some ⟨i14, (k15 + 1), none⟩)), (.int .u32 n21), (.int .u64 (IntKind.u64.wrap n21)), (.string t184), (.string t185), (.pointer (some ⟨i16, (k17 + 2), none⟩)), (.int .u32 n22), (.int .u64 (IntKind.u64.wrap n22)), (.string t190), (.string t191), (.pointer (some ⟨i18, (k19 + 3), none⟩)), (.int .u64 n23), (.string t196), (.string t197), (.slice (some ⟨i172, 0, none⟩) (Int.toNat 39) 0), (.string t198), (.string t199), s49, s50, s51, s52, s53, s54] H193) (fun v195 H194 => R (.panic v195) H194)) ∧
 (wB2S (some ⟨i172, 0, none⟩) (Int.toNat 39) 0 H187 fun t200 =>
 wPin i18 (k19 + 3) [(.int .u64 n23)] H187 <|
 wPin i16 (k17 + 2) [(.int .u32 n22)] H187 <|
 wPin i14 (k15 + 1) [(.int .u32 n21)] H187 <|
 wPin i12 k13 [(.int .u32 n20)] H187 <|
 wCall Tryd.prog 23 [(.int .u64 n23), (.int .i64 8)] H187 (fun r201 H202 =>
 opS r201 fun t205 =>
 wPin i16 (k17 + 2) [(.int .u32 n22)] H202 <|
 wPin i14 (k15 + 1) [(.int .u32 n21)] H202 <|
 wPin i12 k13 [(.int .u32 n20)] H202 <|
 wCat t191 t205 fun t206 =>
 wCat t206 t200 fun t207 =>
 f19_J2 R [s0, (.pointer s1), s2, s3, (.string t207), s5, s6, s7, s8, s9, s10, s11, s12, s13, s14, s15, s16, s17, s18, s19, s20, s21, s22, s23, s24, s25, s26, (.pointer (some ⟨i12, k13, none⟩)), (.int .u32 n20), (.int .u64 (IntKind.u64.wrap n20)), (.string t178), (.string t179), (.pointer (some ⟨i14, (k15 + 1), none⟩)), (.int .u32 n21), (.int .u64 (IntKind.u64.wrap n21)), (.string t184), (.string t185), (.pointer (some ⟨i16, (k17 + 2), none⟩)), (.int .u32 n22), (.int .u64 (IntKind.u64.wrap n22)), (.string t190), (.string t191), (.pointer (some ⟨i18, (k19 + 3), none⟩)), (.int .u64 n23), (.string t205), (.string t206), (.slice (some ⟨i172, 0, none⟩) (Int.toNat 39) 0), (.string t200), (.string t207), s49, s50, s51, s52, s53, s54] H202) (fun v204 H203 => R (.panic v204) H203))) (fun v189 H188 => R (.panic v189) H188)) ∧
 (wB2S (some ⟨i172, 0, none⟩) (Int.toNat 39) 0 H181 fun t208 =>
 wPin i18 (k19 + 3) [(.int .u64 n23)] H181 <|
 wPin i16 (k17 + 2) [(.int .u32 n22)] H181 <|
 wPin i14 (k15 + 1) [(.int .u32 n21)] H181 <|
 wPin i12 k13 [(.int .u32 n20)] H181 <|
 wCall Tryd.prog 23 [(.int .u64 (IntKind.u64.wrap n22)), (.int .i64 4)] H181 (fun r209 H210 =>
 opS r209 fun t213 =>
 wPin i18 (k19 + 3) [(.int .u64 n23)] H210 <|
 wPin i16 (k17 + 2) [(.int .u32 n22)] H210 <|
 wPin i14 (k15 + 1) [(.int .u32 n21)] H210 <|
 wPin i12 k13 [(.int .u32 n20)] H210 <|
 wCat t185 t213 fun t214 =>
 wCall Tryd.prog 23 [(.int .u64 n23), (.int .i64 8)] H210 (fun r215 H216 =>
 opS r215 fun t219 =>
 wPin i16 (k17 + 2) [(.int .u32 n22)] H216 <|
 wPin i14 (k15 + 1) [(.int .u32 n21)] H216 <|
 wPin i12 k13 [(.int .u32 n20)] H216 <|
 wCat t214 t219 fun t220 =>
 wCat t220 t208 fun t221 =>
 f19_J2 R [s0, (.pointer s1), s2, s3, (.string t221), s5, s6, s7, s8, s9, s10, s11, s12, s13, s14, s15, s16, s17, s18, s19, s20, s21, s22, s23, s24, s25, s26, (.pointer (some ⟨i12, k13, none⟩)), (.int .u32 n20), (.int .u64 (IntKind.u64.wrap n20)), (.string t178), (.string t179), (.pointer (some ⟨i14, (k15 + 1), none⟩)), (.int .u32 n21), (.int .u64 (IntKind.u64.wrap n21)), (.string t184), (.string t185), (.pointer (some ⟨i16, (k17 + 2), none⟩)), (.int .u32 n22), (.int .u64 (IntKind.u64.wrap n22)), (.string t213), (.string t214), (.pointer (some ⟨i18, (k19 + 3), none⟩)), (.int .u64 n23), (.string t219), (.string t220), (.slice (some ⟨i172, 0, none⟩) (Int.toNat 39) 0), (.string t208), (.string t221), s49, s50, s51, s52, s53, s54] H216) (fun v218 H217 => R (.panic v218) H217)) (fun v212 H211 => R (.panic v212) H211))) (fun v183 H182 => R (.panic v183) H182)) ∧
 (wB2S (some ⟨i172, 0, none⟩) (Int.toNat 39) 0 H175 fun t222 =>
 wPin i18 (k19 + 3) [(.int .u64 n23)] H175 <|
 wPin i16 (k17 + 2) [(.int .u32 n22)] H175 <|
 wPin i14 (k15 + 1) [(.int .u32 n21)] H175 <|
 wPin i12 k13 [(.int .u32 n20)] H175 <|
 wCall Tryd.prog 23 [(.int .u64 (IntKind.u64.wrap n21)), (.int .i64 4)] H175 (fun r223 H224 =>
 opS r223 fun t227 =>
 wPin i18 (k19 + 3) [(.int .u64 n23)] H224 <|
 wPin i16 (k17 + 2) [(.int .u32 n22)] H224 <|
 wPin i14 (k15 + 1) [(.int .u32 n21)] H224 <|
 wPin i12 k13 [(.int .u32 n20)] H224 <|
 wCat t179 t227 fun t228 =>
 wCall Tryd.prog 23 [(.int .u64 (IntKind.u64.wrap n22)), (.int .i64 4)] H224 (fun r229 H230 =>
 opS r229 fun t233 =>
 wPin i18 (k19 + 3) [(.int .u64 n23)] H230 <|
 wPin i16 (k17 + 2) [(.int .u32 n22)] H230 <|
 wPin i14 (k15 + 1) [(.int .u32 n21)] H230 <|
 wPin i12 k13 [(.int .u32 n20)] H230 <|
 wCat t228 t233 fun t234 =>
 wCall Tryd.prog 23 [(.int .u64 n23), (.int .i64 8)] H230 (fun r235 H236 =>
 opS r235 fun t239 =>
 wPin i16 (k17 + 2) [(.int .u32 n22)] H236 <|
 wPin i14 (k15 + 1) [(.int .u32 n21)] H236 <|
 wPin i12 k13 [(.int .u32 n20)] H236 <|
 wCat t234 t239 fun t240 =>
 wCat t240 t222 fun t241 =>
 f19_J2 R [s0, (.pointer s1), s2, s3, (.string t241), s5, s6, s7, s8, s9, s10, s11, s12, s13, s14, s15, s16, s17, s18, s19, s20, s21, s22, s23, s24, s25, s26, (.pointer (some ⟨i12, k13, none⟩)), (.int .u32 n20), (.int .u64 (IntKind.u64.wrap n20)), (.string t178), (.string t179), (.pointer (some ⟨i14, (k15 + 1), none⟩)), (.int .u32 n21), (.int .u64 (IntKind.u64.wrap n21)), (.string t227), (.string t228), (.pointer (some ⟨i16, (k17 + 2), none⟩)), (.int .u32 n22), (.int .u64 (IntKind.u64.wrap n22)), (.string t233), (.string t234), (.pointer (some ⟨i18, (k19 + 3), none⟩)), (.int .u64 n23), (.string t239), (.string t240), (.slice (some ⟨i172, 0, none⟩) (Int.toNat 39) 0), (.string t222), (.string t241), s49, s50, s51, s52, s53, s54] H236) (fun v238 H237 => R (.panic v238) H237)) (fun v232 H231 => R (.panic v232) H231)) (fun v226 H225 => R (.panic v226) H225))) (fun v177 H176 => R (.panic v177) H176)) ∧
 (wB2S (some ⟨i172, 0, none⟩) (Int.toNat 39) 0 H173 fun t242 =>
 wPin i18 (k19 + 3) [(.int .u64 n23)] H173 <|
 wPin i16 (k17 + 2) [(.int .u32 n22)] H173 <|
 wPin i14 (k15 + 1) [(.int .u32 n21)] H173 <|
 wPin i12 k13 [(.int .u32 n20)] H173 <|
 wCall Tryd.prog 23 [(.int .u64 (IntKind.u64.wrap n20)), (.int .i64 4)] H173 (fun r243 H244 =>
 opS r243 fun t247 =>
 wPin i18 (k19 + 3) [(.int .u64 n23)] H244 <|
 wPin i16 (k17 + 2) [(.int .u32 n22)] H244 <|
 wPin i14 (k15 + 1) [(.int .u32 n21)] H244 <|
 wPin i12 k13 [(.int .u32 n20)] H244 <|
 wCat ({ data := #[72] }) t247 fun t248 =>
 wCall Tryd.prog 23 [(.int .u64 (IntKind.u64.wrap n21)), (.int .i64 4)] H244 (fun r249 H250 =>
 opS r249 fun t253 =>
 wPin i18 (k19 + 3) [(.int .u64 n23)] H250 <|
 wPin i16 (k17 + 2) [(.int .u32 n22)] H250 <|
 wPin i14 (k15 + 1) [(.int .u32 n21)] H250 <|
 wPin i12 k13 [(.int .u32 n20)] H250 <|
 wCat t248 t253 fun t254 =>
 wCall Tryd.prog 23 [(.int .u64 (IntKind.u64.wrap n22)), (.int .i64 4)] H250 (fun r255 H256 =>
 opS r255 fun t259 =>
 wPin i18 (k19 + 3) [(.int .u64 n23)] H256 <|
 wPin i16 (k17 + 2) [(.int .u32 n22)] H256 <|
 wPin i14 (k15 + 1) [(.int .u32 n21)] H256 <|
 wPin i12 k13 [(.int .u32 n20)] H256 <|
 wCat t254 t259 fun t260 =>
 wCall Tryd.prog 23 [(.int .u64 n23), (.int .i64 8)] H256 (fun r261 H262 =>
 opS r261 fun t265 =>
 wPin i16 (k17 + 2) [(.int .u32 n22)] H262 <|
 wPin i14 (k15 + 1) [(.int .u32 n21)] H262 <|
 wPin i12 k13 [(.int .u32 n20)] H262 <|
 wCat t260 t265 fun t266 =>
 wCat t266 t242 fun t267 =>
 f19_J2 R [s0, (.pointer s1), s2, s3, (.string t267), s5, s6, s7, s8, s9, s10, s11, s12, s13, s14, s15, s16, s17, s18, s19, s20, s21, s22, s23, s24, s25, s26, (.pointer (some ⟨i12, k13, none⟩)), (.int .u32 n20), (.int .u64 (IntKind.u64.wrap n20)), (.string t247), (.string t248), (.pointer (some ⟨i14, (k15 + 1), none⟩)), (.int .u32 n21), (.int .u64 (IntKind.u64.wrap n21)), (.string t253), (.string t254), (.pointer (some ⟨i16, (k17 + 2), none⟩)), (.int .u32 n22), (.int .u64 (IntKind.u64.wrap n22)), (.string t259), (.string t260), (.pointer (some ⟨i18, (k19 + 3), none⟩)), (.int .u64 n23), (.string t265), (.string t266), (.slice (some ⟨i172, 0, none⟩) (Int.toNat 39) 0), (.string t242), (.string t267), s49, s50, s51, s52, s53, s54] H262) (fun v264 H263 => R (.panic v264) H263)) (fun v258 H257 => R (.panic v258) H257)) (fun v252 H251 => R (.panic v252) H251)) (fun v246 H245 => R (.panic v246) H245)))
theorem f19_J1_eq (s0 : Value) (s1 : Option Addr) (s2 : Value) (s3 : Value) (s4 : Value) (s5 : Value) (s6 : Value) (s7 : Value) (s8 : Value) (s9 : Value) (s10 : Value) (s11 : Value) (s12 : Value) (s13 : Value) (s14 : Value) (s15 : Value) (s16 : Value) (s17 : Value) (s18 : Value) (s19 : Value) (s20 : Value) (s21 : Value) (s22 : Value) (s23 : Value) (s24 : Value) (s25 : Value) (s26 : Value) (s27 : Value) (s28 : Value) (s29 : Value) (s30 : Value) (s31 : Value) (s32 : Value) (s33 : Value) (s34 : Value) (s35 : Value) (s36 : Value) (s37 : Value) (s38 : Value) (s39 : Value) (s40 : Value) (s41 : Value) (s42 : Value) (s43 : Value) (s44 : Value) (s45 : Value) (s46 : Value) (s47 : Value) (s48 : Value) (s49 : Value) (s50 : Value) (s51 : Value) (s52 : Value) (s53 : Value) (s54 : Value) (H : AH) (R : AEnd → AH → Prop) : f19_J1 R [s0, (.pointer s1), s2, s3, s4, s5, s6, s7, s8, s9, s10, s11, s12, s13, s14, s15, s16, s17, s18, s19, s20, s21, s22, s23, s24, s25, s26, s27, s28, s29, s30, s31, s32, s33, s34, s35, s36, s37, s38, s39, s40, s41, s42, s43, s44, s45, s46, s47, s48, s49, s50, s51, s52, s53, s54] H = f19_J1_B s0 s1 s2 s3 s5 s6 s7 s8 s9 s10 s11 s12 s13 s14 s15 s16 s17 s18 s19 s20 s21 s22 s23 s24 s25 s26 s49 s50 s51 s52 s53 s54 H R := by kernel_rfl
-- join 0: live 1:h, 26:
def f19_J0_B (s0 : Value) (s1 : Option Addr) (s2 : Value) (s3 : Value) (s4 : Value) (s5 : Value) (s6 : Value) (s7 : Value) (s8 : Value) (s9 : Value) (s10 : Value) (s11 : Value) (s12 : Value) (s13 : Value) (s14 : Value) (s15 : Value) (s16 : Value) (s17 : Value) (s18 : Value) (s19 : Value) (s20 : Value) (s21 : Value) (s22 : Value) (s23 : Value) (s24 : Value) (s25 : Value) (s26 : Bool) (s27 : Value) (s28 : Value) (s29 : Value) (s30 : Value) (s31 : Value) (s32 : Value) (s33 : Value) (s34 : Value) (s35 : Value) (s36 : Value) (s37 : Value) (s38 : Value) (s39 : Value) (s40 : Value) (s41 : Value) (s42 : Value) (s43 : Value) (s44 : Value) (s45 : Value) (s46 : Value) (s47 : Value) (s48 : Value) (s49 : Value) (s50 : Value) (s51 : Value) (s52 : Value) (s53 : Value) (s54 : Value) (H : AH) (R : AEnd → AH → Prop) : Prop :=
 wIf s26
 (R (.ret (.tuple #[(.string ({ data := #[] })), (.int .i64 2)])) H)
 (f19_J1 R [s0, (.pointer s1), s2, s3, s4, s5, s6, s7, s8, s9, s10, s11, s12, s13, s14, s15, s16, s17, s18, s19, s20, s21, s22, s23, s24, s25, (.bool false), s27, s28, s29, s30, s31, s32, s33, s34, s35, s36, s37, s38, s39, s40, s41, s42, s43, s44, s45, s46, s47, s48, s49, s50, s51, s52, s53, s54] H)
theorem f19_J0_eq (s0 : Value) (s1 : Option Addr) (s2 : Value) (s3 : Value) (s4 : Value) (s5 : Value) (s6 : Value) (s7 : Value) (s8 : Value) (s9 : Value) (s10 : Value) (s11 : Value) (s12 : Value) (s13 : Value) (s14 : Value) (s15 : Value) (s16 : Value) (s17 : Value) (s18 : Value) (s19 : Value) (s20 : Value) (s21 : Value) (s22 : Value) (s23 : Value) (s24 : Value) (s25 : Value) (s26 : Bool) (s27 : Value) (s28 : Value) (s29 : Value) (s30 : Value) (s31 : Value) (s32 : Value) (s33 : Value) (s34 : Value) (s35 : Value) (s36 : Value) (s37 : Value) (s38 : Value) (s39 : Value) (s40 : Value) (s41 : Value) (s42 : Value) (s43 : Value) (s44 : Value) (s45 : Value) (s46 : Value) (s47 : Value) (s48 : Value) (s49 : Value) (s50 : Value) (s51 : Value) (s52 : Value) (s53 : Value) (s54 : Value) (H : AH) (R : AEnd → AH → Prop) : f19_J0 R [s0, (.pointer s1), s2, s3, s4, s5, s6, s7, s8, s9, s10, s11, s12, s13, s14, s15, s16, s17, s18, s19, s20, s21, s22, s23, s24, s25, (.bool s26), s27, s28, s29, s30, s31, s32, s33, s34, s35, s36, s37, s38, s39, s40, s41, s42, s43, s44, s45, s46, s47, s48, s49, s50, s51, s52, s53, s54] H = f19_J0_B s0 s1 s2 s3 s4 s5 s6 s7 s8 s9 s10 s11 s12 s13 s14 s15 s16 s17 s18 s19 s20 s21 s22 s23 s24 s25 s26 s27 s28 s29 s30 s31 s32 s33 s34 s35 s36 s37 s38 s39 s40 s41 s42 s43 s44 s45 s46 s47 s48 s49 s50 s51 s52 s53 s54 H R := by kernel_rfl
def f19_B (x0_0 : Int) (x0_1 : Int) (x0_2 : Int) (x0_3 : Int) (H : AH) (R : AEnd → AH → Prop) : Prop :=
 wNew [(.int .u32 x0_0), (.int .u32 x0_1), (.int .u32 x0_2), (.int .u64 x0_3)] H fun i268 H269 =>
 ldI .u32 i268 0 H269 fun n270 =>
 wIf (decide (n270 < 1))
 (f19_J0 R [(.agg #[(.int .u32 x0_0), (.int .u32 x0_1), (.int .u32 x0_2), (.int .u64 x0_3)]), (.pointer (some ⟨i268, 0, none⟩)), (.string ({ data := #[] })), (.int .i64 0), undef, (.pointer (some ⟨i268, 0, none⟩)), (.int .u32 n270), (.bool (decide (n270 < 1))), (.bool true), undef, undef, undef, (.bool true), (.bool true), undef, undef, undef, undef, undef, (.bool true), (.bool true), undef, undef, undef, undef, undef, (.bool true), undef, undef, undef, undef, undef, undef, undef, undef, undef, undef, undef, undef, undef, undef, undef, undef, undef, undef, undef, undef, undef, undef, undef, undef, undef, undef, undef, undef] H269)
 (ldI .u32 i268 1 H269 fun n271 =>
 wIf (decide (n271 < 1))
 (f19_J0 R [(.agg #[(.int .u32 x0_0), (.int .u32 x0_1), (.int .u32 x0_2), (.int .u64 x0_3)]), (.pointer (some ⟨i268, 0, none⟩)), (.string ({ data := #[] })), (.int .i64 0), undef, (.pointer (some ⟨i268, 0, none⟩)), (.int .u32 n270), (.bool (decide (n270 < 1))), (.bool false), (.pointer (some ⟨i268, 1, none⟩)), (.int .u32 n271), (.bool (decide (n271 < 1))), (.bool (decide (n271 < 1))), (.bool true), undef, undef, undef, undef, undef, (.bool true), (.bool true), undef, undef, undef, undef, undef, (.bool true), undef, undef, undef, undef, undef, undef, undef, undef, undef, undef, undef, undef, undef, undef, undef, undef, undef, undef, undef, undef, undef, undef, undef, undef, undef, undef, undef, undef] H269)
 (ldI .u32 i268 1 H269 fun n272 =>
 ldI .u32 i268 0 H269 fun n273 =>
 wIf (decide (n272 > n273))
 (f19_J0 R [(.agg #[(.int .u32 x0_0), (.int .u32 x0_1), (.int .u32 x0_2), (.int .u64 x0_3)]), (.pointer (some ⟨i268, 0, none⟩)), (.string ({ data := #[] })), (.int .i64 0), undef, (.pointer (some ⟨i268, 0, none⟩)), (.int .u32 n270), (.bool (decide (n270 < 1))), (.bool false), (.pointer (some ⟨i268, 1, none⟩)), (.int .u32 n271), (.bool (decide (n271 < 1))), (.bool (decide (n271 < 1))), (.bool false), (.pointer (some ⟨i268, 1, none⟩)), (.int .u32 n272), (.pointer (some ⟨i268, 0, none⟩)), (.int .u32 n273), (.bool (decide (n272 > n273))), (.bool (decide (n272 > n273))), (.bool true), undef, undef, undef, undef, undef, (.bool true), undef, undef, undef, undef, undef, undef, undef, undef, undef, undef, undef, undef, undef, undef, undef, undef, undef, undef, undef, undef, undef, undef, undef, undef, undef, undef, undef, undef] H269)
 (ldI .u32 i268 2 H269 fun n274 =>
 ldI .u32 i268 0 H269 fun n275 =>
 f19_J0 R [(.agg #[(.int .u32 x0_0), (.int .u32 x0_1), (.int .u32 x0_2), (.int .u64 x0_3)]), (.pointer (some ⟨i268, 0, none⟩)), (.string ({ data := #[] })), (.int .i64 0), undef, (.pointer (some ⟨i268, 0, none⟩)), (.int .u32 n270), (.bool (decide (n270 < 1))), (.bool false), (.pointer (some ⟨i268, 1, none⟩)), (.int .u32 n271), (.bool (decide (n271 < 1))), (.bool (decide (n271 < 1))), (.bool false), (.pointer (some ⟨i268, 1, none⟩)), (.int .u32 n272), (.pointer (some ⟨i268, 0, none⟩)), (.int .u32 n273), (.bool (decide (n272 > n273))), (.bool (decide (n272 > n273))), (.bool false), (.pointer (some ⟨i268, 2, none⟩)), (.int .u32 n274), (.pointer (some ⟨i268, 0, none⟩)), (.int .u32 n275), (.bool (decide (n274 ≥ n275))), (.bool (decide (n274 ≥ n275))), undef, undef, undef, undef, undef, undef, undef, undef, undef, undef, undef, undef, undef, undef, undef, undef, undef, undef, undef, undef, undef, undef, undef, undef, undef, undef, undef, undef] H269)))
theorem f19_eq (x0_0 : Int) (x0_1 : Int) (x0_2 : Int) (x0_3 : Int) (H : AH) (R : AEnd → AH → Prop) : awpF Tryd.prog f19_c (aPost Tryd.prog Tryd.f19 R) (([(.agg #[(.int .u32 x0_0), (.int .u32 x0_1), (.int .u32 x0_2), (.int .u64 x0_3)])] : List Value) ++ List.replicate (Tryd.f19.ntmps - (([(.agg #[(.int .u32 x0_0), (.int .u32 x0_1), (.int .u32 x0_2), (.int .u64 x0_3)])] : List Value)).length) undef) H = f19_B x0_0 x0_1 x0_2 x0_3 H R := by kernel_rfl
theorem f19_call (x0_0 : Int) (x0_1 : Int) (x0_2 : Int) (x0_3 : Int) (H : AH) (R : AEnd → AH → Prop) (h : f19_B x0_0 x0_1 x0_2 x0_3 H R) : ACall Tryd.prog 19 ([(.agg #[(.int .u32 x0_0), (.int .u32 x0_1), (.int .u32 x0_2), (.int .u64 x0_3)])] : List Value) H R :=
  acall_of mixed Tryd.func19 (by kernel_rfl : Tryd.f19.body = some f19_c) (by kernel_rfl) (by kernel_rfl) (awp_of (Eq.mpr (f19_eq x0_0 x0_1 x0_2 x0_3 H R) h))

end Go.Proofs.YtnjhcnefgeodcaaDoor
