/- Bodies of functions as nested rules: printed by gen.py, a program of this claim. -/
import Derived.Test.YtmidgfmopmpppaaVTy
import Derived.Test.YtmidgfmopmpppaaVAbsK
namespace Go.Proofs.Ytmidgfmopmpppaa
open Go.RowKit
set_option linter.unusedVariables false
set_option maxRecDepth 100000

/-! f11: switchyard/switchyardlaw02.PackOne -/
noncomputable def f11_c : Code := Try.f11.body.getD .skip
def f11_J0 (R : AEnd → AH → Prop) (tm : List Value) (H : AH) : Prop := hold (awpF Try.prog (codeAt f11_c [1, 1, 1, 1, 1, 0, 1]) (ctxF Try.prog f11_c [1, 1, 1, 1, 1, 0, 1] (aPost Try.f11 R)) tm H)
def f11_J1 (R : AEnd → AH → Prop) (tm : List Value) (H : AH) : Prop := hold (awpF Try.prog (codeAt f11_c [1, 1, 1, 1, 1, 1]) (ctxF Try.prog f11_c [1, 1, 1, 1, 1, 1] (aPost Try.f11 R)) tm H)
-- join 1: live slots 1:o, 7:., 10:A, 104:?, 105:?, 106:?
def f11_J1_A (R : AEnd → AH → Prop) (G : Value → Value → Value → Value → Value → Value → AH → Prop) : Prop := ∀ (s0 s1 s2 s3 s4 s5 s6 s7 s8 s9 s10 s11 s12 s13 s14 s15 s16 s17 s18 s19 s20 s21 s22 s23 s24 s25 s26 s27 s28 s29 s30 s31 s32 s33 s34 s35 s36 s37 s38 s39 s40 s41 s42 s43 s44 s45 s46 s47 s48 s49 s50 s51 s52 s53 s54 s55 s56 s57 s58 s59 s60 s61 s62 s63 s64 s65 s66 s67 s68 s69 s70 s71 s72 s73 s74 s75 s76 s77 s78 s79 s80 s81 s82 s83 s84 s85 s86 s87 s88 s89 s90 s91 s92 s93 s94 s95 s96 s97 s98 s99 s100 s101 s102 s103 s104 s105 s106 s107 : Value) (H : AH), G s1 s7 s10 s104 s105 s106 H → f11_J1 R [s0, s1, s2, s3, s4, s5, s6, s7, s8, s9, s10, s11, s12, s13, s14, s15, s16, s17, s18, s19, s20, s21, s22, s23, s24, s25, s26, s27, s28, s29, s30, s31, s32, s33, s34, s35, s36, s37, s38, s39, s40, s41, s42, s43, s44, s45, s46, s47, s48, s49, s50, s51, s52, s53, s54, s55, s56, s57, s58, s59, s60, s61, s62, s63, s64, s65, s66, s67, s68, s69, s70, s71, s72, s73, s74, s75, s76, s77, s78, s79, s80, s81, s82, s83, s84, s85, s86, s87, s88, s89, s90, s91, s92, s93, s94, s95, s96, s97, s98, s99, s100, s101, s102, s103, s104, s105, s106, s107] H
def f11_J1_B (s0 s1 s2 s3 s4 s5 s6 s7 s8 s9 s10 s11 s12 s13 s14 s15 s16 s17 s18 s19 s20 s21 s22 s23 s24 s25 s26 s27 s28 s29 s30 s31 s32 s33 s34 s35 s36 s37 s38 s39 s40 s41 s42 s43 s44 s45 s46 s47 s48 s49 s50 s51 s52 s53 s54 s55 s56 s57 s58 s59 s60 s61 s62 s63 s64 s65 s66 s67 s68 s69 s70 s71 s72 s73 s74 s75 s76 s77 s78 s79 s80 s81 s82 s83 s84 s85 s86 s87 s88 s89 s90 s91 s92 s93 s94 s95 s96 s97 s98 s99 s100 s101 s102 s103 s104 s105 s106 s107 : Value) (H : AH) (R : AEnd → AH → Prop) : Prop :=
 aCall Try.prog (.func (.func 31) #[] #[]) [s7] H (fun v1 H2 =>
 aBin Try.prog .neq 46 v1 (Go.Value.int Go.IntKind.i64 0) fun v3 =>
 aIf v3
 (aCall Try.prog (.func (.func 19) #[] #[]) [] H2 (fun v4 H5 =>
 R (.ret v4) H5) (fun v7 H6 => R (.panic v7) H6))
 (aCall Try.prog (.func (.func 24) #[] #[]) [s10] H2 (fun v8 H9 =>
 aConvert Try.prog 3 31 s1 H9 fun v10 H11 =>
 aBuiltin Try.prog .len [9] [v8] H11 fun v12 H13 =>
 aConvert Try.prog 3 31 v12 H13 fun v14 H15 =>
 aBin Try.prog .rem 31 v10 v14 fun v16 =>
 aConvert Try.prog 31 3 v16 H15 fun v17 H18 =>
 aSlice Try.prog 9 v8 none (some v17) none H18 fun v19 =>
 aCall Try.prog (.func (.func 27) #[] #[]) [v19] H18 (fun v20 H21 =>
 aBuiltin Try.prog .len [9] [v8] H21 fun v22 H23 =>
 aCall Try.prog (.func (.func 30) #[] #[]) [v20, v22] H23 (fun v24 H25 =>
 aCall Try.prog (.func (.func 19) #[] #[]) [] H25 (fun v26 H27 =>
 aIf v26
 (aCall Try.prog (.func (.func 31) #[] #[]) [v20] H27 (fun v28 H29 =>
 aBin Try.prog .eql 46 v28 (Go.Value.int Go.IntKind.i64 3) fun v30 =>
 R (.ret v30) H29) (fun v33 H32 => R (.panic v33) H32))
 (R (.ret (.bool false)) H27)) (fun v36 H35 => R (.panic v36) H35)) (fun v38 H37 => R (.panic v38) H37)) (fun v40 H39 => R (.panic v40) H39)) (fun v42 H41 => R (.panic v42) H41))) (fun v44 H43 => R (.panic v44) H43)
theorem f11_J1_eq (s0 s1 s2 s3 s4 s5 s6 s7 s8 s9 s10 s11 s12 s13 s14 s15 s16 s17 s18 s19 s20 s21 s22 s23 s24 s25 s26 s27 s28 s29 s30 s31 s32 s33 s34 s35 s36 s37 s38 s39 s40 s41 s42 s43 s44 s45 s46 s47 s48 s49 s50 s51 s52 s53 s54 s55 s56 s57 s58 s59 s60 s61 s62 s63 s64 s65 s66 s67 s68 s69 s70 s71 s72 s73 s74 s75 s76 s77 s78 s79 s80 s81 s82 s83 s84 s85 s86 s87 s88 s89 s90 s91 s92 s93 s94 s95 s96 s97 s98 s99 s100 s101 s102 s103 s104 s105 s106 s107 : Value) (H : AH) (R : AEnd → AH → Prop) : f11_J1 R [s0, s1, s2, s3, s4, s5, s6, s7, s8, s9, s10, s11, s12, s13, s14, s15, s16, s17, s18, s19, s20, s21, s22, s23, s24, s25, s26, s27, s28, s29, s30, s31, s32, s33, s34, s35, s36, s37, s38, s39, s40, s41, s42, s43, s44, s45, s46, s47, s48, s49, s50, s51, s52, s53, s54, s55, s56, s57, s58, s59, s60, s61, s62, s63, s64, s65, s66, s67, s68, s69, s70, s71, s72, s73, s74, s75, s76, s77, s78, s79, s80, s81, s82, s83, s84, s85, s86, s87, s88, s89, s90, s91, s92, s93, s94, s95, s96, s97, s98, s99, s100, s101, s102, s103, s104, s105, s106, s107] H = f11_J1_B s0 s1 s2 s3 s4 s5 s6 s7 s8 s9 s10 s11 s12 s13 s14 s15 s16 s17 s18 s19 s20 s21 s22 s23 s24 s25 s26 s27 s28 s29 s30 s31 s32 s33 s34 s35 s36 s37 s38 s39 s40 s41 s42 s43 s44 s45 s46 s47 s48 s49 s50 s51 s52 s53 s54 s55 s56 s57 s58 s59 s60 s61 s62 s63 s64 s65 s66 s67 s68 s69 s70 s71 s72 s73 s74 s75 s76 s77 s78 s79 s80 s81 s82 s83 s84 s85 s86 s87 s88 s89 s90 s91 s92 s93 s94 s95 s96 s97 s98 s99 s100 s101 s102 s103 s104 s105 s106 s107 H R := by kernel_rfl
-- join 0: live slots 1:o, 7:., 10:A, 81:?, 104:?, 105:?, 106:?
def f11_J0_A (R : AEnd → AH → Prop) (G : Value → Value → Value → Value → Value → Value → Value → AH → Prop) : Prop := ∀ (s0 s1 s2 s3 s4 s5 s6 s7 s8 s9 s10 s11 s12 s13 s14 s15 s16 s17 s18 s19 s20 s21 s22 s23 s24 s25 s26 s27 s28 s29 s30 s31 s32 s33 s34 s35 s36 s37 s38 s39 s40 s41 s42 s43 s44 s45 s46 s47 s48 s49 s50 s51 s52 s53 s54 s55 s56 s57 s58 s59 s60 s61 s62 s63 s64 s65 s66 s67 s68 s69 s70 s71 s72 s73 s74 s75 s76 s77 s78 s79 s80 s81 s82 s83 s84 s85 s86 s87 s88 s89 s90 s91 s92 s93 s94 s95 s96 s97 s98 s99 s100 s101 s102 s103 s104 s105 s106 s107 : Value) (H : AH), G s1 s7 s10 s81 s104 s105 s106 H → f11_J0 R [s0, s1, s2, s3, s4, s5, s6, s7, s8, s9, s10, s11, s12, s13, s14, s15, s16, s17, s18, s19, s20, s21, s22, s23, s24, s25, s26, s27, s28, s29, s30, s31, s32, s33, s34, s35, s36, s37, s38, s39, s40, s41, s42, s43, s44, s45, s46, s47, s48, s49, s50, s51, s52, s53, s54, s55, s56, s57, s58, s59, s60, s61, s62, s63, s64, s65, s66, s67, s68, s69, s70, s71, s72, s73, s74, s75, s76, s77, s78, s79, s80, s81, s82, s83, s84, s85, s86, s87, s88, s89, s90, s91, s92, s93, s94, s95, s96, s97, s98, s99, s100, s101, s102, s103, s104, s105, s106, s107] H
def f11_J0_B (s0 s1 s2 s3 s4 s5 s6 s7 s8 s9 s10 s11 s12 s13 s14 s15 s16 s17 s18 s19 s20 s21 s22 s23 s24 s25 s26 s27 s28 s29 s30 s31 s32 s33 s34 s35 s36 s37 s38 s39 s40 s41 s42 s43 s44 s45 s46 s47 s48 s49 s50 s51 s52 s53 s54 s55 s56 s57 s58 s59 s60 s61 s62 s63 s64 s65 s66 s67 s68 s69 s70 s71 s72 s73 s74 s75 s76 s77 s78 s79 s80 s81 s82 s83 s84 s85 s86 s87 s88 s89 s90 s91 s92 s93 s94 s95 s96 s97 s98 s99 s100 s101 s102 s103 s104 s105 s106 s107 : Value) (H : AH) (R : AEnd → AH → Prop) : Prop :=
 aIf s81
 (R (.ret (.bool false)) H)
 (f11_J1 R [s0, s1, s2, s3, s4, s5, s6, s7, s8, s9, s10, s11, s12, s13, s14, s15, s16, s17, s18, s19, s20, s21, s22, s23, s24, s25, s26, s27, s28, s29, s30, s31, s32, s33, s34, s35, s36, s37, s38, s39, s40, s41, s42, s43, s44, s45, s46, s47, s48, s49, s50, s51, s52, s53, s54, s55, s56, s57, s58, s59, s60, s61, s62, s63, s64, s65, s66, s67, s68, s69, s70, s71, s72, s73, s74, s75, s76, s77, s78, s79, s80, (.bool false), s82, s83, s84, s85, s86, s87, s88, s89, s90, s91, s92, s93, s94, s95, s96, s97, s98, s99, s100, s101, s102, s103, s104, s105, s106, s107] H)
theorem f11_J0_eq (s0 s1 s2 s3 s4 s5 s6 s7 s8 s9 s10 s11 s12 s13 s14 s15 s16 s17 s18 s19 s20 s21 s22 s23 s24 s25 s26 s27 s28 s29 s30 s31 s32 s33 s34 s35 s36 s37 s38 s39 s40 s41 s42 s43 s44 s45 s46 s47 s48 s49 s50 s51 s52 s53 s54 s55 s56 s57 s58 s59 s60 s61 s62 s63 s64 s65 s66 s67 s68 s69 s70 s71 s72 s73 s74 s75 s76 s77 s78 s79 s80 s81 s82 s83 s84 s85 s86 s87 s88 s89 s90 s91 s92 s93 s94 s95 s96 s97 s98 s99 s100 s101 s102 s103 s104 s105 s106 s107 : Value) (H : AH) (R : AEnd → AH → Prop) : f11_J0 R [s0, s1, s2, s3, s4, s5, s6, s7, s8, s9, s10, s11, s12, s13, s14, s15, s16, s17, s18, s19, s20, s21, s22, s23, s24, s25, s26, s27, s28, s29, s30, s31, s32, s33, s34, s35, s36, s37, s38, s39, s40, s41, s42, s43, s44, s45, s46, s47, s48, s49, s50, s51, s52, s53, s54, s55, s56, s57, s58, s59, s60, s61, s62, s63, s64, s65, s66, s67, s68, s69, s70, s71, s72, s73, s74, s75, s76, s77, s78, s79, s80, s81, s82, s83, s84, s85, s86, s87, s88, s89, s90, s91, s92, s93, s94, s95, s96, s97, s98, s99, s100, s101, s102, s103, s104, s105, s106, s107] H = f11_J0_B s0 s1 s2 s3 s4 s5 s6 s7 s8 s9 s10 s11 s12 s13 s14 s15 s16 s17 s18 s19 s20 s21 s22 s23 s24 s25 s26 s27 s28 s29 s30 s31 s32 s33 s34 s35 s36 s37 s38 s39 s40 s41 s42 s43 s44 s45 s46 s47 s48 s49 s50 s51 s52 s53 s54 s55 s56 s57 s58 s59 s60 s61 s62 s63 s64 s65 s66 s67 s68 s69 s70 s71 s72 s73 s74 s75 s76 s77 s78 s79 s80 s81 s82 s83 s84 s85 s86 s87 s88 s89 s90 s91 s92 s93 s94 s95 s96 s97 s98 s99 s100 s101 s102 s103 s104 s105 s106 s107 H R := by kernel_rfl
def f11_B (x0 x1 : Value) (H : AH) (R : AEnd → AH → Prop) : Prop :=
 aCall Try.prog (.func (.func 19) #[] #[]) [] H (fun v45 H46 =>
 aUn .not v45 fun v47 =>
 aIf v47
 (R (.ret (.bool false)) H46)
 (aBuiltin Try.prog .len [9] [x0] H46 fun v48 H49 =>
 aBin Try.prog .gtr 3 v48 (Go.Value.int Go.IntKind.i64 20000) fun v50 =>
 aIf v50
 (aCall Try.prog (.func (.func 19) #[] #[]) [] H49 (fun v51 H52 =>
 R (.ret v51) H52) (fun v54 H53 => R (.panic v54) H53))
 (aCall Try.prog (.func (.func 27) #[] #[]) [x0] H49 (fun v55 H56 =>
 aCall Try.prog (.func (.func 27) #[] #[]) [x0] H56 (fun v57 H58 =>
 aCall Try.prog (.func (.func 27) #[] #[]) [x0] H58 (fun v59 H60 =>
 aCall Try.prog (.func (.func 28) #[] #[]) [v55] H60 (fun v61 H62 =>
 aCall Try.prog (.func (.func 29) #[] #[]) [v57] H62 (fun v63 H64 =>
 aBuiltin Try.prog .len [9] [x0] H64 fun v65 H66 =>
 aCall Try.prog (.func (.func 30) #[] #[]) [v59, v65] H66 (fun v67 H68 =>
 aCall Try.prog (.func (.func 31) #[] #[]) [v55] H68 (fun v69 H70 =>
 aBin Try.prog .eql 46 v69 (Go.Value.int Go.IntKind.i64 0) fun v71 =>
 aIf v71
 (aCall Try.prog (.func (.func 20) #[] #[]) [v61] H70 (fun v72 H73 =>
 aBuiltin Try.prog .len [9] [x0] H73 fun v74 H75 =>
 aCall Try.prog (.func (.func 32) #[] #[]) [v55] H75 (fun v76 H77 =>
 aBin Try.prog .sub 3 v74 v76 fun v78 =>
 aSlice Try.prog 9 x0 none (some v78) none H77 fun v79 =>
 aBin Try.prog .neq 9 v72 v79 fun v80 =>
 aIf v80
 (f11_J0 R [x0, x1, undef, undef, (.bool false), v55, v57, v59, v61, v63, v67, undef, undef, v45, (.bool false), x0, v48, (.bool false), undef, x0, v55, x0, v57, x0, v59, v55, v61, v57, v63, v59, x0, v65, v67, v55, v69, v71, (.bool true), v61, v72, x0, x0, v74, v55, v76, v78, v79, v80, v80, (.bool true), undef, undef, undef, undef, undef, undef, undef, undef, undef, undef, undef, undef, undef, undef, undef, (.bool true), (.bool true), undef, undef, undef, undef, undef, undef, undef, undef, undef, undef, undef, undef, undef, undef, undef, (.bool true), undef, undef, undef, undef, undef, undef, undef, undef, undef, undef, undef, undef, undef, undef, undef, undef, undef, undef, undef, undef, undef, undef, undef, undef, undef, undef] H77)
 (aCall Try.prog (.func (.func 31) #[] #[]) [v57] H77 (fun v84 H85 =>
 aBin Try.prog .eql 46 v84 (Go.Value.int Go.IntKind.i64 0) fun v86 =>
 aIf v86
 (aCall Try.prog (.func (.func 21) #[] #[]) [v63] H85 (fun v87 H88 =>
 aBuiltin Try.prog .len [9] [x0] H88 fun v89 H90 =>
 aCall Try.prog (.func (.func 32) #[] #[]) [v57] H90 (fun v91 H92 =>
 aBin Try.prog .sub 3 v89 v91 fun v93 =>
 aSlice Try.prog 9 x0 none (some v93) none H92 fun v94 =>
 aBin Try.prog .neq 9 v87 v94 fun v95 =>
 aIf v95
 (f11_J0 R [x0, x1, undef, undef, (.bool false), v55, v57, v59, v61, v63, v67, undef, undef, v45, (.bool false), x0, v48, (.bool false), undef, x0, v55, x0, v57, x0, v59, v55, v61, v57, v63, v59, x0, v65, v67, v55, v69, v71, (.bool true), v61, v72, x0, x0, v74, v55, v76, v78, v79, v80, v80, (.bool false), v57, v84, v86, (.bool true), v63, v87, x0, x0, v89, v57, v91, v93, v94, v95, v95, v95, (.bool true), undef, undef, undef, undef, undef, undef, undef, undef, undef, undef, undef, undef, undef, undef, undef, (.bool true), undef, undef, undef, undef, undef, undef, undef, undef, undef, undef, undef, undef, undef, undef, undef, undef, undef, undef, undef, undef, undef, undef, undef, undef, undef, undef] H92)
 (aCall Try.prog (.func (.func 31) #[] #[]) [v59] H92 (fun v99 H100 =>
 aBin Try.prog .eql 46 v99 (Go.Value.int Go.IntKind.i64 0) fun v101 =>
 aIf v101
 (aCall Try.prog (.func (.func 24) #[] #[]) [v67] H100 (fun v102 H103 =>
 aBuiltin Try.prog .len [9] [x0] H103 fun v104 H105 =>
 aCall Try.prog (.func (.func 32) #[] #[]) [v59] H105 (fun v106 H107 =>
 aBin Try.prog .sub 3 v104 v106 fun v108 =>
 aSlice Try.prog 9 x0 none (some v108) none H107 fun v109 =>
 aBin Try.prog .neq 9 v102 v109 fun v110 =>
 f11_J0 R [x0, x1, undef, undef, (.bool false), v55, v57, v59, v61, v63, v67, undef, undef, v45, (.bool false), x0, v48, (.bool false), undef, x0, v55, x0, v57, x0, v59, v55, v61, v57, v63, v59, x0, v65, v67, v55, v69, v71, (.bool true), v61, v72, x0, x0, v74, v55, v76, v78, v79, v80, v80, (.bool false), v57, v84, v86, (.bool true), v63, v87, x0, x0, v89, v57, v91, v93, v94, v95, v95, v95, (.bool false), v59, v99, v101, (.bool true), v67, v102, x0, x0, v104, v59, v106, v108, v109, v110, v110, v110, undef, undef, undef, undef, undef, undef, undef, undef, undef, undef, undef, undef, undef, undef, undef, undef, undef, undef, undef, undef, undef, undef, undef, undef, undef, undef] H107) (fun v114 H113 => R (.panic v114) H113)) (fun v116 H115 => R (.panic v116) H115))
 (f11_J0 R [x0, x1, undef, undef, (.bool false), v55, v57, v59, v61, v63, v67, undef, undef, v45, (.bool false), x0, v48, (.bool false), undef, x0, v55, x0, v57, x0, v59, v55, v61, v57, v63, v59, x0, v65, v67, v55, v69, v71, (.bool true), v61, v72, x0, x0, v74, v55, v76, v78, v79, v80, v80, (.bool false), v57, v84, v86, (.bool true), v63, v87, x0, x0, v89, v57, v91, v93, v94, v95, v95, v95, (.bool false), v59, v99, v101, (.bool false), undef, undef, undef, undef, undef, undef, undef, undef, undef, undef, (.bool false), (.bool false), undef, undef, undef, undef, undef, undef, undef, undef, undef, undef, undef, undef, undef, undef, undef, undef, undef, undef, undef, undef, undef, undef, undef, undef, undef, undef] H100)) (fun v120 H119 => R (.panic v120) H119))) (fun v122 H121 => R (.panic v122) H121)) (fun v124 H123 => R (.panic v124) H123))
 (aCall Try.prog (.func (.func 31) #[] #[]) [v59] H85 (fun v127 H128 =>
 aBin Try.prog .eql 46 v127 (Go.Value.int Go.IntKind.i64 0) fun v129 =>
 aIf v129
 (aCall Try.prog (.func (.func 24) #[] #[]) [v67] H128 (fun v130 H131 =>
 aBuiltin Try.prog .len [9] [x0] H131 fun v132 H133 =>
 aCall Try.prog (.func (.func 32) #[] #[]) [v59] H133 (fun v134 H135 =>
 aBin Try.prog .sub 3 v132 v134 fun v136 =>
 aSlice Try.prog 9 x0 none (some v136) none H135 fun v137 =>
 aBin Try.prog .neq 9 v130 v137 fun v138 =>
 f11_J0 R [x0, x1, undef, undef, (.bool false), v55, v57, v59, v61, v63, v67, undef, undef, v45, (.bool false), x0, v48, (.bool false), undef, x0, v55, x0, v57, x0, v59, v55, v61, v57, v63, v59, x0, v65, v67, v55, v69, v71, (.bool true), v61, v72, x0, x0, v74, v55, v76, v78, v79, v80, v80, (.bool false), v57, v84, v86, (.bool false), undef, undef, undef, undef, undef, undef, undef, undef, undef, undef, (.bool false), (.bool false), (.bool false), v59, v127, v129, (.bool true), v67, v130, x0, x0, v132, v59, v134, v136, v137, v138, v138, v138, undef, undef, undef, undef, undef, undef, undef, undef, undef, undef, undef, undef, undef, undef, undef, undef, undef, undef, undef, undef, undef, undef, undef, undef, undef, undef] H135) (fun v142 H141 => R (.panic v142) H141)) (fun v144 H143 => R (.panic v144) H143))
 (f11_J0 R [x0, x1, undef, undef, (.bool false), v55, v57, v59, v61, v63, v67, undef, undef, v45, (.bool false), x0, v48, (.bool false), undef, x0, v55, x0, v57, x0, v59, v55, v61, v57, v63, v59, x0, v65, v67, v55, v69, v71, (.bool true), v61, v72, x0, x0, v74, v55, v76, v78, v79, v80, v80, (.bool false), v57, v84, v86, (.bool false), undef, undef, undef, undef, undef, undef, undef, undef, undef, undef, (.bool false), (.bool false), (.bool false), v59, v127, v129, (.bool false), undef, undef, undef, undef, undef, undef, undef, undef, undef, undef, (.bool false), (.bool false), undef, undef, undef, undef, undef, undef, undef, undef, undef, undef, undef, undef, undef, undef, undef, undef, undef, undef, undef, undef, undef, undef, undef, undef, undef, undef] H128)) (fun v148 H147 => R (.panic v148) H147))) (fun v150 H149 => R (.panic v150) H149))) (fun v152 H151 => R (.panic v152) H151)) (fun v154 H153 => R (.panic v154) H153))
 (aCall Try.prog (.func (.func 31) #[] #[]) [v57] H70 (fun v156 H157 =>
 aBin Try.prog .eql 46 v156 (Go.Value.int Go.IntKind.i64 0) fun v158 =>
 aIf v158
 (aCall Try.prog (.func (.func 21) #[] #[]) [v63] H157 (fun v159 H160 =>
 aBuiltin Try.prog .len [9] [x0] H160 fun v161 H162 =>
 aCall Try.prog (.func (.func 32) #[] #[]) [v57] H162 (fun v163 H164 =>
 aBin Try.prog .sub 3 v161 v163 fun v165 =>
 aSlice Try.prog 9 x0 none (some v165) none H164 fun v166 =>
 aBin Try.prog .neq 9 v159 v166 fun v167 =>
 aIf v167
 (f11_J0 R [x0, x1, undef, undef, (.bool false), v55, v57, v59, v61, v63, v67, undef, undef, v45, (.bool false), x0, v48, (.bool false), undef, x0, v55, x0, v57, x0, v59, v55, v61, v57, v63, v59, x0, v65, v67, v55, v69, v71, (.bool false), undef, undef, undef, undef, undef, undef, undef, undef, undef, undef, (.bool false), (.bool false), v57, v156, v158, (.bool true), v63, v159, x0, x0, v161, v57, v163, v165, v166, v167, v167, v167, (.bool true), undef, undef, undef, undef, undef, undef, undef, undef, undef, undef, undef, undef, undef, undef, undef, (.bool true), undef, undef, undef, undef, undef, undef, undef, undef, undef, undef, undef, undef, undef, undef, undef, undef, undef, undef, undef, undef, undef, undef, undef, undef, undef, undef] H164)
 (aCall Try.prog (.func (.func 31) #[] #[]) [v59] H164 (fun v171 H172 =>
 aBin Try.prog .eql 46 v171 (Go.Value.int Go.IntKind.i64 0) fun v173 =>
 aIf v173
 (aCall Try.prog (.func (.func 24) #[] #[]) [v67] H172 (fun v174 H175 =>
 aBuiltin Try.prog .len [9] [x0] H175 fun v176 H177 =>
 aCall Try.prog (.func (.func 32) #[] #[]) [v59] H177 (fun v178 H179 =>
 aBin Try.prog .sub 3 v176 v178 fun v180 =>
 aSlice Try.prog 9 x0 none (some v180) none H179 fun v181 =>
 aBin Try.prog .neq 9 v174 v181 fun v182 =>
 f11_J0 R [x0, x1, undef, undef, (.bool false), v55, v57, v59, v61, v63, v67, undef, undef, v45, (.bool false), x0, v48, (.bool false), undef, x0, v55, x0, v57, x0, v59, v55, v61, v57, v63, v59, x0, v65, v67, v55, v69, v71, (.bool false), undef, undef, undef, undef, undef, undef, undef, undef, undef, undef, (.bool false), (.bool false), v57, v156, v158, (.bool true), v63, v159, x0, x0, v161, v57, v163, v165, v166, v167, v167, v167, (.bool false), v59, v171, v173, (.bool true), v67, v174, x0, x0, v176, v59, v178, v180, v181, v182, v182, v182, undef, undef, undef, undef, undef, undef, undef, undef, undef, undef, undef, undef, undef, undef, undef, undef, undef, undef, undef, undef, undef, undef, undef, undef, undef, undef] H179) (fun v186 H185 => R (.panic v186) H185)) (fun v188 H187 => R (.panic v188) H187))
 (f11_J0 R [x0, x1, undef, undef, (.bool false), v55, v57, v59, v61, v63, v67, undef, undef, v45, (.bool false), x0, v48, (.bool false), undef, x0, v55, x0, v57, x0, v59, v55, v61, v57, v63, v59, x0, v65, v67, v55, v69, v71, (.bool false), undef, undef, undef, undef, undef, undef, undef, undef, undef, undef, (.bool false), (.bool false), v57, v156, v158, (.bool true), v63, v159, x0, x0, v161, v57, v163, v165, v166, v167, v167, v167, (.bool false), v59, v171, v173, (.bool false), undef, undef, undef, undef, undef, undef, undef, undef, undef, undef, (.bool false), (.bool false), undef, undef, undef, undef, undef, undef, undef, undef, undef, undef, undef, undef, undef, undef, undef, undef, undef, undef, undef, undef, undef, undef, undef, undef, undef, undef] H172)) (fun v192 H191 => R (.panic v192) H191))) (fun v194 H193 => R (.panic v194) H193)) (fun v196 H195 => R (.panic v196) H195))
 (aCall Try.prog (.func (.func 31) #[] #[]) [v59] H157 (fun v199 H200 =>
 aBin Try.prog .eql 46 v199 (Go.Value.int Go.IntKind.i64 0) fun v201 =>
 aIf v201
 (aCall Try.prog (.func (.func 24) #[] #[]) [v67] H200 (fun v202 H203 =>
 aBuiltin Try.prog .len [9] [x0] H203 fun v204 H205 =>
 aCall Try.prog (.func (.func 32) #[] #[]) [v59] H205 (fun v206 H207 =>
 aBin Try.prog .sub 3 v204 v206 fun v208 =>
 aSlice Try.prog 9 x0 none (some v208) none H207 fun v209 =>
 aBin Try.prog .neq 9 v202 v209 fun v210 =>
 f11_J0 R [x0, x1, undef, undef, (.bool false), v55, v57, v59, v61, v63, v67, undef, undef, v45, (.bool false), x0, v48, (.bool false), undef, x0, v55, x0, v57, x0, v59, v55, v61, v57, v63, v59, x0, v65, v67, v55, v69, v71, (.bool false), undef, undef, undef, undef, undef, undef, undef, undef, undef, undef, (.bool false), (.bool false), v57, v156, v158, (.bool false), undef, undef, undef, undef, undef, undef, undef, undef, undef, undef, (.bool false), (.bool false), (.bool false), v59, v199, v201, (.bool true), v67, v202, x0, x0, v204, v59, v206, v208, v209, v210, v210, v210, undef, undef, undef, undef, undef, undef, undef, undef, undef, undef, undef, undef, undef, undef, undef, undef, undef, undef, undef, undef, undef, undef, undef, undef, undef, undef] H207) (fun v214 H213 => R (.panic v214) H213)) (fun v216 H215 => R (.panic v216) H215))
 (f11_J0 R [x0, x1, undef, undef, (.bool false), v55, v57, v59, v61, v63, v67, undef, undef, v45, (.bool false), x0, v48, (.bool false), undef, x0, v55, x0, v57, x0, v59, v55, v61, v57, v63, v59, x0, v65, v67, v55, v69, v71, (.bool false), undef, undef, undef, undef, undef, undef, undef, undef, undef, undef, (.bool false), (.bool false), v57, v156, v158, (.bool false), undef, undef, undef, undef, undef, undef, undef, undef, undef, undef, (.bool false), (.bool false), (.bool false), v59, v199, v201, (.bool false), undef, undef, undef, undef, undef, undef, undef, undef, undef, undef, (.bool false), (.bool false), undef, undef, undef, undef, undef, undef, undef, undef, undef, undef, undef, undef, undef, undef, undef, undef, undef, undef, undef, undef, undef, undef, undef, undef, undef, undef] H200)) (fun v220 H219 => R (.panic v220) H219))) (fun v222 H221 => R (.panic v222) H221))) (fun v224 H223 => R (.panic v224) H223)) (fun v226 H225 => R (.panic v226) H225)) (fun v228 H227 => R (.panic v228) H227)) (fun v230 H229 => R (.panic v230) H229)) (fun v232 H231 => R (.panic v232) H231)) (fun v234 H233 => R (.panic v234) H233)) (fun v236 H235 => R (.panic v236) H235)))) (fun v238 H237 => R (.panic v238) H237)
theorem f11_eq (x0 x1 : Value) (H : AH) (R : AEnd → AH → Prop) : awpF Try.prog f11_c (aPost Try.f11 R) ([x0, x1] ++ List.replicate (Try.f11.ntmps - [x0, x1].length) undef) H = f11_B x0 x1 H R := by kernel_rfl
theorem f11_call (x0 x1 : Value) (H : AH) (R : AEnd → AH → Prop) (h : f11_B x0 x1 H R) : ACall Try.prog 11 [x0, x1] H R :=
  acall_of mixed Try.func11 (by kernel_rfl : Try.f11.body = some f11_c) (by kernel_rfl) (by kernel_rfl) (awp_of (Eq.mpr (f11_eq x0 x1 H R) h))

/-! f13: switchyard/switchyardlaw02.PackNil -/
noncomputable def f13_c : Code := Try.f13.body.getD .skip
def f13_B (H : AH) (R : AEnd → AH → Prop) : Prop :=
 aCall Try.prog (.func (.func 19) #[] #[]) [] H (fun v1 H2 =>
 aUn .not v1 fun v3 =>
 aIf v3
 (R (.ret (.bool false)) H2)
 (aCall Try.prog (.func (.func 19) #[] #[]) [] H2 (fun v4 H5 =>
 aIf v4
 (aCall Try.prog (.func (.func 28) #[] #[]) [(Go.Value.pointer none)] H5 (fun v6 H7 =>
 aBin Try.prog .eql 34 v6 (Go.Value.int Go.IntKind.u64 0) fun v8 =>
 aIf v8
 (aCall Try.prog (.func (.func 29) #[] #[]) [(Go.Value.pointer none)] H7 (fun v10 H11 =>
 aBin Try.prog .eql 2 v10 (Go.Value.int Go.IntKind.i64 0) fun v12 =>
 aIf v12
 (aCall Try.prog (.func (.func 34) #[] #[]) [(Go.Value.pointer none)] H11 (fun v14 H15 =>
 aUn .not v14 fun v16 =>
 aIf v16
 (aCall Try.prog (.func (.func 30) #[] #[]) [(Go.Value.pointer none), (Go.Value.int Go.IntKind.i64 9)] H15 (fun v18 H19 =>
 aBin Try.prog .eql 9 v18 (Go.Value.string { data := #[] }) fun v20 =>
 aIf v20
 (aCall Try.prog (.func (.func 36) #[] #[]) [(Go.Value.pointer none), (Go.Value.int Go.IntKind.i64 9)] H19 (fun v22 H23 =>
 aBin Try.prog .eql 3 v22 (Go.Value.int Go.IntKind.i64 0) fun v24 =>
 aIf v24
 (aCall Try.prog (.func (.func 37) #[] #[]) [(Go.Value.pointer none)] H23 (fun v26 H27 =>
 aBin Try.prog .eql 3 v26 (Go.Value.int Go.IntKind.i64 0) fun v28 =>
 aIf v28
 (aCall Try.prog (.func (.func 31) #[] #[]) [(Go.Value.pointer none)] H27 (fun v30 H31 =>
 aBin Try.prog .eql 46 v30 (Go.Value.int Go.IntKind.i64 1) fun v32 =>
 aIf v32
 (aCall Try.prog (.func (.func 35) #[] #[]) [(Go.Value.pointer none)] H31 (fun v34 H35 =>
 aBin Try.prog .eql 46 v34 (Go.Value.int Go.IntKind.i64 1) fun v36 =>
 aIf v36
 (aCall Try.prog (.func (.func 32) #[] #[]) [(Go.Value.pointer none)] H35 (fun v38 H39 =>
 aBin Try.prog .eql 3 v38 (Go.Value.int Go.IntKind.i64 0) fun v40 =>
 R (.ret v40) H39) (fun v43 H42 => R (.panic v43) H42))
 (R (.ret (.bool false)) H35)) (fun v46 H45 => R (.panic v46) H45))
 (R (.ret (.bool false)) H31)) (fun v50 H49 => R (.panic v50) H49))
 (R (.ret (.bool false)) H27)) (fun v55 H54 => R (.panic v55) H54))
 (R (.ret (.bool false)) H23)) (fun v61 H60 => R (.panic v61) H60))
 (R (.ret (.bool false)) H19)) (fun v68 H67 => R (.panic v68) H67))
 (R (.ret (.bool false)) H15)) (fun v76 H75 => R (.panic v76) H75))
 (R (.ret (.bool false)) H11)) (fun v85 H84 => R (.panic v85) H84))
 (R (.ret (.bool false)) H7)) (fun v95 H94 => R (.panic v95) H94))
 (R (.ret (.bool false)) H5)) (fun v106 H105 => R (.panic v106) H105))) (fun v108 H107 => R (.panic v108) H107)
theorem f13_eq (H : AH) (R : AEnd → AH → Prop) : awpF Try.prog f13_c (aPost Try.f13 R) (([] : List Value) ++ List.replicate (Try.f13.ntmps - ([] : List Value).length) undef) H = f13_B H R := by kernel_rfl
theorem f13_call (H : AH) (R : AEnd → AH → Prop) (h : f13_B H R) : ACall Try.prog 13 [] H R :=
  acall_of mixed Try.func13 (by kernel_rfl : Try.f13.body = some f13_c) (by kernel_rfl) (by kernel_rfl) (awp_of (Eq.mpr (f13_eq H R) h))

end Go.Proofs.Ytmidgfmopmpppaa
