/- Bodies of functions as nested rules: printed by gen.py, a program of this claim. -/
import Derived.Test.YtmidgfmopmpppaaTy
import Derived.Test.YtmidgfmopmpppaaAbsK
namespace Go.Proofs.Ytmidgfmopmpppaa
open Go.RowKit
set_option linter.unusedVariables false
set_option maxRecDepth 100000

/-! f9: switchyard/switchyardlaw02.PackSizes -/
noncomputable def f9_c : Code := Try.f9.body.getD .skip
def f9_Q0 (R : AEnd → AH → Prop) : AExit → List Value → AH → Prop := ctxF Try.prog f9_c [1, 1, 1, 1, 0, 1, 0] (aPost Try.f9 R)
def f9_L0 (R : AEnd → AH → Prop) (tm : List Value) (H : AH) : Prop := awpF Try.prog (codeAt f9_c [1, 1, 1, 1, 0, 1, 0]) (f9_Q0 R) tm H
def f9_J0 (R : AEnd → AH → Prop) (tm : List Value) (H : AH) : Prop := awpF Try.prog (codeAt f9_c [1, 1, 1]) (ctxF Try.prog f9_c [1, 1, 1] (aPost Try.f9 R)) tm H
def f9_J1 (R : AEnd → AH → Prop) (tm : List Value) (H : AH) : Prop := awpF Try.prog (codeAt f9_c [1, 1, 1, 1, 1]) (ctxF Try.prog f9_c [1, 1, 1, 1, 1] (aPost Try.f9 R)) tm H
-- join 1: live slots 0:m, 1:n, 2:k, 7:size, 26:, 27:, 28:, 29:, 30:, 33:, 34:, 35:, 36:, 37:, 40:, 41:, 42:, 43:, 44:, 45:, 46:, 47:, 48:
def f9_J1_B (s0 s1 s2 s3 s4 s5 s6 s7 s8 s9 s10 s11 s12 s13 s14 s15 s16 s17 s18 s19 s20 s21 s22 s23 s24 s25 s26 s27 s28 s29 s30 s31 s32 s33 s34 s35 s36 s37 s38 s39 s40 s41 s42 s43 s44 s45 s46 s47 s48 s49 : Value) (H : AH) (R : AEnd → AH → Prop) : Prop :=
 aCall Try.prog (.func (.func 19) #[] #[]) [] H (fun v1 H2 =>
 aIf v1
 (aCall Try.prog (.func (.func 20) #[] #[]) [s1] H2 (fun v3 H4 =>
 aBuiltin Try.prog .len [9] [v3] H4 fun v5 H6 =>
 aBin Try.prog .eql 3 v5 s7 fun v7 =>
 aIf v7
 (aCall Try.prog (.func (.func 20) #[] #[]) [s0] H6 (fun v9 H10 =>
 aBuiltin Try.prog .len [9] [v9] H10 fun v11 H12 =>
 aBin Try.prog .leq 3 v11 s7 fun v13 =>
 aIf v13
 (aCall Try.prog (.func (.func 21) #[] #[]) [s2] H12 (fun v15 H16 =>
 aBuiltin Try.prog .len [9] [v15] H16 fun v17 H18 =>
 aUn .neg s2 fun v19 =>
 aBin Try.prog .sub 2 v19 (Go.Value.int Go.IntKind.i64 1) fun v20 =>
 aCall Try.prog (.func (.func 21) #[] #[]) [v20] H18 (fun v21 H22 =>
 aBuiltin Try.prog .len [9] [v21] H22 fun v23 H24 =>
 aBin Try.prog .eql 3 v17 v23 fun v25 =>
 R (.ret v25) H24) (fun v28 H27 => R (.panic v28) H27)) (fun v30 H29 => R (.panic v30) H29))
 (R (.ret (.bool false)) H12)) (fun v33 H32 => R (.panic v33) H32))
 (R (.ret (.bool false)) H6)) (fun v37 H36 => R (.panic v37) H36))
 (R (.ret (.bool false)) H2)) (fun v42 H41 => R (.panic v42) H41)
theorem f9_J1_eq (s0 s1 s2 s3 s4 s5 s6 s7 s8 s9 s10 s11 s12 s13 s14 s15 s16 s17 s18 s19 s20 s21 s22 s23 s24 s25 s26 s27 s28 s29 s30 s31 s32 s33 s34 s35 s36 s37 s38 s39 s40 s41 s42 s43 s44 s45 s46 s47 s48 s49 : Value) (H : AH) (R : AEnd → AH → Prop) : f9_J1 R [s0, s1, s2, s3, s4, s5, s6, s7, s8, s9, s10, s11, s12, s13, s14, s15, s16, s17, s18, s19, s20, s21, s22, s23, s24, s25, s26, s27, s28, s29, s30, s31, s32, s33, s34, s35, s36, s37, s38, s39, s40, s41, s42, s43, s44, s45, s46, s47, s48, s49] H = f9_J1_B s0 s1 s2 s3 s4 s5 s6 s7 s8 s9 s10 s11 s12 s13 s14 s15 s16 s17 s18 s19 s20 s21 s22 s23 s24 s25 s26 s27 s28 s29 s30 s31 s32 s33 s34 s35 s36 s37 s38 s39 s40 s41 s42 s43 s44 s45 s46 s47 s48 s49 H R := by kernel_rfl
-- join 0: live slots 0:m, 1:n, 2:k, 26:, 27:, 28:, 29:, 30:, 33:, 34:, 35:, 36:, 37:, 40:, 41:, 42:, 43:, 44:, 45:, 46:, 47:, 48:
def f9_J0_B (s0 s1 s2 s3 s4 s5 s6 s7 s8 s9 s10 s11 s12 s13 s14 s15 s16 s17 s18 s19 s20 s21 s22 s23 s24 s25 s26 s27 s28 s29 s30 s31 s32 s33 s34 s35 s36 s37 s38 s39 s40 s41 s42 s43 s44 s45 s46 s47 s48 s49 : Value) (H : AH) (R : AEnd → AH → Prop) : Prop :=
 aBin Try.prog .shr 34 s1 (Go.Value.int Go.IntKind.u64 7) fun v43 =>
 f9_L0 R [s0, s1, s2, s3, s4, s5, s6, (Go.Value.int Go.IntKind.i64 1), v43, s9, s10, s11, s12, s13, s14, s15, s1, v43, s18, s19, s20, s21, s22, s23, s24, s25, s26, s27, s28, s29, s30, s31, s32, s33, s34, s35, s36, s37, s38, s39, s40, s41, s42, s43, s44, s45, s46, s47, s48, s49] H
theorem f9_J0_eq (s0 s1 s2 s3 s4 s5 s6 s7 s8 s9 s10 s11 s12 s13 s14 s15 s16 s17 s18 s19 s20 s21 s22 s23 s24 s25 s26 s27 s28 s29 s30 s31 s32 s33 s34 s35 s36 s37 s38 s39 s40 s41 s42 s43 s44 s45 s46 s47 s48 s49 : Value) (H : AH) (R : AEnd → AH → Prop) : f9_J0 R [s0, s1, s2, s3, s4, s5, s6, s7, s8, s9, s10, s11, s12, s13, s14, s15, s16, s17, s18, s19, s20, s21, s22, s23, s24, s25, s26, s27, s28, s29, s30, s31, s32, s33, s34, s35, s36, s37, s38, s39, s40, s41, s42, s43, s44, s45, s46, s47, s48, s49] H = f9_J0_B s0 s1 s2 s3 s4 s5 s6 s7 s8 s9 s10 s11 s12 s13 s14 s15 s16 s17 s18 s19 s20 s21 s22 s23 s24 s25 s26 s27 s28 s29 s30 s31 s32 s33 s34 s35 s36 s37 s38 s39 s40 s41 s42 s43 s44 s45 s46 s47 s48 s49 H R := by kernel_rfl
def f9_R0 (s0 s1 s2 s3 s4 s5 s6 s7 s8 s9 s10 s11 s12 s13 s14 s15 s16 s17 s18 s19 s20 s21 s22 s23 s24 s25 s26 s27 s28 s29 s30 s31 s32 s33 s34 s35 s36 s37 s38 s39 s40 s41 s42 s43 s44 s45 s46 s47 s48 s49 : Value) (H : AH) (K0 : List Value → AH → Prop) (R : AEnd → AH → Prop) : Prop :=
 aBin Try.prog .gtr 34 s8 (Go.Value.int Go.IntKind.u64 0) fun v44 =>
 aIf v44
 (aBin Try.prog .add 3 s7 (Go.Value.int Go.IntKind.i64 1) fun v45 =>
 aBin Try.prog .shr 34 s8 (Go.Value.int Go.IntKind.u64 7) fun v46 =>
 K0 [s0, s1, s2, s3, s4, s5, s6, v45, v46, s9, s10, s11, s12, s13, s14, s15, s16, s17, s8, (.bool true), s8, v46, s7, v45, s24, s25, s26, s27, s28, s29, s30, s31, s32, s33, s34, s35, s36, s37, s38, s39, s40, s41, s42, s43, s44, s45, s46, s47, s48, s49] H)
 (f9_J1 R [s0, s1, s2, s3, s4, s5, s6, s7, s8, s9, s10, s11, s12, s13, s14, s15, s16, s17, s8, (.bool false), s20, s21, s22, s23, s24, s25, s26, s27, s28, s29, s30, s31, s32, s33, s34, s35, s36, s37, s38, s39, s40, s41, s42, s43, s44, s45, s46, s47, s48, s49] H)
theorem f9_R0_eq (s0 s1 s2 s3 s4 s5 s6 s7 s8 s9 s10 s11 s12 s13 s14 s15 s16 s17 s18 s19 s20 s21 s22 s23 s24 s25 s26 s27 s28 s29 s30 s31 s32 s33 s34 s35 s36 s37 s38 s39 s40 s41 s42 s43 s44 s45 s46 s47 s48 s49 : Value) (H : AH) (K0 : List Value → AH → Prop) (R : AEnd → AH → Prop) : awpF Try.prog (codeAt f9_c [1, 1, 1, 1, 0, 1, 0, 0]) (thenF K0 (f9_Q0 R)) [s0, s1, s2, s3, s4, s5, s6, s7, s8, s9, s10, s11, s12, s13, s14, s15, s16, s17, s18, s19, s20, s21, s22, s23, s24, s25, s26, s27, s28, s29, s30, s31, s32, s33, s34, s35, s36, s37, s38, s39, s40, s41, s42, s43, s44, s45, s46, s47, s48, s49] H = f9_R0 s0 s1 s2 s3 s4 s5 s6 s7 s8 s9 s10 s11 s12 s13 s14 s15 s16 s17 s18 s19 s20 s21 s22 s23 s24 s25 s26 s27 s28 s29 s30 s31 s32 s33 s34 s35 s36 s37 s38 s39 s40 s41 s42 s43 s44 s45 s46 s47 s48 s49 H K0 R := by kernel_rfl
def f9_I0 (s0 s1 s2 s3 s4 s5 s6 s9 s10 s11 s12 s13 s14 s15 s16 s17 s24 s25 s26 s27 s28 s29 s30 s31 s32 s33 s34 s35 s36 s37 s38 s39 s40 s41 s42 s43 s44 s45 s46 s47 s48 s49 : Value) (J : Nat → Value → Value → AH → Prop) (n : Nat) (tm : List Value) (H : AH) : Prop := ∃ y7 y8 y18 y19 y20 y21 y22 y23 : Value, tm = [s0, s1, s2, s3, s4, s5, s6, y7, y8, s9, s10, s11, s12, s13, s14, s15, s16, s17, y18, y19, y20, y21, y22, y23, s24, s25, s26, s27, s28, s29, s30, s31, s32, s33, s34, s35, s36, s37, s38, s39, s40, s41, s42, s43, s44, s45, s46, s47, s48, s49] ∧ J n y7 y8 H
theorem f9_I0_mk {s0 s1 s2 s3 s4 s5 s6 s7 s8 s9 s10 s11 s12 s13 s14 s15 s16 s17 s18 s19 s20 s21 s22 s23 s24 s25 s26 s27 s28 s29 s30 s31 s32 s33 s34 s35 s36 s37 s38 s39 s40 s41 s42 s43 s44 s45 s46 s47 s48 s49 : Value} {J : Nat → Value → Value → AH → Prop} {n : Nat} {H : AH} (h : J n s7 s8 H) : f9_I0 s0 s1 s2 s3 s4 s5 s6 s9 s10 s11 s12 s13 s14 s15 s16 s17 s24 s25 s26 s27 s28 s29 s30 s31 s32 s33 s34 s35 s36 s37 s38 s39 s40 s41 s42 s43 s44 s45 s46 s47 s48 s49 J n [s0, s1, s2, s3, s4, s5, s6, s7, s8, s9, s10, s11, s12, s13, s14, s15, s16, s17, s18, s19, s20, s21, s22, s23, s24, s25, s26, s27, s28, s29, s30, s31, s32, s33, s34, s35, s36, s37, s38, s39, s40, s41, s42, s43, s44, s45, s46, s47, s48, s49] H := ⟨_, _, _, _, _, _, _, _, rfl, h⟩
-- loop 0: carried slots [7, 8] (size, x)
theorem f9_L0_rule {s0 s1 s2 s3 s4 s5 s6 s7 s8 s9 s10 s11 s12 s13 s14 s15 s16 s17 s18 s19 s20 s21 s22 s23 s24 s25 s26 s27 s28 s29 s30 s31 s32 s33 s34 s35 s36 s37 s38 s39 s40 s41 s42 s43 s44 s45 s46 s47 s48 s49 : Value} {H : AH} {R : AEnd → AH → Prop} (J : Nat → Value → Value → AH → Prop) (n : Nat) (h0 : J n s7 s8 H)
  (step : ∀ (n : Nat) (x7 x8 : Value) (H : AH), J n x7 x8 H → ∀ (x18 x19 x20 x21 x22 x23 : Value), f9_R0 s0 s1 s2 s3 s4 s5 s6 x7 x8 s9 s10 s11 s12 s13 s14 s15 s16 s17 x18 x19 x20 x21 x22 x23 s24 s25 s26 s27 s28 s29 s30 s31 s32 s33 s34 s35 s36 s37 s38 s39 s40 s41 s42 s43 s44 s45 s46 s47 s48 s49 H (fun tm H => ∃ m, m < n ∧ f9_I0 s0 s1 s2 s3 s4 s5 s6 s9 s10 s11 s12 s13 s14 s15 s16 s17 s24 s25 s26 s27 s28 s29 s30 s31 s32 s33 s34 s35 s36 s37 s38 s39 s40 s41 s42 s43 s44 s45 s46 s47 s48 s49 J m tm H) R) : f9_L0 R [s0, s1, s2, s3, s4, s5, s6, s7, s8, s9, s10, s11, s12, s13, s14, s15, s16, s17, s18, s19, s20, s21, s22, s23, s24, s25, s26, s27, s28, s29, s30, s31, s32, s33, s34, s35, s36, s37, s38, s39, s40, s41, s42, s43, s44, s45, s46, s47, s48, s49] H :=
  awpF_loop (f9_I0 s0 s1 s2 s3 s4 s5 s6 s9 s10 s11 s12 s13 s14 s15 s16 s17 s24 s25 s26 s27 s28 s29 s30 s31 s32 s33 s34 s35 s36 s37 s38 s39 s40 s41 s42 s43 s44 s45 s46 s47 s48 s49 J) n (f9_I0_mk h0) (by
    rintro n tm H ⟨x7, x8, x18, x19, x20, x21, x22, x23, rfl, h⟩
    exact Eq.mpr (f9_R0_eq s0 s1 s2 s3 s4 s5 s6 x7 x8 s9 s10 s11 s12 s13 s14 s15 s16 s17 x18 x19 x20 x21 x22 x23 s24 s25 s26 s27 s28 s29 s30 s31 s32 s33 s34 s35 s36 s37 s38 s39 s40 s41 s42 s43 s44 s45 s46 s47 s48 s49 H _ R) (step n x7 x8 H h x18 x19 x20 x21 x22 x23))
def f9_B (x0 x1 x2 : Value) (H : AH) (R : AEnd → AH → Prop) : Prop :=
 aCall Try.prog (.func (.func 19) #[] #[]) [] H (fun v47 H48 =>
 aUn .not v47 fun v49 =>
 aIf v49
 (R (.ret (.bool false)) H48)
 (aBin Try.prog .gtr 34 x0 x1 fun v50 =>
 aIf v50
 (f9_J0 R [x1, x0, x2, undef, undef, undef, (.bool false), undef, undef, v47, (.bool false), x0, x1, (.bool true), x1, x0, undef, undef, undef, undef, undef, undef, undef, undef, undef, undef, undef, undef, undef, undef, undef, undef, undef, undef, undef, undef, undef, undef, undef, undef, undef, undef, undef, undef, undef, undef, undef, undef, undef, undef] H48)
 (f9_J0 R [x0, x1, x2, undef, undef, undef, (.bool false), undef, undef, v47, (.bool false), x0, x1, (.bool false), undef, undef, undef, undef, undef, undef, undef, undef, undef, undef, undef, undef, undef, undef, undef, undef, undef, undef, undef, undef, undef, undef, undef, undef, undef, undef, undef, undef, undef, undef, undef, undef, undef, undef, undef, undef] H48))) (fun v52 H51 => R (.panic v52) H51)
theorem f9_eq (x0 x1 x2 : Value) (H : AH) (R : AEnd → AH → Prop) : awpF Try.prog f9_c (aPost Try.f9 R) ([x0, x1, x2] ++ List.replicate (Try.f9.ntmps - [x0, x1, x2].length) undef) H = f9_B x0 x1 x2 H R := by kernel_rfl
theorem f9_call (x0 x1 x2 : Value) (H : AH) (R : AEnd → AH → Prop) (h : f9_B x0 x1 x2 H R) : ACall Try.prog 9 [x0, x1, x2] H R :=
  acall_of mixed Try.func9 (by kernel_rfl : Try.f9.body = some f9_c) (by kernel_rfl) (by kernel_rfl) (awp_of (Eq.mpr (f9_eq x0 x1 x2 H R) h))

/-! f10: switchyard/switchyardlaw02.PackWrites -/
noncomputable def f10_c : Code := Try.f10.body.getD .skip
def f10_B (x0 x1 x2 : Value) (H : AH) (R : AEnd → AH → Prop) : Prop :=
 aCall Try.prog (.func (.func 19) #[] #[]) [] H (fun v1 H2 =>
 aUn .not v1 fun v3 =>
 aIf v3
 (R (.ret (.bool false)) H2)
 (aBuiltin Try.prog .len [9] [x2] H2 fun v4 H5 =>
 aBin Try.prog .gtr 3 v4 (Go.Value.int Go.IntKind.i64 20000) fun v6 =>
 aIf v6
 (aCall Try.prog (.func (.func 19) #[] #[]) [] H5 (fun v7 H8 =>
 R (.ret v7) H8) (fun v10 H9 => R (.panic v10) H9))
 (aCall Try.prog (.func (.func 19) #[] #[]) [] H5 (fun v11 H12 =>
 aIf v11
 (aCall Try.prog (.func (.func 20) #[] #[]) [x0] H12 (fun v13 H14 =>
 aCall Try.prog (.func (.func 22) #[] #[]) [x0] H14 (fun v15 H16 =>
 aBin Try.prog .eql 9 v13 v15 fun v17 =>
 aIf v17
 (aCall Try.prog (.func (.func 21) #[] #[]) [x1] H16 (fun v19 H20 =>
 aCall Try.prog (.func (.func 23) #[] #[]) [x1] H20 (fun v21 H22 =>
 aBin Try.prog .eql 9 v19 v21 fun v23 =>
 aIf v23
 (aCall Try.prog (.func (.func 24) #[] #[]) [x2] H22 (fun v25 H26 =>
 aCall Try.prog (.func (.func 25) #[] #[]) [x2] H26 (fun v27 H28 =>
 aBin Try.prog .eql 9 v25 v27 fun v29 =>
 aIf v29
 (aBin Try.prog .rem 34 x0 (Go.Value.int Go.IntKind.u64 2) fun v31 =>
 aBin Try.prog .eql 34 v31 (Go.Value.int Go.IntKind.u64 1) fun v32 =>
 aBin Try.prog .rem 34 x0 (Go.Value.int Go.IntKind.u64 2) fun v33 =>
 aConvert Try.prog 34 5 v33 H28 fun v34 H35 =>
 (aCall Try.prog (.func (.func 26) #[] #[]) [v32] H35 (fun v36 H37 =>
 aBuildSlice Try.prog 30 1 [(0, v34)] H37 fun v38 H39 =>
 aConvert Try.prog 30 9 v38 H39 fun v40 H41 =>
 aBin Try.prog .eql 9 v36 v40 fun v42 =>
 R (.ret v42) H41) (fun v45 H44 => R (.panic v45) H44)) ∧
 (aBuildSlice Try.prog 30 1 [(0, v34)] H35 fun v46 H47 =>
 (aCall Try.prog (.func (.func 26) #[] #[]) [v32] H47 (fun v48 H49 =>
 aConvert Try.prog 30 9 v46 H49 fun v50 H51 =>
 aBin Try.prog .eql 9 v48 v50 fun v52 =>
 R (.ret v52) H51) (fun v55 H54 => R (.panic v55) H54)) ∧
 (aConvert Try.prog 30 9 v46 H47 fun v56 H57 =>
 aCall Try.prog (.func (.func 26) #[] #[]) [v32] H57 (fun v58 H59 =>
 aBin Try.prog .eql 9 v58 v56 fun v60 =>
 R (.ret v60) H59) (fun v63 H62 => R (.panic v63) H62))))
 ((R (.ret (.bool false)) H28) ∧
 ((R (.ret (.bool false)) H28) ∧
 (R (.ret (.bool false)) H28)))) (fun v68 H67 => R (.panic v68) H67)) (fun v70 H69 => R (.panic v70) H69))
 ((R (.ret (.bool false)) H22) ∧
 ((R (.ret (.bool false)) H22) ∧
 (R (.ret (.bool false)) H22)))) (fun v76 H75 => R (.panic v76) H75)) (fun v78 H77 => R (.panic v78) H77))
 ((R (.ret (.bool false)) H16) ∧
 ((R (.ret (.bool false)) H16) ∧
 (R (.ret (.bool false)) H16)))) (fun v85 H84 => R (.panic v85) H84)) (fun v87 H86 => R (.panic v87) H86))
 ((R (.ret (.bool false)) H12) ∧
 ((R (.ret (.bool false)) H12) ∧
 (R (.ret (.bool false)) H12)))) (fun v95 H94 => R (.panic v95) H94)))) (fun v97 H96 => R (.panic v97) H96)
theorem f10_eq (x0 x1 x2 : Value) (H : AH) (R : AEnd → AH → Prop) : awpF Try.prog f10_c (aPost Try.f10 R) ([x0, x1, x2] ++ List.replicate (Try.f10.ntmps - [x0, x1, x2].length) undef) H = f10_B x0 x1 x2 H R := by kernel_rfl
theorem f10_call (x0 x1 x2 : Value) (H : AH) (R : AEnd → AH → Prop) (h : f10_B x0 x1 x2 H R) : ACall Try.prog 10 [x0, x1, x2] H R :=
  acall_of mixed Try.func10 (by kernel_rfl : Try.f10.body = some f10_c) (by kernel_rfl) (by kernel_rfl) (awp_of (Eq.mpr (f10_eq x0 x1 x2 H R) h))

end Go.Proofs.Ytmidgfmopmpppaa
