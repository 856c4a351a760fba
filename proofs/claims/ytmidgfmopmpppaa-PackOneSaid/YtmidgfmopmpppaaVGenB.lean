/- Bodies of functions as nested rules: printed by gen.py, a program of this claim. -/
import Derived.Test.YtmidgfmopmpppaaVTy
import Derived.Test.YtmidgfmopmpppaaVAbsK
namespace Go.Proofs.Ytmidgfmopmpppaa
open Go.RowKit
set_option linter.unusedVariables false
set_option maxRecDepth 100000

/-! f20: switchyard/pack.Count -/
noncomputable def f20_c : Code := Try.f20.body.getD .skip
def f20_Q0 (R : AEnd → AH → Prop) : AExit → List Value → AH → Prop := ctxF Try.prog f20_c [1, 1, 0, 0] (aPost Try.f20 R)
def f20_L0 (R : AEnd → AH → Prop) (tm : List Value) (H : AH) : Prop := awpF Try.prog (codeAt f20_c [1, 1, 0, 0]) (f20_Q0 R) tm H
def f20_J0 (R : AEnd → AH → Prop) (tm : List Value) (H : AH) : Prop := hold (awpF Try.prog (codeAt f20_c [1, 1, 1]) (ctxF Try.prog f20_c [1, 1, 1] (aPost Try.f20 R)) tm H)
-- join 0: live slots 0:n, 3:b
def f20_J0_B (s0 s1 s2 s3 s4 s5 s6 s7 s8 s9 s10 s11 s12 s13 s14 s15 s16 s17 s18 s19 : Value) (H : AH) (R : AEnd → AH → Prop) : Prop :=
 aConvert Try.prog 34 5 s0 H fun v1 H2 =>
 aBuildSlice Try.prog 30 1 [(0, v1)] H2 fun v3 H4 =>
 aBuiltin Try.prog .append [30, 30] [s3, v3] H4 fun v5 H6 =>
 aConvert Try.prog 30 9 v5 H6 fun v7 H8 =>
 R (.ret v7) H8
theorem f20_J0_eq (s0 s1 s2 s3 s4 s5 s6 s7 s8 s9 s10 s11 s12 s13 s14 s15 s16 s17 s18 s19 : Value) (H : AH) (R : AEnd → AH → Prop) : f20_J0 R [s0, s1, s2, s3, s4, s5, s6, s7, s8, s9, s10, s11, s12, s13, s14, s15, s16, s17, s18, s19] H = f20_J0_B s0 s1 s2 s3 s4 s5 s6 s7 s8 s9 s10 s11 s12 s13 s14 s15 s16 s17 s18 s19 H R := by kernel_rfl
def f20_R0 (s0 s1 s2 s3 s4 s5 s6 s7 s8 s9 s10 s11 s12 s13 s14 s15 s16 s17 s18 s19 : Value) (H : AH) (K0 : List Value → AH → Prop) (R : AEnd → AH → Prop) : Prop :=
 aBin Try.prog .geq 34 s0 (Go.Value.int Go.IntKind.u64 128) fun v9 =>
 aIf v9
 (aConvert Try.prog 34 5 s0 H fun v10 H11 =>
 aBin Try.prog .or 5 v10 (Go.Value.int Go.IntKind.u8 128) fun v12 =>
 aBuildSlice Try.prog 30 1 [(0, v12)] H11 fun v13 H14 =>
 aBuiltin Try.prog .append [30, 30] [s3, v13] H14 fun v15 H16 =>
 aBin Try.prog .shr 34 s0 (Go.Value.int Go.IntKind.u64 7) fun v17 =>
 K0 [v17, s1, s2, v15, s0, (.bool true), s0, v17, s3, s0, v10, v12, v13, v15, s14, s15, s16, s17, s18, s19] H16)
 (f20_J0 R [s0, s1, s2, s3, s0, (.bool false), s6, s7, s8, s9, s10, s11, s12, s13, s14, s15, s16, s17, s18, s19] H)
theorem f20_R0_eq (s0 s1 s2 s3 s4 s5 s6 s7 s8 s9 s10 s11 s12 s13 s14 s15 s16 s17 s18 s19 : Value) (H : AH) (K0 : List Value → AH → Prop) (R : AEnd → AH → Prop) : awpF Try.prog (codeAt f20_c [1, 1, 0, 0, 0]) (thenF K0 (f20_Q0 R)) [s0, s1, s2, s3, s4, s5, s6, s7, s8, s9, s10, s11, s12, s13, s14, s15, s16, s17, s18, s19] H = f20_R0 s0 s1 s2 s3 s4 s5 s6 s7 s8 s9 s10 s11 s12 s13 s14 s15 s16 s17 s18 s19 H K0 R := by kernel_rfl
def f20_I0 (s1 s2 s14 s15 s16 s17 s18 s19 : Value) (J : Nat → Value → Value → AH → Prop) (n : Nat) (tm : List Value) (H : AH) : Prop := ∃ y0 y3 y4 y5 y6 y7 y8 y9 y10 y11 y12 y13 : Value, tm = [y0, s1, s2, y3, y4, y5, y6, y7, y8, y9, y10, y11, y12, y13, s14, s15, s16, s17, s18, s19] ∧ J n y0 y3 H
theorem f20_I0_mk {s0 s1 s2 s3 s4 s5 s6 s7 s8 s9 s10 s11 s12 s13 s14 s15 s16 s17 s18 s19 : Value} {J : Nat → Value → Value → AH → Prop} {n : Nat} {H : AH} (h : J n s0 s3 H) : f20_I0 s1 s2 s14 s15 s16 s17 s18 s19 J n [s0, s1, s2, s3, s4, s5, s6, s7, s8, s9, s10, s11, s12, s13, s14, s15, s16, s17, s18, s19] H := ⟨_, _, _, _, _, _, _, _, _, _, _, _, rfl, h⟩
-- loop 0: carried slots [0, 3] (n, b)
theorem f20_L0_rule {s0 s1 s2 s3 s4 s5 s6 s7 s8 s9 s10 s11 s12 s13 s14 s15 s16 s17 s18 s19 : Value} {H : AH} {R : AEnd → AH → Prop} (J : Nat → Value → Value → AH → Prop) (n : Nat) (h0 : J n s0 s3 H)
  (step : ∀ (n : Nat) (x0 x3 : Value) (H : AH), J n x0 x3 H → ∀ (x4 x5 x6 x7 x8 x9 x10 x11 x12 x13 : Value), f20_R0 x0 s1 s2 x3 x4 x5 x6 x7 x8 x9 x10 x11 x12 x13 s14 s15 s16 s17 s18 s19 H (fun tm H => ∃ m, m < n ∧ f20_I0 s1 s2 s14 s15 s16 s17 s18 s19 J m tm H) R) : f20_L0 R [s0, s1, s2, s3, s4, s5, s6, s7, s8, s9, s10, s11, s12, s13, s14, s15, s16, s17, s18, s19] H :=
  awpF_loop (f20_I0 s1 s2 s14 s15 s16 s17 s18 s19 J) n (f20_I0_mk h0) (by
    rintro n tm H ⟨x0, x3, x4, x5, x6, x7, x8, x9, x10, x11, x12, x13, rfl, h⟩
    exact Eq.mpr (f20_R0_eq x0 s1 s2 x3 x4 x5 x6 x7 x8 x9 x10 x11 x12 x13 s14 s15 s16 s17 s18 s19 H _ R) (step n x0 x3 H h x4 x5 x6 x7 x8 x9 x10 x11 x12 x13))
def f20_B (x0 : Value) (H : AH) (R : AEnd → AH → Prop) : Prop :=
 f20_L0 R [x0, undef, (Go.Value.string { data := #[] }), (Go.Value.slice none 0 0), undef, undef, undef, undef, undef, undef, undef, undef, undef, undef, undef, undef, undef, undef, undef, undef] H
theorem f20_eq (x0 : Value) (H : AH) (R : AEnd → AH → Prop) : awpF Try.prog f20_c (aPost Try.f20 R) ([x0] ++ List.replicate (Try.f20.ntmps - [x0].length) undef) H = f20_B x0 H R := by kernel_rfl
theorem f20_call (x0 : Value) (H : AH) (R : AEnd → AH → Prop) (h : f20_B x0 H R) : ACall Try.prog 20 [x0] H R :=
  acall_of mixed Try.func20 (by kernel_rfl : Try.f20.body = some f20_c) (by kernel_rfl) (by kernel_rfl) (awp_of (Eq.mpr (f20_eq x0 H R) h))

/-! f21: switchyard/pack.Number -/
noncomputable def f21_c : Code := Try.f21.body.getD .skip
def f21_B (x0 : Value) (H : AH) (R : AEnd → AH → Prop) : Prop :=
 aConvert Try.prog 2 34 x0 H fun v1 H2 =>
 aBin Try.prog .shl 34 v1 (Go.Value.int Go.IntKind.u64 1) fun v3 =>
 aBin Try.prog .shr 2 x0 (Go.Value.int Go.IntKind.u64 63) fun v4 =>
 aConvert Try.prog 2 34 v4 H2 fun v5 H6 =>
 aBin Try.prog .xor 34 v3 v5 fun v7 =>
 aCall Try.prog (.func (.func 20) #[] #[]) [v7] H6 (fun v8 H9 =>
 R (.ret v8) H9) (fun v11 H10 => R (.panic v11) H10)
theorem f21_eq (x0 : Value) (H : AH) (R : AEnd → AH → Prop) : awpF Try.prog f21_c (aPost Try.f21 R) ([x0] ++ List.replicate (Try.f21.ntmps - [x0].length) undef) H = f21_B x0 H R := by kernel_rfl
theorem f21_call (x0 : Value) (H : AH) (R : AEnd → AH → Prop) (h : f21_B x0 H R) : ACall Try.prog 21 [x0] H R :=
  acall_of mixed Try.func21 (by kernel_rfl : Try.f21.body = some f21_c) (by kernel_rfl) (by kernel_rfl) (awp_of (Eq.mpr (f21_eq x0 H R) h))

/-! f22: switchyard/switchyardref02.Count -/
noncomputable def f22_c : Code := Try.f22.body.getD .skip
def f22_Q0 (R : AEnd → AH → Prop) : AExit → List Value → AH → Prop := ctxF Try.prog f22_c [1, 1, 0, 0] (aPost Try.f22 R)
def f22_L0 (R : AEnd → AH → Prop) (tm : List Value) (H : AH) : Prop := awpF Try.prog (codeAt f22_c [1, 1, 0, 0]) (f22_Q0 R) tm H
def f22_J0 (R : AEnd → AH → Prop) (tm : List Value) (H : AH) : Prop := hold (awpF Try.prog (codeAt f22_c [1, 1, 1]) (ctxF Try.prog f22_c [1, 1, 1] (aPost Try.f22 R)) tm H)
-- join 0: live slots 0:n, 3:b
def f22_J0_B (s0 s1 s2 s3 s4 s5 s6 s7 s8 s9 s10 s11 s12 s13 s14 s15 s16 s17 s18 s19 s20 : Value) (H : AH) (R : AEnd → AH → Prop) : Prop :=
 aConvert Try.prog 34 5 s0 H fun v1 H2 =>
 aBuildSlice Try.prog 30 1 [(0, v1)] H2 fun v3 H4 =>
 aBuiltin Try.prog .append [30, 30] [s3, v3] H4 fun v5 H6 =>
 aConvert Try.prog 30 9 v5 H6 fun v7 H8 =>
 R (.ret v7) H8
theorem f22_J0_eq (s0 s1 s2 s3 s4 s5 s6 s7 s8 s9 s10 s11 s12 s13 s14 s15 s16 s17 s18 s19 s20 : Value) (H : AH) (R : AEnd → AH → Prop) : f22_J0 R [s0, s1, s2, s3, s4, s5, s6, s7, s8, s9, s10, s11, s12, s13, s14, s15, s16, s17, s18, s19, s20] H = f22_J0_B s0 s1 s2 s3 s4 s5 s6 s7 s8 s9 s10 s11 s12 s13 s14 s15 s16 s17 s18 s19 s20 H R := by kernel_rfl
def f22_R0 (s0 s1 s2 s3 s4 s5 s6 s7 s8 s9 s10 s11 s12 s13 s14 s15 s16 s17 s18 s19 s20 : Value) (H : AH) (K0 : List Value → AH → Prop) (R : AEnd → AH → Prop) : Prop :=
 aBin Try.prog .geq 34 s0 (Go.Value.int Go.IntKind.u64 128) fun v9 =>
 aIf v9
 (aBin Try.prog .rem 34 s0 (Go.Value.int Go.IntKind.u64 128) fun v10 =>
 aBin Try.prog .add 34 (Go.Value.int Go.IntKind.u64 128) v10 fun v11 =>
 aConvert Try.prog 34 5 v11 H fun v12 H13 =>
 aBuildSlice Try.prog 30 1 [(0, v12)] H13 fun v14 H15 =>
 aBuiltin Try.prog .append [30, 30] [s3, v14] H15 fun v16 H17 =>
 aBin Try.prog .quo 34 s0 (Go.Value.int Go.IntKind.u64 128) fun v18 =>
 K0 [v18, s1, s2, v16, s0, (.bool true), s3, s0, v10, v11, v12, v14, v16, s0, v18, s15, s16, s17, s18, s19, s20] H17)
 (f22_J0 R [s0, s1, s2, s3, s0, (.bool false), s6, s7, s8, s9, s10, s11, s12, s13, s14, s15, s16, s17, s18, s19, s20] H)
theorem f22_R0_eq (s0 s1 s2 s3 s4 s5 s6 s7 s8 s9 s10 s11 s12 s13 s14 s15 s16 s17 s18 s19 s20 : Value) (H : AH) (K0 : List Value → AH → Prop) (R : AEnd → AH → Prop) : awpF Try.prog (codeAt f22_c [1, 1, 0, 0, 0]) (thenF K0 (f22_Q0 R)) [s0, s1, s2, s3, s4, s5, s6, s7, s8, s9, s10, s11, s12, s13, s14, s15, s16, s17, s18, s19, s20] H = f22_R0 s0 s1 s2 s3 s4 s5 s6 s7 s8 s9 s10 s11 s12 s13 s14 s15 s16 s17 s18 s19 s20 H K0 R := by kernel_rfl
def f22_I0 (s1 s2 s15 s16 s17 s18 s19 s20 : Value) (J : Nat → Value → Value → AH → Prop) (n : Nat) (tm : List Value) (H : AH) : Prop := ∃ y0 y3 y4 y5 y6 y7 y8 y9 y10 y11 y12 y13 y14 : Value, tm = [y0, s1, s2, y3, y4, y5, y6, y7, y8, y9, y10, y11, y12, y13, y14, s15, s16, s17, s18, s19, s20] ∧ J n y0 y3 H
theorem f22_I0_mk {s0 s1 s2 s3 s4 s5 s6 s7 s8 s9 s10 s11 s12 s13 s14 s15 s16 s17 s18 s19 s20 : Value} {J : Nat → Value → Value → AH → Prop} {n : Nat} {H : AH} (h : J n s0 s3 H) : f22_I0 s1 s2 s15 s16 s17 s18 s19 s20 J n [s0, s1, s2, s3, s4, s5, s6, s7, s8, s9, s10, s11, s12, s13, s14, s15, s16, s17, s18, s19, s20] H := ⟨_, _, _, _, _, _, _, _, _, _, _, _, _, rfl, h⟩
-- loop 0: carried slots [0, 3] (n, b)
theorem f22_L0_rule {s0 s1 s2 s3 s4 s5 s6 s7 s8 s9 s10 s11 s12 s13 s14 s15 s16 s17 s18 s19 s20 : Value} {H : AH} {R : AEnd → AH → Prop} (J : Nat → Value → Value → AH → Prop) (n : Nat) (h0 : J n s0 s3 H)
  (step : ∀ (n : Nat) (x0 x3 : Value) (H : AH), J n x0 x3 H → ∀ (x4 x5 x6 x7 x8 x9 x10 x11 x12 x13 x14 : Value), f22_R0 x0 s1 s2 x3 x4 x5 x6 x7 x8 x9 x10 x11 x12 x13 x14 s15 s16 s17 s18 s19 s20 H (fun tm H => ∃ m, m < n ∧ f22_I0 s1 s2 s15 s16 s17 s18 s19 s20 J m tm H) R) : f22_L0 R [s0, s1, s2, s3, s4, s5, s6, s7, s8, s9, s10, s11, s12, s13, s14, s15, s16, s17, s18, s19, s20] H :=
  awpF_loop (f22_I0 s1 s2 s15 s16 s17 s18 s19 s20 J) n (f22_I0_mk h0) (by
    rintro n tm H ⟨x0, x3, x4, x5, x6, x7, x8, x9, x10, x11, x12, x13, x14, rfl, h⟩
    exact Eq.mpr (f22_R0_eq x0 s1 s2 x3 x4 x5 x6 x7 x8 x9 x10 x11 x12 x13 x14 s15 s16 s17 s18 s19 s20 H _ R) (step n x0 x3 H h x4 x5 x6 x7 x8 x9 x10 x11 x12 x13 x14))
def f22_B (x0 : Value) (H : AH) (R : AEnd → AH → Prop) : Prop :=
 f22_L0 R [x0, undef, (Go.Value.string { data := #[] }), (Go.Value.slice none 0 0), undef, undef, undef, undef, undef, undef, undef, undef, undef, undef, undef, undef, undef, undef, undef, undef, undef] H
theorem f22_eq (x0 : Value) (H : AH) (R : AEnd → AH → Prop) : awpF Try.prog f22_c (aPost Try.f22 R) ([x0] ++ List.replicate (Try.f22.ntmps - [x0].length) undef) H = f22_B x0 H R := by kernel_rfl
theorem f22_call (x0 : Value) (H : AH) (R : AEnd → AH → Prop) (h : f22_B x0 H R) : ACall Try.prog 22 [x0] H R :=
  acall_of mixed Try.func22 (by kernel_rfl : Try.f22.body = some f22_c) (by kernel_rfl) (by kernel_rfl) (awp_of (Eq.mpr (f22_eq x0 H R) h))

/-! f23: switchyard/switchyardref02.Number -/
noncomputable def f23_c : Code := Try.f23.body.getD .skip
def f23_B (x0 : Value) (H : AH) (R : AEnd → AH → Prop) : Prop :=
 aBin Try.prog .lss 2 x0 (Go.Value.int Go.IntKind.i64 0) fun v1 =>
 aIf v1
 (aBin Try.prog .add 2 x0 (Go.Value.int Go.IntKind.i64 1) fun v2 =>
 aUn .neg v2 fun v3 =>
 aConvert Try.prog 2 34 v3 H fun v4 H5 =>
 aBin Try.prog .mul 34 (Go.Value.int Go.IntKind.u64 2) v4 fun v6 =>
 aBin Try.prog .add 34 v6 (Go.Value.int Go.IntKind.u64 1) fun v7 =>
 aCall Try.prog (.func (.func 22) #[] #[]) [v7] H5 (fun v8 H9 =>
 R (.ret v8) H9) (fun v11 H10 => R (.panic v11) H10))
 (aConvert Try.prog 2 34 x0 H fun v12 H13 =>
 aBin Try.prog .mul 34 (Go.Value.int Go.IntKind.u64 2) v12 fun v14 =>
 aCall Try.prog (.func (.func 22) #[] #[]) [v14] H13 (fun v15 H16 =>
 R (.ret v15) H16) (fun v18 H17 => R (.panic v18) H17))
theorem f23_eq (x0 : Value) (H : AH) (R : AEnd → AH → Prop) : awpF Try.prog f23_c (aPost Try.f23 R) ([x0] ++ List.replicate (Try.f23.ntmps - [x0].length) undef) H = f23_B x0 H R := by kernel_rfl
theorem f23_call (x0 : Value) (H : AH) (R : AEnd → AH → Prop) (h : f23_B x0 H R) : ACall Try.prog 23 [x0] H R :=
  acall_of mixed Try.func23 (by kernel_rfl : Try.f23.body = some f23_c) (by kernel_rfl) (by kernel_rfl) (awp_of (Eq.mpr (f23_eq x0 H R) h))

/-! f24: switchyard/pack.Text -/
noncomputable def f24_c : Code := Try.f24.body.getD .skip
def f24_B (x0 : Value) (H : AH) (R : AEnd → AH → Prop) : Prop :=
 aBuiltin Try.prog .len [9] [x0] H fun v1 H2 =>
 aConvert Try.prog 3 34 v1 H2 fun v3 H4 =>
 aCall Try.prog (.func (.func 20) #[] #[]) [v3] H4 (fun v5 H6 =>
 aBin Try.prog .add 9 v5 x0 fun v7 =>
 R (.ret v7) H6) (fun v9 H8 => R (.panic v9) H8)
theorem f24_eq (x0 : Value) (H : AH) (R : AEnd → AH → Prop) : awpF Try.prog f24_c (aPost Try.f24 R) ([x0] ++ List.replicate (Try.f24.ntmps - [x0].length) undef) H = f24_B x0 H R := by kernel_rfl
theorem f24_call (x0 : Value) (H : AH) (R : AEnd → AH → Prop) (h : f24_B x0 H R) : ACall Try.prog 24 [x0] H R :=
  acall_of mixed Try.func24 (by kernel_rfl : Try.f24.body = some f24_c) (by kernel_rfl) (by kernel_rfl) (awp_of (Eq.mpr (f24_eq x0 H R) h))

/-! f25: switchyard/switchyardref02.Text -/
noncomputable def f25_c : Code := Try.f25.body.getD .skip
def f25_B (x0 : Value) (H : AH) (R : AEnd → AH → Prop) : Prop :=
 aBuiltin Try.prog .len [9] [x0] H fun v1 H2 =>
 aConvert Try.prog 3 34 v1 H2 fun v3 H4 =>
 aCall Try.prog (.func (.func 22) #[] #[]) [v3] H4 (fun v5 H6 =>
 aBin Try.prog .add 9 v5 x0 fun v7 =>
 R (.ret v7) H6) (fun v9 H8 => R (.panic v9) H8)
theorem f25_eq (x0 : Value) (H : AH) (R : AEnd → AH → Prop) : awpF Try.prog f25_c (aPost Try.f25 R) ([x0] ++ List.replicate (Try.f25.ntmps - [x0].length) undef) H = f25_B x0 H R := by kernel_rfl
theorem f25_call (x0 : Value) (H : AH) (R : AEnd → AH → Prop) (h : f25_B x0 H R) : ACall Try.prog 25 [x0] H R :=
  acall_of mixed Try.func25 (by kernel_rfl : Try.f25.body = some f25_c) (by kernel_rfl) (by kernel_rfl) (awp_of (Eq.mpr (f25_eq x0 H R) h))

/-! f26: switchyard/pack.Truth -/
noncomputable def f26_c : Code := Try.f26.body.getD .skip
def f26_B (x0 : Value) (H : AH) (R : AEnd → AH → Prop) : Prop :=
 aIf x0
 (R (.ret (Go.Value.string { data := #[1] })) H)
 (R (.ret (Go.Value.string { data := #[0] })) H)
theorem f26_eq (x0 : Value) (H : AH) (R : AEnd → AH → Prop) : awpF Try.prog f26_c (aPost Try.f26 R) ([x0] ++ List.replicate (Try.f26.ntmps - [x0].length) undef) H = f26_B x0 H R := by kernel_rfl
theorem f26_call (x0 : Value) (H : AH) (R : AEnd → AH → Prop) (h : f26_B x0 H R) : ACall Try.prog 26 [x0] H R :=
  acall_of mixed Try.func26 (by kernel_rfl : Try.f26.body = some f26_c) (by kernel_rfl) (by kernel_rfl) (awp_of (Eq.mpr (f26_eq x0 H R) h))

/-! f27: switchyard/pack.New -/
noncomputable def f27_c : Code := Try.f27.body.getD .skip
def f27_B (x0 : Value) (H : AH) (R : AEnd → AH → Prop) : Prop :=
 aBuild Try.prog 59 [(0, x0)] fun v1 =>
 aNew v1 H fun v2 H3 =>
 R (.ret v2) H3
theorem f27_eq (x0 : Value) (H : AH) (R : AEnd → AH → Prop) : awpF Try.prog f27_c (aPost Try.f27 R) ([x0] ++ List.replicate (Try.f27.ntmps - [x0].length) undef) H = f27_B x0 H R := by kernel_rfl
theorem f27_call (x0 : Value) (H : AH) (R : AEnd → AH → Prop) (h : f27_B x0 H R) : ACall Try.prog 27 [x0] H R :=
  acall_of mixed Try.func27 (by kernel_rfl : Try.f27.body = some f27_c) (by kernel_rfl) (by kernel_rfl) (awp_of (Eq.mpr (f27_eq x0 H R) h))

/-! f41: (*switchyard/pack.Reader).off -/
noncomputable def f41_c : Code := Try.f41.body.getD .skip
def f41_B (x0 : Value) (H : AH) (R : AEnd → AH → Prop) : Prop :=
 aBin Try.prog .eql 41 x0 (Go.Value.pointer none) fun v1 =>
 aIf v1
 (R (.ret (.bool true)) H)
 (aNilCheck x0 fun v3 =>
 aField Try.prog 59 v3 1 fun v4 =>
 aLoad Try.prog 46 v4 H fun v5 =>
 aBin Try.prog .neq 46 v5 (Go.Value.int Go.IntKind.i64 0) fun v6 =>
 R (.ret v6) H)
theorem f41_eq (x0 : Value) (H : AH) (R : AEnd → AH → Prop) : awpF Try.prog f41_c (aPost Try.f41 R) ([x0] ++ List.replicate (Try.f41.ntmps - [x0].length) undef) H = f41_B x0 H R := by kernel_rfl
theorem f41_call (x0 : Value) (H : AH) (R : AEnd → AH → Prop) (h : f41_B x0 H R) : ACall Try.prog 41 [x0] H R :=
  acall_of mixed Try.func41 (by kernel_rfl : Try.f41.body = some f41_c) (by kernel_rfl) (by kernel_rfl) (awp_of (Eq.mpr (f41_eq x0 H R) h))

/-! f42: (*switchyard/pack.Reader).count -/
noncomputable def f42_c : Code := Try.f42.body.getD .skip
def f42_Q0 (R : AEnd → AH → Prop) : AExit → List Value → AH → Prop := ctxF Try.prog f42_c [1, 1, 0, 1, 0] (aPost Try.f42 R)
def f42_L0 (R : AEnd → AH → Prop) (tm : List Value) (H : AH) : Prop := awpF Try.prog (codeAt f42_c [1, 1, 0, 1, 0]) (f42_Q0 R) tm H
def f42_J0 (K0 : List Value → AH → Prop) (R : AEnd → AH → Prop) (tm : List Value) (H : AH) : Prop := hold (awpF Try.prog (codeAt f42_c [1, 1, 0, 1, 0, 0, 1, 1, 0, 0, 1, 1, 1, 0, 1]) (ctxF Try.prog (codeAt f42_c [1, 1, 0, 1, 0, 0]) [1, 1, 0, 0, 1, 1, 1, 0, 1] (thenF K0 (f42_Q0 R))) tm H)
def f42_J1 (K0 : List Value → AH → Prop) (R : AEnd → AH → Prop) (tm : List Value) (H : AH) : Prop := hold (awpF Try.prog (codeAt f42_c [1, 1, 0, 1, 0, 0, 1, 1, 0, 0, 1, 1, 1, 1]) (ctxF Try.prog (codeAt f42_c [1, 1, 0, 1, 0, 0]) [1, 1, 0, 0, 1, 1, 1, 1] (thenF K0 (f42_Q0 R))) tm H)
def f42_J2 (K0 : List Value → AH → Prop) (R : AEnd → AH → Prop) (tm : List Value) (H : AH) : Prop := hold (awpF Try.prog (codeAt f42_c [1, 1, 0, 1, 0, 0, 1, 1, 0, 0, 1, 1, 1, 1, 1, 1, 0, 0, 1]) (ctxF Try.prog (codeAt f42_c [1, 1, 0, 1, 0, 0]) [1, 1, 0, 0, 1, 1, 1, 1, 1, 1, 0, 0, 1] (thenF K0 (f42_Q0 R))) tm H)
def f42_J3 (K0 : List Value → AH → Prop) (R : AEnd → AH → Prop) (tm : List Value) (H : AH) : Prop := hold (awpF Try.prog (codeAt f42_c [1, 1, 0, 1, 0, 0, 1, 1, 0, 0, 1, 1, 1, 1, 1, 1, 0, 1]) (ctxF Try.prog (codeAt f42_c [1, 1, 0, 1, 0, 0]) [1, 1, 0, 0, 1, 1, 1, 1, 1, 1, 0, 1] (thenF K0 (f42_Q0 R))) tm H)
def f42_J4 (R : AEnd → AH → Prop) (tm : List Value) (H : AH) : Prop := hold (awpF Try.prog (codeAt f42_c [1, 1, 1]) (ctxF Try.prog f42_c [1, 1, 1] (aPost Try.f42 R)) tm H)
-- join 4: live slots 
def f42_J4_B (s0 s1 s2 s3 s4 s5 s6 s7 s8 s9 s10 s11 s12 s13 s14 s15 s16 s17 s18 s19 s20 s21 s22 s23 s24 s25 s26 s27 s28 s29 s30 s31 s32 s33 s34 s35 s36 s37 s38 s39 s40 s41 s42 s43 s44 s45 s46 s47 s48 s49 : Value) (H : AH) (R : AEnd → AH → Prop) : Prop :=
 R (.ret (.tuple #[(Go.Value.int Go.IntKind.u64 0), (Go.Value.int Go.IntKind.i64 0), (Go.Value.int Go.IntKind.i64 4)])) H
theorem f42_J4_eq (s0 s1 s2 s3 s4 s5 s6 s7 s8 s9 s10 s11 s12 s13 s14 s15 s16 s17 s18 s19 s20 s21 s22 s23 s24 s25 s26 s27 s28 s29 s30 s31 s32 s33 s34 s35 s36 s37 s38 s39 s40 s41 s42 s43 s44 s45 s46 s47 s48 s49 : Value) (H : AH) (R : AEnd → AH → Prop) : f42_J4 R [s0, s1, s2, s3, s4, s5, s6, s7, s8, s9, s10, s11, s12, s13, s14, s15, s16, s17, s18, s19, s20, s21, s22, s23, s24, s25, s26, s27, s28, s29, s30, s31, s32, s33, s34, s35, s36, s37, s38, s39, s40, s41, s42, s43, s44, s45, s46, s47, s48, s49] H = f42_J4_B s0 s1 s2 s3 s4 s5 s6 s7 s8 s9 s10 s11 s12 s13 s14 s15 s16 s17 s18 s19 s20 s21 s22 s23 s24 s25 s26 s27 s28 s29 s30 s31 s32 s33 s34 s35 s36 s37 s38 s39 s40 s41 s42 s43 s44 s45 s46 s47 s48 s49 H R := by kernel_rfl
-- join 3: live slots 5:n, 6:i
def f42_J3_B (s0 s1 s2 s3 s4 s5 s6 s7 s8 s9 s10 s11 s12 s13 s14 s15 s16 s17 s18 s19 s20 s21 s22 s23 s24 s25 s26 s27 s28 s29 s30 s31 s32 s33 s34 s35 s36 s37 s38 s39 s40 s41 s42 s43 s44 s45 s46 s47 s48 s49 : Value) (H : AH) (K0 : List Value → AH → Prop) (R : AEnd → AH → Prop) : Prop :=
 aBin Try.prog .add 3 s6 (Go.Value.int Go.IntKind.i64 1) fun v1 =>
 R (.ret (.tuple #[s5, v1, (Go.Value.int Go.IntKind.i64 0)])) H
theorem f42_J3_eq (s0 s1 s2 s3 s4 s5 s6 s7 s8 s9 s10 s11 s12 s13 s14 s15 s16 s17 s18 s19 s20 s21 s22 s23 s24 s25 s26 s27 s28 s29 s30 s31 s32 s33 s34 s35 s36 s37 s38 s39 s40 s41 s42 s43 s44 s45 s46 s47 s48 s49 : Value) (H : AH) (K0 : List Value → AH → Prop) (R : AEnd → AH → Prop) : f42_J3 K0 R [s0, s1, s2, s3, s4, s5, s6, s7, s8, s9, s10, s11, s12, s13, s14, s15, s16, s17, s18, s19, s20, s21, s22, s23, s24, s25, s26, s27, s28, s29, s30, s31, s32, s33, s34, s35, s36, s37, s38, s39, s40, s41, s42, s43, s44, s45, s46, s47, s48, s49] H = f42_J3_B s0 s1 s2 s3 s4 s5 s6 s7 s8 s9 s10 s11 s12 s13 s14 s15 s16 s17 s18 s19 s20 s21 s22 s23 s24 s25 s26 s27 s28 s29 s30 s31 s32 s33 s34 s35 s36 s37 s38 s39 s40 s41 s42 s43 s44 s45 s46 s47 s48 s49 H K0 R := by kernel_rfl
-- join 2: live slots 5:n, 6:i, 45:
def f42_J2_B (s0 s1 s2 s3 s4 s5 s6 s7 s8 s9 s10 s11 s12 s13 s14 s15 s16 s17 s18 s19 s20 s21 s22 s23 s24 s25 s26 s27 s28 s29 s30 s31 s32 s33 s34 s35 s36 s37 s38 s39 s40 s41 s42 s43 s44 s45 s46 s47 s48 s49 : Value) (H : AH) (K0 : List Value → AH → Prop) (R : AEnd → AH → Prop) : Prop :=
 aIf s45
 (R (.ret (.tuple #[(Go.Value.int Go.IntKind.u64 0), (Go.Value.int Go.IntKind.i64 0), (Go.Value.int Go.IntKind.i64 4)])) H)
 (f42_J3 K0 R [s0, s1, s2, s3, s4, s5, s6, s7, s8, s9, s10, s11, s12, s13, s14, s15, s16, s17, s18, s19, s20, s21, s22, s23, s24, s25, s26, s27, s28, s29, s30, s31, s32, s33, s34, s35, s36, s37, s38, s39, s40, s41, s42, s43, s44, (.bool false), s46, s47, s48, s49] H)
theorem f42_J2_eq (s0 s1 s2 s3 s4 s5 s6 s7 s8 s9 s10 s11 s12 s13 s14 s15 s16 s17 s18 s19 s20 s21 s22 s23 s24 s25 s26 s27 s28 s29 s30 s31 s32 s33 s34 s35 s36 s37 s38 s39 s40 s41 s42 s43 s44 s45 s46 s47 s48 s49 : Value) (H : AH) (K0 : List Value → AH → Prop) (R : AEnd → AH → Prop) : f42_J2 K0 R [s0, s1, s2, s3, s4, s5, s6, s7, s8, s9, s10, s11, s12, s13, s14, s15, s16, s17, s18, s19, s20, s21, s22, s23, s24, s25, s26, s27, s28, s29, s30, s31, s32, s33, s34, s35, s36, s37, s38, s39, s40, s41, s42, s43, s44, s45, s46, s47, s48, s49] H = f42_J2_B s0 s1 s2 s3 s4 s5 s6 s7 s8 s9 s10 s11 s12 s13 s14 s15 s16 s17 s18 s19 s20 s21 s22 s23 s24 s25 s26 s27 s28 s29 s30 s31 s32 s33 s34 s35 s36 s37 s38 s39 s40 s41 s42 s43 s44 s45 s46 s47 s48 s49 H K0 R := by kernel_rfl
-- join 1: live slots 0:r, 5:n, 6:i, 7:c, 8:, 27:, 28:, 43:, 44:
def f42_J1_B (s0 s1 s2 s3 s4 s5 s6 s7 s8 s9 s10 s11 s12 s13 s14 s15 s16 s17 s18 s19 s20 s21 s22 s23 s24 s25 s26 s27 s28 s29 s30 s31 s32 s33 s34 s35 s36 s37 s38 s39 s40 s41 s42 s43 s44 s45 s46 s47 s48 s49 : Value) (H : AH) (K0 : List Value → AH → Prop) (R : AEnd → AH → Prop) : Prop :=
 aBin Try.prog .and 5 s7 (Go.Value.int Go.IntKind.u8 127) fun v2 =>
 aConvert Try.prog 5 34 v2 H fun v3 H4 =>
 aBin Try.prog .mul 3 (Go.Value.int Go.IntKind.i64 7) s6 fun v5 =>
 aBin Try.prog .shl 34 v3 v5 fun v6 =>
 aBin Try.prog .or 34 s5 v6 fun v7 =>
 aBin Try.prog .lss 5 s7 (Go.Value.int Go.IntKind.u8 128) fun v8 =>
 aIf v8
 (aBin Try.prog .eql 5 s7 (Go.Value.int Go.IntKind.u8 0) fun v9 =>
 aIf v9
 (aBin Try.prog .gtr 3 s6 (Go.Value.int Go.IntKind.i64 0) fun v10 =>
 f42_J2 K0 R [s0, s1, s2, s3, s4, v7, s6, s7, s8, s9, s10, s11, s12, s13, s14, s15, s16, s17, s18, s19, s20, s21, s22, s23, s24, s25, s26, s27, s28, s29, s5, s7, v2, v3, s6, v5, v6, v7, s7, (.bool true), s7, v9, (.bool true), s6, v10, v10, s46, s47, s48, s49] H4)
 (f42_J2 K0 R [s0, s1, s2, s3, s4, v7, s6, s7, s8, s9, s10, s11, s12, s13, s14, s15, s16, s17, s18, s19, s20, s21, s22, s23, s24, s25, s26, s27, s28, s29, s5, s7, v2, v3, s6, v5, v6, v7, s7, (.bool true), s7, v9, (.bool false), undef, undef, (.bool false), s46, s47, s48, s49] H4))
 (aBin Try.prog .add 3 s8 (Go.Value.int Go.IntKind.i64 1) fun v13 =>
 K0 [s0, s1, s2, s3, s4, v7, s6, s7, v13, s9, s10, s11, s12, s13, s14, s15, s16, s17, s18, s19, s20, s21, s22, s23, s24, s25, s26, s27, s28, s29, s5, s7, v2, v3, s6, v5, v6, v7, s7, (.bool false), s40, s41, s42, s43, s44, s45, s46, s47, s48, v13] H4)
theorem f42_J1_eq (s0 s1 s2 s3 s4 s5 s6 s7 s8 s9 s10 s11 s12 s13 s14 s15 s16 s17 s18 s19 s20 s21 s22 s23 s24 s25 s26 s27 s28 s29 s30 s31 s32 s33 s34 s35 s36 s37 s38 s39 s40 s41 s42 s43 s44 s45 s46 s47 s48 s49 : Value) (H : AH) (K0 : List Value → AH → Prop) (R : AEnd → AH → Prop) : f42_J1 K0 R [s0, s1, s2, s3, s4, s5, s6, s7, s8, s9, s10, s11, s12, s13, s14, s15, s16, s17, s18, s19, s20, s21, s22, s23, s24, s25, s26, s27, s28, s29, s30, s31, s32, s33, s34, s35, s36, s37, s38, s39, s40, s41, s42, s43, s44, s45, s46, s47, s48, s49] H = f42_J1_B s0 s1 s2 s3 s4 s5 s6 s7 s8 s9 s10 s11 s12 s13 s14 s15 s16 s17 s18 s19 s20 s21 s22 s23 s24 s25 s26 s27 s28 s29 s30 s31 s32 s33 s34 s35 s36 s37 s38 s39 s40 s41 s42 s43 s44 s45 s46 s47 s48 s49 H K0 R := by kernel_rfl
-- join 0: live slots 0:r, 5:n, 6:i, 7:c, 8:, 27:, 28:, 29:, 43:, 44:
def f42_J0_B (s0 s1 s2 s3 s4 s5 s6 s7 s8 s9 s10 s11 s12 s13 s14 s15 s16 s17 s18 s19 s20 s21 s22 s23 s24 s25 s26 s27 s28 s29 s30 s31 s32 s33 s34 s35 s36 s37 s38 s39 s40 s41 s42 s43 s44 s45 s46 s47 s48 s49 : Value) (H : AH) (K0 : List Value → AH → Prop) (R : AEnd → AH → Prop) : Prop :=
 aIf s29
 (R (.ret (.tuple #[(Go.Value.int Go.IntKind.u64 0), (Go.Value.int Go.IntKind.i64 0), (Go.Value.int Go.IntKind.i64 4)])) H)
 (f42_J1 K0 R [s0, s1, s2, s3, s4, s5, s6, s7, s8, s9, s10, s11, s12, s13, s14, s15, s16, s17, s18, s19, s20, s21, s22, s23, s24, s25, s26, s27, s28, (.bool false), s30, s31, s32, s33, s34, s35, s36, s37, s38, s39, s40, s41, s42, s43, s44, s45, s46, s47, s48, s49] H)
theorem f42_J0_eq (s0 s1 s2 s3 s4 s5 s6 s7 s8 s9 s10 s11 s12 s13 s14 s15 s16 s17 s18 s19 s20 s21 s22 s23 s24 s25 s26 s27 s28 s29 s30 s31 s32 s33 s34 s35 s36 s37 s38 s39 s40 s41 s42 s43 s44 s45 s46 s47 s48 s49 : Value) (H : AH) (K0 : List Value → AH → Prop) (R : AEnd → AH → Prop) : f42_J0 K0 R [s0, s1, s2, s3, s4, s5, s6, s7, s8, s9, s10, s11, s12, s13, s14, s15, s16, s17, s18, s19, s20, s21, s22, s23, s24, s25, s26, s27, s28, s29, s30, s31, s32, s33, s34, s35, s36, s37, s38, s39, s40, s41, s42, s43, s44, s45, s46, s47, s48, s49] H = f42_J0_B s0 s1 s2 s3 s4 s5 s6 s7 s8 s9 s10 s11 s12 s13 s14 s15 s16 s17 s18 s19 s20 s21 s22 s23 s24 s25 s26 s27 s28 s29 s30 s31 s32 s33 s34 s35 s36 s37 s38 s39 s40 s41 s42 s43 s44 s45 s46 s47 s48 s49 H K0 R := by kernel_rfl
def f42_R0 (s0 s1 s2 s3 s4 s5 s6 s7 s8 s9 s10 s11 s12 s13 s14 s15 s16 s17 s18 s19 s20 s21 s22 s23 s24 s25 s26 s27 s28 s29 s30 s31 s32 s33 s34 s35 s36 s37 s38 s39 s40 s41 s42 s43 s44 s45 s46 s47 s48 s49 : Value) (H : AH) (K0 : List Value → AH → Prop) (R : AEnd → AH → Prop) : Prop :=
 aBin Try.prog .lss 3 s8 (Go.Value.int Go.IntKind.i64 10) fun v14 =>
 aIf v14
 (aNilCheck s0 fun v15 =>
 aField Try.prog 59 v15 0 fun v16 =>
 aLoad Try.prog 9 v16 H fun v17 =>
 aBuiltin Try.prog .len [9] [v17] H fun v18 H19 =>
 aBin Try.prog .geq 3 s8 v18 fun v20 =>
 aIf v20
 (R (.ret (.tuple #[(Go.Value.int Go.IntKind.u64 0), (Go.Value.int Go.IntKind.i64 0), (Go.Value.int Go.IntKind.i64 3)])) H19)
 (aNilCheck s0 fun v21 =>
 aField Try.prog 59 v21 0 fun v22 =>
 aLoad Try.prog 9 v22 H19 fun v23 =>
 aIndex Try.prog 9 v23 s8 fun v24 =>
 aBin Try.prog .eql 3 s8 (Go.Value.int Go.IntKind.i64 9) fun v25 =>
 aIf v25
 (aBin Try.prog .gtr 5 v24 (Go.Value.int Go.IntKind.u8 1) fun v26 =>
 f42_J0 K0 R [s0, s1, s2, s3, s4, s5, s8, v24, s8, (.bool true), s8, s8, s0, v15, v16, v17, v18, (.bool false), s0, v21, v22, v23, s8, v24, s8, v25, (.bool true), v24, v26, v26, s30, s31, s32, s33, s34, s35, s36, s37, s38, s39, s40, s41, s42, s43, s44, s45, s46, s47, s48, s49] H19)
 (f42_J0 K0 R [s0, s1, s2, s3, s4, s5, s8, v24, s8, (.bool true), s8, s8, s0, v15, v16, v17, v18, (.bool false), s0, v21, v22, v23, s8, v24, s8, v25, (.bool false), undef, undef, (.bool false), s30, s31, s32, s33, s34, s35, s36, s37, s38, s39, s40, s41, s42, s43, s44, s45, s46, s47, s48, s49] H19)))
 (f42_J4 R [s0, s1, s2, s3, s4, s5, s6, s7, s8, (.bool false), s10, s11, s12, s13, s14, s15, s16, s17, s18, s19, s20, s21, s22, s23, s24, s25, s26, s27, s28, s29, s30, s31, s32, s33, s34, s35, s36, s37, s38, s39, s40, s41, s42, s43, s44, s45, s46, s47, s48, s49] H)
theorem f42_R0_eq (s0 s1 s2 s3 s4 s5 s6 s7 s8 s9 s10 s11 s12 s13 s14 s15 s16 s17 s18 s19 s20 s21 s22 s23 s24 s25 s26 s27 s28 s29 s30 s31 s32 s33 s34 s35 s36 s37 s38 s39 s40 s41 s42 s43 s44 s45 s46 s47 s48 s49 : Value) (H : AH) (K0 : List Value → AH → Prop) (R : AEnd → AH → Prop) : awpF Try.prog (codeAt f42_c [1, 1, 0, 1, 0, 0]) (thenF K0 (f42_Q0 R)) [s0, s1, s2, s3, s4, s5, s6, s7, s8, s9, s10, s11, s12, s13, s14, s15, s16, s17, s18, s19, s20, s21, s22, s23, s24, s25, s26, s27, s28, s29, s30, s31, s32, s33, s34, s35, s36, s37, s38, s39, s40, s41, s42, s43, s44, s45, s46, s47, s48, s49] H = f42_R0 s0 s1 s2 s3 s4 s5 s6 s7 s8 s9 s10 s11 s12 s13 s14 s15 s16 s17 s18 s19 s20 s21 s22 s23 s24 s25 s26 s27 s28 s29 s30 s31 s32 s33 s34 s35 s36 s37 s38 s39 s40 s41 s42 s43 s44 s45 s46 s47 s48 s49 H K0 R := by kernel_rfl
def f42_I0 (s0 s1 : Value) (J : Nat → Value → Value → Value → Value → Value → Value → AH → Prop) (n : Nat) (tm : List Value) (H : AH) : Prop := ∃ y2 y3 y4 y5 y6 y7 y8 y9 y10 y11 y12 y13 y14 y15 y16 y17 y18 y19 y20 y21 y22 y23 y24 y25 y26 y27 y28 y29 y30 y31 y32 y33 y34 y35 y36 y37 y38 y39 y40 y41 y42 y43 y44 y45 y46 y47 y48 y49 : Value, tm = [s0, s1, y2, y3, y4, y5, y6, y7, y8, y9, y10, y11, y12, y13, y14, y15, y16, y17, y18, y19, y20, y21, y22, y23, y24, y25, y26, y27, y28, y29, y30, y31, y32, y33, y34, y35, y36, y37, y38, y39, y40, y41, y42, y43, y44, y45, y46, y47, y48, y49] ∧ J n y5 y8 y27 y28 y43 y44 H
theorem f42_I0_mk {s0 s1 s2 s3 s4 s5 s6 s7 s8 s9 s10 s11 s12 s13 s14 s15 s16 s17 s18 s19 s20 s21 s22 s23 s24 s25 s26 s27 s28 s29 s30 s31 s32 s33 s34 s35 s36 s37 s38 s39 s40 s41 s42 s43 s44 s45 s46 s47 s48 s49 : Value} {J : Nat → Value → Value → Value → Value → Value → Value → AH → Prop} {n : Nat} {H : AH} (h : J n s5 s8 s27 s28 s43 s44 H) : f42_I0 s0 s1 J n [s0, s1, s2, s3, s4, s5, s6, s7, s8, s9, s10, s11, s12, s13, s14, s15, s16, s17, s18, s19, s20, s21, s22, s23, s24, s25, s26, s27, s28, s29, s30, s31, s32, s33, s34, s35, s36, s37, s38, s39, s40, s41, s42, s43, s44, s45, s46, s47, s48, s49] H := ⟨_, _, _, _, _, _, _, _, _, _, _, _, _, _, _, _, _, _, _, _, _, _, _, _, _, _, _, _, _, _, _, _, _, _, _, _, _, _, _, _, _, _, _, _, _, _, _, _, rfl, h⟩
-- loop 0: carried slots [5, 8, 27, 28, 43, 44] (n, , , , , )
theorem f42_L0_rule {s0 s1 s2 s3 s4 s5 s6 s7 s8 s9 s10 s11 s12 s13 s14 s15 s16 s17 s18 s19 s20 s21 s22 s23 s24 s25 s26 s27 s28 s29 s30 s31 s32 s33 s34 s35 s36 s37 s38 s39 s40 s41 s42 s43 s44 s45 s46 s47 s48 s49 : Value} {H : AH} {R : AEnd → AH → Prop} (J : Nat → Value → Value → Value → Value → Value → Value → AH → Prop) (n : Nat) (h0 : J n s5 s8 s27 s28 s43 s44 H)
  (step : ∀ (n : Nat) (x5 x8 x27 x28 x43 x44 : Value) (H : AH), J n x5 x8 x27 x28 x43 x44 H → ∀ (x2 x3 x4 x6 x7 x9 x10 x11 x12 x13 x14 x15 x16 x17 x18 x19 x20 x21 x22 x23 x24 x25 x26 x29 x30 x31 x32 x33 x34 x35 x36 x37 x38 x39 x40 x41 x42 x45 x46 x47 x48 x49 : Value), f42_R0 s0 s1 x2 x3 x4 x5 x6 x7 x8 x9 x10 x11 x12 x13 x14 x15 x16 x17 x18 x19 x20 x21 x22 x23 x24 x25 x26 x27 x28 x29 x30 x31 x32 x33 x34 x35 x36 x37 x38 x39 x40 x41 x42 x43 x44 x45 x46 x47 x48 x49 H (fun tm H => ∃ m, m < n ∧ f42_I0 s0 s1 J m tm H) R) : f42_L0 R [s0, s1, s2, s3, s4, s5, s6, s7, s8, s9, s10, s11, s12, s13, s14, s15, s16, s17, s18, s19, s20, s21, s22, s23, s24, s25, s26, s27, s28, s29, s30, s31, s32, s33, s34, s35, s36, s37, s38, s39, s40, s41, s42, s43, s44, s45, s46, s47, s48, s49] H :=
  awpF_loop (f42_I0 s0 s1 J) n (f42_I0_mk h0) (by
    rintro n tm H ⟨x2, x3, x4, x5, x6, x7, x8, x9, x10, x11, x12, x13, x14, x15, x16, x17, x18, x19, x20, x21, x22, x23, x24, x25, x26, x27, x28, x29, x30, x31, x32, x33, x34, x35, x36, x37, x38, x39, x40, x41, x42, x43, x44, x45, x46, x47, x48, x49, rfl, h⟩
    exact Eq.mpr (f42_R0_eq s0 s1 x2 x3 x4 x5 x6 x7 x8 x9 x10 x11 x12 x13 x14 x15 x16 x17 x18 x19 x20 x21 x22 x23 x24 x25 x26 x27 x28 x29 x30 x31 x32 x33 x34 x35 x36 x37 x38 x39 x40 x41 x42 x43 x44 x45 x46 x47 x48 x49 H _ R) (step n x5 x8 x27 x28 x43 x44 H h x2 x3 x4 x6 x7 x9 x10 x11 x12 x13 x14 x15 x16 x17 x18 x19 x20 x21 x22 x23 x24 x25 x26 x29 x30 x31 x32 x33 x34 x35 x36 x37 x38 x39 x40 x41 x42 x45 x46 x47 x48 x49))
def f42_B (x0 : Value) (H : AH) (R : AEnd → AH → Prop) : Prop :=
 f42_L0 R [x0, undef, (Go.Value.int Go.IntKind.u64 0), (Go.Value.int Go.IntKind.i64 0), (Go.Value.int Go.IntKind.i64 0), (Go.Value.int Go.IntKind.u64 0), undef, undef, (Go.Value.int Go.IntKind.i64 0), undef, undef, undef, undef, undef, undef, undef, undef, undef, undef, undef, undef, undef, undef, undef, undef, undef, undef, undef, undef, undef, undef, undef, undef, undef, undef, undef, undef, undef, undef, undef, undef, undef, undef, undef, undef, undef, undef, undef, undef, undef] H
theorem f42_eq (x0 : Value) (H : AH) (R : AEnd → AH → Prop) : awpF Try.prog f42_c (aPost Try.f42 R) ([x0] ++ List.replicate (Try.f42.ntmps - [x0].length) undef) H = f42_B x0 H R := by kernel_rfl
theorem f42_call (x0 : Value) (H : AH) (R : AEnd → AH → Prop) (h : f42_B x0 H R) : ACall Try.prog 42 [x0] H R :=
  acall_of mixed Try.func42 (by kernel_rfl : Try.f42.body = some f42_c) (by kernel_rfl) (by kernel_rfl) (awp_of (Eq.mpr (f42_eq x0 H R) h))

/-! f43: (*switchyard/pack.Reader).fail -/
noncomputable def f43_c : Code := Try.f43.body.getD .skip
def f43_B (x0 x1 : Value) (H : AH) (R : AEnd → AH → Prop) : Prop :=
 aNilCheck x0 fun v1 =>
 aField Try.prog 59 v1 0 fun v2 =>
 aStore Try.prog 9 v2 (Go.Value.string { data := #[] }) H fun H4 =>
 aNilCheck x0 fun v5 =>
 aField Try.prog 59 v5 1 fun v6 =>
 aStore Try.prog 46 v6 x1 H4 fun H8 =>
 R (.ret (.tuple #[])) H8
theorem f43_eq (x0 x1 : Value) (H : AH) (R : AEnd → AH → Prop) : awpF Try.prog f43_c (aPost Try.f43 R) ([x0, x1] ++ List.replicate (Try.f43.ntmps - [x0, x1].length) undef) H = f43_B x0 x1 H R := by kernel_rfl
theorem f43_call (x0 x1 : Value) (H : AH) (R : AEnd → AH → Prop) (h : f43_B x0 x1 H R) : ACall Try.prog 43 [x0, x1] H R :=
  acall_of mixed Try.func43 (by kernel_rfl : Try.f43.body = some f43_c) (by kernel_rfl) (by kernel_rfl) (awp_of (Eq.mpr (f43_eq x0 x1 H R) h))

/-! f28: (*switchyard/pack.Reader).Count -/
noncomputable def f28_c : Code := Try.f28.body.getD .skip
def f28_B (x0 : Value) (H : AH) (R : AEnd → AH → Prop) : Prop :=
 aCall Try.prog (.func (.func 41) #[] #[]) [x0] H (fun v1 H2 =>
 aIf v1
 (R (.ret (Go.Value.int Go.IntKind.u64 0)) H2)
 (aCall Try.prog (.func (.func 42) #[] #[]) [x0] H2 (fun v3 H4 =>
 aExtract v3 0 fun v5 =>
 aExtract v3 1 fun v6 =>
 aExtract v3 2 fun v7 =>
 aBin Try.prog .neq 46 v7 (Go.Value.int Go.IntKind.i64 0) fun v8 =>
 aIf v8
 (aCall Try.prog (.func (.func 43) #[] #[]) [x0, v7] H4 (fun v9 H10 =>
 R (.ret (Go.Value.int Go.IntKind.u64 0)) H10) (fun v12 H11 => R (.panic v12) H11))
 (aNilCheck x0 fun v13 =>
 aField Try.prog 59 v13 0 fun v14 =>
 aLoad Try.prog 9 v14 H4 fun v15 =>
 aSlice Try.prog 9 v15 (some v6) none none H4 fun v16 =>
 aNilCheck x0 fun v17 =>
 aField Try.prog 59 v17 0 fun v18 =>
 aStore Try.prog 9 v18 v16 H4 fun H20 =>
 R (.ret v5) H20)) (fun v22 H21 => R (.panic v22) H21))) (fun v24 H23 => R (.panic v24) H23)
theorem f28_eq (x0 : Value) (H : AH) (R : AEnd → AH → Prop) : awpF Try.prog f28_c (aPost Try.f28 R) ([x0] ++ List.replicate (Try.f28.ntmps - [x0].length) undef) H = f28_B x0 H R := by kernel_rfl
theorem f28_call (x0 : Value) (H : AH) (R : AEnd → AH → Prop) (h : f28_B x0 H R) : ACall Try.prog 28 [x0] H R :=
  acall_of mixed Try.func28 (by kernel_rfl : Try.f28.body = some f28_c) (by kernel_rfl) (by kernel_rfl) (awp_of (Eq.mpr (f28_eq x0 H R) h))

/-! f29: (*switchyard/pack.Reader).Number -/
noncomputable def f29_c : Code := Try.f29.body.getD .skip
def f29_B (x0 : Value) (H : AH) (R : AEnd → AH → Prop) : Prop :=
 aCall Try.prog (.func (.func 28) #[] #[]) [x0] H (fun v1 H2 =>
 aBin Try.prog .shr 34 v1 (Go.Value.int Go.IntKind.u64 1) fun v3 =>
 aConvert Try.prog 34 2 v3 H2 fun v4 H5 =>
 aBin Try.prog .and 34 v1 (Go.Value.int Go.IntKind.u64 1) fun v6 =>
 aConvert Try.prog 34 2 v6 H5 fun v7 H8 =>
 aUn .neg v7 fun v9 =>
 aBin Try.prog .xor 2 v4 v9 fun v10 =>
 R (.ret v10) H8) (fun v12 H11 => R (.panic v12) H11)
theorem f29_eq (x0 : Value) (H : AH) (R : AEnd → AH → Prop) : awpF Try.prog f29_c (aPost Try.f29 R) ([x0] ++ List.replicate (Try.f29.ntmps - [x0].length) undef) H = f29_B x0 H R := by kernel_rfl
theorem f29_call (x0 : Value) (H : AH) (R : AEnd → AH → Prop) (h : f29_B x0 H R) : ACall Try.prog 29 [x0] H R :=
  acall_of mixed Try.func29 (by kernel_rfl : Try.f29.body = some f29_c) (by kernel_rfl) (by kernel_rfl) (awp_of (Eq.mpr (f29_eq x0 H R) h))

/-! f30: (*switchyard/pack.Reader).Text -/
noncomputable def f30_c : Code := Try.f30.body.getD .skip
def f30_J0 (R : AEnd → AH → Prop) (tm : List Value) (H : AH) : Prop := hold (awpF Try.prog (codeAt f30_c [1, 1, 1, 0, 0, 1, 1, 1]) (ctxF Try.prog f30_c [1, 1, 1, 0, 0, 1, 1, 1] (aPost Try.f30 R)) tm H)
def f30_J1 (R : AEnd → AH → Prop) (tm : List Value) (H : AH) : Prop := hold (awpF Try.prog (codeAt f30_c [1, 1, 1, 1]) (ctxF Try.prog f30_c [1, 1, 1, 1] (aPost Try.f30 R)) tm H)
-- join 1: live slots 0:G, 5:d, 6:e, 7:.
def f30_J1_B (s0 s1 s2 s3 s4 s5 s6 s7 s8 s9 s10 s11 s12 s13 s14 s15 s16 s17 s18 s19 s20 s21 s22 s23 s24 s25 s26 s27 s28 s29 s30 s31 s32 s33 s34 s35 s36 s37 s38 s39 s40 s41 s42 s43 s44 s45 s46 s47 s48 s49 s50 s51 s52 s53 s54 s55 s56 s57 s58 s59 s60 s61 s62 s63 s64 s65 s66 s67 : Value) (H : AH) (R : AEnd → AH → Prop) : Prop :=
 aBin Try.prog .neq 46 s7 (Go.Value.int Go.IntKind.i64 0) fun v1 =>
 aIf v1
 (aCall Try.prog (.func (.func 43) #[] #[]) [s0, s7] H (fun v2 H3 =>
 R (.ret (Go.Value.string { data := #[] })) H3) (fun v5 H4 => R (.panic v5) H4))
 (aNilCheck s0 fun v6 =>
 aField Try.prog 59 v6 0 fun v7 =>
 aLoad Try.prog 9 v7 H fun v8 =>
 aConvert Try.prog 34 3 s5 H fun v9 H10 =>
 aBin Try.prog .add 3 s6 v9 fun v11 =>
 aSlice Try.prog 9 v8 (some s6) (some v11) none H10 fun v12 =>
 aNilCheck s0 fun v13 =>
 aField Try.prog 59 v13 0 fun v14 =>
 aLoad Try.prog 9 v14 H10 fun v15 =>
 aConvert Try.prog 34 3 s5 H10 fun v16 H17 =>
 aBin Try.prog .add 3 s6 v16 fun v18 =>
 aSlice Try.prog 9 v15 (some v18) none none H17 fun v19 =>
 aNilCheck s0 fun v20 =>
 aField Try.prog 59 v20 0 fun v21 =>
 aStore Try.prog 9 v21 v19 H17 fun H23 =>
 R (.ret v12) H23)
theorem f30_J1_eq (s0 s1 s2 s3 s4 s5 s6 s7 s8 s9 s10 s11 s12 s13 s14 s15 s16 s17 s18 s19 s20 s21 s22 s23 s24 s25 s26 s27 s28 s29 s30 s31 s32 s33 s34 s35 s36 s37 s38 s39 s40 s41 s42 s43 s44 s45 s46 s47 s48 s49 s50 s51 s52 s53 s54 s55 s56 s57 s58 s59 s60 s61 s62 s63 s64 s65 s66 s67 : Value) (H : AH) (R : AEnd → AH → Prop) : f30_J1 R [s0, s1, s2, s3, s4, s5, s6, s7, s8, s9, s10, s11, s12, s13, s14, s15, s16, s17, s18, s19, s20, s21, s22, s23, s24, s25, s26, s27, s28, s29, s30, s31, s32, s33, s34, s35, s36, s37, s38, s39, s40, s41, s42, s43, s44, s45, s46, s47, s48, s49, s50, s51, s52, s53, s54, s55, s56, s57, s58, s59, s60, s61, s62, s63, s64, s65, s66, s67] H = f30_J1_B s0 s1 s2 s3 s4 s5 s6 s7 s8 s9 s10 s11 s12 s13 s14 s15 s16 s17 s18 s19 s20 s21 s22 s23 s24 s25 s26 s27 s28 s29 s30 s31 s32 s33 s34 s35 s36 s37 s38 s39 s40 s41 s42 s43 s44 s45 s46 s47 s48 s49 s50 s51 s52 s53 s54 s55 s56 s57 s58 s59 s60 s61 s62 s63 s64 s65 s66 s67 H R := by kernel_rfl
-- join 0: live slots 0:G, 5:d, 6:e, 7:., 20:?
def f30_J0_B (s0 s1 s2 s3 s4 s5 s6 s7 s8 s9 s10 s11 s12 s13 s14 s15 s16 s17 s18 s19 s20 s21 s22 s23 s24 s25 s26 s27 s28 s29 s30 s31 s32 s33 s34 s35 s36 s37 s38 s39 s40 s41 s42 s43 s44 s45 s46 s47 s48 s49 s50 s51 s52 s53 s54 s55 s56 s57 s58 s59 s60 s61 s62 s63 s64 s65 s66 s67 : Value) (H : AH) (R : AEnd → AH → Prop) : Prop :=
 aIf s20
 (f30_J1 R [s0, s1, s2, s3, s4, s5, s6, (Go.Value.int Go.IntKind.i64 5), s8, s9, s10, s11, s12, s13, s14, s15, s16, s17, s18, s19, (.bool true), s21, s22, s23, s24, s25, s26, s27, s28, s29, s30, s31, s32, s33, s34, s35, s36, s37, s38, s39, s40, s41, s42, s43, s44, s45, s46, s47, s48, s49, s50, s51, s52, s53, s54, s55, s56, s57, s58, s59, s60, s61, s62, s63, s64, s65, s66, s67] H)
 (aNilCheck s0 fun v24 =>
 aField Try.prog 59 v24 0 fun v25 =>
 aLoad Try.prog 9 v25 H fun v26 =>
 aBuiltin Try.prog .len [9] [v26] H fun v27 H28 =>
 aBin Try.prog .sub 3 v27 s6 fun v29 =>
 aConvert Try.prog 3 34 v29 H28 fun v30 H31 =>
 aBin Try.prog .gtr 34 s5 v30 fun v32 =>
 aIf v32
 (f30_J1 R [s0, s1, s2, s3, s4, s5, s6, (Go.Value.int Go.IntKind.i64 3), s8, s9, s10, s11, s12, s13, s14, s15, s16, s17, s18, s19, (.bool false), s21, s22, s23, s24, s25, s26, s27, s28, (.bool true), s5, s0, v24, v25, v26, v27, s6, v29, v30, v32, s40, s41, s42, s43, s44, s45, s46, s47, s48, s49, s50, s51, s52, s53, s54, s55, s56, s57, s58, s59, s60, s61, s62, s63, s64, s65, s66, s67] H31)
 (f30_J1 R [s0, s1, s2, s3, s4, s5, s6, s7, s8, s9, s10, s11, s12, s13, s14, s15, s16, s17, s18, s19, (.bool false), s21, s22, s23, s24, s25, s26, s27, s28, (.bool false), s5, s0, v24, v25, v26, v27, s6, v29, v30, v32, s40, s41, s42, s43, s44, s45, s46, s47, s48, s49, s50, s51, s52, s53, s54, s55, s56, s57, s58, s59, s60, s61, s62, s63, s64, s65, s66, s67] H31))
theorem f30_J0_eq (s0 s1 s2 s3 s4 s5 s6 s7 s8 s9 s10 s11 s12 s13 s14 s15 s16 s17 s18 s19 s20 s21 s22 s23 s24 s25 s26 s27 s28 s29 s30 s31 s32 s33 s34 s35 s36 s37 s38 s39 s40 s41 s42 s43 s44 s45 s46 s47 s48 s49 s50 s51 s52 s53 s54 s55 s56 s57 s58 s59 s60 s61 s62 s63 s64 s65 s66 s67 : Value) (H : AH) (R : AEnd → AH → Prop) : f30_J0 R [s0, s1, s2, s3, s4, s5, s6, s7, s8, s9, s10, s11, s12, s13, s14, s15, s16, s17, s18, s19, s20, s21, s22, s23, s24, s25, s26, s27, s28, s29, s30, s31, s32, s33, s34, s35, s36, s37, s38, s39, s40, s41, s42, s43, s44, s45, s46, s47, s48, s49, s50, s51, s52, s53, s54, s55, s56, s57, s58, s59, s60, s61, s62, s63, s64, s65, s66, s67] H = f30_J0_B s0 s1 s2 s3 s4 s5 s6 s7 s8 s9 s10 s11 s12 s13 s14 s15 s16 s17 s18 s19 s20 s21 s22 s23 s24 s25 s26 s27 s28 s29 s30 s31 s32 s33 s34 s35 s36 s37 s38 s39 s40 s41 s42 s43 s44 s45 s46 s47 s48 s49 s50 s51 s52 s53 s54 s55 s56 s57 s58 s59 s60 s61 s62 s63 s64 s65 s66 s67 H R := by kernel_rfl
def f30_B (x0 x1 : Value) (H : AH) (R : AEnd → AH → Prop) : Prop :=
 aCall Try.prog (.func (.func 41) #[] #[]) [x0] H (fun v33 H34 =>
 aIf v33
 (R (.ret (Go.Value.string { data := #[] })) H34)
 (aCall Try.prog (.func (.func 42) #[] #[]) [x0] H34 (fun v35 H36 =>
 aExtract v35 0 fun v37 =>
 aExtract v35 1 fun v38 =>
 aExtract v35 2 fun v39 =>
 aBin Try.prog .neq 46 v39 (Go.Value.int Go.IntKind.i64 0) fun v40 =>
 aIf v40
 (f30_J1 R [x0, x1, undef, undef, (Go.Value.string { data := #[] }), v37, v38, v39, undef, x0, (.bool false), v35, x0, v35, v37, v38, v39, (.bool true), v39, v40, undef, undef, undef, undef, undef, undef, undef, undef, undef, undef, undef, undef, undef, undef, undef, undef, undef, undef, undef, undef, undef, undef, undef, undef, undef, undef, undef, undef, undef, undef, undef, undef, undef, undef, undef, undef, undef, undef, undef, undef, undef, undef, undef, undef, undef, undef, undef, undef] H36)
 (aBin Try.prog .lss 3 x1 (Go.Value.int Go.IntKind.i64 0) fun v41 =>
 aIf v41
 (f30_J0 R [x0, x1, undef, undef, (Go.Value.string { data := #[] }), v37, v38, v39, undef, x0, (.bool false), v35, x0, v35, v37, v38, v39, (.bool false), v39, v40, (.bool true), x1, v41, (.bool true), undef, undef, undef, undef, (.bool true), undef, undef, undef, undef, undef, undef, undef, undef, undef, undef, undef, undef, undef, undef, undef, undef, undef, undef, undef, undef, undef, undef, undef, undef, undef, undef, undef, undef, undef, undef, undef, undef, undef, undef, undef, undef, undef, undef, undef] H36)
 (aConvert Try.prog 3 34 x1 H36 fun v43 H44 =>
 aBin Try.prog .gtr 34 v37 v43 fun v45 =>
 f30_J0 R [x0, x1, undef, undef, (Go.Value.string { data := #[] }), v37, v38, v39, undef, x0, (.bool false), v35, x0, v35, v37, v38, v39, (.bool false), v39, v40, v45, x1, v41, (.bool false), v37, x1, v43, v45, v45, undef, undef, undef, undef, undef, undef, undef, undef, undef, undef, undef, undef, undef, undef, undef, undef, undef, undef, undef, undef, undef, undef, undef, undef, undef, undef, undef, undef, undef, undef, undef, undef, undef, undef, undef, undef, undef, undef, undef] H44))) (fun v48 H47 => R (.panic v48) H47))) (fun v50 H49 => R (.panic v50) H49)
theorem f30_eq (x0 x1 : Value) (H : AH) (R : AEnd → AH → Prop) : awpF Try.prog f30_c (aPost Try.f30 R) ([x0, x1] ++ List.replicate (Try.f30.ntmps - [x0, x1].length) undef) H = f30_B x0 x1 H R := by kernel_rfl
theorem f30_call (x0 x1 : Value) (H : AH) (R : AEnd → AH → Prop) (h : f30_B x0 x1 H R) : ACall Try.prog 30 [x0, x1] H R :=
  acall_of mixed Try.func30 (by kernel_rfl : Try.f30.body = some f30_c) (by kernel_rfl) (by kernel_rfl) (awp_of (Eq.mpr (f30_eq x0 x1 H R) h))

/-! f31: (*switchyard/pack.Reader).Bad -/
noncomputable def f31_c : Code := Try.f31.body.getD .skip
def f31_B (x0 : Value) (H : AH) (R : AEnd → AH → Prop) : Prop :=
 aBin Try.prog .eql 41 x0 (Go.Value.pointer none) fun v1 =>
 aIf v1
 (R (.ret (Go.Value.int Go.IntKind.i64 1)) H)
 (aNilCheck x0 fun v2 =>
 aField Try.prog 59 v2 1 fun v3 =>
 aLoad Try.prog 46 v3 H fun v4 =>
 R (.ret v4) H)
theorem f31_eq (x0 : Value) (H : AH) (R : AEnd → AH → Prop) : awpF Try.prog f31_c (aPost Try.f31 R) ([x0] ++ List.replicate (Try.f31.ntmps - [x0].length) undef) H = f31_B x0 H R := by kernel_rfl
theorem f31_call (x0 : Value) (H : AH) (R : AEnd → AH → Prop) (h : f31_B x0 H R) : ACall Try.prog 31 [x0] H R :=
  acall_of mixed Try.func31 (by kernel_rfl : Try.f31.body = some f31_c) (by kernel_rfl) (by kernel_rfl) (awp_of (Eq.mpr (f31_eq x0 H R) h))

/-! f32: (*switchyard/pack.Reader).Left -/
noncomputable def f32_c : Code := Try.f32.body.getD .skip
def f32_B (x0 : Value) (H : AH) (R : AEnd → AH → Prop) : Prop :=
 aBin Try.prog .eql 41 x0 (Go.Value.pointer none) fun v1 =>
 aIf v1
 (R (.ret (Go.Value.int Go.IntKind.i64 0)) H)
 (aNilCheck x0 fun v2 =>
 aField Try.prog 59 v2 0 fun v3 =>
 aLoad Try.prog 9 v3 H fun v4 =>
 aBuiltin Try.prog .len [9] [v4] H fun v5 H6 =>
 R (.ret v5) H6)
theorem f32_eq (x0 : Value) (H : AH) (R : AEnd → AH → Prop) : awpF Try.prog f32_c (aPost Try.f32 R) ([x0] ++ List.replicate (Try.f32.ntmps - [x0].length) undef) H = f32_B x0 H R := by kernel_rfl
theorem f32_call (x0 : Value) (H : AH) (R : AEnd → AH → Prop) (h : f32_B x0 H R) : ACall Try.prog 32 [x0] H R :=
  acall_of mixed Try.func32 (by kernel_rfl : Try.f32.body = some f32_c) (by kernel_rfl) (by kernel_rfl) (awp_of (Eq.mpr (f32_eq x0 H R) h))

/-! f33: (switchyard/switchyardlaw02.Thing).bytes -/
noncomputable def f33_c : Code := Try.f33.body.getD .skip
def f33_J0 (R : AEnd → AH → Prop) (tm : List Value) (H : AH) : Prop := hold (awpF Try.prog (codeAt f33_c [1, 0, 1, 0, 1]) (ctxF Try.prog f33_c [1, 0, 1, 0, 1] (aPost Try.f33 R)) tm H)
def f33_J1 (R : AEnd → AH → Prop) (tm : List Value) (H : AH) : Prop := hold (awpF Try.prog (codeAt f33_c [1, 0, 1, 0, 1, 1, 1]) (ctxF Try.prog f33_c [1, 0, 1, 0, 1, 1, 1] (aPost Try.f33 R)) tm H)
def f33_J2 (R : AEnd → AH → Prop) (tm : List Value) (H : AH) : Prop := hold (awpF Try.prog (codeAt f33_c [1, 0, 1, 0, 1, 1, 1, 1, 1]) (ctxF Try.prog f33_c [1, 0, 1, 0, 1, 1, 1, 1, 1] (aPost Try.f33 R)) tm H)
def f33_J3 (R : AEnd → AH → Prop) (tm : List Value) (H : AH) : Prop := hold (awpF Try.prog (codeAt f33_c [1, 1]) (ctxF Try.prog f33_c [1, 1] (aPost Try.f33 R)) tm H)
-- join 3: live slots 1:t
def f33_J3_B (s0 s1 s2 s3 s4 s5 s6 s7 s8 s9 s10 s11 s12 s13 s14 s15 s16 s17 s18 s19 s20 s21 s22 s23 s24 s25 s26 s27 s28 s29 : Value) (H : AH) (R : AEnd → AH → Prop) : Prop :=
 aField Try.prog 52 s1 1 fun v1 =>
 aLoad Try.prog 34 v1 H fun v2 =>
 aCall Try.prog (.func (.func 20) #[] #[]) [v2] H (fun v3 H4 =>
 R (.ret v3) H4) (fun v6 H5 => R (.panic v6) H5)
theorem f33_J3_eq (s0 s1 s2 s3 s4 s5 s6 s7 s8 s9 s10 s11 s12 s13 s14 s15 s16 s17 s18 s19 s20 s21 s22 s23 s24 s25 s26 s27 s28 s29 : Value) (H : AH) (R : AEnd → AH → Prop) : f33_J3 R [s0, s1, s2, s3, s4, s5, s6, s7, s8, s9, s10, s11, s12, s13, s14, s15, s16, s17, s18, s19, s20, s21, s22, s23, s24, s25, s26, s27, s28, s29] H = f33_J3_B s0 s1 s2 s3 s4 s5 s6 s7 s8 s9 s10 s11 s12 s13 s14 s15 s16 s17 s18 s19 s20 s21 s22 s23 s24 s25 s26 s27 s28 s29 H R := by kernel_rfl
-- join 2: live slots 1:t, 21:
def f33_J2_B (s0 s1 s2 s3 s4 s5 s6 s7 s8 s9 s10 s11 s12 s13 s14 s15 s16 s17 s18 s19 s20 s21 s22 s23 s24 s25 s26 s27 s28 s29 : Value) (H : AH) (R : AEnd → AH → Prop) : Prop :=
 aIf s21
 (aField Try.prog 52 s1 2 fun v7 =>
 aLoad Try.prog 9 v7 H fun v8 =>
 aCall Try.prog (.func (.func 24) #[] #[]) [v8] H (fun v9 H10 =>
 R (.ret v9) H10) (fun v12 H11 => R (.panic v12) H11))
 (f33_J3 R [s0, s1, s2, s3, s4, s5, s6, s7, s8, s9, s10, s11, s12, s13, s14, s15, s16, s17, s18, s19, s20, (.bool false), s22, s23, s24, s25, s26, s27, s28, s29] H)
theorem f33_J2_eq (s0 s1 s2 s3 s4 s5 s6 s7 s8 s9 s10 s11 s12 s13 s14 s15 s16 s17 s18 s19 s20 s21 s22 s23 s24 s25 s26 s27 s28 s29 : Value) (H : AH) (R : AEnd → AH → Prop) : f33_J2 R [s0, s1, s2, s3, s4, s5, s6, s7, s8, s9, s10, s11, s12, s13, s14, s15, s16, s17, s18, s19, s20, s21, s22, s23, s24, s25, s26, s27, s28, s29] H = f33_J2_B s0 s1 s2 s3 s4 s5 s6 s7 s8 s9 s10 s11 s12 s13 s14 s15 s16 s17 s18 s19 s20 s21 s22 s23 s24 s25 s26 s27 s28 s29 H R := by kernel_rfl
-- join 1: live slots 1:t, 5:, 13:
def f33_J1_B (s0 s1 s2 s3 s4 s5 s6 s7 s8 s9 s10 s11 s12 s13 s14 s15 s16 s17 s18 s19 s20 s21 s22 s23 s24 s25 s26 s27 s28 s29 : Value) (H : AH) (R : AEnd → AH → Prop) : Prop :=
 aIf s13
 (aField Try.prog 52 s1 1 fun v13 =>
 aLoad Try.prog 34 v13 H fun v14 =>
 aBin Try.prog .rem 34 v14 (Go.Value.int Go.IntKind.u64 2) fun v15 =>
 aBin Try.prog .eql 34 v15 (Go.Value.int Go.IntKind.u64 1) fun v16 =>
 aCall Try.prog (.func (.func 26) #[] #[]) [v16] H (fun v17 H18 =>
 R (.ret v17) H18) (fun v20 H19 => R (.panic v20) H19))
 (aBin Try.prog .eql 3 s5 (Go.Value.int Go.IntKind.i64 3) fun v21 =>
 aIf v21
 (f33_J2 R [s0, s1, s2, s3, s4, s5, s6, s7, s8, s9, s10, s11, s12, (.bool false), s14, s15, s16, s17, s18, s19, s20, (.bool true), v21, s23, s24, s25, s26, s27, s28, s29] H)
 (aBin Try.prog .eql 3 s5 (Go.Value.int Go.IntKind.i64 (-3)) fun v22 =>
 f33_J2 R [s0, s1, s2, s3, s4, s5, s6, s7, s8, s9, s10, s11, s12, (.bool false), s14, s15, s16, s17, s18, s19, s20, v22, v21, v22, s24, s25, s26, s27, s28, s29] H))
theorem f33_J1_eq (s0 s1 s2 s3 s4 s5 s6 s7 s8 s9 s10 s11 s12 s13 s14 s15 s16 s17 s18 s19 s20 s21 s22 s23 s24 s25 s26 s27 s28 s29 : Value) (H : AH) (R : AEnd → AH → Prop) : f33_J1 R [s0, s1, s2, s3, s4, s5, s6, s7, s8, s9, s10, s11, s12, s13, s14, s15, s16, s17, s18, s19, s20, s21, s22, s23, s24, s25, s26, s27, s28, s29] H = f33_J1_B s0 s1 s2 s3 s4 s5 s6 s7 s8 s9 s10 s11 s12 s13 s14 s15 s16 s17 s18 s19 s20 s21 s22 s23 s24 s25 s26 s27 s28 s29 H R := by kernel_rfl
-- join 0: live slots 1:t, 5:, 6:
def f33_J0_B (s0 s1 s2 s3 s4 s5 s6 s7 s8 s9 s10 s11 s12 s13 s14 s15 s16 s17 s18 s19 s20 s21 s22 s23 s24 s25 s26 s27 s28 s29 : Value) (H : AH) (R : AEnd → AH → Prop) : Prop :=
 aIf s6
 (aField Try.prog 52 s1 1 fun v23 =>
 aLoad Try.prog 34 v23 H fun v24 =>
 aConvert Try.prog 34 2 v24 H fun v25 H26 =>
 aCall Try.prog (.func (.func 21) #[] #[]) [v25] H26 (fun v27 H28 =>
 R (.ret v27) H28) (fun v30 H29 => R (.panic v30) H29))
 (aBin Try.prog .eql 3 s5 (Go.Value.int Go.IntKind.i64 2) fun v31 =>
 aIf v31
 (f33_J1 R [s0, s1, s2, s3, s4, s5, (.bool false), s7, s8, s9, s10, s11, s12, (.bool true), v31, s15, s16, s17, s18, s19, s20, s21, s22, s23, s24, s25, s26, s27, s28, s29] H)
 (aBin Try.prog .eql 3 s5 (Go.Value.int Go.IntKind.i64 (-2)) fun v32 =>
 f33_J1 R [s0, s1, s2, s3, s4, s5, (.bool false), s7, s8, s9, s10, s11, s12, v32, v31, v32, s16, s17, s18, s19, s20, s21, s22, s23, s24, s25, s26, s27, s28, s29] H))
theorem f33_J0_eq (s0 s1 s2 s3 s4 s5 s6 s7 s8 s9 s10 s11 s12 s13 s14 s15 s16 s17 s18 s19 s20 s21 s22 s23 s24 s25 s26 s27 s28 s29 : Value) (H : AH) (R : AEnd → AH → Prop) : f33_J0 R [s0, s1, s2, s3, s4, s5, s6, s7, s8, s9, s10, s11, s12, s13, s14, s15, s16, s17, s18, s19, s20, s21, s22, s23, s24, s25, s26, s27, s28, s29] H = f33_J0_B s0 s1 s2 s3 s4 s5 s6 s7 s8 s9 s10 s11 s12 s13 s14 s15 s16 s17 s18 s19 s20 s21 s22 s23 s24 s25 s26 s27 s28 s29 H R := by kernel_rfl
def f33_B (x0 : Value) (H : AH) (R : AEnd → AH → Prop) : Prop :=
 aNew x0 H fun v33 H34 =>
 aField Try.prog 52 v33 0 fun v35 =>
 aLoad Try.prog 3 v35 H34 fun v36 =>
 aBin Try.prog .rem 3 v36 (Go.Value.int Go.IntKind.i64 4) fun v37 =>
 aBin Try.prog .eql 3 v37 (Go.Value.int Go.IntKind.i64 1) fun v38 =>
 aIf v38
 (f33_J0 R [x0, v33, (Go.Value.string { data := #[] }), v35, v36, v37, (.bool true), v38, undef, undef, undef, undef, undef, undef, undef, undef, undef, undef, undef, undef, undef, undef, undef, undef, undef, undef, undef, undef, undef, undef] H34)
 (aBin Try.prog .eql 3 v37 (Go.Value.int Go.IntKind.i64 (-1)) fun v39 =>
 f33_J0 R [x0, v33, (Go.Value.string { data := #[] }), v35, v36, v37, v39, v38, v39, undef, undef, undef, undef, undef, undef, undef, undef, undef, undef, undef, undef, undef, undef, undef, undef, undef, undef, undef, undef, undef] H34)
theorem f33_eq (x0 : Value) (H : AH) (R : AEnd → AH → Prop) : awpF Try.prog f33_c (aPost Try.f33 R) ([x0] ++ List.replicate (Try.f33.ntmps - [x0].length) undef) H = f33_B x0 H R := by kernel_rfl
theorem f33_call (x0 : Value) (H : AH) (R : AEnd → AH → Prop) (h : f33_B x0 H R) : ACall Try.prog 33 [x0] H R :=
  acall_of mixed Try.func33 (by kernel_rfl : Try.f33.body = some f33_c) (by kernel_rfl) (by kernel_rfl) (awp_of (Eq.mpr (f33_eq x0 H R) h))

/-! f34: (*switchyard/pack.Reader).Truth -/
noncomputable def f34_c : Code := Try.f34.body.getD .skip
def f34_J0 (R : AEnd → AH → Prop) (tm : List Value) (H : AH) : Prop := hold (awpF Try.prog (codeAt f34_c [1, 0, 1]) (ctxF Try.prog f34_c [1, 0, 1] (aPost Try.f34 R)) tm H)
def f34_J1 (R : AEnd → AH → Prop) (tm : List Value) (H : AH) : Prop := hold (awpF Try.prog (codeAt f34_c [1, 1]) (ctxF Try.prog f34_c [1, 1] (aPost Try.f34 R)) tm H)
-- join 1: live slots 0:r
def f34_J1_B (s0 s1 s2 s3 s4 s5 s6 s7 s8 s9 s10 s11 s12 s13 s14 s15 s16 s17 s18 s19 s20 s21 s22 s23 s24 s25 : Value) (H : AH) (R : AEnd → AH → Prop) : Prop :=
 aCall Try.prog (.func (.func 37) #[] #[]) [s0] H (fun v1 H2 =>
 aBin Try.prog .eql 3 v1 (Go.Value.int Go.IntKind.i64 1) fun v3 =>
 R (.ret v3) H2) (fun v5 H4 => R (.panic v5) H4)
theorem f34_J1_eq (s0 s1 s2 s3 s4 s5 s6 s7 s8 s9 s10 s11 s12 s13 s14 s15 s16 s17 s18 s19 s20 s21 s22 s23 s24 s25 : Value) (H : AH) (R : AEnd → AH → Prop) : f34_J1 R [s0, s1, s2, s3, s4, s5, s6, s7, s8, s9, s10, s11, s12, s13, s14, s15, s16, s17, s18, s19, s20, s21, s22, s23, s24, s25] H = f34_J1_B s0 s1 s2 s3 s4 s5 s6 s7 s8 s9 s10 s11 s12 s13 s14 s15 s16 s17 s18 s19 s20 s21 s22 s23 s24 s25 H R := by kernel_rfl
-- join 0: live slots 0:r, 20:
def f34_J0_B (s0 s1 s2 s3 s4 s5 s6 s7 s8 s9 s10 s11 s12 s13 s14 s15 s16 s17 s18 s19 s20 s21 s22 s23 s24 s25 : Value) (H : AH) (R : AEnd → AH → Prop) : Prop :=
 aIf s20
 (aCall Try.prog (.func (.func 43) #[] #[]) [s0, (Go.Value.int Go.IntKind.i64 4)] H (fun v6 H7 =>
 f34_J1 R [s0, s1, s2, s3, s4, s5, s6, s7, s8, s9, s10, s11, s12, s13, s14, s15, s16, s17, s18, s19, (.bool true), s0, v6, s23, s24, s25] H7) (fun v9 H8 => R (.panic v9) H8))
 (f34_J1 R [s0, s1, s2, s3, s4, s5, s6, s7, s8, s9, s10, s11, s12, s13, s14, s15, s16, s17, s18, s19, (.bool false), s21, s22, s23, s24, s25] H)
theorem f34_J0_eq (s0 s1 s2 s3 s4 s5 s6 s7 s8 s9 s10 s11 s12 s13 s14 s15 s16 s17 s18 s19 s20 s21 s22 s23 s24 s25 : Value) (H : AH) (R : AEnd → AH → Prop) : f34_J0 R [s0, s1, s2, s3, s4, s5, s6, s7, s8, s9, s10, s11, s12, s13, s14, s15, s16, s17, s18, s19, s20, s21, s22, s23, s24, s25] H = f34_J0_B s0 s1 s2 s3 s4 s5 s6 s7 s8 s9 s10 s11 s12 s13 s14 s15 s16 s17 s18 s19 s20 s21 s22 s23 s24 s25 H R := by kernel_rfl
def f34_B (x0 : Value) (H : AH) (R : AEnd → AH → Prop) : Prop :=
 aCall Try.prog (.func (.func 41) #[] #[]) [x0] H (fun v10 H11 =>
 aUn .not v10 fun v12 =>
 aIf v12
 (aNilCheck x0 fun v13 =>
 aField Try.prog 59 v13 0 fun v14 =>
 aLoad Try.prog 9 v14 H11 fun v15 =>
 aBin Try.prog .neq 9 v15 (Go.Value.string { data := #[] }) fun v16 =>
 aIf v16
 (aNilCheck x0 fun v18 =>
 aField Try.prog 59 v18 0 fun v19 =>
 aLoad Try.prog 9 v19 H11 fun v20 =>
 aIndex Try.prog 9 v20 (Go.Value.int Go.IntKind.i64 0) fun v21 =>
 aBin Try.prog .gtr 5 v21 (Go.Value.int Go.IntKind.u8 1) fun v22 =>
 f34_J0 R [x0, undef, (.bool false), x0, v10, v12, (.bool true), x0, v13, v14, v15, v16, v16, (.bool true), x0, v18, v19, v20, v21, v22, v22, undef, undef, undef, undef, undef] H11)
 (f34_J0 R [x0, undef, (.bool false), x0, v10, v12, (.bool true), x0, v13, v14, v15, v16, v16, (.bool false), undef, undef, undef, undef, undef, undef, (.bool false), undef, undef, undef, undef, undef] H11))
 (f34_J0 R [x0, undef, (.bool false), x0, v10, v12, (.bool false), undef, undef, undef, undef, undef, (.bool false), (.bool false), undef, undef, undef, undef, undef, undef, (.bool false), undef, undef, undef, undef, undef] H11)) (fun v28 H27 => R (.panic v28) H27)
theorem f34_eq (x0 : Value) (H : AH) (R : AEnd → AH → Prop) : awpF Try.prog f34_c (aPost Try.f34 R) ([x0] ++ List.replicate (Try.f34.ntmps - [x0].length) undef) H = f34_B x0 H R := by kernel_rfl
theorem f34_call (x0 : Value) (H : AH) (R : AEnd → AH → Prop) (h : f34_B x0 H R) : ACall Try.prog 34 [x0] H R :=
  acall_of mixed Try.func34 (by kernel_rfl : Try.f34.body = some f34_c) (by kernel_rfl) (by kernel_rfl) (awp_of (Eq.mpr (f34_eq x0 H R) h))

/-! f35: (*switchyard/pack.Reader).End -/
noncomputable def f35_c : Code := Try.f35.body.getD .skip
def f35_J0 (R : AEnd → AH → Prop) (tm : List Value) (H : AH) : Prop := hold (awpF Try.prog (codeAt f35_c [1, 0, 1, 1]) (ctxF Try.prog f35_c [1, 0, 1, 1] (aPost Try.f35 R)) tm H)
-- join 0: live slots 3:e, 14:
def f35_J0_B (s0 s1 s2 s3 s4 s5 s6 s7 s8 s9 s10 s11 s12 s13 s14 s15 : Value) (H : AH) (R : AEnd → AH → Prop) : Prop :=
 aIf s14
 (R (.ret s3) H)
 (R (.ret (Go.Value.int Go.IntKind.i64 4)) H)
theorem f35_J0_eq (s0 s1 s2 s3 s4 s5 s6 s7 s8 s9 s10 s11 s12 s13 s14 s15 : Value) (H : AH) (R : AEnd → AH → Prop) : f35_J0 R [s0, s1, s2, s3, s4, s5, s6, s7, s8, s9, s10, s11, s12, s13, s14, s15] H = f35_J0_B s0 s1 s2 s3 s4 s5 s6 s7 s8 s9 s10 s11 s12 s13 s14 s15 H R := by kernel_rfl
def f35_B (x0 : Value) (H : AH) (R : AEnd → AH → Prop) : Prop :=
 aCall Try.prog (.func (.func 31) #[] #[]) [x0] H (fun v1 H2 =>
 aBin Try.prog .neq 46 v1 (Go.Value.int Go.IntKind.i64 0) fun v3 =>
 aIf v3
 (f35_J0 R [x0, undef, (Go.Value.int Go.IntKind.i64 0), v1, x0, v1, v1, v3, (.bool true), undef, undef, undef, undef, undef, (.bool true), undef] H2)
 (aNilCheck x0 fun v5 =>
 aField Try.prog 59 v5 0 fun v6 =>
 aLoad Try.prog 9 v6 H2 fun v7 =>
 aBin Try.prog .eql 9 v7 (Go.Value.string { data := #[] }) fun v8 =>
 f35_J0 R [x0, undef, (Go.Value.int Go.IntKind.i64 0), v1, x0, v1, v1, v3, (.bool false), x0, v5, v6, v7, v8, v8, undef] H2)) (fun v11 H10 => R (.panic v11) H10)
theorem f35_eq (x0 : Value) (H : AH) (R : AEnd → AH → Prop) : awpF Try.prog f35_c (aPost Try.f35 R) ([x0] ++ List.replicate (Try.f35.ntmps - [x0].length) undef) H = f35_B x0 H R := by kernel_rfl
theorem f35_call (x0 : Value) (H : AH) (R : AEnd → AH → Prop) (h : f35_B x0 H R) : ACall Try.prog 35 [x0] H R :=
  acall_of mixed Try.func35 (by kernel_rfl : Try.f35.body = some f35_c) (by kernel_rfl) (by kernel_rfl) (awp_of (Eq.mpr (f35_eq x0 H R) h))

/-! f36: (*switchyard/pack.Reader).Small -/
noncomputable def f36_c : Code := Try.f36.body.getD .skip
def f36_J0 (R : AEnd → AH → Prop) (tm : List Value) (H : AH) : Prop := hold (awpF Try.prog (codeAt f36_c [1, 1, 1, 0, 1]) (ctxF Try.prog f36_c [1, 1, 1, 0, 1] (aPost Try.f36 R)) tm H)
def f36_J1 (R : AEnd → AH → Prop) (tm : List Value) (H : AH) : Prop := hold (awpF Try.prog (codeAt f36_c [1, 1, 1, 1]) (ctxF Try.prog f36_c [1, 1, 1, 1] (aPost Try.f36 R)) tm H)
-- join 1: live slots 0:r, 5:n, 6:k, 7:e
def f36_J1_B (s0 s1 s2 s3 s4 s5 s6 s7 s8 s9 s10 s11 s12 s13 s14 s15 s16 s17 s18 s19 s20 s21 s22 s23 s24 s25 s26 s27 s28 s29 s30 s31 s32 s33 s34 s35 s36 s37 s38 s39 s40 s41 s42 s43 : Value) (H : AH) (R : AEnd → AH → Prop) : Prop :=
 aBin Try.prog .neq 46 s7 (Go.Value.int Go.IntKind.i64 0) fun v1 =>
 aIf v1
 (aCall Try.prog (.func (.func 43) #[] #[]) [s0, s7] H (fun v2 H3 =>
 R (.ret (Go.Value.int Go.IntKind.i64 0)) H3) (fun v5 H4 => R (.panic v5) H4))
 (aNilCheck s0 fun v6 =>
 aField Try.prog 59 v6 0 fun v7 =>
 aLoad Try.prog 9 v7 H fun v8 =>
 aSlice Try.prog 9 v8 (some s6) none none H fun v9 =>
 aNilCheck s0 fun v10 =>
 aField Try.prog 59 v10 0 fun v11 =>
 aStore Try.prog 9 v11 v9 H fun H13 =>
 aConvert Try.prog 34 3 s5 H13 fun v14 H15 =>
 R (.ret v14) H15)
theorem f36_J1_eq (s0 s1 s2 s3 s4 s5 s6 s7 s8 s9 s10 s11 s12 s13 s14 s15 s16 s17 s18 s19 s20 s21 s22 s23 s24 s25 s26 s27 s28 s29 s30 s31 s32 s33 s34 s35 s36 s37 s38 s39 s40 s41 s42 s43 : Value) (H : AH) (R : AEnd → AH → Prop) : f36_J1 R [s0, s1, s2, s3, s4, s5, s6, s7, s8, s9, s10, s11, s12, s13, s14, s15, s16, s17, s18, s19, s20, s21, s22, s23, s24, s25, s26, s27, s28, s29, s30, s31, s32, s33, s34, s35, s36, s37, s38, s39, s40, s41, s42, s43] H = f36_J1_B s0 s1 s2 s3 s4 s5 s6 s7 s8 s9 s10 s11 s12 s13 s14 s15 s16 s17 s18 s19 s20 s21 s22 s23 s24 s25 s26 s27 s28 s29 s30 s31 s32 s33 s34 s35 s36 s37 s38 s39 s40 s41 s42 s43 H R := by kernel_rfl
-- join 0: live slots 0:r, 5:n, 6:k, 7:e, 27:
def f36_J0_B (s0 s1 s2 s3 s4 s5 s6 s7 s8 s9 s10 s11 s12 s13 s14 s15 s16 s17 s18 s19 s20 s21 s22 s23 s24 s25 s26 s27 s28 s29 s30 s31 s32 s33 s34 s35 s36 s37 s38 s39 s40 s41 s42 s43 : Value) (H : AH) (R : AEnd → AH → Prop) : Prop :=
 aIf s27
 (f36_J1 R [s0, s1, s2, s3, s4, s5, s6, (Go.Value.int Go.IntKind.i64 5), s8, s9, s10, s11, s12, s13, s14, s15, s16, s17, s18, s19, s20, s21, s22, s23, s24, s25, s26, (.bool true), s28, s29, s30, s31, s32, s33, s34, s35, s36, s37, s38, s39, s40, s41, s42, s43] H)
 (f36_J1 R [s0, s1, s2, s3, s4, s5, s6, s7, s8, s9, s10, s11, s12, s13, s14, s15, s16, s17, s18, s19, s20, s21, s22, s23, s24, s25, s26, (.bool false), s28, s29, s30, s31, s32, s33, s34, s35, s36, s37, s38, s39, s40, s41, s42, s43] H)
theorem f36_J0_eq (s0 s1 s2 s3 s4 s5 s6 s7 s8 s9 s10 s11 s12 s13 s14 s15 s16 s17 s18 s19 s20 s21 s22 s23 s24 s25 s26 s27 s28 s29 s30 s31 s32 s33 s34 s35 s36 s37 s38 s39 s40 s41 s42 s43 : Value) (H : AH) (R : AEnd → AH → Prop) : f36_J0 R [s0, s1, s2, s3, s4, s5, s6, s7, s8, s9, s10, s11, s12, s13, s14, s15, s16, s17, s18, s19, s20, s21, s22, s23, s24, s25, s26, s27, s28, s29, s30, s31, s32, s33, s34, s35, s36, s37, s38, s39, s40, s41, s42, s43] H = f36_J0_B s0 s1 s2 s3 s4 s5 s6 s7 s8 s9 s10 s11 s12 s13 s14 s15 s16 s17 s18 s19 s20 s21 s22 s23 s24 s25 s26 s27 s28 s29 s30 s31 s32 s33 s34 s35 s36 s37 s38 s39 s40 s41 s42 s43 H R := by kernel_rfl
def f36_B (x0 x1 : Value) (H : AH) (R : AEnd → AH → Prop) : Prop :=
 aCall Try.prog (.func (.func 41) #[] #[]) [x0] H (fun v16 H17 =>
 aIf v16
 (R (.ret (Go.Value.int Go.IntKind.i64 0)) H17)
 (aCall Try.prog (.func (.func 42) #[] #[]) [x0] H17 (fun v18 H19 =>
 aExtract v18 0 fun v20 =>
 aExtract v18 1 fun v21 =>
 aExtract v18 2 fun v22 =>
 aBin Try.prog .eql 46 v22 (Go.Value.int Go.IntKind.i64 0) fun v23 =>
 aIf v23
 (aBin Try.prog .lss 3 x1 (Go.Value.int Go.IntKind.i64 0) fun v24 =>
 aIf v24
 (f36_J0 R [x0, x1, undef, undef, (Go.Value.int Go.IntKind.i64 0), v20, v21, v22, x0, (.bool false), v18, x0, v18, v20, v21, v22, v22, v23, (.bool true), x1, v24, (.bool true), undef, undef, undef, undef, (.bool true), (.bool true), undef, undef, undef, undef, undef, undef, undef, undef, undef, undef, undef, undef, undef, undef, undef, undef] H19)
 (aConvert Try.prog 3 34 x1 H19 fun v27 H28 =>
 aBin Try.prog .gtr 34 v20 v27 fun v29 =>
 f36_J0 R [x0, x1, undef, undef, (Go.Value.int Go.IntKind.i64 0), v20, v21, v22, x0, (.bool false), v18, x0, v18, v20, v21, v22, v22, v23, (.bool true), x1, v24, (.bool false), v20, x1, v27, v29, v29, v29, undef, undef, undef, undef, undef, undef, undef, undef, undef, undef, undef, undef, undef, undef, undef, undef] H28))
 (f36_J0 R [x0, x1, undef, undef, (Go.Value.int Go.IntKind.i64 0), v20, v21, v22, x0, (.bool false), v18, x0, v18, v20, v21, v22, v22, v23, (.bool false), undef, undef, undef, undef, undef, undef, undef, undef, (.bool false), undef, undef, undef, undef, undef, undef, undef, undef, undef, undef, undef, undef, undef, undef, undef, undef] H19)) (fun v34 H33 => R (.panic v34) H33))) (fun v36 H35 => R (.panic v36) H35)
theorem f36_eq (x0 x1 : Value) (H : AH) (R : AEnd → AH → Prop) : awpF Try.prog f36_c (aPost Try.f36 R) ([x0, x1] ++ List.replicate (Try.f36.ntmps - [x0, x1].length) undef) H = f36_B x0 x1 H R := by kernel_rfl
theorem f36_call (x0 x1 : Value) (H : AH) (R : AEnd → AH → Prop) (h : f36_B x0 x1 H R) : ACall Try.prog 36 [x0, x1] H R :=
  acall_of mixed Try.func36 (by kernel_rfl : Try.f36.body = some f36_c) (by kernel_rfl) (by kernel_rfl) (awp_of (Eq.mpr (f36_eq x0 x1 H R) h))

/-! f37: (*switchyard/pack.Reader).Byte -/
noncomputable def f37_c : Code := Try.f37.body.getD .skip
def f37_B (x0 : Value) (H : AH) (R : AEnd → AH → Prop) : Prop :=
 aCall Try.prog (.func (.func 41) #[] #[]) [x0] H (fun v1 H2 =>
 aIf v1
 (R (.ret (Go.Value.int Go.IntKind.i64 0)) H2)
 (aNilCheck x0 fun v3 =>
 aField Try.prog 59 v3 0 fun v4 =>
 aLoad Try.prog 9 v4 H2 fun v5 =>
 aBin Try.prog .eql 9 v5 (Go.Value.string { data := #[] }) fun v6 =>
 aIf v6
 (aCall Try.prog (.func (.func 43) #[] #[]) [x0, (Go.Value.int Go.IntKind.i64 3)] H2 (fun v7 H8 =>
 R (.ret (Go.Value.int Go.IntKind.i64 0)) H8) (fun v10 H9 => R (.panic v10) H9))
 (aNilCheck x0 fun v11 =>
 aField Try.prog 59 v11 0 fun v12 =>
 aLoad Try.prog 9 v12 H2 fun v13 =>
 aIndex Try.prog 9 v13 (Go.Value.int Go.IntKind.i64 0) fun v14 =>
 aNilCheck x0 fun v15 =>
 aField Try.prog 59 v15 0 fun v16 =>
 aLoad Try.prog 9 v16 H2 fun v17 =>
 aSlice Try.prog 9 v17 (some (Go.Value.int Go.IntKind.i64 1)) none none H2 fun v18 =>
 aNilCheck x0 fun v19 =>
 aField Try.prog 59 v19 0 fun v20 =>
 aStore Try.prog 9 v20 v18 H2 fun H22 =>
 aConvert Try.prog 5 3 v14 H22 fun v23 H24 =>
 R (.ret v23) H24))) (fun v26 H25 => R (.panic v26) H25)
theorem f37_eq (x0 : Value) (H : AH) (R : AEnd → AH → Prop) : awpF Try.prog f37_c (aPost Try.f37 R) ([x0] ++ List.replicate (Try.f37.ntmps - [x0].length) undef) H = f37_B x0 H R := by kernel_rfl
theorem f37_call (x0 : Value) (H : AH) (R : AEnd → AH → Prop) (h : f37_B x0 H R) : ACall Try.prog 37 [x0] H R :=
  acall_of mixed Try.func37 (by kernel_rfl : Try.f37.body = some f37_c) (by kernel_rfl) (by kernel_rfl) (awp_of (Eq.mpr (f37_eq x0 H R) h))

/-! f19: switchyard/switchyardlaw02.awake -/
noncomputable def f19_c : Code := Try.f19.body.getD .skip
def f19_B (H : AH) (R : AEnd → AH → Prop) : Prop :=
 aCall Try.prog (.func (.func 27) #[] #[]) [(Go.Value.string { data := #[128, 0] })] H (fun v1 H2 =>
 aCall Try.prog (.func (.func 28) #[] #[]) [v1] H2 (fun v3 H4 =>
 aCall Try.prog (.func (.func 20) #[] #[]) [(Go.Value.int Go.IntKind.u64 300)] H4 (fun v5 H6 =>
 aBin Try.prog .eql 9 v5 (Go.Value.string { data := #[172, 2] }) fun v7 =>
 aIf v7
 (aCall Try.prog (.func (.func 21) #[] #[]) [(Go.Value.int Go.IntKind.i64 (-1))] H6 (fun v8 H9 =>
 aBin Try.prog .eql 9 v8 (Go.Value.string { data := #[1] }) fun v10 =>
 aIf v10
 (aCall Try.prog (.func (.func 21) #[] #[]) [(Go.Value.int Go.IntKind.i64 64)] H9 (fun v12 H13 =>
 aBin Try.prog .eql 9 v12 (Go.Value.string { data := #[128, 1] }) fun v14 =>
 aIf v14
 (aCall Try.prog (.func (.func 31) #[] #[]) [v1] H13 (fun v16 H17 =>
 aBin Try.prog .eql 46 v16 (Go.Value.int Go.IntKind.i64 4) fun v18 =>
 R (.ret v18) H17) (fun v21 H20 => R (.panic v21) H20))
 (R (.ret (.bool false)) H13)) (fun v24 H23 => R (.panic v24) H23))
 (R (.ret (.bool false)) H9)) (fun v28 H27 => R (.panic v28) H27))
 (R (.ret (.bool false)) H6)) (fun v33 H32 => R (.panic v33) H32)) (fun v35 H34 => R (.panic v35) H34)) (fun v37 H36 => R (.panic v37) H36)
theorem f19_eq (H : AH) (R : AEnd → AH → Prop) : awpF Try.prog f19_c (aPost Try.f19 R) (([] : List Value) ++ List.replicate (Try.f19.ntmps - ([] : List Value).length) undef) H = f19_B H R := by kernel_rfl
theorem f19_call (H : AH) (R : AEnd → AH → Prop) (h : f19_B H R) : ACall Try.prog 19 [] H R :=
  acall_of mixed Try.func19 (by kernel_rfl : Try.f19.body = some f19_c) (by kernel_rfl) (by kernel_rfl) (awp_of (Eq.mpr (f19_eq H R) h))

end Go.Proofs.Ytmidgfmopmpppaa
