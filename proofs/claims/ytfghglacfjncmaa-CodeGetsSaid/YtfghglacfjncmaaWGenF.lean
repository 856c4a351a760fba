/- Bodies of functions as nested rules: printed by genw.py, a program of this claim. -/
import Derived.Test.YtfghglacfjncmaaWTy
import Derived.Test.YtfghglacfjncmaaWAbsZ
namespace Go.Proofs.Ytfghglacfjncmaa
open Go.RowKit
set_option linter.unusedVariables false
set_option maxRecDepth 100000

/-! f116: (switchyard/code.reader).row -/
noncomputable def f116_c : Code := Try.f116.body.getD .skip
noncomputable def f116_X0 (R : AEnd → AH → Prop) : AExit → List Value → AH → Prop := thenF (fun tm H => hold (awpF Try.prog (codeAt f116_c [1, 1, 1]) (aPost Try.prog Try.f116 R) tm H)) (aPost Try.prog Try.f116 R)
noncomputable def f116_X1 (R : AEnd → AH → Prop) : AExit → List Value → AH → Prop := inBlockF 0 (f116_X0 R)
noncomputable def f116_Q0 (R : AEnd → AH → Prop) : AExit → List Value → AH → Prop := (f116_X1 R)
def f116_L0 (R : AEnd → AH → Prop) (tm : List Value) (H : AH) : Prop := awpF Try.prog (codeAt f116_c [1, 1, 0, 1, 0]) (f116_Q0 R) tm H
def f116_R0 (s0 : Value) (s1 : Nat) (s2 : Value) (s3b : Option Addr) (s3l s3c : Nat) (s4 : Value) (s5 s6 : Int) (s7 s8 s9 s10 s11 s12 s13 s14 : Value) (H : AH) (K0 : List Value → AH → Prop) (R : AEnd → AH → Prop) : Prop :=
 wIf (decide (s6 < s5))
 (ldP s1 0 H fun a1 =>
 wCall Try.prog 55 [(.agg #[(.pointer a1)])] H (fun r2 H3 =>
 opA 4 r2 fun l6 =>
 opI .i64 (l6.headD undef) fun n7 =>
 opI .i64 (l6.tail.headD undef) fun n8 =>
 opS (l6.tail.tail.headD undef) fun t9 =>
 opL (l6.tail.tail.tail.headD undef) fun z10b z10l z10c =>
 wBs [(.int .i64 n7), (.int .i64 n8), (.string t9), (.slice z10b z10l z10c)] 4 H3 fun i11 H12 =>
 wAppL 24 4 56 s3b s3l s3c (some ⟨i11, 0, none⟩) 1 0 H12 fun z13b z13l z13c H14 =>
 K0 [s0, (.pointer (some ⟨s1, 0, none⟩)), s2, (.slice z13b z13l z13c), s4, (.int .i64 s5), (.int .i64 (IntKind.i64.wrap (s6 + 1))), (.bool true), (.slice s3b s3l s3c), (.agg #[(.pointer a1)]), (.agg #[(.int .i64 n7), (.int .i64 n8), (.string t9), (.slice z10b z10l z10c)]), (.slice (some ⟨i11, 0, none⟩) 1 0), (.slice z13b z13l z13c), (.int .i64 (IntKind.i64.wrap (s6 + 1))), s14] H14) (fun v5 H4 => R (.panic v5) H4))
 (R (.ret (.slice s3b s3l s3c)) H)
theorem f116_R0_eq (s0 : Value) (s1 : Nat) (s2 : Value) (s3b : Option Addr) (s3l s3c : Nat) (s4 : Value) (s5 s6 : Int) (s7 s8 s9 s10 s11 s12 s13 s14 : Value) (H : AH) (K0 : List Value → AH → Prop) (R : AEnd → AH → Prop) : awpF Try.prog (codeAt f116_c [1, 1, 0, 1, 0, 0]) (thenF K0 (f116_Q0 R)) [s0, (.pointer (some ⟨s1, 0, none⟩)), s2, (.slice s3b s3l s3c), s4, (.int .i64 s5), (.int .i64 s6), s7, s8, s9, s10, s11, s12, s13, s14] H = f116_R0 s0 s1 s2 s3b s3l s3c s4 s5 s6 s7 s8 s9 s10 s11 s12 s13 s14 H K0 R := by kernel_rfl
def f116_I0 (s0 : Value) (s1 : Nat) (s2 s4 : Value) (s5 : Int) (s14 : Value) (J : Nat → Option Addr → Nat → Nat → Int → AH → Prop) (n : Nat) (tm : List Value) (H : AH) : Prop := ∃ (s3b : Option Addr) (s3l s3c : Nat) (s6 : Int) (s7 s8 s9 s10 s11 s12 s13 : Value), tm = [s0, (.pointer (some ⟨s1, 0, none⟩)), s2, (.slice s3b s3l s3c), s4, (.int .i64 s5), (.int .i64 s6), s7, s8, s9, s10, s11, s12, s13, s14] ∧ J n s3b s3l s3c s6 H
theorem f116_I0_mk {s0 : Value} {s1 : Nat} {s2 : Value} {s3b : Option Addr} {s3l : Nat} {s3c : Nat} {s4 : Value} {s5 : Int} {s6 : Int} {s7 : Value} {s8 : Value} {s9 : Value} {s10 : Value} {s11 : Value} {s12 : Value} {s13 : Value} {s14 : Value} {J : Nat → Option Addr → Nat → Nat → Int → AH → Prop} {n : Nat} {H : AH} (h : J n s3b s3l s3c s6 H) : f116_I0 s0 s1 s2 s4 s5 s14 J n [s0, (.pointer (some ⟨s1, 0, none⟩)), s2, (.slice s3b s3l s3c), s4, (.int .i64 s5), (.int .i64 s6), s7, s8, s9, s10, s11, s12, s13, s14] H := ⟨_, _, _, _, _, _, _, _, _, _, _, rfl, h⟩
-- loop 0: carried 3:out, 6:
theorem f116_L0_rule {s0 : Value} {s1 : Nat} {s2 : Value} {s3b : Option Addr} {s3l : Nat} {s3c : Nat} {s4 : Value} {s5 : Int} {s6 : Int} {s7 : Value} {s8 : Value} {s9 : Value} {s10 : Value} {s11 : Value} {s12 : Value} {s13 : Value} {s14 : Value} {H : AH} {R : AEnd → AH → Prop} (J : Nat → Option Addr → Nat → Nat → Int → AH → Prop) (n : Nat) (h0 : J n s3b s3l s3c s6 H)
  (step : ∀ (n : Nat) (s3b : Option Addr) (s3l s3c : Nat) (s6 : Int) (H : AH), J n s3b s3l s3c s6 H → ∀ (s7 s8 s9 s10 s11 s12 s13 : Value), f116_R0 s0 s1 s2 s3b s3l s3c s4 s5 s6 s7 s8 s9 s10 s11 s12 s13 s14 H (fun tm H => ∃ m, m < n ∧ f116_I0 s0 s1 s2 s4 s5 s14 J m tm H) R) : f116_L0 R [s0, (.pointer (some ⟨s1, 0, none⟩)), s2, (.slice s3b s3l s3c), s4, (.int .i64 s5), (.int .i64 s6), s7, s8, s9, s10, s11, s12, s13, s14] H :=
  awpF_loop (f116_I0 s0 s1 s2 s4 s5 s14 J) n (f116_I0_mk h0) (by
    intro n tm H hh
    exact Exists.elim hh fun s3b hh => Exists.elim hh fun s3l hh => Exists.elim hh fun s3c hh => Exists.elim hh fun s6 hh => Exists.elim hh fun s7 hh => Exists.elim hh fun s8 hh => Exists.elim hh fun s9 hh => Exists.elim hh fun s10 hh => Exists.elim hh fun s11 hh => Exists.elim hh fun s12 hh => Exists.elim hh fun s13 hh => And.elim (fun e h =>
     (by subst e; exact Eq.mpr (f116_R0_eq s0 s1 s2 s3b s3l s3c s4 s5 s6 s7 s8 s9 s10 s11 s12 s13 s14 H _ R) (step n s3b s3l s3c s6 H h s7 s8 s9 s10 s11 s12 s13))) hh)
def f116_B (x0_0 : Option Addr) (H : AH) (R : AEnd → AH → Prop) : Prop :=
 wNew [(.pointer x0_0)] H fun i15 H16 =>
 ldP i15 0 H16 fun a17 =>
 wCall Try.prog 111 [(.agg #[(.pointer a17)]), (.int .i64 16)] H16 (fun r18 H19 =>
 opI .i64 r18 fun n22 =>
 f116_L0 R [(.agg #[(.pointer x0_0)]), (.pointer (some ⟨i15, 0, none⟩)), (.slice none 0 0), (.slice none 0 0), (.agg #[(.pointer a17)]), (.int .i64 n22), (.int .i64 0), undef, undef, undef, undef, undef, undef, undef, undef] H19) (fun v21 H20 => R (.panic v21) H20)
theorem f116_eq (x0_0 : Option Addr) (H : AH) (R : AEnd → AH → Prop) : awpF Try.prog f116_c (aPost Try.prog Try.f116 R) (([(.agg #[(.pointer x0_0)])] : List Value) ++ List.replicate (Try.f116.ntmps - (([(.agg #[(.pointer x0_0)])] : List Value)).length) undef) H = f116_B x0_0 H R := by kernel_rfl
theorem f116_call (x0_0 : Option Addr) (H : AH) (R : AEnd → AH → Prop) (h : f116_B x0_0 H R) : ACall Try.prog 116 ([(.agg #[(.pointer x0_0)])] : List Value) H R :=
  acall_of mixed Try.func116 (by kernel_rfl : Try.f116.body = some f116_c) (by kernel_rfl) (by kernel_rfl) (awp_of (Eq.mpr (f116_eq x0_0 H R) h))

/-! f59: (switchyard/code.reader).mail -/
noncomputable def f59_c : Code := Try.f59.body.getD .skip
def f59_B (x0_0 : Option Addr) (H : AH) (R : AEnd → AH → Prop) : Prop :=
 wNew [(.pointer x0_0)] H fun i1 H2 =>
 wNew [(.int .i64 0), (.string ({ data := #[] })), (.slice none 0 0), (.slice none 0 0)] H2 fun i3 H4 =>
 ldP i1 0 H4 fun a5 =>
 wCall Try.prog 108 [(.agg #[(.pointer a5)])] H4 (fun r6 H7 =>
 opI .i64 r6 fun n10 =>
 wNew [(.int .i64 0), (.string ({ data := #[] })), (.slice none 0 0), (.slice none 0 0)] H7 fun i11 H12 =>
 wSt i11 0 [(.int .i64 n10), (.string ({ data := #[] })), (.slice none 0 0), (.slice none 0 0)] H12 fun H13 =>
 ldP i1 0 H13 fun a14 =>
 wCall Try.prog 110 [(.agg #[(.pointer a14)]), (.int .i64 24)] H13 (fun r15 H16 =>
 opS r15 fun t19 =>
 wSt i11 1 [(.string t19)] H16 fun H20 =>
 ldP i1 0 H20 fun a21 =>
 wCall Try.prog 116 [(.agg #[(.pointer a21)])] H20 (fun r22 H23 =>
 opL r22 fun z26b z26l z26c =>
 wSt i11 2 [(.slice z26b z26l z26c)] H23 fun H27 =>
 ldP i1 0 H27 fun a28 =>
 wCall Try.prog 116 [(.agg #[(.pointer a28)])] H27 (fun r29 H30 =>
 opL r29 fun z33b z33l z33c =>
 wSt i11 3 [(.slice z33b z33l z33c)] H30 fun H34 =>
 ldI .i64 i11 0 H34 fun n35 =>
 ldS i11 1 H34 fun t36 =>
 ldL i11 2 H34 fun z37b z37l z37c =>
 ldL i11 3 H34 fun z38b z38l z38c =>
 wSt i3 0 [(.int .i64 n35), (.string t36), (.slice z37b z37l z37c), (.slice z38b z38l z38c)] H34 fun H39 =>
 wPt (some ⟨i3, 0, none⟩) fun i40 k41 =>
 ldI .i64 i40 k41 H39 fun n42 =>
 ldS i40 (k41 + 1) H39 fun t43 =>
 ldL i40 (k41 + 2) H39 fun z44b z44l z44c =>
 ldL i40 (k41 + 3) H39 fun z45b z45l z45c =>
 R (.ret (.agg #[(.int .i64 n42), (.string t43), (.slice z44b z44l z44c), (.slice z45b z45l z45c)])) H39) (fun v32 H31 => R (.panic v32) H31)) (fun v25 H24 => R (.panic v25) H24)) (fun v18 H17 => R (.panic v18) H17)) (fun v9 H8 => R (.panic v9) H8)
theorem f59_eq (x0_0 : Option Addr) (H : AH) (R : AEnd → AH → Prop) : awpF Try.prog f59_c (aPost Try.prog Try.f59 R) (([(.agg #[(.pointer x0_0)])] : List Value) ++ List.replicate (Try.f59.ntmps - (([(.agg #[(.pointer x0_0)])] : List Value)).length) undef) H = f59_B x0_0 H R := by kernel_rfl
theorem f59_call (x0_0 : Option Addr) (H : AH) (R : AEnd → AH → Prop) (h : f59_B x0_0 H R) : ACall Try.prog 59 ([(.agg #[(.pointer x0_0)])] : List Value) H R :=
  acall_of mixed Try.func59 (by kernel_rfl : Try.f59.body = some f59_c) (by kernel_rfl) (by kernel_rfl) (awp_of (Eq.mpr (f59_eq x0_0 H R) h))

/-! f62: (switchyard/code.reader).item -/
noncomputable def f62_c : Code := Try.f62.body.getD .skip
noncomputable def f62_X0 (R : AEnd → AH → Prop) : AExit → List Value → AH → Prop := thenF (fun tm H => hold (awpF Try.prog (codeAt f62_c [1, 1, 1, 1, 1, 1, 1]) (aPost Try.prog Try.f62 R) tm H)) (aPost Try.prog Try.f62 R)
noncomputable def f62_X1 (R : AEnd → AH → Prop) : AExit → List Value → AH → Prop := inBlockF 0 (f62_X0 R)
noncomputable def f62_Q0 (R : AEnd → AH → Prop) : AExit → List Value → AH → Prop := (f62_X1 R)
def f62_L0 (R : AEnd → AH → Prop) (tm : List Value) (H : AH) : Prop := awpF Try.prog (codeAt f62_c [1, 1, 1, 1, 1, 1, 0, 1, 0]) (f62_Q0 R) tm H
noncomputable def f62_X2 (R : AEnd → AH → Prop) : AExit → List Value → AH → Prop := thenF (fun tm H => hold (awpF Try.prog (codeAt f62_c [1, 1, 1, 1, 1, 1, 1, 1]) (aPost Try.prog Try.f62 R) tm H)) (aPost Try.prog Try.f62 R)
noncomputable def f62_X3 (R : AEnd → AH → Prop) : AExit → List Value → AH → Prop := inBlockF 2 (f62_X2 R)
noncomputable def f62_Q1 (R : AEnd → AH → Prop) : AExit → List Value → AH → Prop := (f62_X3 R)
def f62_L1 (R : AEnd → AH → Prop) (tm : List Value) (H : AH) : Prop := awpF Try.prog (codeAt f62_c [1, 1, 1, 1, 1, 1, 1, 0, 1, 0]) (f62_Q1 R) tm H
def f62_J0 (R : AEnd → AH → Prop) (tm : List Value) (H : AH) : Prop := hold (awpF Try.prog (codeAt f62_c [1, 1, 1, 1, 1, 1, 1]) ((aPost Try.prog Try.f62 R)) tm H)
-- join 0: live 1:r, 2:, 3:x
def f62_J0_B (s0 : Value) (s1 s2 s3 : Nat) (s4 s5 s6 s7 s8 s9 s10 s11 s12 s13 s14 s15 s16 s17 s18 s19 s20 s21 s22 s23 s24 s25 s26 s27 s28 s29 s30 s34 s35 s36 s37 s38 s39 s40 s41 s42 s43 : Value) (H : AH) (R : AEnd → AH → Prop) : Prop :=
 ldP s1 0 H fun a1 =>
 wCall Try.prog 111 [(.agg #[(.pointer a1)]), (.int .i64 4096)] H (fun r2 H3 =>
 opI .i64 r2 fun n6 =>
 f62_L1 R [s0, (.pointer (some ⟨s1, 0, none⟩)), (.pointer (some ⟨s2, 0, none⟩)), (.pointer (some ⟨s3, 0, none⟩)), s4, s5, s6, s7, s8, s9, s10, s11, s12, s13, s14, s15, s16, s17, s18, s19, s20, s21, s22, s23, s24, s25, s26, s27, s28, s29, s30, (.agg #[(.pointer a1)]), (.int .i64 n6), (.int .i64 0), s34, s35, s36, s37, s38, s39, s40, s41, s42, s43] H3) (fun v5 H4 => R (.panic v5) H4)
theorem f62_J0_eq (s0 : Value) (s1 s2 s3 : Nat) (s4 s5 s6 s7 s8 s9 s10 s11 s12 s13 s14 s15 s16 s17 s18 s19 s20 s21 s22 s23 s24 s25 s26 s27 s28 s29 s30 s31 s32 s33 s34 s35 s36 s37 s38 s39 s40 s41 s42 s43 : Value) (H : AH) (R : AEnd → AH → Prop) : f62_J0 R [s0, (.pointer (some ⟨s1, 0, none⟩)), (.pointer (some ⟨s2, 0, none⟩)), (.pointer (some ⟨s3, 0, none⟩)), s4, s5, s6, s7, s8, s9, s10, s11, s12, s13, s14, s15, s16, s17, s18, s19, s20, s21, s22, s23, s24, s25, s26, s27, s28, s29, s30, s31, s32, s33, s34, s35, s36, s37, s38, s39, s40, s41, s42, s43] H = f62_J0_B s0 s1 s2 s3 s4 s5 s6 s7 s8 s9 s10 s11 s12 s13 s14 s15 s16 s17 s18 s19 s20 s21 s22 s23 s24 s25 s26 s27 s28 s29 s30 s34 s35 s36 s37 s38 s39 s40 s41 s42 s43 H R := by kernel_rfl
def f62_R0 (s0 : Value) (s1 s2 s3 : Nat) (s4 s5 s6 s7 s8 s9 s10 s11 s12 s13 s14 s15 s16 s17 s18 s19 : Value) (s20 s21 : Int) (s22 s23 s24 s25 s26 s27 s28 s29 s30 s31 s32 s33 s34 s35 s36 s37 s38 s39 s40 s41 s42 s43 : Value) (H : AH) (K0 : List Value → AH → Prop) (R : AEnd → AH → Prop) : Prop :=
 wIf (decide (s21 < s20))
 (ldP s1 0 H fun a7 =>
 (ldL s3 5 H fun z8b z8l z8c =>
 wPin s1 0 [(.pointer a7)] H <|
 wCall Try.prog 111 [(.agg #[(.pointer a7)]), (.int .i64 1000)] H (fun r9 H10 =>
 opI .i64 r9 fun n13 =>
 wBs [(.int .i64 n13)] 1 H10 fun i14 H15 =>
 wAppL 3 1 8 z8b z8l z8c (some ⟨i14, 0, none⟩) 1 0 H15 fun z16b z16l z16c H17 =>
 wSt s3 5 [(.slice z16b z16l z16c)] H17 fun H18 =>
 K0 [s0, (.pointer (some ⟨s1, 0, none⟩)), (.pointer (some ⟨s2, 0, none⟩)), (.pointer (some ⟨s3, 0, none⟩)), s4, s5, s6, s7, s8, s9, s10, s11, s12, s13, s14, s15, s16, s17, s18, s19, (.int .i64 s20), (.int .i64 (IntKind.i64.wrap (s21 + 1))), (.bool true), (.pointer (some ⟨s3, 5, none⟩)), (.slice z8b z8l z8c), (.agg #[(.pointer a7)]), (.int .i64 n13), (.slice (some ⟨i14, 0, none⟩) 1 0), (.slice z16b z16l z16c), (.pointer (some ⟨s3, 5, none⟩)), (.int .i64 (IntKind.i64.wrap (s21 + 1))), s31, s32, s33, s34, s35, s36, s37, s38, s39, s40, s41, s42, s43] H18) (fun v12 H11 => R (.panic v12) H11)) ∧
 (wCall Try.prog 111 [(.agg #[(.pointer a7)]), (.int .i64 1000)] H (fun r19 H20 =>
 opI .i64 r19 fun n23 =>
 (ldL s3 5 H20 fun z24b z24l z24c =>
 wBs [(.int .i64 n23)] 1 H20 fun i25 H26 =>
 wAppL 3 1 8 z24b z24l z24c (some ⟨i25, 0, none⟩) 1 0 H26 fun z27b z27l z27c H28 =>
 wSt s3 5 [(.slice z27b z27l z27c)] H28 fun H29 =>
 K0 [s0, (.pointer (some ⟨s1, 0, none⟩)), (.pointer (some ⟨s2, 0, none⟩)), (.pointer (some ⟨s3, 0, none⟩)), s4, s5, s6, s7, s8, s9, s10, s11, s12, s13, s14, s15, s16, s17, s18, s19, (.int .i64 s20), (.int .i64 (IntKind.i64.wrap (s21 + 1))), (.bool true), (.pointer (some ⟨s3, 5, none⟩)), (.slice z24b z24l z24c), (.agg #[(.pointer a7)]), (.int .i64 n23), (.slice (some ⟨i25, 0, none⟩) 1 0), (.slice z27b z27l z27c), (.pointer (some ⟨s3, 5, none⟩)), (.int .i64 (IntKind.i64.wrap (s21 + 1))), s31, s32, s33, s34, s35, s36, s37, s38, s39, s40, s41, s42, s43] H29) ∧
 (wBs [(.int .i64 n23)] 1 H20 fun i30 H31 =>
 ldL s3 5 H31 fun z32b z32l z32c =>
 wAppL 3 1 8 z32b z32l z32c (some ⟨i30, 0, none⟩) 1 0 H31 fun z33b z33l z33c H34 =>
 wSt s3 5 [(.slice z33b z33l z33c)] H34 fun H35 =>
 K0 [s0, (.pointer (some ⟨s1, 0, none⟩)), (.pointer (some ⟨s2, 0, none⟩)), (.pointer (some ⟨s3, 0, none⟩)), s4, s5, s6, s7, s8, s9, s10, s11, s12, s13, s14, s15, s16, s17, s18, s19, (.int .i64 s20), (.int .i64 (IntKind.i64.wrap (s21 + 1))), (.bool true), (.pointer (some ⟨s3, 5, none⟩)), (.slice z32b z32l z32c), (.agg #[(.pointer a7)]), (.int .i64 n23), (.slice (some ⟨i30, 0, none⟩) 1 0), (.slice z33b z33l z33c), (.pointer (some ⟨s3, 5, none⟩)), (.int .i64 (IntKind.i64.wrap (s21 + 1))), s31, s32, s33, s34, s35, s36, s37, s38, s39, s40, s41, s42, s43] H35)) (fun v22 H21 => R (.panic v22) H21)))
 (f62_J0 R [s0, (.pointer (some ⟨s1, 0, none⟩)), (.pointer (some ⟨s2, 0, none⟩)), (.pointer (some ⟨s3, 0, none⟩)), s4, s5, s6, s7, s8, s9, s10, s11, s12, s13, s14, s15, s16, s17, s18, s19, (.int .i64 s20), (.int .i64 s21), (.bool false), s23, s24, s25, s26, s27, s28, s29, s30, s31, s32, s33, s34, s35, s36, s37, s38, s39, s40, s41, s42, s43] H)
theorem f62_R0_eq (s0 : Value) (s1 s2 s3 : Nat) (s4 s5 s6 s7 s8 s9 s10 s11 s12 s13 s14 s15 s16 s17 s18 s19 : Value) (s20 s21 : Int) (s22 s23 s24 s25 s26 s27 s28 s29 s30 s31 s32 s33 s34 s35 s36 s37 s38 s39 s40 s41 s42 s43 : Value) (H : AH) (K0 : List Value → AH → Prop) (R : AEnd → AH → Prop) : awpF Try.prog (codeAt f62_c [1, 1, 1, 1, 1, 1, 0, 1, 0, 0]) (thenF K0 (f62_Q0 R)) [s0, (.pointer (some ⟨s1, 0, none⟩)), (.pointer (some ⟨s2, 0, none⟩)), (.pointer (some ⟨s3, 0, none⟩)), s4, s5, s6, s7, s8, s9, s10, s11, s12, s13, s14, s15, s16, s17, s18, s19, (.int .i64 s20), (.int .i64 s21), s22, s23, s24, s25, s26, s27, s28, s29, s30, s31, s32, s33, s34, s35, s36, s37, s38, s39, s40, s41, s42, s43] H = f62_R0 s0 s1 s2 s3 s4 s5 s6 s7 s8 s9 s10 s11 s12 s13 s14 s15 s16 s17 s18 s19 s20 s21 s22 s23 s24 s25 s26 s27 s28 s29 s30 s31 s32 s33 s34 s35 s36 s37 s38 s39 s40 s41 s42 s43 H K0 R := by kernel_rfl
def f62_I0 (s0 : Value) (s1 s2 s3 : Nat) (s4 s5 s6 s7 s8 s9 s10 s11 s12 s13 s14 s15 s16 s17 s18 s19 : Value) (s20 : Int) (s31 s32 s33 s34 s35 s36 s37 s38 s39 s40 s41 s42 s43 : Value) (J : Nat → Int → AH → Prop) (n : Nat) (tm : List Value) (H : AH) : Prop := ∃ (s21 : Int) (s22 s23 s24 s25 s26 s27 s28 s29 s30 : Value), tm = [s0, (.pointer (some ⟨s1, 0, none⟩)), (.pointer (some ⟨s2, 0, none⟩)), (.pointer (some ⟨s3, 0, none⟩)), s4, s5, s6, s7, s8, s9, s10, s11, s12, s13, s14, s15, s16, s17, s18, s19, (.int .i64 s20), (.int .i64 s21), s22, s23, s24, s25, s26, s27, s28, s29, s30, s31, s32, s33, s34, s35, s36, s37, s38, s39, s40, s41, s42, s43] ∧ J n s21 H
theorem f62_I0_mk {s0 : Value} {s1 : Nat} {s2 : Nat} {s3 : Nat} {s4 : Value} {s5 : Value} {s6 : Value} {s7 : Value} {s8 : Value} {s9 : Value} {s10 : Value} {s11 : Value} {s12 : Value} {s13 : Value} {s14 : Value} {s15 : Value} {s16 : Value} {s17 : Value} {s18 : Value} {s19 : Value} {s20 : Int} {s21 : Int} {s22 : Value} {s23 : Value} {s24 : Value} {s25 : Value} {s26 : Value} {s27 : Value} {s28 : Value} {s29 : Value} {s30 : Value} {s31 : Value} {s32 : Value} {s33 : Value} {s34 : Value} {s35 : Value} {s36 : Value} {s37 : Value} {s38 : Value} {s39 : Value} {s40 : Value} {s41 : Value} {s42 : Value} {s43 : Value} {J : Nat → Int → AH → Prop} {n : Nat} {H : AH} (h : J n s21 H) : f62_I0 s0 s1 s2 s3 s4 s5 s6 s7 s8 s9 s10 s11 s12 s13 s14 s15 s16 s17 s18 s19 s20 s31 s32 s33 s34 s35 s36 s37 s38 s39 s40 s41 s42 s43 J n [s0, (.pointer (some ⟨s1, 0, none⟩)), (.pointer (some ⟨s2, 0, none⟩)), (.pointer (some ⟨s3, 0, none⟩)), s4, s5, s6, s7, s8, s9, s10, s11, s12, s13, s14, s15, s16, s17, s18, s19, (.int .i64 s20), (.int .i64 s21), s22, s23, s24, s25, s26, s27, s28, s29, s30, s31, s32, s33, s34, s35, s36, s37, s38, s39, s40, s41, s42, s43] H := ⟨_, _, _, _, _, _, _, _, _, _, rfl, h⟩
-- loop 0: carried 21:
theorem f62_L0_rule {s0 : Value} {s1 : Nat} {s2 : Nat} {s3 : Nat} {s4 : Value} {s5 : Value} {s6 : Value} {s7 : Value} {s8 : Value} {s9 : Value} {s10 : Value} {s11 : Value} {s12 : Value} {s13 : Value} {s14 : Value} {s15 : Value} {s16 : Value} {s17 : Value} {s18 : Value} {s19 : Value} {s20 : Int} {s21 : Int} {s22 : Value} {s23 : Value} {s24 : Value} {s25 : Value} {s26 : Value} {s27 : Value} {s28 : Value} {s29 : Value} {s30 : Value} {s31 : Value} {s32 : Value} {s33 : Value} {s34 : Value} {s35 : Value} {s36 : Value} {s37 : Value} {s38 : Value} {s39 : Value} {s40 : Value} {s41 : Value} {s42 : Value} {s43 : Value} {H : AH} {R : AEnd → AH → Prop} (J : Nat → Int → AH → Prop) (n : Nat) (h0 : J n s21 H)
  (step : ∀ (n : Nat) (s21 : Int) (H : AH), J n s21 H → ∀ (s22 s23 s24 s25 s26 s27 s28 s29 s30 : Value), f62_R0 s0 s1 s2 s3 s4 s5 s6 s7 s8 s9 s10 s11 s12 s13 s14 s15 s16 s17 s18 s19 s20 s21 s22 s23 s24 s25 s26 s27 s28 s29 s30 s31 s32 s33 s34 s35 s36 s37 s38 s39 s40 s41 s42 s43 H (fun tm H => ∃ m, m < n ∧ f62_I0 s0 s1 s2 s3 s4 s5 s6 s7 s8 s9 s10 s11 s12 s13 s14 s15 s16 s17 s18 s19 s20 s31 s32 s33 s34 s35 s36 s37 s38 s39 s40 s41 s42 s43 J m tm H) R) : f62_L0 R [s0, (.pointer (some ⟨s1, 0, none⟩)), (.pointer (some ⟨s2, 0, none⟩)), (.pointer (some ⟨s3, 0, none⟩)), s4, s5, s6, s7, s8, s9, s10, s11, s12, s13, s14, s15, s16, s17, s18, s19, (.int .i64 s20), (.int .i64 s21), s22, s23, s24, s25, s26, s27, s28, s29, s30, s31, s32, s33, s34, s35, s36, s37, s38, s39, s40, s41, s42, s43] H :=
  awpF_loop (f62_I0 s0 s1 s2 s3 s4 s5 s6 s7 s8 s9 s10 s11 s12 s13 s14 s15 s16 s17 s18 s19 s20 s31 s32 s33 s34 s35 s36 s37 s38 s39 s40 s41 s42 s43 J) n (f62_I0_mk h0) (by
    intro n tm H hh
    exact Exists.elim hh fun s21 hh => Exists.elim hh fun s22 hh => Exists.elim hh fun s23 hh => Exists.elim hh fun s24 hh => Exists.elim hh fun s25 hh => Exists.elim hh fun s26 hh => Exists.elim hh fun s27 hh => Exists.elim hh fun s28 hh => Exists.elim hh fun s29 hh => Exists.elim hh fun s30 hh => And.elim (fun e h =>
     (by subst e; exact Eq.mpr (f62_R0_eq s0 s1 s2 s3 s4 s5 s6 s7 s8 s9 s10 s11 s12 s13 s14 s15 s16 s17 s18 s19 s20 s21 s22 s23 s24 s25 s26 s27 s28 s29 s30 s31 s32 s33 s34 s35 s36 s37 s38 s39 s40 s41 s42 s43 H _ R) (step n s21 H h s22 s23 s24 s25 s26 s27 s28 s29 s30))) hh)
def f62_R1 (s0 : Value) (s1 s2 s3 : Nat) (s4 s5 s6 s7 s8 s9 s10 s11 s12 s13 s14 s15 s16 s17 s18 s19 s20 s21 s22 s23 s24 s25 s26 s27 s28 s29 s30 s31 : Value) (s32 s33 : Int) (s34 s35 s36 s37 s38 s39 s40 s41 s42 s43 : Value) (H : AH) (K1 : List Value → AH → Prop) (R : AEnd → AH → Prop) : Prop :=
 wIf (decide (s33 < s32))
 (ldP s1 0 H fun a36 =>
 (ldL s3 6 H fun z37b z37l z37c =>
 wPin s1 0 [(.pointer a36)] H <|
 wCall Try.prog 59 [(.agg #[(.pointer a36)])] H (fun r38 H39 =>
 opA 4 r38 fun l42 =>
 opI .i64 (l42.headD undef) fun n43 =>
 opS (l42.tail.headD undef) fun t44 =>
 opL (l42.tail.tail.headD undef) fun z45b z45l z45c =>
 opL (l42.tail.tail.tail.headD undef) fun z46b z46l z46c =>
 wBs [(.int .i64 n43), (.string t44), (.slice z45b z45l z45c), (.slice z46b z46l z46c)] 4 H39 fun i47 H48 =>
 wAppL 27 4 72 z37b z37l z37c (some ⟨i47, 0, none⟩) 1 0 H48 fun z49b z49l z49c H50 =>
 wSt s3 6 [(.slice z49b z49l z49c)] H50 fun H51 =>
 K1 [s0, (.pointer (some ⟨s1, 0, none⟩)), (.pointer (some ⟨s2, 0, none⟩)), (.pointer (some ⟨s3, 0, none⟩)), s4, s5, s6, s7, s8, s9, s10, s11, s12, s13, s14, s15, s16, s17, s18, s19, s20, s21, s22, s23, s24, s25, s26, s27, s28, s29, s30, s31, (.int .i64 s32), (.int .i64 (IntKind.i64.wrap (s33 + 1))), (.bool true), (.pointer (some ⟨s3, 6, none⟩)), (.slice z37b z37l z37c), (.agg #[(.pointer a36)]), (.agg #[(.int .i64 n43), (.string t44), (.slice z45b z45l z45c), (.slice z46b z46l z46c)]), (.slice (some ⟨i47, 0, none⟩) 1 0), (.slice z49b z49l z49c), (.pointer (some ⟨s3, 6, none⟩)), (.int .i64 (IntKind.i64.wrap (s33 + 1))), s43] H51) (fun v41 H40 => R (.panic v41) H40)) ∧
 (wCall Try.prog 59 [(.agg #[(.pointer a36)])] H (fun r52 H53 =>
 opA 4 r52 fun l56 =>
 opI .i64 (l56.headD undef) fun n57 =>
 opS (l56.tail.headD undef) fun t58 =>
 opL (l56.tail.tail.headD undef) fun z59b z59l z59c =>
 opL (l56.tail.tail.tail.headD undef) fun z60b z60l z60c =>
 (ldL s3 6 H53 fun z61b z61l z61c =>
 wBs [(.int .i64 n57), (.string t58), (.slice z59b z59l z59c), (.slice z60b z60l z60c)] 4 H53 fun i62 H63 =>
 wAppL 27 4 72 z61b z61l z61c (some ⟨i62, 0, none⟩) 1 0 H63 fun z64b z64l z64c H65 =>
 wSt s3 6 [(.slice z64b z64l z64c)] H65 fun H66 =>
 K1 [s0, (.pointer (some ⟨s1, 0, none⟩)), (.pointer (some ⟨s2, 0, none⟩)), (.pointer (some ⟨s3, 0, none⟩)), s4, s5, s6, s7, s8, s9, s10, s11, s12, s13, s14, s15, s16, s17, s18, s19, s20, s21, s22, s23, s24, s25, s26, s27, s28, s29, s30, s31, (.int .i64 s32), (.int .i64 (IntKind.i64.wrap (s33 + 1))), (.bool true), (.pointer (some ⟨s3, 6, none⟩)), (.slice z61b z61l z61c), (.agg #[(.pointer a36)]), (.agg #[(.int .i64 n57), (.string t58), (.slice z59b z59l z59c), (.slice z60b z60l z60c)]), (.slice (some ⟨i62, 0, none⟩) 1 0), (.slice z64b z64l z64c), (.pointer (some ⟨s3, 6, none⟩)), (.int .i64 (IntKind.i64.wrap (s33 + 1))), s43] H66) ∧
 (wBs [(.int .i64 n57), (.string t58), (.slice z59b z59l z59c), (.slice z60b z60l z60c)] 4 H53 fun i67 H68 =>
 ldL s3 6 H68 fun z69b z69l z69c =>
 wAppL 27 4 72 z69b z69l z69c (some ⟨i67, 0, none⟩) 1 0 H68 fun z70b z70l z70c H71 =>
 wSt s3 6 [(.slice z70b z70l z70c)] H71 fun H72 =>
 K1 [s0, (.pointer (some ⟨s1, 0, none⟩)), (.pointer (some ⟨s2, 0, none⟩)), (.pointer (some ⟨s3, 0, none⟩)), s4, s5, s6, s7, s8, s9, s10, s11, s12, s13, s14, s15, s16, s17, s18, s19, s20, s21, s22, s23, s24, s25, s26, s27, s28, s29, s30, s31, (.int .i64 s32), (.int .i64 (IntKind.i64.wrap (s33 + 1))), (.bool true), (.pointer (some ⟨s3, 6, none⟩)), (.slice z69b z69l z69c), (.agg #[(.pointer a36)]), (.agg #[(.int .i64 n57), (.string t58), (.slice z59b z59l z59c), (.slice z60b z60l z60c)]), (.slice (some ⟨i67, 0, none⟩) 1 0), (.slice z70b z70l z70c), (.pointer (some ⟨s3, 6, none⟩)), (.int .i64 (IntKind.i64.wrap (s33 + 1))), s43] H72)) (fun v55 H54 => R (.panic v55) H54)))
 (ldI .i64 s3 0 H fun n73 =>
 ldS s3 1 H fun t74 =>
 ldS s3 2 H fun t75 =>
 ldI .i64 s3 3 H fun n76 =>
 ldL s3 4 H fun z77b z77l z77c =>
 ldL s3 5 H fun z78b z78l z78c =>
 ldL s3 6 H fun z79b z79l z79c =>
 wSt s2 0 [(.int .i64 n73), (.string t74), (.string t75), (.int .i64 n76), (.slice z77b z77l z77c), (.slice z78b z78l z78c), (.slice z79b z79l z79c)] H fun H80 =>
 wPt (some ⟨s2, 0, none⟩) fun i81 k82 =>
 ldI .i64 i81 k82 H80 fun n83 =>
 ldS i81 (k82 + 1) H80 fun t84 =>
 ldS i81 (k82 + 2) H80 fun t85 =>
 ldI .i64 i81 (k82 + 3) H80 fun n86 =>
 ldL i81 (k82 + 4) H80 fun z87b z87l z87c =>
 ldL i81 (k82 + 5) H80 fun z88b z88l z88c =>
 ldL i81 (k82 + 6) H80 fun z89b z89l z89c =>
 R (.ret (.agg #[(.int .i64 n83), (.string t84), (.string t85), (.int .i64 n86), (.slice z87b z87l z87c), (.slice z88b z88l z88c), (.slice z89b z89l z89c)])) H80)
theorem f62_R1_eq (s0 : Value) (s1 s2 s3 : Nat) (s4 s5 s6 s7 s8 s9 s10 s11 s12 s13 s14 s15 s16 s17 s18 s19 s20 s21 s22 s23 s24 s25 s26 s27 s28 s29 s30 s31 : Value) (s32 s33 : Int) (s34 s35 s36 s37 s38 s39 s40 s41 s42 s43 : Value) (H : AH) (K1 : List Value → AH → Prop) (R : AEnd → AH → Prop) : awpF Try.prog (codeAt f62_c [1, 1, 1, 1, 1, 1, 1, 0, 1, 0, 0]) (thenF K1 (f62_Q1 R)) [s0, (.pointer (some ⟨s1, 0, none⟩)), (.pointer (some ⟨s2, 0, none⟩)), (.pointer (some ⟨s3, 0, none⟩)), s4, s5, s6, s7, s8, s9, s10, s11, s12, s13, s14, s15, s16, s17, s18, s19, s20, s21, s22, s23, s24, s25, s26, s27, s28, s29, s30, s31, (.int .i64 s32), (.int .i64 s33), s34, s35, s36, s37, s38, s39, s40, s41, s42, s43] H = f62_R1 s0 s1 s2 s3 s4 s5 s6 s7 s8 s9 s10 s11 s12 s13 s14 s15 s16 s17 s18 s19 s20 s21 s22 s23 s24 s25 s26 s27 s28 s29 s30 s31 s32 s33 s34 s35 s36 s37 s38 s39 s40 s41 s42 s43 H K1 R := by kernel_rfl
def f62_I1 (s0 : Value) (s1 s2 s3 : Nat) (s4 s5 s6 s7 s8 s9 s10 s11 s12 s13 s14 s15 s16 s17 s18 s19 s20 s21 s22 s23 s24 s25 s26 s27 s28 s29 s30 s31 : Value) (s32 : Int) (s43 : Value) (J : Nat → Int → AH → Prop) (n : Nat) (tm : List Value) (H : AH) : Prop := ∃ (s33 : Int) (s34 s35 s36 s37 s38 s39 s40 s41 s42 : Value), tm = [s0, (.pointer (some ⟨s1, 0, none⟩)), (.pointer (some ⟨s2, 0, none⟩)), (.pointer (some ⟨s3, 0, none⟩)), s4, s5, s6, s7, s8, s9, s10, s11, s12, s13, s14, s15, s16, s17, s18, s19, s20, s21, s22, s23, s24, s25, s26, s27, s28, s29, s30, s31, (.int .i64 s32), (.int .i64 s33), s34, s35, s36, s37, s38, s39, s40, s41, s42, s43] ∧ J n s33 H
theorem f62_I1_mk {s0 : Value} {s1 : Nat} {s2 : Nat} {s3 : Nat} {s4 : Value} {s5 : Value} {s6 : Value} {s7 : Value} {s8 : Value} {s9 : Value} {s10 : Value} {s11 : Value} {s12 : Value} {s13 : Value} {s14 : Value} {s15 : Value} {s16 : Value} {s17 : Value} {s18 : Value} {s19 : Value} {s20 : Value} {s21 : Value} {s22 : Value} {s23 : Value} {s24 : Value} {s25 : Value} {s26 : Value} {s27 : Value} {s28 : Value} {s29 : Value} {s30 : Value} {s31 : Value} {s32 : Int} {s33 : Int} {s34 : Value} {s35 : Value} {s36 : Value} {s37 : Value} {s38 : Value} {s39 : Value} {s40 : Value} {s41 : Value} {s42 : Value} {s43 : Value} {J : Nat → Int → AH → Prop} {n : Nat} {H : AH} (h : J n s33 H) : f62_I1 s0 s1 s2 s3 s4 s5 s6 s7 s8 s9 s10 s11 s12 s13 s14 s15 s16 s17 s18 s19 s20 s21 s22 s23 s24 s25 s26 s27 s28 s29 s30 s31 s32 s43 J n [s0, (.pointer (some ⟨s1, 0, none⟩)), (.pointer (some ⟨s2, 0, none⟩)), (.pointer (some ⟨s3, 0, none⟩)), s4, s5, s6, s7, s8, s9, s10, s11, s12, s13, s14, s15, s16, s17, s18, s19, s20, s21, s22, s23, s24, s25, s26, s27, s28, s29, s30, s31, (.int .i64 s32), (.int .i64 s33), s34, s35, s36, s37, s38, s39, s40, s41, s42, s43] H := ⟨_, _, _, _, _, _, _, _, _, _, rfl, h⟩
-- loop 1: carried 33:
theorem f62_L1_rule {s0 : Value} {s1 : Nat} {s2 : Nat} {s3 : Nat} {s4 : Value} {s5 : Value} {s6 : Value} {s7 : Value} {s8 : Value} {s9 : Value} {s10 : Value} {s11 : Value} {s12 : Value} {s13 : Value} {s14 : Value} {s15 : Value} {s16 : Value} {s17 : Value} {s18 : Value} {s19 : Value} {s20 : Value} {s21 : Value} {s22 : Value} {s23 : Value} {s24 : Value} {s25 : Value} {s26 : Value} {s27 : Value} {s28 : Value} {s29 : Value} {s30 : Value} {s31 : Value} {s32 : Int} {s33 : Int} {s34 : Value} {s35 : Value} {s36 : Value} {s37 : Value} {s38 : Value} {s39 : Value} {s40 : Value} {s41 : Value} {s42 : Value} {s43 : Value} {H : AH} {R : AEnd → AH → Prop} (J : Nat → Int → AH → Prop) (n : Nat) (h0 : J n s33 H)
  (step : ∀ (n : Nat) (s33 : Int) (H : AH), J n s33 H → ∀ (s34 s35 s36 s37 s38 s39 s40 s41 s42 : Value), f62_R1 s0 s1 s2 s3 s4 s5 s6 s7 s8 s9 s10 s11 s12 s13 s14 s15 s16 s17 s18 s19 s20 s21 s22 s23 s24 s25 s26 s27 s28 s29 s30 s31 s32 s33 s34 s35 s36 s37 s38 s39 s40 s41 s42 s43 H (fun tm H => ∃ m, m < n ∧ f62_I1 s0 s1 s2 s3 s4 s5 s6 s7 s8 s9 s10 s11 s12 s13 s14 s15 s16 s17 s18 s19 s20 s21 s22 s23 s24 s25 s26 s27 s28 s29 s30 s31 s32 s43 J m tm H) R) : f62_L1 R [s0, (.pointer (some ⟨s1, 0, none⟩)), (.pointer (some ⟨s2, 0, none⟩)), (.pointer (some ⟨s3, 0, none⟩)), s4, s5, s6, s7, s8, s9, s10, s11, s12, s13, s14, s15, s16, s17, s18, s19, s20, s21, s22, s23, s24, s25, s26, s27, s28, s29, s30, s31, (.int .i64 s32), (.int .i64 s33), s34, s35, s36, s37, s38, s39, s40, s41, s42, s43] H :=
  awpF_loop (f62_I1 s0 s1 s2 s3 s4 s5 s6 s7 s8 s9 s10 s11 s12 s13 s14 s15 s16 s17 s18 s19 s20 s21 s22 s23 s24 s25 s26 s27 s28 s29 s30 s31 s32 s43 J) n (f62_I1_mk h0) (by
    intro n tm H hh
    exact Exists.elim hh fun s33 hh => Exists.elim hh fun s34 hh => Exists.elim hh fun s35 hh => Exists.elim hh fun s36 hh => Exists.elim hh fun s37 hh => Exists.elim hh fun s38 hh => Exists.elim hh fun s39 hh => Exists.elim hh fun s40 hh => Exists.elim hh fun s41 hh => Exists.elim hh fun s42 hh => And.elim (fun e h =>
     (by subst e; exact Eq.mpr (f62_R1_eq s0 s1 s2 s3 s4 s5 s6 s7 s8 s9 s10 s11 s12 s13 s14 s15 s16 s17 s18 s19 s20 s21 s22 s23 s24 s25 s26 s27 s28 s29 s30 s31 s32 s33 s34 s35 s36 s37 s38 s39 s40 s41 s42 s43 H _ R) (step n s33 H h s34 s35 s36 s37 s38 s39 s40 s41 s42))) hh)
def f62_B (x0_0 : Option Addr) (H : AH) (R : AEnd → AH → Prop) : Prop :=
 wNew [(.pointer x0_0)] H fun i90 H91 =>
 wNew [(.int .i64 0), (.string ({ data := #[] })), (.string ({ data := #[] })), (.int .i64 0), (.slice none 0 0), (.slice none 0 0), (.slice none 0 0)] H91 fun i92 H93 =>
 ldP i90 0 H93 fun a94 =>
 wCall Try.prog 108 [(.agg #[(.pointer a94)])] H93 (fun r95 H96 =>
 opI .i64 r95 fun n99 =>
 wNew [(.int .i64 0), (.string ({ data := #[] })), (.string ({ data := #[] })), (.int .i64 0), (.slice none 0 0), (.slice none 0 0), (.slice none 0 0)] H96 fun i100 H101 =>
 wSt i100 0 [(.int .i64 n99), (.string ({ data := #[] })), (.string ({ data := #[] })), (.int .i64 0), (.slice none 0 0), (.slice none 0 0), (.slice none 0 0)] H101 fun H102 =>
 ldP i90 0 H102 fun a103 =>
 wCall Try.prog 108 [(.agg #[(.pointer a103)])] H102 (fun r104 H105 =>
 opI .i64 r104 fun n108 =>
 wSt i100 3 [(.int .i64 n108)] H105 fun H109 =>
 ldP i90 0 H109 fun a110 =>
 wCall Try.prog 110 [(.agg #[(.pointer a110)]), (.int .i64 24)] H109 (fun r111 H112 =>
 opS r111 fun t115 =>
 wSt i100 1 [(.string t115)] H112 fun H116 =>
 ldP i90 0 H116 fun a117 =>
 wCall Try.prog 110 [(.agg #[(.pointer a117)]), (.int .i64 24)] H116 (fun r118 H119 =>
 opS r118 fun t122 =>
 wSt i100 2 [(.string t122)] H119 fun H123 =>
 ldP i90 0 H123 fun a124 =>
 wCall Try.prog 116 [(.agg #[(.pointer a124)])] H123 (fun r125 H126 =>
 opL r125 fun z129b z129l z129c =>
 wSt i100 4 [(.slice z129b z129l z129c)] H126 fun H130 =>
 ldP i90 0 H130 fun a131 =>
 wCall Try.prog 111 [(.agg #[(.pointer a131)]), (.int .i64 16)] H130 (fun r132 H133 =>
 opI .i64 r132 fun n136 =>
 f62_L0 R [(.agg #[(.pointer x0_0)]), (.pointer (some ⟨i90, 0, none⟩)), (.pointer (some ⟨i92, 0, none⟩)), (.pointer (some ⟨i100, 0, none⟩)), (.agg #[(.pointer a94)]), (.int .i64 n99), (.agg #[(.int .i64 n99), (.string ({ data := #[] })), (.string ({ data := #[] })), (.int .i64 0), (.slice none 0 0), (.slice none 0 0), (.slice none 0 0)]), (.agg #[(.pointer a103)]), (.int .i64 n108), (.pointer (some ⟨i100, 3, none⟩)), (.agg #[(.pointer a110)]), (.string t115), (.pointer (some ⟨i100, 1, none⟩)), (.agg #[(.pointer a117)]), (.string t122), (.pointer (some ⟨i100, 2, none⟩)), (.agg #[(.pointer a124)]), (.slice z129b z129l z129c), (.pointer (some ⟨i100, 4, none⟩)), (.agg #[(.pointer a131)]), (.int .i64 n136), (.int .i64 0), undef, undef, undef, undef, undef, undef, undef, undef, undef, undef, undef, undef, undef, undef, undef, undef, undef, undef, undef, undef, undef, undef] H133) (fun v135 H134 => R (.panic v135) H134)) (fun v128 H127 => R (.panic v128) H127)) (fun v121 H120 => R (.panic v121) H120)) (fun v114 H113 => R (.panic v114) H113)) (fun v107 H106 => R (.panic v107) H106)) (fun v98 H97 => R (.panic v98) H97)
theorem f62_eq (x0_0 : Option Addr) (H : AH) (R : AEnd → AH → Prop) : awpF Try.prog f62_c (aPost Try.prog Try.f62 R) (([(.agg #[(.pointer x0_0)])] : List Value) ++ List.replicate (Try.f62.ntmps - (([(.agg #[(.pointer x0_0)])] : List Value)).length) undef) H = f62_B x0_0 H R := by kernel_rfl
theorem f62_call (x0_0 : Option Addr) (H : AH) (R : AEnd → AH → Prop) (h : f62_B x0_0 H R) : ACall Try.prog 62 ([(.agg #[(.pointer x0_0)])] : List Value) H R :=
  acall_of mixed Try.func62 (by kernel_rfl : Try.f62.body = some f62_c) (by kernel_rfl) (by kernel_rfl) (awp_of (Eq.mpr (f62_eq x0_0 H R) h))

/-! f81: (switchyard/code.reader).dead -/
/-! f85: (switchyard/code.reader).event -/
/-! f89: (switchyard/code.reader).sub -/
/-! f58: switchyard/code.get[switchyard/api.Mail] -/
noncomputable def f58_c : Code := Try.f58.body.getD .skip
def f58_B (x0 : ByteArray) (H : AH) (R : AEnd → AH → Prop) : Prop :=
 wNew [(.int .i64 0), (.string ({ data := #[] })), (.slice none 0 0), (.slice none 0 0)] H fun i1 H2 =>
 wNew [(.int .i64 0)] H2 fun i3 H4 =>
 wCall Try.prog 104 [(.string x0)] H4 (fun r5 H6 =>
 opP r5 fun a9 =>
 wNew [(.pointer none)] H6 fun i10 H11 =>
 wSt i10 0 [(.pointer a9)] H11 fun H12 =>
 ldP i10 0 H12 fun a13 =>
 wCall Try.prog 59 [(.agg #[(.pointer a13)])] H12 (fun r14 H15 =>
 opA 4 r14 fun l18 =>
 opI .i64 (l18.headD undef) fun n19 =>
 opS (l18.tail.headD undef) fun t20 =>
 opL (l18.tail.tail.headD undef) fun z21b z21l z21c =>
 opL (l18.tail.tail.tail.headD undef) fun z22b z22l z22c =>
 wNew [(.int .i64 0), (.string ({ data := #[] })), (.slice none 0 0), (.slice none 0 0)] H15 fun i23 H24 =>
 wSt i23 0 [(.int .i64 n19), (.string t20), (.slice z21b z21l z21c), (.slice z22b z22l z22c)] H24 fun H25 =>
 ldP i10 0 H25 fun a26 =>
 wCall Try.prog 105 [(.pointer a26)] H25 (fun r27 H28 =>
 opI .i64 r27 fun n31 =>
 wIf (!decide (n31 = 0))
 (ADef Try.prog 115 [(.pointer (some ⟨i1, 0, none⟩)), (.pointer (some ⟨i3, 0, none⟩))] (some (.iface 157 (.agg #[(.int .i64 n31)]))) H28 (fun H32 =>
 wPt (some ⟨i1, 0, none⟩) fun i33 k34 =>
 ldI .i64 i33 k34 H32 fun n35 =>
 ldS i33 (k34 + 1) H32 fun t36 =>
 ldL i33 (k34 + 2) H32 fun z37b z37l z37c =>
 ldL i33 (k34 + 3) H32 fun z38b z38l z38c =>
 wPt (some ⟨i3, 0, none⟩) fun i39 k40 =>
 ldI .i64 i39 k40 H32 fun n41 =>
 R (.ret (.tuple #[(.agg #[(.int .i64 n35), (.string t36), (.slice z37b z37l z37c), (.slice z38b z38l z38c)]), (.int .i64 n41)])) H32))
 (ldI .i64 i23 0 H28 fun n42 =>
 ldS i23 1 H28 fun t43 =>
 ldL i23 2 H28 fun z44b z44l z44c =>
 ldL i23 3 H28 fun z45b z45l z45c =>
 wSt i1 0 [(.int .i64 n42), (.string t43), (.slice z44b z44l z44c), (.slice z45b z45l z45c)] H28 fun H46 =>
 wSt i3 0 [(.int .i64 0)] H46 fun H47 =>
 ADef Try.prog 115 [(.pointer (some ⟨i1, 0, none⟩)), (.pointer (some ⟨i3, 0, none⟩))] none H47 (fun H48 =>
 wPt (some ⟨i1, 0, none⟩) fun i49 k50 =>
 ldI .i64 i49 k50 H48 fun n51 =>
 ldS i49 (k50 + 1) H48 fun t52 =>
 ldL i49 (k50 + 2) H48 fun z53b z53l z53c =>
 ldL i49 (k50 + 3) H48 fun z54b z54l z54c =>
 wPt (some ⟨i3, 0, none⟩) fun i55 k56 =>
 ldI .i64 i55 k56 H48 fun n57 =>
 R (.ret (.tuple #[(.agg #[(.int .i64 n51), (.string t52), (.slice z53b z53l z53c), (.slice z54b z54l z54c)]), (.int .i64 n57)])) H48))) (fun v30 H29 => ADef Try.prog 115 [(.pointer (some ⟨i1, 0, none⟩)), (.pointer (some ⟨i3, 0, none⟩))] (some v30) H29 (fun H58 =>
 wPt (some ⟨i1, 0, none⟩) fun i59 k60 =>
 ldI .i64 i59 k60 H58 fun n61 =>
 ldS i59 (k60 + 1) H58 fun t62 =>
 ldL i59 (k60 + 2) H58 fun z63b z63l z63c =>
 ldL i59 (k60 + 3) H58 fun z64b z64l z64c =>
 wPt (some ⟨i3, 0, none⟩) fun i65 k66 =>
 ldI .i64 i65 k66 H58 fun n67 =>
 R (.ret (.tuple #[(.agg #[(.int .i64 n61), (.string t62), (.slice z63b z63l z63c), (.slice z64b z64l z64c)]), (.int .i64 n67)])) H58))) (fun v17 H16 => ADef Try.prog 115 [(.pointer (some ⟨i1, 0, none⟩)), (.pointer (some ⟨i3, 0, none⟩))] (some v17) H16 (fun H68 =>
 wPt (some ⟨i1, 0, none⟩) fun i69 k70 =>
 ldI .i64 i69 k70 H68 fun n71 =>
 ldS i69 (k70 + 1) H68 fun t72 =>
 ldL i69 (k70 + 2) H68 fun z73b z73l z73c =>
 ldL i69 (k70 + 3) H68 fun z74b z74l z74c =>
 wPt (some ⟨i3, 0, none⟩) fun i75 k76 =>
 ldI .i64 i75 k76 H68 fun n77 =>
 R (.ret (.tuple #[(.agg #[(.int .i64 n71), (.string t72), (.slice z73b z73l z73c), (.slice z74b z74l z74c)]), (.int .i64 n77)])) H68))) (fun v8 H7 => ADef Try.prog 115 [(.pointer (some ⟨i1, 0, none⟩)), (.pointer (some ⟨i3, 0, none⟩))] (some v8) H7 (fun H78 =>
 wPt (some ⟨i1, 0, none⟩) fun i79 k80 =>
 ldI .i64 i79 k80 H78 fun n81 =>
 ldS i79 (k80 + 1) H78 fun t82 =>
 ldL i79 (k80 + 2) H78 fun z83b z83l z83c =>
 ldL i79 (k80 + 3) H78 fun z84b z84l z84c =>
 wPt (some ⟨i3, 0, none⟩) fun i85 k86 =>
 ldI .i64 i85 k86 H78 fun n87 =>
 R (.ret (.tuple #[(.agg #[(.int .i64 n81), (.string t82), (.slice z83b z83l z83c), (.slice z84b z84l z84c)]), (.int .i64 n87)])) H78))
theorem f58_eq (x0 : ByteArray) (H : AH) (R : AEnd → AH → Prop) : awpF Try.prog (codeAt f58_c [0]) (D0 Try.prog Try.f58 115 (codeAt f58_c [1, 1]) 9 [4, 5] R) (([(.string x0), (.func (.func 59) #[] #[])] : List Value) ++ List.replicate (Try.f58.ntmps - (([(.string x0), (.func (.func 59) #[] #[])] : List Value)).length) undef) H = f58_B x0 H R := by kernel_rfl
theorem f58_call (x0 : ByteArray) (H : AH) (R : AEnd → AH → Prop) (h : f58_B x0 H R) : ACall Try.prog 58 ([(.string x0), (.func (.func 59) #[] #[])] : List Value) H R :=
  acall_deferF (id := 1) (o0 := opAt (codeAt f58_c [1, 0]) 0) (o1 := opAt (codeAt f58_c [1, 0]) 1) (t7 := 9) (cp := [4, 5]) mixed Try.func58 (by kernel_rfl : Try.f58.body = some f58_c) (by kernel_rfl) (by kernel_rfl) (by kernel_rfl) (by kernel_rfl) (by kernel_rfl) (by kernel_rfl) (by kernel_rfl) (by kernel_rfl) (by kernel_rfl) (by kernel_rfl) (by kernel_rfl) (Eq.mpr (f58_eq x0 H R) h)

/-! f61: switchyard/code.get[switchyard/api.Item] -/
noncomputable def f61_c : Code := Try.f61.body.getD .skip
def f61_B (x0 : ByteArray) (H : AH) (R : AEnd → AH → Prop) : Prop :=
 wNew [(.int .i64 0), (.string ({ data := #[] })), (.string ({ data := #[] })), (.int .i64 0), (.slice none 0 0), (.slice none 0 0), (.slice none 0 0)] H fun i1 H2 =>
 wNew [(.int .i64 0)] H2 fun i3 H4 =>
 wCall Try.prog 104 [(.string x0)] H4 (fun r5 H6 =>
 opP r5 fun a9 =>
 wNew [(.pointer none)] H6 fun i10 H11 =>
 wSt i10 0 [(.pointer a9)] H11 fun H12 =>
 ldP i10 0 H12 fun a13 =>
 wCall Try.prog 62 [(.agg #[(.pointer a13)])] H12 (fun r14 H15 =>
 opA 7 r14 fun l18 =>
 opI .i64 (l18.headD undef) fun n19 =>
 opS (l18.tail.headD undef) fun t20 =>
 opS (l18.tail.tail.headD undef) fun t21 =>
 opI .i64 (l18.tail.tail.tail.headD undef) fun n22 =>
 opL (l18.tail.tail.tail.tail.headD undef) fun z23b z23l z23c =>
 opL (l18.tail.tail.tail.tail.tail.headD undef) fun z24b z24l z24c =>
 opL (l18.tail.tail.tail.tail.tail.tail.headD undef) fun z25b z25l z25c =>
 wNew [(.int .i64 0), (.string ({ data := #[] })), (.string ({ data := #[] })), (.int .i64 0), (.slice none 0 0), (.slice none 0 0), (.slice none 0 0)] H15 fun i26 H27 =>
 wSt i26 0 [(.int .i64 n19), (.string t20), (.string t21), (.int .i64 n22), (.slice z23b z23l z23c), (.slice z24b z24l z24c), (.slice z25b z25l z25c)] H27 fun H28 =>
 ldP i10 0 H28 fun a29 =>
 wCall Try.prog 105 [(.pointer a29)] H28 (fun r30 H31 =>
 opI .i64 r30 fun n34 =>
 wIf (!decide (n34 = 0))
 (ADef Try.prog 117 [(.pointer (some ⟨i1, 0, none⟩)), (.pointer (some ⟨i3, 0, none⟩))] (some (.iface 157 (.agg #[(.int .i64 n34)]))) H31 (fun H35 =>
 wPt (some ⟨i1, 0, none⟩) fun i36 k37 =>
 ldI .i64 i36 k37 H35 fun n38 =>
 ldS i36 (k37 + 1) H35 fun t39 =>
 ldS i36 (k37 + 2) H35 fun t40 =>
 ldI .i64 i36 (k37 + 3) H35 fun n41 =>
 ldL i36 (k37 + 4) H35 fun z42b z42l z42c =>
 ldL i36 (k37 + 5) H35 fun z43b z43l z43c =>
 ldL i36 (k37 + 6) H35 fun z44b z44l z44c =>
 wPt (some ⟨i3, 0, none⟩) fun i45 k46 =>
 ldI .i64 i45 k46 H35 fun n47 =>
 R (.ret (.tuple #[(.agg #[(.int .i64 n38), (.string t39), (.string t40), (.int .i64 n41), (.slice z42b z42l z42c), (.slice z43b z43l z43c), (.slice z44b z44l z44c)]), (.int .i64 n47)])) H35))
 (ldI .i64 i26 0 H31 fun n48 =>
 ldS i26 1 H31 fun t49 =>
 ldS i26 2 H31 fun t50 =>
 ldI .i64 i26 3 H31 fun n51 =>
 ldL i26 4 H31 fun z52b z52l z52c =>
 ldL i26 5 H31 fun z53b z53l z53c =>
 ldL i26 6 H31 fun z54b z54l z54c =>
 wSt i1 0 [(.int .i64 n48), (.string t49), (.string t50), (.int .i64 n51), (.slice z52b z52l z52c), (.slice z53b z53l z53c), (.slice z54b z54l z54c)] H31 fun H55 =>
 wSt i3 0 [(.int .i64 0)] H55 fun H56 =>
 ADef Try.prog 117 [(.pointer (some ⟨i1, 0, none⟩)), (.pointer (some ⟨i3, 0, none⟩))] none H56 (fun H57 =>
 wPt (some ⟨i1, 0, none⟩) fun i58 k59 =>
 ldI .i64 i58 k59 H57 fun n60 =>
 ldS i58 (k59 + 1) H57 fun t61 =>
 ldS i58 (k59 + 2) H57 fun t62 =>
 ldI .i64 i58 (k59 + 3) H57 fun n63 =>
 ldL i58 (k59 + 4) H57 fun z64b z64l z64c =>
 ldL i58 (k59 + 5) H57 fun z65b z65l z65c =>
 ldL i58 (k59 + 6) H57 fun z66b z66l z66c =>
 wPt (some ⟨i3, 0, none⟩) fun i67 k68 =>
 ldI .i64 i67 k68 H57 fun n69 =>
 R (.ret (.tuple #[(.agg #[(.int .i64 n60), (.string t61), (.string t62), (.int .i64 n63), (.slice z64b z64l z64c), (.slice z65b z65l z65c), (.slice z66b z66l z66c)]), (.int .i64 n69)])) H57))) (fun v33 H32 => ADef Try.prog 117 [(.pointer (some ⟨i1, 0, none⟩)), (.pointer (some ⟨i3, 0, none⟩))] (some v33) H32 (fun H70 =>
 wPt (some ⟨i1, 0, none⟩) fun i71 k72 =>
 ldI .i64 i71 k72 H70 fun n73 =>
 ldS i71 (k72 + 1) H70 fun t74 =>
 ldS i71 (k72 + 2) H70 fun t75 =>
 ldI .i64 i71 (k72 + 3) H70 fun n76 =>
 ldL i71 (k72 + 4) H70 fun z77b z77l z77c =>
 ldL i71 (k72 + 5) H70 fun z78b z78l z78c =>
 ldL i71 (k72 + 6) H70 fun z79b z79l z79c =>
 wPt (some ⟨i3, 0, none⟩) fun i80 k81 =>
 ldI .i64 i80 k81 H70 fun n82 =>
 R (.ret (.tuple #[(.agg #[(.int .i64 n73), (.string t74), (.string t75), (.int .i64 n76), (.slice z77b z77l z77c), (.slice z78b z78l z78c), (.slice z79b z79l z79c)]), (.int .i64 n82)])) H70))) (fun v17 H16 => ADef Try.prog 117 [(.pointer (some ⟨i1, 0, none⟩)), (.pointer (some ⟨i3, 0, none⟩))] (some v17) H16 (fun H83 =>
 wPt (some ⟨i1, 0, none⟩) fun i84 k85 =>
 ldI .i64 i84 k85 H83 fun n86 =>
 ldS i84 (k85 + 1) H83 fun t87 =>
 ldS i84 (k85 + 2) H83 fun t88 =>
 ldI .i64 i84 (k85 + 3) H83 fun n89 =>
 ldL i84 (k85 + 4) H83 fun z90b z90l z90c =>
 ldL i84 (k85 + 5) H83 fun z91b z91l z91c =>
 ldL i84 (k85 + 6) H83 fun z92b z92l z92c =>
 wPt (some ⟨i3, 0, none⟩) fun i93 k94 =>
 ldI .i64 i93 k94 H83 fun n95 =>
 R (.ret (.tuple #[(.agg #[(.int .i64 n86), (.string t87), (.string t88), (.int .i64 n89), (.slice z90b z90l z90c), (.slice z91b z91l z91c), (.slice z92b z92l z92c)]), (.int .i64 n95)])) H83))) (fun v8 H7 => ADef Try.prog 117 [(.pointer (some ⟨i1, 0, none⟩)), (.pointer (some ⟨i3, 0, none⟩))] (some v8) H7 (fun H96 =>
 wPt (some ⟨i1, 0, none⟩) fun i97 k98 =>
 ldI .i64 i97 k98 H96 fun n99 =>
 ldS i97 (k98 + 1) H96 fun t100 =>
 ldS i97 (k98 + 2) H96 fun t101 =>
 ldI .i64 i97 (k98 + 3) H96 fun n102 =>
 ldL i97 (k98 + 4) H96 fun z103b z103l z103c =>
 ldL i97 (k98 + 5) H96 fun z104b z104l z104c =>
 ldL i97 (k98 + 6) H96 fun z105b z105l z105c =>
 wPt (some ⟨i3, 0, none⟩) fun i106 k107 =>
 ldI .i64 i106 k107 H96 fun n108 =>
 R (.ret (.tuple #[(.agg #[(.int .i64 n99), (.string t100), (.string t101), (.int .i64 n102), (.slice z103b z103l z103c), (.slice z104b z104l z104c), (.slice z105b z105l z105c)]), (.int .i64 n108)])) H96))
theorem f61_eq (x0 : ByteArray) (H : AH) (R : AEnd → AH → Prop) : awpF Try.prog (codeAt f61_c [0]) (D0 Try.prog Try.f61 117 (codeAt f61_c [1, 1]) 9 [4, 5] R) (([(.string x0), (.func (.func 62) #[] #[])] : List Value) ++ List.replicate (Try.f61.ntmps - (([(.string x0), (.func (.func 62) #[] #[])] : List Value)).length) undef) H = f61_B x0 H R := by kernel_rfl
theorem f61_call (x0 : ByteArray) (H : AH) (R : AEnd → AH → Prop) (h : f61_B x0 H R) : ACall Try.prog 61 ([(.string x0), (.func (.func 62) #[] #[])] : List Value) H R :=
  acall_deferF (id := 1) (o0 := opAt (codeAt f61_c [1, 0]) 0) (o1 := opAt (codeAt f61_c [1, 0]) 1) (t7 := 9) (cp := [4, 5]) mixed Try.func61 (by kernel_rfl : Try.f61.body = some f61_c) (by kernel_rfl) (by kernel_rfl) (by kernel_rfl) (by kernel_rfl) (by kernel_rfl) (by kernel_rfl) (by kernel_rfl) (by kernel_rfl) (by kernel_rfl) (by kernel_rfl) (by kernel_rfl) (Eq.mpr (f61_eq x0 H R) h)

/-! f80: switchyard/code.get[switchyard/api.Dead] -/
/-! f84: switchyard/code.get[switchyard/api.Event] -/
/-! f88: switchyard/code.get[switchyard/api.Sub] -/
/-! f115: switchyard/code.get[switchyard/api.Mail]$1 -/
noncomputable def f115_c : Code := Try.f115.body.getD .skip
def f115_N_B (y0 y1 : Option Addr) (H : AH) (R : AH → Prop) : Prop :=
 R H
theorem f115_N_eq (y0 y1 : Option Addr) (H : AH) (R : AH → Prop) : awpF Try.prog (codeAt f115_c [1]) (C0 R) [(.pointer y0), (.pointer y1), Value.nilIface, undef, undef, undef, Value.nilIface, undef, undef, undef, undef, undef, undef, undef, undef, undef, undef, undef, undef, undef] H = f115_N_B y0 y1 H R := by kernel_rfl
theorem f115_N (y0 y1 : Option Addr) (H : AH) (R : AH → Prop) (h : f115_N_B y0 y1 H R) : ADef Try.prog 115 ([(.pointer y0), (.pointer y1)] : List Value) none H R :=
  adef_ofF (id := 0) (o0 := opAt (codeAt f115_c [0]) 0) (o1 := opAt (codeAt f115_c [0]) 1) (t5 := 6) (t2 := 2) mixed Try.func115 (by kernel_rfl : Try.f115.body = some f115_c) (by kernel_rfl) (by kernel_rfl) (by kernel_rfl) (by kernel_rfl) (by kernel_rfl) (by kernel_rfl) (by kernel_rfl) (by kernel_rfl) (by kernel_rfl) (show 6 < 2 + (20 - 2) by decide) [(.pointer y0), (.pointer y1), Value.nilIface, undef, undef, undef, Value.nilIface, undef, undef, undef, undef, undef, undef, undef, undef, undef, undef, undef, undef, undef] (by kernel_rfl) (Eq.mpr (f115_N_eq y0 y1 H R) h)
def f115_P_B (y0 y1 : Option Addr) (er : Int) (H : AH) (R : AH → Prop) : Prop :=
 wNew [(.int .i64 0)] H fun i1 H2 =>
 wSt i1 0 [(.int .i64 er)] H2 fun H3 =>
 wNew [(.int .i64 0), (.string ({ data := #[] })), (.slice none 0 0), (.slice none 0 0)] H3 fun i4 H5 =>
 ldI .i64 i4 0 H5 fun n6 =>
 ldS i4 1 H5 fun t7 =>
 ldL i4 2 H5 fun z8b z8l z8c =>
 ldL i4 3 H5 fun z9b z9l z9c =>
 ldI .i64 i1 0 H5 fun n10 =>
 wPt y0 fun i12 k13 =>
 wSt i12 k13 [(.int .i64 n6), (.string t7), (.slice z8b z8l z8c), (.slice z9b z9l z9c)] H5 fun H11 =>
 wPin i1 0 [(.int .i64 n10)] H11 <|
 wPt y1 fun i15 k16 =>
 wSt i15 k16 [(.int .i64 n10)] H11 fun H14 =>
 R H14
theorem f115_P_eq (y0 y1 : Option Addr) (er : Int) (H : AH) (R : AH → Prop) : awpF Try.prog (codeAt f115_c [1]) (C0 R) [(.pointer y0), (.pointer y1), (.iface 157 (.agg #[(.int .i64 er)])), undef, undef, undef, (.iface 157 (.agg #[(.int .i64 er)])), undef, undef, undef, undef, undef, undef, undef, undef, undef, undef, undef, undef, undef] H = f115_P_B y0 y1 er H R := by kernel_rfl
theorem f115_P (y0 y1 : Option Addr) (er : Int) (H : AH) (R : AH → Prop) (h : f115_P_B y0 y1 er H R) : ADef Try.prog 115 ([(.pointer y0), (.pointer y1)] : List Value) (some (.iface 157 (.agg #[.int .i64 er]))) H R :=
  adef_ofF (id := 0) (o0 := opAt (codeAt f115_c [0]) 0) (o1 := opAt (codeAt f115_c [0]) 1) (t5 := 6) (t2 := 2) mixed Try.func115 (by kernel_rfl : Try.f115.body = some f115_c) (by kernel_rfl) (by kernel_rfl) (by kernel_rfl) (by kernel_rfl) (by kernel_rfl) (by kernel_rfl) (by kernel_rfl) (by kernel_rfl) (by kernel_rfl) (show 6 < 2 + (20 - 2) by decide) [(.pointer y0), (.pointer y1), (.iface 157 (.agg #[(.int .i64 er)])), undef, undef, undef, (.iface 157 (.agg #[(.int .i64 er)])), undef, undef, undef, undef, undef, undef, undef, undef, undef, undef, undef, undef, undef] (by kernel_rfl) (Eq.mpr (f115_P_eq y0 y1 er H R) h)

/-! f117: switchyard/code.get[switchyard/api.Item]$1 -/
noncomputable def f117_c : Code := Try.f117.body.getD .skip
def f117_N_B (y0 y1 : Option Addr) (H : AH) (R : AH → Prop) : Prop :=
 R H
theorem f117_N_eq (y0 y1 : Option Addr) (H : AH) (R : AH → Prop) : awpF Try.prog (codeAt f117_c [1]) (C0 R) [(.pointer y0), (.pointer y1), Value.nilIface, undef, undef, undef, Value.nilIface, undef, undef, undef, undef, undef, undef, undef, undef, undef, undef, undef, undef, undef] H = f117_N_B y0 y1 H R := by kernel_rfl
theorem f117_N (y0 y1 : Option Addr) (H : AH) (R : AH → Prop) (h : f117_N_B y0 y1 H R) : ADef Try.prog 117 ([(.pointer y0), (.pointer y1)] : List Value) none H R :=
  adef_ofF (id := 0) (o0 := opAt (codeAt f117_c [0]) 0) (o1 := opAt (codeAt f117_c [0]) 1) (t5 := 6) (t2 := 2) mixed Try.func117 (by kernel_rfl : Try.f117.body = some f117_c) (by kernel_rfl) (by kernel_rfl) (by kernel_rfl) (by kernel_rfl) (by kernel_rfl) (by kernel_rfl) (by kernel_rfl) (by kernel_rfl) (by kernel_rfl) (show 6 < 2 + (20 - 2) by decide) [(.pointer y0), (.pointer y1), Value.nilIface, undef, undef, undef, Value.nilIface, undef, undef, undef, undef, undef, undef, undef, undef, undef, undef, undef, undef, undef] (by kernel_rfl) (Eq.mpr (f117_N_eq y0 y1 H R) h)
def f117_P_B (y0 y1 : Option Addr) (er : Int) (H : AH) (R : AH → Prop) : Prop :=
 wNew [(.int .i64 0)] H fun i1 H2 =>
 wSt i1 0 [(.int .i64 er)] H2 fun H3 =>
 wNew [(.int .i64 0), (.string ({ data := #[] })), (.string ({ data := #[] })), (.int .i64 0), (.slice none 0 0), (.slice none 0 0), (.slice none 0 0)] H3 fun i4 H5 =>
 ldI .i64 i4 0 H5 fun n6 =>
 ldS i4 1 H5 fun t7 =>
 ldS i4 2 H5 fun t8 =>
 ldI .i64 i4 3 H5 fun n9 =>
 ldL i4 4 H5 fun z10b z10l z10c =>
 ldL i4 5 H5 fun z11b z11l z11c =>
 ldL i4 6 H5 fun z12b z12l z12c =>
 ldI .i64 i1 0 H5 fun n13 =>
 wPt y0 fun i15 k16 =>
 wSt i15 k16 [(.int .i64 n6), (.string t7), (.string t8), (.int .i64 n9), (.slice z10b z10l z10c), (.slice z11b z11l z11c), (.slice z12b z12l z12c)] H5 fun H14 =>
 wPin i1 0 [(.int .i64 n13)] H14 <|
 wPt y1 fun i18 k19 =>
 wSt i18 k19 [(.int .i64 n13)] H14 fun H17 =>
 R H17
theorem f117_P_eq (y0 y1 : Option Addr) (er : Int) (H : AH) (R : AH → Prop) : awpF Try.prog (codeAt f117_c [1]) (C0 R) [(.pointer y0), (.pointer y1), (.iface 157 (.agg #[(.int .i64 er)])), undef, undef, undef, (.iface 157 (.agg #[(.int .i64 er)])), undef, undef, undef, undef, undef, undef, undef, undef, undef, undef, undef, undef, undef] H = f117_P_B y0 y1 er H R := by kernel_rfl
theorem f117_P (y0 y1 : Option Addr) (er : Int) (H : AH) (R : AH → Prop) (h : f117_P_B y0 y1 er H R) : ADef Try.prog 117 ([(.pointer y0), (.pointer y1)] : List Value) (some (.iface 157 (.agg #[.int .i64 er]))) H R :=
  adef_ofF (id := 0) (o0 := opAt (codeAt f117_c [0]) 0) (o1 := opAt (codeAt f117_c [0]) 1) (t5 := 6) (t2 := 2) mixed Try.func117 (by kernel_rfl : Try.f117.body = some f117_c) (by kernel_rfl) (by kernel_rfl) (by kernel_rfl) (by kernel_rfl) (by kernel_rfl) (by kernel_rfl) (by kernel_rfl) (by kernel_rfl) (by kernel_rfl) (show 6 < 2 + (20 - 2) by decide) [(.pointer y0), (.pointer y1), (.iface 157 (.agg #[(.int .i64 er)])), undef, undef, undef, (.iface 157 (.agg #[(.int .i64 er)])), undef, undef, undef, undef, undef, undef, undef, undef, undef, undef, undef, undef, undef] (by kernel_rfl) (Eq.mpr (f117_P_eq y0 y1 er H R) h)

/-! f123: switchyard/code.get[switchyard/api.Dead]$1 -/
/-! f126: switchyard/code.get[switchyard/api.Event]$1 -/
/-! f127: switchyard/code.get[switchyard/api.Sub]$1 -/
end Go.Proofs.Ytfghglacfjncmaa
