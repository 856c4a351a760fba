/- Bodies of functions as nested rules: printed by genw.py, a program of this claim. -/
import Derived.Test.YtfghglacfjncmaaWTy
import Derived.Test.YtfghglacfjncmaaWAbsZ
namespace Go.Proofs.Ytfghglacfjncmaa
open Go.RowKit
set_option linter.unusedVariables false
set_option maxRecDepth 100000

/-! f116: (switchyard/code.reader).row -/
noncomputable def f116_c : Code := Try.f116.body.getD .skip
noncomputable def f116_X0 (R : AEnd → AH → Prop) : AExit → List Value → AH → Prop := thenF (fun tm H => hold (awpF Try.prog (codeAt f116_c [1, 1, 1]) (aPost Try.prog Try.f116 R) tm H)) (aPost Try.prog Try.f116 R)
noncomputable def f116_X1 (R : AEnd → AH → Prop) : AExit → List Value → AH → Prop := inBlockF 0 (f116_X0 R)
noncomputable def f116_Q0 (R : AEnd → AH → Prop) : AExit → List Value → AH → Prop := (f116_X1 R)
def f116_L0 (R : AEnd → AH → Prop) (tm : List Value) (H : AH) : Prop := awpF Try.prog (codeAt f116_c [1, 1, 0, 1, 0]) (f116_Q0 R) tm H
def f116_R0 (s0 : Value) (s1 : Nat) (s2 : Value) (s3b : Option Addr) (s3l s3c : Nat) (s4 : Value) (s5 s6 : Int) (s7 s8 s9 s10 s11 s12 s13 s14 : Value) (H : AH) (K0 : List Value → AH → Prop) (R : AEnd → AH → Prop) : Prop :=
 wIf (decide (s6 < s5))
 (ldP s1 0 H fun a1 =>
 wCall Try.prog 55 [(.agg #[(.pointer a1)])] H (fun r2 H3 =>
 opA 4 r2 fun l6 =>
 opI .i64 (l6.headD undef) fun n7 =>
 opI .i64 (l6.tail.headD undef) fun n8 =>
 opS (l6.tail.tail.headD undef) fun t9 =>
 opL (l6.tail.tail.tail.headD undef) fun z10b z10l z10c =>
 wBs [(.int .i64 n7), (.int .i64 n8), (.string t9), (.slice z10b z10l z10c)] 4 H3 fun i11 H12 =>
 wAppL 24 4 56 s3b s3l s3c (some ⟨i11, 0, none⟩) 1 0 H12 fun z13b z13l z13c H14 =>
 K0 [s0, (.pointer (some ⟨s1, 0, none⟩)), s2, (.slice z13b z13l z13c), s4, (.int .i64 s5), (.int .i64 (IntKind.i64.wrap (s6 + 1))), (.bool true), (.slice s3b s3l s3c), (.agg #[(.pointer a1)]), (.agg #[(.int .i64 n7), (.int .i64 n8), (.string t9), (.slice z10b z10l z10c)]), (.slice (some ⟨i11, 0, none⟩) 1 0), (.slice z13b z13l z13c), (.int .i64 (IntKind.i64.wrap (s6 + 1))), s14] H14) (fun v5 H4 => R (.panic v5) H4))
 (R (.ret (.slice s3b s3l s3c)) H)
theorem f116_R0_eq (s0 : Value) (s1 : Nat) (s2 : Value) (s3b : Option Addr) (s3l s3c : Nat) (s4 : Value) (s5 s6 : Int) (s7 s8 s9 s10 s11 s12 s13 s14 : Value) (H : AH) (K0 : List Value → AH → Prop) (R : AEnd → AH → Prop) : awpF Try.prog (codeAt f116_c [1, 1, 0, 1, 0, 0]) (thenF K0 (f116_Q0 R)) [s0, (.pointer (some ⟨s1, 0, none⟩)), s2, (.slice s3b s3l s3c), s4, (.int .i64 s5), (.int .i64 s6), s7, s8, s9, s10, s11, s12, s13, s14] H = f116_R0 s0 s1 s2 s3b s3l s3c s4 s5 s6 s7 s8 s9 s10 s11 s12 s13 s14 H K0 R := by kernel_rfl
def f116_I0 (s0 : Value) (s1 : Nat) (s2 s4 : Value) (s5 : Int) (s14 : Value) (J : Nat → Option Addr → Nat → Nat → Int → AH → Prop) (n : Nat) (tm : List Value) (H : AH) : Prop := ∃ (s3b : Option Addr) (s3l s3c : Nat) (s6 : Int) (s7 s8 s9 s10 s11 s12 s13 : Value), tm = [s0, (.pointer (some ⟨s1, 0, none⟩)), s2, (.slice s3b s3l s3c), s4, (.int .i64 s5), (.int .i64 s6), s7, s8, s9, s10, s11, s12, s13, s14] ∧ J n s3b s3l s3c s6 H
theorem f116_I0_mk {s0 : Value} {s1 : Nat} {s2 : Value} {s3b : Option Addr} {s3l : Nat} {s3c : Nat} {s4 : Value} {s5 : Int} {s6 : Int} {s7 : Value} {s8 : Value} {s9 : Value} {s10 : Value} {s11 : Value} {s12 : Value} {s13 : Value} {s14 : Value} {J : Nat → Option Addr → Nat → Nat → Int → AH → Prop} {n : Nat} {H : AH} (h : J n s3b s3l s3c s6 H) : f116_I0 s0 s1 s2 s4 s5 s14 J n [s0, (.pointer (some ⟨s1, 0, none⟩)), s2, (.slice s3b s3l s3c), s4, (.int .i64 s5), (.int .i64 s6), s7, s8, s9, s10, s11, s12, s13, s14] H := ⟨_, _, _, _, _, _, _, _, _, _, _, rfl, h⟩
-- loop 0: carried 3:out, 6:
theorem f116_L0_rule {s0 : Value} {s1 : Nat} {s2 : Value} {s3b : Option Addr} {s3l : Nat} {s3c : Nat} {s4 : Value} {s5 : Int} {s6 : Int} {s7 : Value} {s8 : Value} {s9 : Value} {s10 : Value} {s11 : Value} {s12 : Value} {s13 : Value} {s14 : Value} {H : AH} {R : AEnd → AH → Prop} (J : Nat → Option Addr → Nat → Nat → Int → AH → Prop) (n : Nat) (h0 : J n s3b s3l s3c s6 H)
  (step : ∀ (n : Nat) (s3b : Option Addr) (s3l s3c : Nat) (s6 : Int) (H : AH), J n s3b s3l s3c s6 H → ∀ (s7 s8 s9 s10 s11 s12 s13 : Value), f116_R0 s0 s1 s2 s3b s3l s3c s4 s5 s6 s7 s8 s9 s10 s11 s12 s13 s14 H (fun tm H => ∃ m, m < n ∧ f116_I0 s0 s1 s2 s4 s5 s14 J m tm H) R) : f116_L0 R [s0, (.pointer (some ⟨s1, 0, none⟩)), s2, (.slice s3b s3l s3c), s4, (.int .i64 s5), (.int .i64 s6), s7, s8, s9, s10, s11, s12, s13, s14] H :=
  awpF_loop (f116_I0 s0 s1 s2 s4 s5 s14 J) n (f116_I0_mk h0) (by
    intro n tm H hh
    exact Exists.elim hh fun s3b hh => Exists.elim hh fun s3l hh => Exists.elim hh fun s3c hh => Exists.elim hh fun s6 hh => Exists.elim hh fun s7 hh => Exists.elim hh fun s8 hh => Exists.elim hh fun s9 hh => Exists.elim hh fun s10 hh => Exists.elim hh fun s11 hh => Exists.elim hh fun s12 hh => Exists.elim hh fun s13 hh => And.elim (fun e h =>
     (by subst e; exact Eq.mpr (f116_R0_eq s0 s1 s2 s3b s3l s3c s4 s5 s6 s7 s8 s9 s10 s11 s12 s13 s14 H _ R) (step n s3b s3l s3c s6 H h s7 s8 s9 s10 s11 s12 s13))) hh)
def f116_B (x0_0 : Option Addr) (H : AH) (R : AEnd → AH → Prop) : Prop :=
 wNew [(.pointer x0_0)] H fun i15 H16 =>
 ldP i15 0 H16 fun a17 =>
 wCall Try.prog 111 [(.agg #[(.pointer a17)]), (.int .i64 16)] H16 (fun r18 H19 =>
 opI .i64 r18 fun n22 =>
 f116_L0 R [(.agg #[(.pointer x0_0)]), (.pointer (some ⟨i15, 0, none⟩)), (.slice none 0 0), (.slice none 0 0), (.agg #[(.pointer a17)]), (.int .i64 n22), (.int .i64 0), undef, undef, undef, undef, undef, undef, undef, undef] H19) (fun v21 H20 => R (.panic v21) H20)
theorem f116_eq (x0_0 : Option Addr) (H : AH) (R : AEnd → AH → Prop) : awpF Try.prog f116_c (aPost Try.prog Try.f116 R) (([(.agg #[(.pointer x0_0)])] : List Value) ++ List.replicate (Try.f116.ntmps - (([(.agg #[(.pointer x0_0)])] : List Value)).length) undef) H = f116_B x0_0 H R := by kernel_rfl
theorem f116_call (x0_0 : Option Addr) (H : AH) (R : AEnd → AH → Prop) (h : f116_B x0_0 H R) : ACall Try.prog 116 ([(.agg #[(.pointer x0_0)])] : List Value) H R :=
  acall_of mixed Try.func116 (by kernel_rfl : Try.f116.body = some f116_c) (by kernel_rfl) (by kernel_rfl) (awp_of (Eq.mpr (f116_eq x0_0 H R) h))

/-! f59: (switchyard/code.reader).mail -/
noncomputable def f59_c : Code := Try.f59.body.getD .skip
def f59_B (x0_0 : Option Addr) (H : AH) (R : AEnd → AH → Prop) : Prop :=
 wNew [(.pointer x0_0)] H fun i1 H2 =>
 wNew [(.int .i64 0), (.string ({ data := #[] })), (.slice none 0 0), (.slice none 0 0)] H2 fun i3 H4 =>
 ldP i1 0 H4 fun a5 =>
 wCall Try.prog 108 [(.agg #[(.pointer a5)])] H4 (fun r6 H7 =>
 opI .i64 r6 fun n10 =>
 wNew [(.int .i64 0), (.string ({ data := #[] })), (.slice none 0 0), (.slice none 0 0)] H7 fun i11 H12 =>
 wSt i11 0 [(.int .i64 n10), (.string ({ data := #[] })), (.slice none 0 0), (.slice none 0 0)] H12 fun H13 =>
 ldP i1 0 H13 fun a14 =>
 wCall Try.prog 110 [(.agg #[(.pointer a14)]), (.int .i64 24)] H13 (fun r15 H16 =>
 opS r15 fun t19 =>
 wSt i11 1 [(.string t19)] H16 fun H20 =>
 ldP i1 0 H20 fun a21 =>
 wCall Try.prog 116 [(.agg #[(.pointer a21)])] H20 (fun r22 H23 =>
 opL r22 fun z26b z26l z26c =>
 wSt i11 2 [(.slice z26b z26l z26c)] H23 fun H27 =>
 ldP i1 0 H27 fun a28 =>
 wCall Try.prog 116 [(.agg #[(.pointer a28)])] H27 (fun r29 H30 =>
 opL r29 fun z33b z33l z33c =>
 wSt i11 3 [(.slice z33b z33l z33c)] H30 fun H34 =>
 ldI .i64 i11 0 H34 fun n35 =>
 ldS i11 1 H34 fun t36 =>
 ldL i11 2 H34 fun z37b z37l z37c =>
 ldL i11 3 H34 fun z38b z38l z38c =>
 wSt i3 0 [(.int .i64 n35), (.string t36), (.slice z37b z37l z37c), (.slice z38b z38l z38c)] H34 fun H39 =>
 wPt (some ⟨i3, 0, none⟩) fun i40 k41 =>
 ldI .i64 i40 k41 H39 fun n42 =>
 ldS i40 (k41 + 1) H39 fun t43 =>
 ldL i40 (k41 + 2) H39 fun z44b z44l z44c =>
 ldL i40 (k41 + 3) H39 fun z45b z45l z45c =>
 R (.ret (.agg #[(.int .i64 n42), (.string t43), (.slice z44b z44l z44c), (.slice z45b z45l z45c)])) H39) (fun v32 H31 => R (.panic v32) H31)) (fun v25 H24 => R (.panic v25) H24)) (fun v18 H17 => R (.panic v18) H17)) (fun v9 H8 => R (.panic v9) H8)
theorem f59_eq (x0_0 : Option Addr) (H : AH) (R : AEnd → AH → Prop) : awpF Try.prog f59_c (aPost Try.prog Try.f59 R) (([(.agg #[(.pointer x0_0)])] : List Value) ++ List.replicate (Try.f59.ntmps - (([(.agg #[(.pointer x0_0)])] : List Value)).length) undef) H = f59_B x0_0 H R := by kernel_rfl
theorem f59_call (x0_0 : Option Addr) (H : AH) (R : AEnd → AH → Prop) (h : f59_B x0_0 H R) : ACall Try.prog 59 ([(.agg #[(.pointer x0_0)])] : List Value) H R :=
  acall_of mixed Try.func59 (by kernel_rfl : Try.f59.body = some f59_c) (by kernel_rfl) (by kernel_rfl) (awp_of (Eq.mpr (f59_eq x0_0 H R) h))

/-! f62: (switchyard/code.reader).item -/
-- join 0: live 1:r, 2:, 3:x
-- loop 0: carried 21:
-- loop 1: carried 33:
/-! f81: (switchyard/code.reader).dead -/
noncomputable def f81_c : Code := Try.f81.body.getD .skip
def f81_B (x0_0 : Option Addr) (H : AH) (R : AEnd → AH → Prop) : Prop :=
 wNew [(.pointer x0_0)] H fun i1 H2 =>
 wNew [(.int .i64 0), (.int .i64 0), (.string ({ data := #[] })), (.slice none 0 0), (.slice none 0 0), (.int .i64 0)] H2 fun i3 H4 =>
 ldP i1 0 H4 fun a5 =>
 wCall Try.prog 108 [(.agg #[(.pointer a5)])] H4 (fun r6 H7 =>
 opI .i64 r6 fun n10 =>
 wNew [(.int .i64 0), (.int .i64 0), (.string ({ data := #[] })), (.slice none 0 0), (.slice none 0 0), (.int .i64 0)] H7 fun i11 H12 =>
 wSt i11 0 [(.int .i64 n10), (.int .i64 0), (.string ({ data := #[] })), (.slice none 0 0), (.slice none 0 0), (.int .i64 0)] H12 fun H13 =>
 ldP i1 0 H13 fun a14 =>
 wCall Try.prog 59 [(.agg #[(.pointer a14)])] H13 (fun r15 H16 =>
 opA 4 r15 fun l19 =>
 opI .i64 (l19.headD undef) fun n20 =>
 opS (l19.tail.headD undef) fun t21 =>
 opL (l19.tail.tail.headD undef) fun z22b z22l z22c =>
 opL (l19.tail.tail.tail.headD undef) fun z23b z23l z23c =>
 wSt i11 1 [(.int .i64 n20), (.string t21), (.slice z22b z22l z22c), (.slice z23b z23l z23c)] H16 fun H24 =>
 ldP i1 0 H24 fun a25 =>
 wCall Try.prog 111 [(.agg #[(.pointer a25)]), (.int .i64 5)] H24 (fun r26 H27 =>
 opI .i64 r26 fun n30 =>
 wSt i11 5 [(.int .i64 n30)] H27 fun H31 =>
 ldI .i64 i11 0 H31 fun n32 =>
 ldI .i64 i11 1 H31 fun n33 =>
 ldS i11 2 H31 fun t34 =>
 ldL i11 3 H31 fun z35b z35l z35c =>
 ldL i11 4 H31 fun z36b z36l z36c =>
 ldI .i64 i11 5 H31 fun n37 =>
 wSt i3 0 [(.int .i64 n32), (.int .i64 n33), (.string t34), (.slice z35b z35l z35c), (.slice z36b z36l z36c), (.int .i64 n37)] H31 fun H38 =>
 wPt (some ⟨i3, 0, none⟩) fun i39 k40 =>
 ldI .i64 i39 k40 H38 fun n41 =>
 ldI .i64 i39 (k40 + 1) H38 fun n42 =>
 ldS i39 (k40 + 2) H38 fun t43 =>
 ldL i39 (k40 + 3) H38 fun z44b z44l z44c =>
 ldL i39 (k40 + 4) H38 fun z45b z45l z45c =>
 ldI .i64 i39 (k40 + 5) H38 fun n46 =>
 R (.ret (.agg #[(.int .i64 n41), (.int .i64 n42), (.string t43), (.slice z44b z44l z44c), (.slice z45b z45l z45c), (.int .i64 n46)])) H38) (fun v29 H28 => R (.panic v29) H28)) (fun v18 H17 => R (.panic v18) H17)) (fun v9 H8 => R (.panic v9) H8)
theorem f81_eq (x0_0 : Option Addr) (H : AH) (R : AEnd → AH → Prop) : awpF Try.prog f81_c (aPost Try.prog Try.f81 R) (([(.agg #[(.pointer x0_0)])] : List Value) ++ List.replicate (Try.f81.ntmps - (([(.agg #[(.pointer x0_0)])] : List Value)).length) undef) H = f81_B x0_0 H R := by kernel_rfl
theorem f81_call (x0_0 : Option Addr) (H : AH) (R : AEnd → AH → Prop) (h : f81_B x0_0 H R) : ACall Try.prog 81 ([(.agg #[(.pointer x0_0)])] : List Value) H R :=
  acall_of mixed Try.func81 (by kernel_rfl : Try.f81.body = some f81_c) (by kernel_rfl) (by kernel_rfl) (awp_of (Eq.mpr (f81_eq x0_0 H R) h))

/-! f85: (switchyard/code.reader).event -/
noncomputable def f85_c : Code := Try.f85.body.getD .skip
def f85_B (x0_0 : Option Addr) (H : AH) (R : AEnd → AH → Prop) : Prop :=
 wNew [(.pointer x0_0)] H fun i1 H2 =>
 wNew [(.int .i64 0), (.int .i64 0), (.string ({ data := #[] })), (.int .i64 0), (.string ({ data := #[] })), (.string ({ data := #[] })), (.slice none 0 0)] H2 fun i3 H4 =>
 ldP i1 0 H4 fun a5 =>
 wCall Try.prog 108 [(.agg #[(.pointer a5)])] H4 (fun r6 H7 =>
 opI .i64 r6 fun n10 =>
 wNew [(.int .i64 0), (.int .i64 0), (.string ({ data := #[] })), (.int .i64 0), (.string ({ data := #[] })), (.string ({ data := #[] })), (.slice none 0 0)] H7 fun i11 H12 =>
 wSt i11 0 [(.int .i64 n10), (.int .i64 0), (.string ({ data := #[] })), (.int .i64 0), (.string ({ data := #[] })), (.string ({ data := #[] })), (.slice none 0 0)] H12 fun H13 =>
 ldP i1 0 H13 fun a14 =>
 wCall Try.prog 108 [(.agg #[(.pointer a14)])] H13 (fun r15 H16 =>
 opI .i64 r15 fun n19 =>
 wSt i11 1 [(.int .i64 n19)] H16 fun H20 =>
 ldP i1 0 H20 fun a21 =>
 wCall Try.prog 108 [(.agg #[(.pointer a21)])] H20 (fun r22 H23 =>
 opI .i64 r22 fun n26 =>
 wSt i11 3 [(.int .i64 n26)] H23 fun H27 =>
 ldP i1 0 H27 fun a28 =>
 wCall Try.prog 110 [(.agg #[(.pointer a28)]), (.int .i64 24)] H27 (fun r29 H30 =>
 opS r29 fun t33 =>
 wSt i11 2 [(.string t33)] H30 fun H34 =>
 ldP i1 0 H34 fun a35 =>
 wCall Try.prog 110 [(.agg #[(.pointer a35)]), (.int .i64 24)] H34 (fun r36 H37 =>
 opS r36 fun t40 =>
 wSt i11 4 [(.string t40)] H37 fun H41 =>
 ldP i1 0 H41 fun a42 =>
 wCall Try.prog 110 [(.agg #[(.pointer a42)]), (.int .i64 24)] H41 (fun r43 H44 =>
 opS r43 fun t47 =>
 wSt i11 5 [(.string t47)] H44 fun H48 =>
 ldP i1 0 H48 fun a49 =>
 wCall Try.prog 116 [(.agg #[(.pointer a49)])] H48 (fun r50 H51 =>
 opL r50 fun z54b z54l z54c =>
 wSt i11 6 [(.slice z54b z54l z54c)] H51 fun H55 =>
 ldI .i64 i11 0 H55 fun n56 =>
 ldI .i64 i11 1 H55 fun n57 =>
 ldS i11 2 H55 fun t58 =>
 ldI .i64 i11 3 H55 fun n59 =>
 ldS i11 4 H55 fun t60 =>
 ldS i11 5 H55 fun t61 =>
 ldL i11 6 H55 fun z62b z62l z62c =>
 wSt i3 0 [(.int .i64 n56), (.int .i64 n57), (.string t58), (.int .i64 n59), (.string t60), (.string t61), (.slice z62b z62l z62c)] H55 fun H63 =>
 wPt (some ⟨i3, 0, none⟩) fun i64 k65 =>
 ldI .i64 i64 k65 H63 fun n66 =>
 ldI .i64 i64 (k65 + 1) H63 fun n67 =>
 ldS i64 (k65 + 2) H63 fun t68 =>
 ldI .i64 i64 (k65 + 3) H63 fun n69 =>
 ldS i64 (k65 + 4) H63 fun t70 =>
 ldS i64 (k65 + 5) H63 fun t71 =>
 ldL i64 (k65 + 6) H63 fun z72b z72l z72c =>
 R (.ret (.agg #[(.int .i64 n66), (.int .i64 n67), (.string t68), (.int .i64 n69), (.string t70), (.string t71), (.slice z72b z72l z72c)])) H63) (fun v53 H52 => R (.panic v53) H52)) (fun v46 H45 => R (.panic v46) H45)) (fun v39 H38 => R (.panic v39) H38)) (fun v32 H31 => R (.panic v32) H31)) (fun v25 H24 => R (.panic v25) H24)) (fun v18 H17 => R (.panic v18) H17)) (fun v9 H8 => R (.panic v9) H8)
theorem f85_eq (x0_0 : Option Addr) (H : AH) (R : AEnd → AH → Prop) : awpF Try.prog f85_c (aPost Try.prog Try.f85 R) (([(.agg #[(.pointer x0_0)])] : List Value) ++ List.replicate (Try.f85.ntmps - (([(.agg #[(.pointer x0_0)])] : List Value)).length) undef) H = f85_B x0_0 H R := by kernel_rfl
theorem f85_call (x0_0 : Option Addr) (H : AH) (R : AEnd → AH → Prop) (h : f85_B x0_0 H R) : ACall Try.prog 85 ([(.agg #[(.pointer x0_0)])] : List Value) H R :=
  acall_of mixed Try.func85 (by kernel_rfl : Try.f85.body = some f85_c) (by kernel_rfl) (by kernel_rfl) (awp_of (Eq.mpr (f85_eq x0_0 H R) h))

/-! f89: (switchyard/code.reader).sub -/
noncomputable def f89_c : Code := Try.f89.body.getD .skip
def f89_B (x0_0 : Option Addr) (H : AH) (R : AEnd → AH → Prop) : Prop :=
 wNew [(.pointer x0_0)] H fun i1 H2 =>
 wNew [(.int .i64 0), (.string ({ data := #[] })), (.int .i64 0)] H2 fun i3 H4 =>
 ldP i1 0 H4 fun a5 =>
 wCall Try.prog 108 [(.agg #[(.pointer a5)])] H4 (fun r6 H7 =>
 opI .i64 r6 fun n10 =>
 wNew [(.int .i64 0), (.string ({ data := #[] })), (.int .i64 0)] H7 fun i11 H12 =>
 wSt i11 0 [(.int .i64 n10), (.string ({ data := #[] })), (.int .i64 0)] H12 fun H13 =>
 ldP i1 0 H13 fun a14 =>
 wCall Try.prog 108 [(.agg #[(.pointer a14)])] H13 (fun r15 H16 =>
 opI .i64 r15 fun n19 =>
 wSt i11 2 [(.int .i64 n19)] H16 fun H20 =>
 ldP i1 0 H20 fun a21 =>
 wCall Try.prog 110 [(.agg #[(.pointer a21)]), (.int .i64 24)] H20 (fun r22 H23 =>
 opS r22 fun t26 =>
 wSt i11 1 [(.string t26)] H23 fun H27 =>
 ldI .i64 i11 0 H27 fun n28 =>
 ldS i11 1 H27 fun t29 =>
 ldI .i64 i11 2 H27 fun n30 =>
 wSt i3 0 [(.int .i64 n28), (.string t29), (.int .i64 n30)] H27 fun H31 =>
 wPt (some ⟨i3, 0, none⟩) fun i32 k33 =>
 ldI .i64 i32 k33 H31 fun n34 =>
 ldS i32 (k33 + 1) H31 fun t35 =>
 ldI .i64 i32 (k33 + 2) H31 fun n36 =>
 R (.ret (.agg #[(.int .i64 n34), (.string t35), (.int .i64 n36)])) H31) (fun v25 H24 => R (.panic v25) H24)) (fun v18 H17 => R (.panic v18) H17)) (fun v9 H8 => R (.panic v9) H8)
theorem f89_eq (x0_0 : Option Addr) (H : AH) (R : AEnd → AH → Prop) : awpF Try.prog f89_c (aPost Try.prog Try.f89 R) (([(.agg #[(.pointer x0_0)])] : List Value) ++ List.replicate (Try.f89.ntmps - (([(.agg #[(.pointer x0_0)])] : List Value)).length) undef) H = f89_B x0_0 H R := by kernel_rfl
theorem f89_call (x0_0 : Option Addr) (H : AH) (R : AEnd → AH → Prop) (h : f89_B x0_0 H R) : ACall Try.prog 89 ([(.agg #[(.pointer x0_0)])] : List Value) H R :=
  acall_of mixed Try.func89 (by kernel_rfl : Try.f89.body = some f89_c) (by kernel_rfl) (by kernel_rfl) (awp_of (Eq.mpr (f89_eq x0_0 H R) h))

/-! f58: switchyard/code.get[switchyard/api.Mail] -/
/-! f61: switchyard/code.get[switchyard/api.Item] -/
/-! f80: switchyard/code.get[switchyard/api.Dead] -/
noncomputable def f80_c : Code := Try.f80.body.getD .skip
def f80_B (x0 : ByteArray) (H : AH) (R : AEnd → AH → Prop) : Prop :=
 wNew [(.int .i64 0), (.int .i64 0), (.string ({ data := #[] })), (.slice none 0 0), (.slice none 0 0), (.int .i64 0)] H fun i1 H2 =>
 wNew [(.int .i64 0)] H2 fun i3 H4 =>
 wCall Try.prog 104 [(.string x0)] H4 (fun r5 H6 =>
 opP r5 fun a9 =>
 wNew [(.pointer none)] H6 fun i10 H11 =>
 wSt i10 0 [(.pointer a9)] H11 fun H12 =>
 ldP i10 0 H12 fun a13 =>
 wCall Try.prog 81 [(.agg #[(.pointer a13)])] H12 (fun r14 H15 =>
 opA 6 r14 fun l18 =>
 opI .i64 (l18.headD undef) fun n19 =>
 opI .i64 (l18.tail.headD undef) fun n20 =>
 opS (l18.tail.tail.headD undef) fun t21 =>
 opL (l18.tail.tail.tail.headD undef) fun z22b z22l z22c =>
 opL (l18.tail.tail.tail.tail.headD undef) fun z23b z23l z23c =>
 opI .i64 (l18.tail.tail.tail.tail.tail.headD undef) fun n24 =>
 wNew [(.int .i64 0), (.int .i64 0), (.string ({ data := #[] })), (.slice none 0 0), (.slice none 0 0), (.int .i64 0)] H15 fun i25 H26 =>
 wSt i25 0 [(.int .i64 n19), (.int .i64 n20), (.string t21), (.slice z22b z22l z22c), (.slice z23b z23l z23c), (.int .i64 n24)] H26 fun H27 =>
 ldP i10 0 H27 fun a28 =>
 wCall Try.prog 105 [(.pointer a28)] H27 (fun r29 H30 =>
 opI .i64 r29 fun n33 =>
 wIf (!decide (n33 = 0))
 (ADef Try.prog 123 [(.pointer (some ⟨i1, 0, none⟩)), (.pointer (some ⟨i3, 0, none⟩))] (some (.iface 157 (.agg #[(.int .i64 n33)]))) H30 (fun H34 =>
 wPt (some ⟨i1, 0, none⟩) fun i35 k36 =>
 ldI .i64 i35 k36 H34 fun n37 =>
 ldI .i64 i35 (k36 + 1) H34 fun n38 =>
 ldS i35 (k36 + 2) H34 fun t39 =>
 ldL i35 (k36 + 3) H34 fun z40b z40l z40c =>
 ldL i35 (k36 + 4) H34 fun z41b z41l z41c =>
 ldI .i64 i35 (k36 + 5) H34 fun n42 =>
 wPt (some ⟨i3, 0, none⟩) fun i43 k44 =>
 ldI .i64 i43 k44 H34 fun n45 =>
 R (.ret (.tuple #[(.agg #[(.int .i64 n37), (.int .i64 n38), (.string t39), (.slice z40b z40l z40c), (.slice z41b z41l z41c), (.int .i64 n42)]), (.int .i64 n45)])) H34))
 (ldI .i64 i25 0 H30 fun n46 =>
 ldI .i64 i25 1 H30 fun n47 =>
 ldS i25 2 H30 fun t48 =>
 ldL i25 3 H30 fun z49b z49l z49c =>
 ldL i25 4 H30 fun z50b z50l z50c =>
 ldI .i64 i25 5 H30 fun n51 =>
 wSt i1 0 [(.int .i64 n46), (.int .i64 n47), (.string t48), (.slice z49b z49l z49c), (.slice z50b z50l z50c), (.int .i64 n51)] H30 fun H52 =>
 wSt i3 0 [(.int .i64 0)] H52 fun H53 =>
 ADef Try.prog 123 [(.pointer (some ⟨i1, 0, none⟩)), (.pointer (some ⟨i3, 0, none⟩))] none H53 (fun H54 =>
 wPt (some ⟨i1, 0, none⟩) fun i55 k56 =>
 ldI .i64 i55 k56 H54 fun n57 =>
 ldI .i64 i55 (k56 + 1) H54 fun n58 =>
 ldS i55 (k56 + 2) H54 fun t59 =>
 ldL i55 (k56 + 3) H54 fun z60b z60l z60c =>
 ldL i55 (k56 + 4) H54 fun z61b z61l z61c =>
 ldI .i64 i55 (k56 + 5) H54 fun n62 =>
 wPt (some ⟨i3, 0, none⟩) fun i63 k64 =>
 ldI .i64 i63 k64 H54 fun n65 =>
 R (.ret (.tuple #[(.agg #[(.int .i64 n57), (.int .i64 n58), (.string t59), (.slice z60b z60l z60c), (.slice z61b z61l z61c), (.int .i64 n62)]), (.int .i64 n65)])) H54))) (fun v32 H31 => ADef Try.prog 123 [(.pointer (some ⟨i1, 0, none⟩)), (.pointer (some ⟨i3, 0, none⟩))] (some v32) H31 (fun H66 =>
 wPt (some ⟨i1, 0, none⟩) fun i67 k68 =>
 ldI .i64 i67 k68 H66 fun n69 =>
 ldI .i64 i67 (k68 + 1) H66 fun n70 =>
 ldS i67 (k68 + 2) H66 fun t71 =>
 ldL i67 (k68 + 3) H66 fun z72b z72l z72c =>
 ldL i67 (k68 + 4) H66 fun z73b z73l z73c =>
 ldI .i64 i67 (k68 + 5) H66 fun n74 =>
 wPt (some ⟨i3, 0, none⟩) fun i75 k76 =>
 ldI .i64 i75 k76 H66 fun n77 =>
 R (.ret (.tuple #[(.agg #[(.int .i64 n69), (.int .i64 n70), (.string t71), (.slice z72b z72l z72c), (.slice z73b z73l z73c), (.int .i64 n74)]), (.int .i64 n77)])) H66))) (fun v17 H16 => ADef Try.prog 123 [(.pointer (some ⟨i1, 0, none⟩)), (.pointer (some ⟨i3, 0, none⟩))] (some v17) H16 (fun H78 =>
 wPt (some ⟨i1, 0, none⟩) fun i79 k80 =>
 ldI .i64 i79 k80 H78 fun n81 =>
 ldI .i64 i79 (k80 + 1) H78 fun n82 =>
 ldS i79 (k80 + 2) H78 fun t83 =>
 ldL i79 (k80 + 3) H78 fun z84b z84l z84c =>
 ldL i79 (k80 + 4) H78 fun z85b z85l z85c =>
 ldI .i64 i79 (k80 + 5) H78 fun n86 =>
 wPt (some ⟨i3, 0, none⟩) fun i87 k88 =>
 ldI .i64 i87 k88 H78 fun n89 =>
 R (.ret (.tuple #[(.agg #[(.int .i64 n81), (.int .i64 n82), (.string t83), (.slice z84b z84l z84c), (.slice z85b z85l z85c), (.int .i64 n86)]), (.int .i64 n89)])) H78))) (fun v8 H7 => ADef Try.prog 123 [(.pointer (some ⟨i1, 0, none⟩)), (.pointer (some ⟨i3, 0, none⟩))] (some v8) H7 (fun H90 =>
 wPt (some ⟨i1, 0, none⟩) fun i91 k92 =>
 ldI .i64 i91 k92 H90 fun n93 =>
 ldI .i64 i91 (k92 + 1) H90 fun n94 =>
 ldS i91 (k92 + 2) H90 fun t95 =>
 ldL i91 (k92 + 3) H90 fun z96b z96l z96c =>
 ldL i91 (k92 + 4) H90 fun z97b z97l z97c =>
 ldI .i64 i91 (k92 + 5) H90 fun n98 =>
 wPt (some ⟨i3, 0, none⟩) fun i99 k100 =>
 ldI .i64 i99 k100 H90 fun n101 =>
 R (.ret (.tuple #[(.agg #[(.int .i64 n93), (.int .i64 n94), (.string t95), (.slice z96b z96l z96c), (.slice z97b z97l z97c), (.int .i64 n98)]), (.int .i64 n101)])) H90))
theorem f80_eq (x0 : ByteArray) (H : AH) (R : AEnd → AH → Prop) : awpF Try.prog (codeAt f80_c [0]) (D0 Try.prog Try.f80 123 (codeAt f80_c [1, 1]) 9 [4, 5] R) (([(.string x0), (.func (.func 81) #[] #[])] : List Value) ++ List.replicate (Try.f80.ntmps - (([(.string x0), (.func (.func 81) #[] #[])] : List Value)).length) undef) H = f80_B x0 H R := by kernel_rfl
theorem f80_call (x0 : ByteArray) (H : AH) (R : AEnd → AH → Prop) (h : f80_B x0 H R) : ACall Try.prog 80 ([(.string x0), (.func (.func 81) #[] #[])] : List Value) H R :=
  acall_deferF (id := 1) (o0 := opAt (codeAt f80_c [1, 0]) 0) (o1 := opAt (codeAt f80_c [1, 0]) 1) (t7 := 9) (cp := [4, 5]) mixed Try.func80 (by kernel_rfl : Try.f80.body = some f80_c) (by kernel_rfl) (by kernel_rfl) (by kernel_rfl) (by kernel_rfl) (by kernel_rfl) (by kernel_rfl) (by kernel_rfl) (by kernel_rfl) (by kernel_rfl) (by kernel_rfl) (by kernel_rfl) (Eq.mpr (f80_eq x0 H R) h)

/-! f84: switchyard/code.get[switchyard/api.Event] -/
noncomputable def f84_c : Code := Try.f84.body.getD .skip
def f84_B (x0 : ByteArray) (H : AH) (R : AEnd → AH → Prop) : Prop :=
 wNew [(.int .i64 0), (.int .i64 0), (.string ({ data := #[] })), (.int .i64 0), (.string ({ data := #[] })), (.string ({ data := #[] })), (.slice none 0 0)] H fun i1 H2 =>
 wNew [(.int .i64 0)] H2 fun i3 H4 =>
 wCall Try.prog 104 [(.string x0)] H4 (fun r5 H6 =>
 opP r5 fun a9 =>
 wNew [(.pointer none)] H6 fun i10 H11 =>
 wSt i10 0 [(.pointer a9)] H11 fun H12 =>
 ldP i10 0 H12 fun a13 =>
 wCall Try.prog 85 [(.agg #[(.pointer a13)])] H12 (fun r14 H15 =>
 opA 7 r14 fun l18 =>
 opI .i64 (l18.headD undef) fun n19 =>
 opI .i64 (l18.tail.headD undef) fun n20 =>
 opS (l18.tail.tail.headD undef) fun t21 =>
 opI .i64 (l18.tail.tail.tail.headD undef) fun n22 =>
 opS (l18.tail.tail.tail.tail.headD undef) fun t23 =>
 opS (l18.tail.tail.tail.tail.tail.headD undef) fun t24 =>
 opL (l18.tail.tail.tail.tail.tail.tail.headD undef) fun z25b z25l z25c =>
 wNew [(.int .i64 0), (.int .i64 0), (.string ({ data := #[] })), (.int .i64 0), (.string ({ data := #[] })), (.string ({ data := #[] })), (.slice none 0 0)] H15 fun i26 H27 =>
 wSt i26 0 [(.int .i64 n19), (.int .i64 n20), (.string t21), (.int .i64 n22), (.string t23), (.string t24), (.slice z25b z25l z25c)] H27 fun H28 =>
 ldP i10 0 H28 fun a29 =>
 wCall Try.prog 105 [(.pointer a29)] H28 (fun r30 H31 =>
 opI .i64 r30 fun n34 =>
 wIf (!decide (n34 = 0))
 (ADef Try.prog 126 [(.pointer (some ⟨i1, 0, none⟩)), (.pointer (some ⟨i3, 0, none⟩))] (some (.iface 157 (.agg #[(.int .i64 n34)]))) H31 (fun H35 =>
 wPt (some ⟨i1, 0, none⟩) fun i36 k37 =>
 ldI .i64 i36 k37 H35 fun n38 =>
 ldI .i64 i36 (k37 + 1) H35 fun n39 =>
 ldS i36 (k37 + 2) H35 fun t40 =>
 ldI .i64 i36 (k37 + 3) H35 fun n41 =>
 ldS i36 (k37 + 4) H35 fun t42 =>
 ldS i36 (k37 + 5) H35 fun t43 =>
 ldL i36 (k37 + 6) H35 fun z44b z44l z44c =>
 wPt (some ⟨i3, 0, none⟩) fun i45 k46 =>
 ldI .i64 i45 k46 H35 fun n47 =>
 R (.ret (.tuple #[(.agg #[(.int .i64 n38), (.int .i64 n39), (.string t40), (.int .i64 n41), (.string t42), (.string t43), (.slice z44b z44l z44c)]), (.int .i64 n47)])) H35))
 (ldI .i64 i26 0 H31 fun n48 =>
 ldI .i64 i26 1 H31 fun n49 =>
 ldS i26 2 H31 fun t50 =>
 ldI .i64 i26 3 H31 fun n51 =>
 ldS i26 4 H31 fun t52 =>
 ldS i26 5 H31 fun t53 =>
 ldL i26 6 H31 fun z54b z54l z54c =>
 wSt i1 0 [(.int .i64 n48), (.int .i64 n49), (.string t50), (.int .i64 n51), (.string t52), (.string t53), (.slice z54b z54l z54c)] H31 fun H55 =>
 wSt i3 0 [(.int .i64 0)] H55 fun H56 =>
 ADef Try.prog 126 [(.pointer (some ⟨i1, 0, none⟩)), (.pointer (some ⟨i3, 0, none⟩))] none H56 (fun H57 =>
 wPt (some ⟨i1, 0, none⟩) fun i58 k59 =>
 ldI .i64 i58 k59 H57 fun n60 =>
 ldI .i64 i58 (k59 + 1) H57 fun n61 =>
 ldS i58 (k59 + 2) H57 fun t62 =>
 ldI .i64 i58 (k59 + 3) H57 fun n63 =>
 ldS i58 (k59 + 4) H57 fun t64 =>
 ldS i58 (k59 + 5) H57 fun t65 =>
 ldL i58 (k59 + 6) H57 fun z66b z66l z66c =>
 wPt (some ⟨i3, 0, none⟩) fun i67 k68 =>
 ldI .i64 i67 k68 H57 fun n69 =>
 R (.ret (.tuple #[(.agg #[(.int .i64 n60), (.int .i64 n61), (.string t62), (.int .i64 n63), (.string t64), (.string t65), (.slice z66b z66l z66c)]), (.int .i64 n69)])) H57))) (fun v33 H32 => ADef Try.prog 126 [(.pointer (some ⟨i1, 0, none⟩)), (.pointer (some ⟨i3, 0, none⟩))] (some v33) H32 (fun H70 =>
 wPt (some ⟨i1, 0, none⟩) fun i71 k72 =>
 ldI .i64 i71 k72 H70 fun n73 =>
 ldI .i64 i71 (k72 + 1) H70 fun n74 =>
 ldS i71 (k72 + 2) H70 fun t75 =>
 ldI .i64 i71 (k72 + 3) H70 fun n76 =>
 ldS i71 (k72 + 4) H70 fun t77 =>
 ldS i71 (k72 + 5) H70 fun t78 =>
 ldL i71 (k72 + 6) H70 fun z79b z79l z79c =>
 wPt (some ⟨i3, 0, none⟩) fun i80 k81 =>
 ldI .i64 i80 k81 H70 fun n82 =>
 R (.ret (.tuple #[(.agg #[(.int .i64 n73), (.int .i64 n74), (.string t75), (.int .i64 n76), (.string t77), (.string t78), (.slice z79b z79l z79c)]), (.int .i64 n82)])) H70))) (fun v17 H16 => ADef Try.prog 126 [(.pointer (some ⟨i1, 0, none⟩)), (.pointer (some ⟨i3, 0, none⟩))] (some v17) H16 (fun H83 =>
 wPt (some ⟨i1, 0, none⟩) fun i84 k85 =>
 ldI .i64 i84 k85 H83 fun n86 =>
 ldI .i64 i84 (k85 + 1) H83 fun n87 =>
 ldS i84 (k85 + 2) H83 fun t88 =>
 ldI .i64 i84 (k85 + 3) H83 fun n89 =>
 ldS i84 (k85 + 4) H83 fun t90 =>
 ldS i84 (k85 + 5) H83 fun t91 =>
 ldL i84 (k85 + 6) H83 fun z92b z92l z92c =>
 wPt (some ⟨i3, 0, none⟩) fun i93 k94 =>
 ldI .i64 i93 k94 H83 fun n95 =>
 R (.ret (.tuple #[(.agg #[(.int .i64 n86), (.int .i64 n87), (.string t88), (.int .i64 n89), (.string t90), (.string t91), (.slice z92b z92l z92c)]), (.int .i64 n95)])) H83))) (fun v8 H7 => ADef Try.prog 126 [(.pointer (some ⟨i1, 0, none⟩)), (.pointer (some ⟨i3, 0, none⟩))] (some v8) H7 (fun H96 =>
 wPt (some ⟨i1, 0, none⟩) fun i97 k98 =>
 ldI .i64 i97 k98 H96 fun n99 =>
 ldI .i64 i97 (k98 + 1) H96 fun n100 =>
 ldS i97 (k98 + 2) H96 fun t101 =>
 ldI .i64 i97 (k98 + 3) H96 fun n102 =>
 ldS i97 (k98 + 4) H96 fun t103 =>
 ldS i97 (k98 + 5) H96 fun t104 =>
 ldL i97 (k98 + 6) H96 fun z105b z105l z105c =>
 wPt (some ⟨i3, 0, none⟩) fun i106 k107 =>
 ldI .i64 i106 k107 H96 fun n108 =>
 R (.ret (.tuple #[(.agg #[(.int .i64 n99), (.int .i64 n100), (.string t101), (.int .i64 n102), (.string t103), (.string t104), (.slice z105b z105l z105c)]), (.int .i64 n108)])) H96))
theorem f84_eq (x0 : ByteArray) (H : AH) (R : AEnd → AH → Prop) : awpF Try.prog (codeAt f84_c [0]) (D0 Try.prog Try.f84 126 (codeAt f84_c [1, 1]) 9 [4, 5] R) (([(.string x0), (.func (.func 85) #[] #[])] : List Value) ++ List.replicate (Try.f84.ntmps - (([(.string x0), (.func (.func 85) #[] #[])] : List Value)).length) undef) H = f84_B x0 H R := by kernel_rfl
theorem f84_call (x0 : ByteArray) (H : AH) (R : AEnd → AH → Prop) (h : f84_B x0 H R) : ACall Try.prog 84 ([(.string x0), (.func (.func 85) #[] #[])] : List Value) H R :=
  acall_deferF (id := 1) (o0 := opAt (codeAt f84_c [1, 0]) 0) (o1 := opAt (codeAt f84_c [1, 0]) 1) (t7 := 9) (cp := [4, 5]) mixed Try.func84 (by kernel_rfl : Try.f84.body = some f84_c) (by kernel_rfl) (by kernel_rfl) (by kernel_rfl) (by kernel_rfl) (by kernel_rfl) (by kernel_rfl) (by kernel_rfl) (by kernel_rfl) (by kernel_rfl) (by kernel_rfl) (by kernel_rfl) (Eq.mpr (f84_eq x0 H R) h)

/-! f88: switchyard/code.get[switchyard/api.Sub] -/
noncomputable def f88_c : Code := Try.f88.body.getD .skip
def f88_B (x0 : ByteArray) (H : AH) (R : AEnd → AH → Prop) : Prop :=
 wNew [(.int .i64 0), (.string ({ data := #[] })), (.int .i64 0)] H fun i1 H2 =>
 wNew [(.int .i64 0)] H2 fun i3 H4 =>
 wCall Try.prog 104 [(.string x0)] H4 (fun r5 H6 =>
 opP r5 fun a9 =>
 wNew [(.pointer none)] H6 fun i10 H11 =>
 wSt i10 0 [(.pointer a9)] H11 fun H12 =>
 ldP i10 0 H12 fun a13 =>
 wCall Try.prog 89 [(.agg #[(.pointer a13)])] H12 (fun r14 H15 =>
 opA 3 r14 fun l18 =>
 opI .i64 (l18.headD undef) fun n19 =>
 opS (l18.tail.headD undef) fun t20 =>
 opI .i64 (l18.tail.tail.headD undef) fun n21 =>
 wNew [(.int .i64 0), (.string ({ data := #[] })), (.int .i64 0)] H15 fun i22 H23 =>
 wSt i22 0 [(.int .i64 n19), (.string t20), (.int .i64 n21)] H23 fun H24 =>
 ldP i10 0 H24 fun a25 =>
 wCall Try.prog 105 [(.pointer a25)] H24 (fun r26 H27 =>
 opI .i64 r26 fun n30 =>
 wIf (!decide (n30 = 0))
 (ADef Try.prog 127 [(.pointer (some ⟨i1, 0, none⟩)), (.pointer (some ⟨i3, 0, none⟩))] (some (.iface 157 (.agg #[(.int .i64 n30)]))) H27 (fun H31 =>
 wPt (some ⟨i1, 0, none⟩) fun i32 k33 =>
 ldI .i64 i32 k33 H31 fun n34 =>
 ldS i32 (k33 + 1) H31 fun t35 =>
 ldI .i64 i32 (k33 + 2) H31 fun n36 =>
 wPt (some ⟨i3, 0, none⟩) fun i37 k38 =>
 ldI .i64 i37 k38 H31 fun n39 =>
 R (.ret (.tuple #[(.agg #[(.int .i64 n34), (.string t35), (.int .i64 n36)]), (.int .i64 n39)])) H31))
 (ldI .i64 i22 0 H27 fun n40 =>
 ldS i22 1 H27 fun t41 =>
 ldI .i64 i22 2 H27 fun n42 =>
 wSt i1 0 [(.int .i64 n40), (.string t41), (.int .i64 n42)] H27 fun H43 =>
 wSt i3 0 [(.int .i64 0)] H43 fun H44 =>
 ADef Try.prog 127 [(.pointer (some ⟨i1, 0, none⟩)), (.pointer (some ⟨i3, 0, none⟩))] none H44 (fun H45 =>
 wPt (some ⟨i1, 0, none⟩) fun i46 k47 =>
 ldI .i64 i46 k47 H45 fun n48 =>
 ldS i46 (k47 + 1) H45 fun t49 =>
 ldI .i64 i46 (k47 + 2) H45 fun n50 =>
 wPt (some ⟨i3, 0, none⟩) fun i51 k52 =>
 ldI .i64 i51 k52 H45 fun n53 =>
 R (.ret (.tuple #[(.agg #[(.int .i64 n48), (.string t49), (.int .i64 n50)]), (.int .i64 n53)])) H45))) (fun v29 H28 => ADef Try.prog 127 [(.pointer (some ⟨i1, 0, none⟩)), (.pointer (some ⟨i3, 0, none⟩))] (some v29) H28 (fun H54 =>
 wPt (some ⟨i1, 0, none⟩) fun i55 k56 =>
 ldI .i64 i55 k56 H54 fun n57 =>
 ldS i55 (k56 + 1) H54 fun t58 =>
 ldI .i64 i55 (k56 + 2) H54 fun n59 =>
 wPt (some ⟨i3, 0, none⟩) fun i60 k61 =>
 ldI .i64 i60 k61 H54 fun n62 =>
 R (.ret (.tuple #[(.agg #[(.int .i64 n57), (.string t58), (.int .i64 n59)]), (.int .i64 n62)])) H54))) (fun v17 H16 => ADef Try.prog 127 [(.pointer (some ⟨i1, 0, none⟩)), (.pointer (some ⟨i3, 0, none⟩))] (some v17) H16 (fun H63 =>
 wPt (some ⟨i1, 0, none⟩) fun i64 k65 =>
 ldI .i64 i64 k65 H63 fun n66 =>
 ldS i64 (k65 + 1) H63 fun t67 =>
 ldI .i64 i64 (k65 + 2) H63 fun n68 =>
 wPt (some ⟨i3, 0, none⟩) fun i69 k70 =>
 ldI .i64 i69 k70 H63 fun n71 =>
 R (.ret (.tuple #[(.agg #[(.int .i64 n66), (.string t67), (.int .i64 n68)]), (.int .i64 n71)])) H63))) (fun v8 H7 => ADef Try.prog 127 [(.pointer (some ⟨i1, 0, none⟩)), (.pointer (some ⟨i3, 0, none⟩))] (some v8) H7 (fun H72 =>
 wPt (some ⟨i1, 0, none⟩) fun i73 k74 =>
 ldI .i64 i73 k74 H72 fun n75 =>
 ldS i73 (k74 + 1) H72 fun t76 =>
 ldI .i64 i73 (k74 + 2) H72 fun n77 =>
 wPt (some ⟨i3, 0, none⟩) fun i78 k79 =>
 ldI .i64 i78 k79 H72 fun n80 =>
 R (.ret (.tuple #[(.agg #[(.int .i64 n75), (.string t76), (.int .i64 n77)]), (.int .i64 n80)])) H72))
theorem f88_eq (x0 : ByteArray) (H : AH) (R : AEnd → AH → Prop) : awpF Try.prog (codeAt f88_c [0]) (D0 Try.prog Try.f88 127 (codeAt f88_c [1, 1]) 9 [4, 5] R) (([(.string x0), (.func (.func 89) #[] #[])] : List Value) ++ List.replicate (Try.f88.ntmps - (([(.string x0), (.func (.func 89) #[] #[])] : List Value)).length) undef) H = f88_B x0 H R := by kernel_rfl
theorem f88_call (x0 : ByteArray) (H : AH) (R : AEnd → AH → Prop) (h : f88_B x0 H R) : ACall Try.prog 88 ([(.string x0), (.func (.func 89) #[] #[])] : List Value) H R :=
  acall_deferF (id := 1) (o0 := opAt (codeAt f88_c [1, 0]) 0) (o1 := opAt (codeAt f88_c [1, 0]) 1) (t7 := 9) (cp := [4, 5]) mixed Try.func88 (by kernel_rfl : Try.f88.body = some f88_c) (by kernel_rfl) (by kernel_rfl) (by kernel_rfl) (by kernel_rfl) (by kernel_rfl) (by kernel_rfl) (by kernel_rfl) (by kernel_rfl) (by kernel_rfl) (by kernel_rfl) (by kernel_rfl) (Eq.mpr (f88_eq x0 H R) h)

/-! f115: switchyard/code.get[switchyard/api.Mail]$1 -/
/-! f117: switchyard/code.get[switchyard/api.Item]$1 -/
/-! f123: switchyard/code.get[switchyard/api.Dead]$1 -/
noncomputable def f123_c : Code := Try.f123.body.getD .skip
def f123_N_B (y0 y1 : Option Addr) (H : AH) (R : AH → Prop) : Prop :=
 R H
theorem f123_N_eq (y0 y1 : Option Addr) (H : AH) (R : AH → Prop) : awpF Try.prog (codeAt f123_c [1]) (C0 R) [(.pointer y0), (.pointer y1), Value.nilIface, undef, undef, undef, Value.nilIface, undef, undef, undef, undef, undef, undef, undef, undef, undef, undef, undef, undef, undef] H = f123_N_B y0 y1 H R := by kernel_rfl
theorem f123_N (y0 y1 : Option Addr) (H : AH) (R : AH → Prop) (h : f123_N_B y0 y1 H R) : ADef Try.prog 123 ([(.pointer y0), (.pointer y1)] : List Value) none H R :=
  adef_ofF (id := 0) (o0 := opAt (codeAt f123_c [0]) 0) (o1 := opAt (codeAt f123_c [0]) 1) (t5 := 6) (t2 := 2) mixed Try.func123 (by kernel_rfl : Try.f123.body = some f123_c) (by kernel_rfl) (by kernel_rfl) (by kernel_rfl) (by kernel_rfl) (by kernel_rfl) (by kernel_rfl) (by kernel_rfl) (by kernel_rfl) (by kernel_rfl) (show 6 < 2 + (20 - 2) by decide) [(.pointer y0), (.pointer y1), Value.nilIface, undef, undef, undef, Value.nilIface, undef, undef, undef, undef, undef, undef, undef, undef, undef, undef, undef, undef, undef] (by kernel_rfl) (Eq.mpr (f123_N_eq y0 y1 H R) h)
def f123_P_B (y0 y1 : Option Addr) (er : Int) (H : AH) (R : AH → Prop) : Prop :=
 wNew [(.int .i64 0)] H fun i1 H2 =>
 wSt i1 0 [(.int .i64 er)] H2 fun H3 =>
 wNew [(.int .i64 0), (.int .i64 0), (.string ({ data := #[] })), (.slice none 0 0), (.slice none 0 0), (.int .i64 0)] H3 fun i4 H5 =>
 ldI .i64 i4 0 H5 fun n6 =>
 ldI .i64 i4 1 H5 fun n7 =>
 ldS i4 2 H5 fun t8 =>
 ldL i4 3 H5 fun z9b z9l z9c =>
 ldL i4 4 H5 fun z10b z10l z10c =>
 ldI .i64 i4 5 H5 fun n11 =>
 ldI .i64 i1 0 H5 fun n12 =>
 wPt y0 fun i14 k15 =>
 wSt i14 k15 [(.int .i64 n6), (.int .i64 n7), (.string t8), (.slice z9b z9l z9c), (.slice z10b z10l z10c), (.int .i64 n11)] H5 fun H13 =>
 wPin i1 0 [(.int .i64 n12)] H13 <|
 wPt y1 fun i17 k18 =>
 wSt i17 k18 [(.int .i64 n12)] H13 fun H16 =>
 R H16
theorem f123_P_eq (y0 y1 : Option Addr) (er : Int) (H : AH) (R : AH → Prop) : awpF Try.prog (codeAt f123_c [1]) (C0 R) [(.pointer y0), (.pointer y1), (.iface 157 (.agg #[(.int .i64 er)])), undef, undef, undef, (.iface 157 (.agg #[(.int .i64 er)])), undef, undef, undef, undef, undef, undef, undef, undef, undef, undef, undef, undef, undef] H = f123_P_B y0 y1 er H R := by kernel_rfl
theorem f123_P (y0 y1 : Option Addr) (er : Int) (H : AH) (R : AH → Prop) (h : f123_P_B y0 y1 er H R) : ADef Try.prog 123 ([(.pointer y0), (.pointer y1)] : List Value) (some (.iface 157 (.agg #[.int .i64 er]))) H R :=
  adef_ofF (id := 0) (o0 := opAt (codeAt f123_c [0]) 0) (o1 := opAt (codeAt f123_c [0]) 1) (t5 := 6) (t2 := 2) mixed Try.func123 (by kernel_rfl : Try.f123.body = some f123_c) (by kernel_rfl) (by kernel_rfl) (by kernel_rfl) (by kernel_rfl) (by kernel_rfl) (by kernel_rfl) (by kernel_rfl) (by kernel_rfl) (by kernel_rfl) (show 6 < 2 + (20 - 2) by decide) [(.pointer y0), (.pointer y1), (.iface 157 (.agg #[(.int .i64 er)])), undef, undef, undef, (.iface 157 (.agg #[(.int .i64 er)])), undef, undef, undef, undef, undef, undef, undef, undef, undef, undef, undef, undef, undef] (by kernel_rfl) (Eq.mpr (f123_P_eq y0 y1 er H R) h)

/-! f126: switchyard/code.get[switchyard/api.Event]$1 -/
noncomputable def f126_c : Code := Try.f126.body.getD .skip
def f126_N_B (y0 y1 : Option Addr) (H : AH) (R : AH → Prop) : Prop :=
 R H
theorem f126_N_eq (y0 y1 : Option Addr) (H : AH) (R : AH → Prop) : awpF Try.prog (codeAt f126_c [1]) (C0 R) [(.pointer y0), (.pointer y1), Value.nilIface, undef, undef, undef, Value.nilIface, undef, undef, undef, undef, undef, undef, undef, undef, undef, undef, undef, undef, undef] H = f126_N_B y0 y1 H R := by kernel_rfl
theorem f126_N (y0 y1 : Option Addr) (H : AH) (R : AH → Prop) (h : f126_N_B y0 y1 H R) : ADef Try.prog 126 ([(.pointer y0), (.pointer y1)] : List Value) none H R :=
  adef_ofF (id := 0) (o0 := opAt (codeAt f126_c [0]) 0) (o1 := opAt (codeAt f126_c [0]) 1) (t5 := 6) (t2 := 2) mixed Try.func126 (by kernel_rfl : Try.f126.body = some f126_c) (by kernel_rfl) (by kernel_rfl) (by kernel_rfl) (by kernel_rfl) (by kernel_rfl) (by kernel_rfl) (by kernel_rfl) (by kernel_rfl) (by kernel_rfl) (show 6 < 2 + (20 - 2) by decide) [(.pointer y0), (.pointer y1), Value.nilIface, undef, undef, undef, Value.nilIface, undef, undef, undef, undef, undef, undef, undef, undef, undef, undef, undef, undef, undef] (by kernel_rfl) (Eq.mpr (f126_N_eq y0 y1 H R) h)
def f126_P_B (y0 y1 : Option Addr) (er : Int) (H : AH) (R : AH → Prop) : Prop :=
 wNew [(.int .i64 0)] H fun i1 H2 =>
 wSt i1 0 [(.int .i64 er)] H2 fun H3 =>
 wNew [(.int .i64 0), (.int .i64 0), (.string ({ data := #[] })), (.int .i64 0), (.string ({ data := #[] })), (.string ({ data := #[] })), (.slice none 0 0)] H3 fun i4 H5 =>
 ldI .i64 i4 0 H5 fun n6 =>
 ldI .i64 i4 1 H5 fun n7 =>
 ldS i4 2 H5 fun t8 =>
 ldI .i64 i4 3 H5 fun n9 =>
 ldS i4 4 H5 fun t10 =>
 ldS i4 5 H5 fun t11 =>
 ldL i4 6 H5 fun z12b z12l z12c =>
 ldI .i64 i1 0 H5 fun n13 =>
 wPt y0 fun i15 k16 =>
 wSt i15 k16 [(.int .i64 n6), (.int .i64 n7), (.string t8), (.int .i64 n9), (.string t10), (.string t11), (.slice z12b z12l z12c)] H5 fun H14 =>
 wPin i1 0 [(.int .i64 n13)] H14 <|
 wPt y1 fun i18 k19 =>
 wSt i18 k19 [(.int .i64 n13)] H14 fun H17 =>
 R H17
theorem f126_P_eq (y0 y1 : Option Addr) (er : Int) (H : AH) (R : AH → Prop) : awpF Try.prog (codeAt f126_c [1]) (C0 R) [(.pointer y0), (.pointer y1), (.iface 157 (.agg #[(.int .i64 er)])), undef, undef, undef, (.iface 157 (.agg #[(.int .i64 er)])), undef, undef, undef, undef, undef, undef, undef, undef, undef, undef, undef, undef, undef] H = f126_P_B y0 y1 er H R := by kernel_rfl
theorem f126_P (y0 y1 : Option Addr) (er : Int) (H : AH) (R : AH → Prop) (h : f126_P_B y0 y1 er H R) : ADef Try.prog 126 ([(.pointer y0), (.pointer y1)] : List Value) (some (.iface 157 (.agg #[.int .i64 er]))) H R :=
  adef_ofF (id := 0) (o0 := opAt (codeAt f126_c [0]) 0) (o1 := opAt (codeAt f126_c [0]) 1) (t5 := 6) (t2 := 2) mixed Try.func126 (by kernel_rfl : Try.f126.body = some f126_c) (by kernel_rfl) (by kernel_rfl) (by kernel_rfl) (by kernel_rfl) (by kernel_rfl) (by kernel_rfl) (by kernel_rfl) (by kernel_rfl) (by kernel_rfl) (show 6 < 2 + (20 - 2) by decide) [(.pointer y0), (.pointer y1), (.iface 157 (.agg #[(.int .i64 er)])), undef, undef, undef, (.iface 157 (.agg #[(.int .i64 er)])), undef, undef, undef, undef, undef, undef, undef, undef, undef, undef, undef, undef, undef] (by kernel_rfl) (Eq.mpr (f126_P_eq y0 y1 er H R) h)

/-! f127: switchyard/code.get[switchyard/api.Sub]$1 -/
noncomputable def f127_c : Code := Try.f127.body.getD .skip
def f127_N_B (y0 y1 : Option Addr) (H : AH) (R : AH → Prop) : Prop :=
 R H
theorem f127_N_eq (y0 y1 : Option Addr) (H : AH) (R : AH → Prop) : awpF Try.prog (codeAt f127_c [1]) (C0 R) [(.pointer y0), (.pointer y1), Value.nilIface, undef, undef, undef, Value.nilIface, undef, undef, undef, undef, undef, undef, undef, undef, undef, undef, undef, undef, undef] H = f127_N_B y0 y1 H R := by kernel_rfl
theorem f127_N (y0 y1 : Option Addr) (H : AH) (R : AH → Prop) (h : f127_N_B y0 y1 H R) : ADef Try.prog 127 ([(.pointer y0), (.pointer y1)] : List Value) none H R :=
  adef_ofF (id := 0) (o0 := opAt (codeAt f127_c [0]) 0) (o1 := opAt (codeAt f127_c [0]) 1) (t5 := 6) (t2 := 2) mixed Try.func127 (by kernel_rfl : Try.f127.body = some f127_c) (by kernel_rfl) (by kernel_rfl) (by kernel_rfl) (by kernel_rfl) (by kernel_rfl) (by kernel_rfl) (by kernel_rfl) (by kernel_rfl) (by kernel_rfl) (show 6 < 2 + (20 - 2) by decide) [(.pointer y0), (.pointer y1), Value.nilIface, undef, undef, undef, Value.nilIface, undef, undef, undef, undef, undef, undef, undef, undef, undef, undef, undef, undef, undef] (by kernel_rfl) (Eq.mpr (f127_N_eq y0 y1 H R) h)
def f127_P_B (y0 y1 : Option Addr) (er : Int) (H : AH) (R : AH → Prop) : Prop :=
 wNew [(.int .i64 0)] H fun i1 H2 =>
 wSt i1 0 [(.int .i64 er)] H2 fun H3 =>
 wNew [(.int .i64 0), (.string ({ data := #[] })), (.int .i64 0)] H3 fun i4 H5 =>
 ldI .i64 i4 0 H5 fun n6 =>
 ldS i4 1 H5 fun t7 =>
 ldI .i64 i4 2 H5 fun n8 =>
 ldI .i64 i1 0 H5 fun n9 =>
 wPt y0 fun i11 k12 =>
 wSt i11 k12 [(.int .i64 n6), (.string t7), (.int .i64 n8)] H5 fun H10 =>
 wPin i1 0 [(.int .i64 n9)] H10 <|
 wPt y1 fun i14 k15 =>
 wSt i14 k15 [(.int .i64 n9)] H10 fun H13 =>
 R H13
theorem f127_P_eq (y0 y1 : Option Addr) (er : Int) (H : AH) (R : AH → Prop) : awpF Try.prog (codeAt f127_c [1]) (C0 R) [(.pointer y0), (.pointer y1), (.iface 157 (.agg #[(.int .i64 er)])), undef, undef, undef, (.iface 157 (.agg #[(.int .i64 er)])), undef, undef, undef, undef, undef, undef, undef, undef, undef, undef, undef, undef, undef] H = f127_P_B y0 y1 er H R := by kernel_rfl
theorem f127_P (y0 y1 : Option Addr) (er : Int) (H : AH) (R : AH → Prop) (h : f127_P_B y0 y1 er H R) : ADef Try.prog 127 ([(.pointer y0), (.pointer y1)] : List Value) (some (.iface 157 (.agg #[.int .i64 er]))) H R :=
  adef_ofF (id := 0) (o0 := opAt (codeAt f127_c [0]) 0) (o1 := opAt (codeAt f127_c [0]) 1) (t5 := 6) (t2 := 2) mixed Try.func127 (by kernel_rfl : Try.f127.body = some f127_c) (by kernel_rfl) (by kernel_rfl) (by kernel_rfl) (by kernel_rfl) (by kernel_rfl) (by kernel_rfl) (by kernel_rfl) (by kernel_rfl) (by kernel_rfl) (show 6 < 2 + (20 - 2) by decide) [(.pointer y0), (.pointer y1), (.iface 157 (.agg #[(.int .i64 er)])), undef, undef, undef, (.iface 157 (.agg #[(.int .i64 er)])), undef, undef, undef, undef, undef, undef, undef, undef, undef, undef, undef, undef, undef] (by kernel_rfl) (Eq.mpr (f127_P_eq y0 y1 er H R) h)

end Go.Proofs.Ytfghglacfjncmaa
