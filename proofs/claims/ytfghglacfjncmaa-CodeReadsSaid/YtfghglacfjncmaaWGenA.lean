/- Bodies of functions as nested rules: printed by genw.py, a program of this claim. -/
import Derived.Test.YtfghglacfjncmaaWTy
namespace Go.Proofs.Ytfghglacfjncmaa
open Go.RowKit
set_option linter.unusedVariables false
set_option maxRecDepth 100000

/-! f92: (*switchyard/code.writer).need -/
noncomputable def f92_c : Code := Try.f92.body.getD .skip
def f92_B (x0 : Option Addr) (x1 : Bool) (H : AH) (R : AEnd → AH → Prop) : Prop :=
 wIf (!x1)
 (R (.panic (.iface 157 (.agg #[(.int .i64 4)]))) H)
 (R (.ret (.tuple #[])) H)
theorem f92_eq (x0 : Option Addr) (x1 : Bool) (H : AH) (R : AEnd → AH → Prop) : awpF Try.prog f92_c (aPost Try.prog Try.f92 R) (([(.pointer x0), (.bool x1)] : List Value) ++ List.replicate (Try.f92.ntmps - (([(.pointer x0), (.bool x1)] : List Value)).length) undef) H = f92_B x0 x1 H R := by kernel_rfl
theorem f92_call (x0 : Option Addr) (x1 : Bool) (H : AH) (R : AEnd → AH → Prop) (h : f92_B x0 x1 H R) : ACall Try.prog 92 ([(.pointer x0), (.bool x1)] : List Value) H R :=
  acall_of mixed Try.func92 (by kernel_rfl : Try.f92.body = some f92_c) (by kernel_rfl) (by kernel_rfl) (awp_of (Eq.mpr (f92_eq x0 x1 H R) h))

/-! f94: (*strings.Builder).WriteByte -/
noncomputable def f94_c : Code := Try.f94.body.getD .skip
def f94_B (x0 : Option Addr) (x1 : Int) (H : AH) (R : AEnd → AH → Prop) : Prop :=
 wCall Try.prog 129 [(.pointer x0)] H (fun r1 H2 =>
 wPt x0 fun i5 k6 =>
 ldL i5 (k6 + 1) H2 fun z7b z7l z7c =>
 wBs [(.int .u8 x1)] 1 H2 fun i8 H9 =>
 wAppL 5 1 1 z7b z7l z7c (some ⟨i8, 0, none⟩) 1 0 H9 fun z10b z10l z10c H11 =>
 wPt x0 fun i12 k13 =>
 wSt i12 (k13 + 1) [(.slice z10b z10l z10c)] H11 fun H14 =>
 R (.ret Value.nilIface) H14) (fun v4 H3 => R (.panic v4) H3)
theorem f94_eq (x0 : Option Addr) (x1 : Int) (H : AH) (R : AEnd → AH → Prop) : awpF Try.prog f94_c (aPost Try.prog Try.f94 R) (([(.pointer x0), (.int .u8 x1)] : List Value) ++ List.replicate (Try.f94.ntmps - (([(.pointer x0), (.int .u8 x1)] : List Value)).length) undef) H = f94_B x0 x1 H R := by kernel_rfl
theorem f94_call (x0 : Option Addr) (x1 : Int) (H : AH) (R : AEnd → AH → Prop) (h : f94_B x0 x1 H R) : ACall Try.prog 94 ([(.pointer x0), (.int .u8 x1)] : List Value) H R :=
  acall_of mixed Try.func94 (by kernel_rfl : Try.f94.body = some f94_c) (by kernel_rfl) (by kernel_rfl) (awp_of (Eq.mpr (f94_eq x0 x1 H R) h))

/-! f95: (*switchyard/code.writer).number -/
noncomputable def f95_c : Code := Try.f95.body.getD .skip
def f95_B (x0 : Option Addr) (x1 : Int) (H : AH) (R : AEnd → AH → Prop) : Prop :=
 wPt x0 fun i1 k2 =>
 wCall Try.prog 130 [(.int .i64 x1)] H (fun r3 H4 =>
 opS r3 fun t7 =>
 wCall Try.prog 96 [(.pointer (some ⟨i1, k2, none⟩)), (.string t7)] H4 (fun r8 H9 =>
 opT 2 r8 fun l12 =>
 opI .i64 (l12.headD undef) fun n13 =>
 opV (l12.tail.headD undef) fun v14 =>
 R (.ret (.tuple #[])) H9) (fun v11 H10 => R (.panic v11) H10)) (fun v6 H5 => R (.panic v6) H5)
theorem f95_eq (x0 : Option Addr) (x1 : Int) (H : AH) (R : AEnd → AH → Prop) : awpF Try.prog f95_c (aPost Try.prog Try.f95 R) (([(.pointer x0), (.int .i64 x1)] : List Value) ++ List.replicate (Try.f95.ntmps - (([(.pointer x0), (.int .i64 x1)] : List Value)).length) undef) H = f95_B x0 x1 H R := by kernel_rfl
theorem f95_call (x0 : Option Addr) (x1 : Int) (H : AH) (R : AEnd → AH → Prop) (h : f95_B x0 x1 H R) : ACall Try.prog 95 ([(.pointer x0), (.int .i64 x1)] : List Value) H R :=
  acall_of mixed Try.func95 (by kernel_rfl : Try.f95.body = some f95_c) (by kernel_rfl) (by kernel_rfl) (awp_of (Eq.mpr (f95_eq x0 x1 H R) h))

/-! f96: (*strings.Builder).WriteString -/
noncomputable def f96_c : Code := Try.f96.body.getD .skip
def f96_B (x0 : Option Addr) (x1 : ByteArray) (H : AH) (R : AEnd → AH → Prop) : Prop :=
 wCall Try.prog 129 [(.pointer x0)] H (fun r1 H2 =>
 wPt x0 fun i5 k6 =>
 ldL i5 (k6 + 1) H2 fun z7b z7l z7c =>
 wAppS 5 1 z7b z7l z7c x1 H2 fun z8b z8l z8c H9 =>
 wPt x0 fun i10 k11 =>
 wSt i10 (k11 + 1) [(.slice z8b z8l z8c)] H9 fun H12 =>
 R (.ret (.tuple #[(.int .i64 (x1.size : Int)), Value.nilIface])) H12) (fun v4 H3 => R (.panic v4) H3)
theorem f96_eq (x0 : Option Addr) (x1 : ByteArray) (H : AH) (R : AEnd → AH → Prop) : awpF Try.prog f96_c (aPost Try.prog Try.f96 R) (([(.pointer x0), (.string x1)] : List Value) ++ List.replicate (Try.f96.ntmps - (([(.pointer x0), (.string x1)] : List Value)).length) undef) H = f96_B x0 x1 H R := by kernel_rfl
theorem f96_call (x0 : Option Addr) (x1 : ByteArray) (H : AH) (R : AEnd → AH → Prop) (h : f96_B x0 x1 H R) : ACall Try.prog 96 ([(.pointer x0), (.string x1)] : List Value) H R :=
  acall_of mixed Try.func96 (by kernel_rfl : Try.f96.body = some f96_c) (by kernel_rfl) (by kernel_rfl) (awp_of (Eq.mpr (f96_eq x0 x1 H R) h))

/-! f97: switchyard/pack.Truth -/
noncomputable def f97_c : Code := Try.f97.body.getD .skip
def f97_B (x0 : Bool) (H : AH) (R : AEnd → AH → Prop) : Prop :=
 wIf x0
 (R (.ret (.string ({ data := #[1] }))) H)
 (R (.ret (.string ({ data := #[0] }))) H)
theorem f97_eq (x0 : Bool) (H : AH) (R : AEnd → AH → Prop) : awpF Try.prog f97_c (aPost Try.prog Try.f97 R) (([(.bool x0)] : List Value) ++ List.replicate (Try.f97.ntmps - (([(.bool x0)] : List Value)).length) undef) H = f97_B x0 H R := by kernel_rfl
theorem f97_call (x0 : Bool) (H : AH) (R : AEnd → AH → Prop) (h : f97_B x0 H R) : ACall Try.prog 97 ([(.bool x0)] : List Value) H R :=
  acall_of mixed Try.func97 (by kernel_rfl : Try.f97.body = some f97_c) (by kernel_rfl) (by kernel_rfl) (awp_of (Eq.mpr (f97_eq x0 H R) h))

/-! f98: switchyard/pack.Text -/
noncomputable def f98_c : Code := Try.f98.body.getD .skip
def f98_B (x0 : ByteArray) (H : AH) (R : AEnd → AH → Prop) : Prop :=
 wCall Try.prog 131 [(.int .u64 (IntKind.u64.wrap (x0.size : Int)))] H (fun r1 H2 =>
 opS r1 fun t5 =>
 wCat t5 x0 fun t6 =>
 R (.ret (.string t6)) H2) (fun v4 H3 => R (.panic v4) H3)
theorem f98_eq (x0 : ByteArray) (H : AH) (R : AEnd → AH → Prop) : awpF Try.prog f98_c (aPost Try.prog Try.f98 R) (([(.string x0)] : List Value) ++ List.replicate (Try.f98.ntmps - (([(.string x0)] : List Value)).length) undef) H = f98_B x0 H R := by kernel_rfl
theorem f98_call (x0 : ByteArray) (H : AH) (R : AEnd → AH → Prop) (h : f98_B x0 H R) : ACall Try.prog 98 ([(.string x0)] : List Value) H R :=
  acall_of mixed Try.func98 (by kernel_rfl : Try.f98.body = some f98_c) (by kernel_rfl) (by kernel_rfl) (awp_of (Eq.mpr (f98_eq x0 H R) h))

/-! f99: (*switchyard/code.writer).count -/
noncomputable def f99_c : Code := Try.f99.body.getD .skip
def f99_J0 (R : AEnd → AH → Prop) (tm : List Value) (H : AH) : Prop := hold (awpF Try.prog (codeAt f99_c [1]) ((aPost Try.prog Try.f99 R)) tm H)
-- join 0: live 0:w, 1:n
def f99_J0_B (s0 : Option Addr) (s1 : Int) (H : AH) (R : AEnd → AH → Prop) : Prop :=
 wPt s0 fun i1 k2 =>
 wCall Try.prog 131 [(.int .u64 (IntKind.u64.wrap s1))] H (fun r3 H4 =>
 opS r3 fun t7 =>
 wCall Try.prog 96 [(.pointer (some ⟨i1, k2, none⟩)), (.string t7)] H4 (fun r8 H9 =>
 opT 2 r8 fun l12 =>
 opI .i64 (l12.headD undef) fun n13 =>
 opV (l12.tail.headD undef) fun v14 =>
 R (.ret (.tuple #[])) H9) (fun v11 H10 => R (.panic v11) H10)) (fun v6 H5 => R (.panic v6) H5)
theorem f99_J0_eq (s0 : Option Addr) (s1 : Int) (s2 s3 s4 s5 s6 s7 s8 s9 s10 s11 s12 s13 s14 s15 s16 s17 s18 s19 s20 s21 : Value) (H : AH) (R : AEnd → AH → Prop) : f99_J0 R [(.pointer s0), (.int .i64 s1), s2, s3, s4, s5, s6, s7, s8, s9, s10, s11, s12, s13, s14, s15, s16, s17, s18, s19, s20, s21] H = f99_J0_B s0 s1 H R := by kernel_rfl
def f99_B (x0 : Option Addr) (x1 x2 : Int) (H : AH) (R : AEnd → AH → Prop) : Prop :=
 wIf (decide (x1 ≥ 0))
 (wCall Try.prog 92 [(.pointer x0), (.bool (decide (x1 ≤ x2)))] H (fun r15 H16 =>
 f99_J0 R [(.pointer x0), (.int .i64 x1), (.int .i64 x2), undef, undef, undef, (.pointer x0), (.int .i64 x1), (.bool (decide (x1 ≥ 0))), (.bool true), (.int .i64 x1), (.int .i64 x2), (.bool (decide (x1 ≤ x2))), (.bool (decide (x1 ≤ x2))), r15, undef, undef, undef, undef, undef, undef, undef] H16) (fun v18 H17 => R (.panic v18) H17))
 (wCall Try.prog 92 [(.pointer x0), (.bool false)] H (fun r19 H20 =>
 f99_J0 R [(.pointer x0), (.int .i64 x1), (.int .i64 x2), undef, undef, undef, (.pointer x0), (.int .i64 x1), (.bool (decide (x1 ≥ 0))), (.bool false), undef, undef, undef, (.bool false), r19, undef, undef, undef, undef, undef, undef, undef] H20) (fun v22 H21 => R (.panic v22) H21))
theorem f99_eq (x0 : Option Addr) (x1 x2 : Int) (H : AH) (R : AEnd → AH → Prop) : awpF Try.prog f99_c (aPost Try.prog Try.f99 R) (([(.pointer x0), (.int .i64 x1), (.int .i64 x2)] : List Value) ++ List.replicate (Try.f99.ntmps - (([(.pointer x0), (.int .i64 x1), (.int .i64 x2)] : List Value)).length) undef) H = f99_B x0 x1 x2 H R := by kernel_rfl
theorem f99_call (x0 : Option Addr) (x1 x2 : Int) (H : AH) (R : AEnd → AH → Prop) (h : f99_B x0 x1 x2 H R) : ACall Try.prog 99 ([(.pointer x0), (.int .i64 x1), (.int .i64 x2)] : List Value) H R :=
  acall_of mixed Try.func99 (by kernel_rfl : Try.f99.body = some f99_c) (by kernel_rfl) (by kernel_rfl) (awp_of (Eq.mpr (f99_eq x0 x1 x2 H R) h))

/-! f101: (*switchyard/code.writer).name -/
/-! f130: switchyard/pack.Number -/
noncomputable def f130_c : Code := Try.f130.body.getD .skip
def f130_B (x0 : Int) (H : AH) (R : AEnd → AH → Prop) : Prop :=
 wCall Try.prog 131 [(.int .u64 (IntKind.u64.wrap ((BitVec.ofInt IntKind.u64.bits (IntKind.u64.wrap ((IntKind.u64.wrap x0) * (2 ^ (min (Int.toNat 1) IntKind.u64.bits))))) ^^^ (BitVec.ofInt IntKind.u64.bits (IntKind.u64.wrap (Int.fdiv x0 (2 ^ (min (Int.toNat 63) IntKind.i64.bits)))))).toNat))] H (fun r1 H2 =>
 opS r1 fun t5 =>
 R (.ret (.string t5)) H2) (fun v4 H3 => R (.panic v4) H3)
theorem f130_eq (x0 : Int) (H : AH) (R : AEnd → AH → Prop) : awpF Try.prog f130_c (aPost Try.prog Try.f130 R) (([(.int .i64 x0)] : List Value) ++ List.replicate (Try.f130.ntmps - (([(.int .i64 x0)] : List Value)).length) undef) H = f130_B x0 H R := by kernel_rfl
theorem f130_call (x0 : Int) (H : AH) (R : AEnd → AH → Prop) (h : f130_B x0 H R) : ACall Try.prog 130 ([(.int .i64 x0)] : List Value) H R :=
  acall_of mixed Try.func130 (by kernel_rfl : Try.f130.body = some f130_c) (by kernel_rfl) (by kernel_rfl) (awp_of (Eq.mpr (f130_eq x0 H R) h))

/-! f131: switchyard/pack.Count -/
noncomputable def f131_c : Code := Try.f131.body.getD .skip
noncomputable def f131_X0 (R : AEnd → AH → Prop) : AExit → List Value → AH → Prop := thenF (fun tm H => hold (awpF Try.prog (codeAt f131_c [1, 1, 1]) (aPost Try.prog Try.f131 R) tm H)) (aPost Try.prog Try.f131 R)
noncomputable def f131_X1 (R : AEnd → AH → Prop) : AExit → List Value → AH → Prop := inBlockF 0 (f131_X0 R)
noncomputable def f131_Q0 (R : AEnd → AH → Prop) : AExit → List Value → AH → Prop := (f131_X1 R)
def f131_L0 (R : AEnd → AH → Prop) (tm : List Value) (H : AH) : Prop := awpF Try.prog (codeAt f131_c [1, 1, 0, 0]) (f131_Q0 R) tm H
def f131_J0 (R : AEnd → AH → Prop) (tm : List Value) (H : AH) : Prop := hold (awpF Try.prog (codeAt f131_c [1, 1, 1]) ((aPost Try.prog Try.f131 R)) tm H)
-- join 0: live 0:n, 3:b
def f131_J0_B (s0 : Int) (s3b : Option Addr) (s3l s3c : Nat) (H : AH) (R : AEnd → AH → Prop) : Prop :=
 wBs [(.int .u8 (IntKind.u8.wrap s0))] 1 H fun i1 H2 =>
 wAppL 5 1 1 s3b s3l s3c (some ⟨i1, 0, none⟩) 1 0 H2 fun z3b z3l z3c H4 =>
 wB2S z3b z3l z3c H4 fun t5 =>
 R (.ret (.string t5)) H4
theorem f131_J0_eq (s0 : Int) (s1 s2 : Value) (s3b : Option Addr) (s3l s3c : Nat) (s4 s5 s6 s7 s8 s9 s10 s11 s12 s13 s14 s15 s16 s17 s18 s19 : Value) (H : AH) (R : AEnd → AH → Prop) : f131_J0 R [(.int .u64 s0), s1, s2, (.slice s3b s3l s3c), s4, s5, s6, s7, s8, s9, s10, s11, s12, s13, s14, s15, s16, s17, s18, s19] H = f131_J0_B s0 s3b s3l s3c H R := by kernel_rfl
def f131_R0 (s0 : Int) (s1 s2 : Value) (s3b : Option Addr) (s3l s3c : Nat) (s4 s5 s6 s7 s8 s9 s10 s11 s12 s13 s14 s15 s16 s17 s18 s19 : Value) (H : AH) (K0 : List Value → AH → Prop) (R : AEnd → AH → Prop) : Prop :=
 wIf (decide (s0 ≥ 128))
 (wBs [(.int .u8 (IntKind.u8.wrap ((BitVec.ofInt IntKind.u8.bits (IntKind.u8.wrap s0)) ||| (BitVec.ofInt IntKind.u8.bits 128)).toNat))] 1 H fun i6 H7 =>
 wAppL 5 1 1 s3b s3l s3c (some ⟨i6, 0, none⟩) 1 0 H7 fun z8b z8l z8c H9 =>
 K0 [(.int .u64 (Int.fdiv s0 (2 ^ (min (Int.toNat 7) IntKind.u64.bits)))), s1, s2, (.slice z8b z8l z8c), (.int .u64 s0), (.bool true), (.int .u64 s0), (.int .u64 (Int.fdiv s0 (2 ^ (min (Int.toNat 7) IntKind.u64.bits)))), (.slice s3b s3l s3c), (.int .u64 s0), (.int .u8 (IntKind.u8.wrap s0)), (.int .u8 (IntKind.u8.wrap ((BitVec.ofInt IntKind.u8.bits (IntKind.u8.wrap s0)) ||| (BitVec.ofInt IntKind.u8.bits 128)).toNat)), (.slice (some ⟨i6, 0, none⟩) 1 0), (.slice z8b z8l z8c), s14, s15, s16, s17, s18, s19] H9)
 (f131_J0 R [(.int .u64 s0), s1, s2, (.slice s3b s3l s3c), (.int .u64 s0), (.bool false), s6, s7, s8, s9, s10, s11, s12, s13, s14, s15, s16, s17, s18, s19] H)
theorem f131_R0_eq (s0 : Int) (s1 s2 : Value) (s3b : Option Addr) (s3l s3c : Nat) (s4 s5 s6 s7 s8 s9 s10 s11 s12 s13 s14 s15 s16 s17 s18 s19 : Value) (H : AH) (K0 : List Value → AH → Prop) (R : AEnd → AH → Prop) : awpF Try.prog (codeAt f131_c [1, 1, 0, 0, 0]) (thenF K0 (f131_Q0 R)) [(.int .u64 s0), s1, s2, (.slice s3b s3l s3c), s4, s5, s6, s7, s8, s9, s10, s11, s12, s13, s14, s15, s16, s17, s18, s19] H = f131_R0 s0 s1 s2 s3b s3l s3c s4 s5 s6 s7 s8 s9 s10 s11 s12 s13 s14 s15 s16 s17 s18 s19 H K0 R := by kernel_rfl
def f131_I0 (s1 s2 s14 s15 s16 s17 s18 s19 : Value) (J : Nat → Int → Option Addr → Nat → Nat → AH → Prop) (n : Nat) (tm : List Value) (H : AH) : Prop := ∃ (s0 : Int) (s3b : Option Addr) (s3l s3c : Nat) (s4 s5 s6 s7 s8 s9 s10 s11 s12 s13 : Value), tm = [(.int .u64 s0), s1, s2, (.slice s3b s3l s3c), s4, s5, s6, s7, s8, s9, s10, s11, s12, s13, s14, s15, s16, s17, s18, s19] ∧ J n s0 s3b s3l s3c H
theorem f131_I0_mk {s0 : Int} {s1 : Value} {s2 : Value} {s3b : Option Addr} {s3l : Nat} {s3c : Nat} {s4 : Value} {s5 : Value} {s6 : Value} {s7 : Value} {s8 : Value} {s9 : Value} {s10 : Value} {s11 : Value} {s12 : Value} {s13 : Value} {s14 : Value} {s15 : Value} {s16 : Value} {s17 : Value} {s18 : Value} {s19 : Value} {J : Nat → Int → Option Addr → Nat → Nat → AH → Prop} {n : Nat} {H : AH} (h : J n s0 s3b s3l s3c H) : f131_I0 s1 s2 s14 s15 s16 s17 s18 s19 J n [(.int .u64 s0), s1, s2, (.slice s3b s3l s3c), s4, s5, s6, s7, s8, s9, s10, s11, s12, s13, s14, s15, s16, s17, s18, s19] H := ⟨_, _, _, _, _, _, _, _, _, _, _, _, _, _, rfl, h⟩
-- loop 0: carried 0:n, 3:b
theorem f131_L0_rule {s0 : Int} {s1 : Value} {s2 : Value} {s3b : Option Addr} {s3l : Nat} {s3c : Nat} {s4 : Value} {s5 : Value} {s6 : Value} {s7 : Value} {s8 : Value} {s9 : Value} {s10 : Value} {s11 : Value} {s12 : Value} {s13 : Value} {s14 : Value} {s15 : Value} {s16 : Value} {s17 : Value} {s18 : Value} {s19 : Value} {H : AH} {R : AEnd → AH → Prop} (J : Nat → Int → Option Addr → Nat → Nat → AH → Prop) (n : Nat) (h0 : J n s0 s3b s3l s3c H)
  (step : ∀ (n : Nat) (s0 : Int) (s3b : Option Addr) (s3l s3c : Nat) (H : AH), J n s0 s3b s3l s3c H → ∀ (s4 s5 s6 s7 s8 s9 s10 s11 s12 s13 : Value), f131_R0 s0 s1 s2 s3b s3l s3c s4 s5 s6 s7 s8 s9 s10 s11 s12 s13 s14 s15 s16 s17 s18 s19 H (fun tm H => ∃ m, m < n ∧ f131_I0 s1 s2 s14 s15 s16 s17 s18 s19 J m tm H) R) : f131_L0 R [(.int .u64 s0), s1, s2, (.slice s3b s3l s3c), s4, s5, s6, s7, s8, s9, s10, s11, s12, s13, s14, s15, s16, s17, s18, s19] H :=
  awpF_loop (f131_I0 s1 s2 s14 s15 s16 s17 s18 s19 J) n (f131_I0_mk h0) (by
    intro n tm H hh
    exact Exists.elim hh fun s0 hh => Exists.elim hh fun s3b hh => Exists.elim hh fun s3l hh => Exists.elim hh fun s3c hh => Exists.elim hh fun s4 hh => Exists.elim hh fun s5 hh => Exists.elim hh fun s6 hh => Exists.elim hh fun s7 hh => Exists.elim hh fun s8 hh => Exists.elim hh fun s9 hh => Exists.elim hh fun s10 hh => Exists.elim hh fun s11 hh => Exists.elim hh fun s12 hh => Exists.elim hh fun s13 hh => And.elim (fun e h =>
     (by subst e; exact Eq.mpr (f131_R0_eq s0 s1 s2 s3b s3l s3c s4 s5 s6 s7 s8 s9 s10 s11 s12 s13 s14 s15 s16 s17 s18 s19 H _ R) (step n s0 s3b s3l s3c H h s4 s5 s6 s7 s8 s9 s10 s11 s12 s13))) hh)
def f131_B (x0 : Int) (H : AH) (R : AEnd → AH → Prop) : Prop :=
 f131_L0 R [(.int .u64 x0), undef, (.string ({ data := #[] })), (.slice none 0 0), undef, undef, undef, undef, undef, undef, undef, undef, undef, undef, undef, undef, undef, undef, undef, undef] H
theorem f131_eq (x0 : Int) (H : AH) (R : AEnd → AH → Prop) : awpF Try.prog f131_c (aPost Try.prog Try.f131 R) (([(.int .u64 x0)] : List Value) ++ List.replicate (Try.f131.ntmps - (([(.int .u64 x0)] : List Value)).length) undef) H = f131_B x0 H R := by kernel_rfl
theorem f131_call (x0 : Int) (H : AH) (R : AEnd → AH → Prop) (h : f131_B x0 H R) : ACall Try.prog 131 ([(.int .u64 x0)] : List Value) H R :=
  acall_of mixed Try.func131 (by kernel_rfl : Try.f131.body = some f131_c) (by kernel_rfl) (by kernel_rfl) (awp_of (Eq.mpr (f131_eq x0 H R) h))

/-! f93: switchyard/value.Right -/
noncomputable def f93_c : Code := Try.f93.body.getD .skip
def f93_B (x0_0 x0_1 : Int) (x0_2 : ByteArray) (x0_3b : Option Addr) (x0_3l x0_3c : Nat) (H : AH) (R : AEnd → AH → Prop) : Prop :=
 wNew [(.int .i64 x0_0), (.int .i64 x0_1), (.string x0_2), (.slice x0_3b x0_3l x0_3c)] H fun i1 H2 =>
 ldI .i64 i1 0 H2 fun n3 =>
 wIf (decide (n3 = 0))
 (ldI .i64 i1 1 H2 fun n4 =>
 wIf (decide (n4 = 0))
 (ldS i1 2 H2 fun t5 =>
 wIf (decide (t5 = ({ data := #[] })))
 (ldL i1 3 H2 fun z6b z6l z6c =>
 R (.ret (.bool (decide ((z6l : Int) = 0)))) H2)
 (R (.ret (.bool false)) H2))
 (R (.ret (.bool false)) H2))
 (wIf (decide (n3 = 1))
 (ldS i1 2 H2 fun t7 =>
 wIf (decide (t7 = ({ data := #[] })))
 (ldL i1 3 H2 fun z8b z8l z8c =>
 R (.ret (.bool (decide ((z8l : Int) = 0)))) H2)
 (R (.ret (.bool false)) H2))
 (wIf (decide (n3 = 2))
 (ldI .i64 i1 1 H2 fun n9 =>
 wIf (decide (n9 = 0))
 (ldS i1 2 H2 fun t10 =>
 wIf (decide (t10 = ({ data := #[] })))
 (ldL i1 3 H2 fun z11b z11l z11c =>
 R (.ret (.bool (decide ((z11l : Int) = 0)))) H2)
 (R (.ret (.bool false)) H2))
 (ldI .i64 i1 1 H2 fun n12 =>
 wIf (decide (n12 = 1))
 (ldS i1 2 H2 fun t13 =>
 wIf (decide (t13 = ({ data := #[] })))
 (ldL i1 3 H2 fun z14b z14l z14c =>
 R (.ret (.bool (decide ((z14l : Int) = 0)))) H2)
 (R (.ret (.bool false)) H2))
 (R (.ret (.bool false)) H2)))
 (wIf (decide (n3 = 3))
 (ldI .i64 i1 1 H2 fun n15 =>
 wIf (decide (n15 = 0))
 (ldS i1 2 H2 fun t16 =>
 wIf (decide ((t16.size : Int) ≤ 64))
 (ldL i1 3 H2 fun z17b z17l z17c =>
 R (.ret (.bool (decide ((z17l : Int) = 0)))) H2)
 (R (.ret (.bool false)) H2))
 (R (.ret (.bool false)) H2))
 (wIf (decide (n3 = 4))
 (ldI .i64 i1 1 H2 fun n18 =>
 wIf (decide (n18 = 0))
 (ldS i1 2 H2 fun t19 =>
 wCall Try.prog 128 [(.string t19)] H2 (fun r20 H21 =>
 opB r20 fun b24 =>
 wIf b24
 (ldL i1 3 H21 fun z25b z25l z25c =>
 R (.ret (.bool (decide ((z25l : Int) = 0)))) H21)
 (R (.ret (.bool false)) H21)) (fun v23 H22 => R (.panic v23) H22))
 (R (.ret (.bool false)) H2))
 (wIf (decide (n3 = 5))
 (ldI .i64 i1 1 H2 fun n26 =>
 wIf (decide (n26 = 0))
 (ldS i1 2 H2 fun t27 =>
 wIf (decide (t27 = ({ data := #[] })))
 (ldL i1 3 H2 fun z28b z28l z28c =>
 R (.ret (.bool (decide ((z28l : Int) ≤ 16)))) H2)
 (R (.ret (.bool false)) H2))
 (R (.ret (.bool false)) H2))
 (R (.ret (.bool false)) H2))))))
theorem f93_eq (x0_0 x0_1 : Int) (x0_2 : ByteArray) (x0_3b : Option Addr) (x0_3l x0_3c : Nat) (H : AH) (R : AEnd → AH → Prop) : awpF Try.prog f93_c (aPost Try.prog Try.f93 R) (([(.agg #[(.int .i64 x0_0), (.int .i64 x0_1), (.string x0_2), (.slice x0_3b x0_3l x0_3c)])] : List Value) ++ List.replicate (Try.f93.ntmps - (([(.agg #[(.int .i64 x0_0), (.int .i64 x0_1), (.string x0_2), (.slice x0_3b x0_3l x0_3c)])] : List Value)).length) undef) H = f93_B x0_0 x0_1 x0_2 x0_3b x0_3l x0_3c H R := by kernel_rfl
theorem f93_call (x0_0 x0_1 : Int) (x0_2 : ByteArray) (x0_3b : Option Addr) (x0_3l x0_3c : Nat) (H : AH) (R : AEnd → AH → Prop) (h : f93_B x0_0 x0_1 x0_2 x0_3b x0_3l x0_3c H R) : ACall Try.prog 93 ([(.agg #[(.int .i64 x0_0), (.int .i64 x0_1), (.string x0_2), (.slice x0_3b x0_3l x0_3c)])] : List Value) H R :=
  acall_of mixed Try.func93 (by kernel_rfl : Try.f93.body = some f93_c) (by kernel_rfl) (by kernel_rfl) (awp_of (Eq.mpr (f93_eq x0_0 x0_1 x0_2 x0_3b x0_3l x0_3c H R) h))

/-! f128: switchyard/value.Name -/
noncomputable def f128_c : Code := Try.f128.body.getD .skip
noncomputable def f128_X0 (R : AEnd → AH → Prop) : AExit → List Value → AH → Prop := thenF (fun tm H => hold (awpF Try.prog (codeAt f128_c [1, 1, 1]) (aPost Try.prog Try.f128 R) tm H)) (aPost Try.prog Try.f128 R)
noncomputable def f128_X1 (R : AEnd → AH → Prop) : AExit → List Value → AH → Prop := inBlockF 0 (f128_X0 R)
noncomputable def f128_Q0 (R : AEnd → AH → Prop) : AExit → List Value → AH → Prop := (f128_X1 R)
def f128_L0 (R : AEnd → AH → Prop) (tm : List Value) (H : AH) : Prop := awpF Try.prog (codeAt f128_c [1, 1, 0, 1, 0]) (f128_Q0 R) tm H
noncomputable def f128_X2 (R : AEnd → AH → Prop) : AExit → List Value → AH → Prop := thenF (fun tm H => hold (awpF Try.prog (codeAt f128_c [1, 1]) (aPost Try.prog Try.f128 R) tm H)) (aPost Try.prog Try.f128 R)
def f128_J0 (R : AEnd → AH → Prop) (tm : List Value) (H : AH) : Prop := hold (awpF Try.prog (codeAt f128_c [1, 0, 1]) ((f128_X2 R)) tm H)
def f128_J1 (R : AEnd → AH → Prop) (tm : List Value) (H : AH) : Prop := hold (awpF Try.prog (codeAt f128_c [1, 1]) ((aPost Try.prog Try.f128 R)) tm H)
noncomputable def f128_X3 (K0 : List Value → AH → Prop) (R : AEnd → AH → Prop) : AExit → List Value → AH → Prop := inBlockF 1 (thenF K0 (f128_Q0 R))
def f128_J2 (K0 : List Value → AH → Prop) (R : AEnd → AH → Prop) (tm : List Value) (H : AH) : Prop := hold (awpF Try.prog (codeAt f128_c [1, 1, 0, 1, 0, 0, 1, 1, 0, 1, 1]) ((f128_X3 K0 R)) tm H)
def f128_J3 (K0 : List Value → AH → Prop) (R : AEnd → AH → Prop) (tm : List Value) (H : AH) : Prop := hold (awpF Try.prog (codeAt f128_c [1, 1, 0, 1, 0, 0, 1, 1, 0, 1, 1, 1]) ((f128_X3 K0 R)) tm H)
-- join 3: live 14:, 50:
def f128_J3_B (s0 s1 s2 s3 s4 s5 s6 s7 s8 s9 s10 s11 s12 s13 : Value) (s14 : Option Addr) (s15 s16 s17 s18 s19 s20 s21 s22 s23 s24 s25 s26 s27 s28 s29 s30 s31 s32 s33 s34 s35 s36 s37 s38 s39 s40 s41 s42 s43 s44 s45 s46 s47 s48 s49 : Value) (s50 : Bool) (H : AH) (K0 : List Value → AH → Prop) (R : AEnd → AH → Prop) : Prop :=
 wIf s50
 (R (.ret (.bool false)) H)
 (K0 [s0, s1, s2, s3, s4, s5, s6, s7, s8, s9, s10, s11, s12, s13, (.pointer s14), s15, s16, s17, s18, s19, s20, s21, s22, s23, s24, s25, s26, s27, s28, s29, s30, s31, s32, s33, s34, s35, s36, s37, s38, s39, s40, s41, s42, s43, s44, s45, s46, s47, s48, s49, (.bool false)] H)
theorem f128_J3_eq (s0 s1 s2 s3 s4 s5 s6 s7 s8 s9 s10 s11 s12 s13 : Value) (s14 : Option Addr) (s15 s16 s17 s18 s19 s20 s21 s22 s23 s24 s25 s26 s27 s28 s29 s30 s31 s32 s33 s34 s35 s36 s37 s38 s39 s40 s41 s42 s43 s44 s45 s46 s47 s48 s49 : Value) (s50 : Bool) (H : AH) (K0 : List Value → AH → Prop) (R : AEnd → AH → Prop) : f128_J3 K0 R [s0, s1, s2, s3, s4, s5, s6, s7, s8, s9, s10, s11, s12, s13, (.pointer s14), s15, s16, s17, s18, s19, s20, s21, s22, s23, s24, s25, s26, s27, s28, s29, s30, s31, s32, s33, s34, s35, s36, s37, s38, s39, s40, s41, s42, s43, s44, s45, s46, s47, s48, s49, (.bool s50)] H = f128_J3_B s0 s1 s2 s3 s4 s5 s6 s7 s8 s9 s10 s11 s12 s13 s14 s15 s16 s17 s18 s19 s20 s21 s22 s23 s24 s25 s26 s27 s28 s29 s30 s31 s32 s33 s34 s35 s36 s37 s38 s39 s40 s41 s42 s43 s44 s45 s46 s47 s48 s49 s50 H K0 R := by kernel_rfl
-- join 2: live 3:i, 4:c, 5:letter, 14:
def f128_J2_B (s0 s1 s2 : Value) (s3 s4 : Int) (s5 : Bool) (s6 s7 s8 s9 s10 s11 s12 s13 : Value) (s14 : Option Addr) (s15 s16 s17 s18 s19 s20 s21 s22 s23 s24 s25 s26 s27 s28 s29 s30 s31 s32 : Value) (H : AH) (K0 : List Value → AH → Prop) (R : AEnd → AH → Prop) : Prop :=
 wIf (!s5)
 (wIf (decide (s3 = 0))
 (f128_J3 K0 R [s0, s1, s2, (.int .i64 s3), (.int .i32 s4), (.bool s5), s6, s7, s8, s9, s10, s11, s12, s13, (.pointer s14), s15, s16, s17, s18, s19, s20, s21, s22, s23, s24, s25, s26, s27, s28, s29, s30, s31, s32, (.bool s5), (.bool (!s5)), (.bool true), (.int .i64 s3), (.bool (decide (s3 = 0))), (.bool true), undef, undef, undef, undef, undef, undef, undef, undef, undef, undef, (.bool true), (.bool true)] H)
 (wIf (!decide (s4 = 95))
 (wIf (decide (s4 < 48))
 (f128_J3 K0 R [s0, s1, s2, (.int .i64 s3), (.int .i32 s4), (.bool s5), s6, s7, s8, s9, s10, s11, s12, s13, (.pointer s14), s15, s16, s17, s18, s19, s20, s21, s22, s23, s24, s25, s26, s27, s28, s29, s30, s31, s32, (.bool s5), (.bool (!s5)), (.bool true), (.int .i64 s3), (.bool (decide (s3 = 0))), (.bool false), (.int .i32 s4), (.bool (!decide (s4 = 95))), (.bool true), (.int .i32 s4), (.bool (decide (s4 < 48))), (.bool true), undef, undef, (.bool true), (.bool true), (.bool true), (.bool true)] H)
 (f128_J3 K0 R [s0, s1, s2, (.int .i64 s3), (.int .i32 s4), (.bool s5), s6, s7, s8, s9, s10, s11, s12, s13, (.pointer s14), s15, s16, s17, s18, s19, s20, s21, s22, s23, s24, s25, s26, s27, s28, s29, s30, s31, s32, (.bool s5), (.bool (!s5)), (.bool true), (.int .i64 s3), (.bool (decide (s3 = 0))), (.bool false), (.int .i32 s4), (.bool (!decide (s4 = 95))), (.bool true), (.int .i32 s4), (.bool (decide (s4 < 48))), (.bool false), (.int .i32 s4), (.bool (decide (s4 > 57))), (.bool (decide (s4 > 57))), (.bool (decide (s4 > 57))), (.bool (decide (s4 > 57))), (.bool (decide (s4 > 57)))] H))
 (f128_J3 K0 R [s0, s1, s2, (.int .i64 s3), (.int .i32 s4), (.bool s5), s6, s7, s8, s9, s10, s11, s12, s13, (.pointer s14), s15, s16, s17, s18, s19, s20, s21, s22, s23, s24, s25, s26, s27, s28, s29, s30, s31, s32, (.bool s5), (.bool (!s5)), (.bool true), (.int .i64 s3), (.bool (decide (s3 = 0))), (.bool false), (.int .i32 s4), (.bool (!decide (s4 = 95))), (.bool false), undef, undef, undef, undef, undef, undef, (.bool false), (.bool false), (.bool false)] H)))
 (f128_J3 K0 R [s0, s1, s2, (.int .i64 s3), (.int .i32 s4), (.bool s5), s6, s7, s8, s9, s10, s11, s12, s13, (.pointer s14), s15, s16, s17, s18, s19, s20, s21, s22, s23, s24, s25, s26, s27, s28, s29, s30, s31, s32, (.bool s5), (.bool (!s5)), (.bool false), undef, undef, undef, undef, undef, undef, undef, undef, undef, undef, undef, undef, undef, undef, (.bool false)] H)
theorem f128_J2_eq (s0 s1 s2 : Value) (s3 s4 : Int) (s5 : Bool) (s6 s7 s8 s9 s10 s11 s12 s13 : Value) (s14 : Option Addr) (s15 s16 s17 s18 s19 s20 s21 s22 s23 s24 s25 s26 s27 s28 s29 s30 s31 s32 s33 s34 s35 s36 s37 s38 s39 s40 s41 s42 s43 s44 s45 s46 s47 s48 s49 s50 : Value) (H : AH) (K0 : List Value → AH → Prop) (R : AEnd → AH → Prop) : f128_J2 K0 R [s0, s1, s2, (.int .i64 s3), (.int .i32 s4), (.bool s5), s6, s7, s8, s9, s10, s11, s12, s13, (.pointer s14), s15, s16, s17, s18, s19, s20, s21, s22, s23, s24, s25, s26, s27, s28, s29, s30, s31, s32, s33, s34, s35, s36, s37, s38, s39, s40, s41, s42, s43, s44, s45, s46, s47, s48, s49, s50] H = f128_J2_B s0 s1 s2 s3 s4 s5 s6 s7 s8 s9 s10 s11 s12 s13 s14 s15 s16 s17 s18 s19 s20 s21 s22 s23 s24 s25 s26 s27 s28 s29 s30 s31 s32 H K0 R := by kernel_rfl
-- join 1: live 0:s
def f128_J1_B (s0 : ByteArray) (s1 s2 s3 s4 s5 s6 s7 s8 s9 s10 s11 s12 s15 s16 s17 s18 s19 s20 s21 s22 s23 s24 s25 s26 s27 s28 s29 s30 s31 s32 s33 s34 s35 s36 s37 s38 s39 s40 s41 s42 s43 s44 s45 s46 s47 s48 s49 s50 : Value) (H : AH) (R : AEnd → AH → Prop) : Prop :=
 wSi s0 H fun i1 H2 =>
 f128_L0 R [(.string s0), s1, s2, s3, s4, s5, s6, s7, s8, s9, s10, s11, s12, (.string s0), (.pointer (some ⟨i1, 0, none⟩)), s15, s16, s17, s18, s19, s20, s21, s22, s23, s24, s25, s26, s27, s28, s29, s30, s31, s32, s33, s34, s35, s36, s37, s38, s39, s40, s41, s42, s43, s44, s45, s46, s47, s48, s49, s50] H2
theorem f128_J1_eq (s0 : ByteArray) (s1 s2 s3 s4 s5 s6 s7 s8 s9 s10 s11 s12 s13 s14 s15 s16 s17 s18 s19 s20 s21 s22 s23 s24 s25 s26 s27 s28 s29 s30 s31 s32 s33 s34 s35 s36 s37 s38 s39 s40 s41 s42 s43 s44 s45 s46 s47 s48 s49 s50 : Value) (H : AH) (R : AEnd → AH → Prop) : f128_J1 R [(.string s0), s1, s2, s3, s4, s5, s6, s7, s8, s9, s10, s11, s12, s13, s14, s15, s16, s17, s18, s19, s20, s21, s22, s23, s24, s25, s26, s27, s28, s29, s30, s31, s32, s33, s34, s35, s36, s37, s38, s39, s40, s41, s42, s43, s44, s45, s46, s47, s48, s49, s50] H = f128_J1_B s0 s1 s2 s3 s4 s5 s6 s7 s8 s9 s10 s11 s12 s15 s16 s17 s18 s19 s20 s21 s22 s23 s24 s25 s26 s27 s28 s29 s30 s31 s32 s33 s34 s35 s36 s37 s38 s39 s40 s41 s42 s43 s44 s45 s46 s47 s48 s49 s50 H R := by kernel_rfl
-- join 0: live 0:s, 12:
def f128_J0_B (s0 : ByteArray) (s1 s2 s3 s4 s5 s6 s7 s8 s9 s10 s11 : Value) (s12 : Bool) (s13 s14 s15 s16 s17 s18 s19 s20 s21 s22 s23 s24 s25 s26 s27 s28 s29 s30 s31 s32 s33 s34 s35 s36 s37 s38 s39 s40 s41 s42 s43 s44 s45 s46 s47 s48 s49 s50 : Value) (H : AH) (R : AEnd → AH → Prop) : Prop :=
 wIf s12
 (R (.ret (.bool false)) H)
 (f128_J1 R [(.string s0), s1, s2, s3, s4, s5, s6, s7, s8, s9, s10, s11, (.bool false), s13, s14, s15, s16, s17, s18, s19, s20, s21, s22, s23, s24, s25, s26, s27, s28, s29, s30, s31, s32, s33, s34, s35, s36, s37, s38, s39, s40, s41, s42, s43, s44, s45, s46, s47, s48, s49, s50] H)
theorem f128_J0_eq (s0 : ByteArray) (s1 s2 s3 s4 s5 s6 s7 s8 s9 s10 s11 : Value) (s12 : Bool) (s13 s14 s15 s16 s17 s18 s19 s20 s21 s22 s23 s24 s25 s26 s27 s28 s29 s30 s31 s32 s33 s34 s35 s36 s37 s38 s39 s40 s41 s42 s43 s44 s45 s46 s47 s48 s49 s50 : Value) (H : AH) (R : AEnd → AH → Prop) : f128_J0 R [(.string s0), s1, s2, s3, s4, s5, s6, s7, s8, s9, s10, s11, (.bool s12), s13, s14, s15, s16, s17, s18, s19, s20, s21, s22, s23, s24, s25, s26, s27, s28, s29, s30, s31, s32, s33, s34, s35, s36, s37, s38, s39, s40, s41, s42, s43, s44, s45, s46, s47, s48, s49, s50] H = f128_J0_B s0 s1 s2 s3 s4 s5 s6 s7 s8 s9 s10 s11 s12 s13 s14 s15 s16 s17 s18 s19 s20 s21 s22 s23 s24 s25 s26 s27 s28 s29 s30 s31 s32 s33 s34 s35 s36 s37 s38 s39 s40 s41 s42 s43 s44 s45 s46 s47 s48 s49 s50 H R := by kernel_rfl
def f128_R0 (s0 s1 s2 s3 s4 s5 s6 s7 s8 s9 s10 s11 s12 s13 : Value) (s14 : Option Addr) (s15 s16 s17 s18 s19 s20 s21 s22 s23 s24 s25 s26 s27 s28 s29 s30 s31 s32 s33 s34 s35 s36 s37 s38 s39 s40 s41 s42 s43 s44 s45 s46 s47 s48 s49 s50 : Value) (H : AH) (K0 : List Value → AH → Prop) (R : AEnd → AH → Prop) : Prop :=
 wNx s14 H (fun p3 c4 H5 =>
 wIf (decide (c4 ≥ 97))
 (wIf (decide (c4 ≤ 122))
 (f128_J2 K0 R [s0, s1, s2, (.int .i64 p3), (.int .i32 c4), (.bool true), s6, s7, s8, s9, s10, s11, s12, s13, (.pointer s14), (.tuple #[(.bool true), (.int .i64 p3), (.int .i32 c4)]), (.bool true), (.int .i64 p3), (.int .i32 c4), (.int .i32 c4), (.bool (decide (c4 ≥ 97))), (.bool true), (.int .i32 c4), (.bool (decide (c4 ≤ 122))), (.bool (decide (c4 ≤ 122))), (.bool true), undef, undef, undef, undef, undef, undef, (.bool true), s33, s34, s35, s36, s37, s38, s39, s40, s41, s42, s43, s44, s45, s46, s47, s48, s49, s50] H5)
 (wIf (decide (c4 ≥ 65))
 (f128_J2 K0 R [s0, s1, s2, (.int .i64 p3), (.int .i32 c4), (.bool (decide (c4 ≤ 90))), s6, s7, s8, s9, s10, s11, s12, s13, (.pointer s14), (.tuple #[(.bool true), (.int .i64 p3), (.int .i32 c4)]), (.bool true), (.int .i64 p3), (.int .i32 c4), (.int .i32 c4), (.bool (decide (c4 ≥ 97))), (.bool true), (.int .i32 c4), (.bool (decide (c4 ≤ 122))), (.bool (decide (c4 ≤ 122))), (.bool false), (.int .i32 c4), (.bool (decide (c4 ≥ 65))), (.bool true), (.int .i32 c4), (.bool (decide (c4 ≤ 90))), (.bool (decide (c4 ≤ 90))), (.bool (decide (c4 ≤ 90))), s33, s34, s35, s36, s37, s38, s39, s40, s41, s42, s43, s44, s45, s46, s47, s48, s49, s50] H5)
 (f128_J2 K0 R [s0, s1, s2, (.int .i64 p3), (.int .i32 c4), (.bool false), s6, s7, s8, s9, s10, s11, s12, s13, (.pointer s14), (.tuple #[(.bool true), (.int .i64 p3), (.int .i32 c4)]), (.bool true), (.int .i64 p3), (.int .i32 c4), (.int .i32 c4), (.bool (decide (c4 ≥ 97))), (.bool true), (.int .i32 c4), (.bool (decide (c4 ≤ 122))), (.bool (decide (c4 ≤ 122))), (.bool false), (.int .i32 c4), (.bool (decide (c4 ≥ 65))), (.bool false), undef, undef, (.bool false), (.bool false), s33, s34, s35, s36, s37, s38, s39, s40, s41, s42, s43, s44, s45, s46, s47, s48, s49, s50] H5)))
 (wIf (decide (c4 ≥ 65))
 (f128_J2 K0 R [s0, s1, s2, (.int .i64 p3), (.int .i32 c4), (.bool (decide (c4 ≤ 90))), s6, s7, s8, s9, s10, s11, s12, s13, (.pointer s14), (.tuple #[(.bool true), (.int .i64 p3), (.int .i32 c4)]), (.bool true), (.int .i64 p3), (.int .i32 c4), (.int .i32 c4), (.bool (decide (c4 ≥ 97))), (.bool false), undef, undef, (.bool false), (.bool false), (.int .i32 c4), (.bool (decide (c4 ≥ 65))), (.bool true), (.int .i32 c4), (.bool (decide (c4 ≤ 90))), (.bool (decide (c4 ≤ 90))), (.bool (decide (c4 ≤ 90))), s33, s34, s35, s36, s37, s38, s39, s40, s41, s42, s43, s44, s45, s46, s47, s48, s49, s50] H5)
 (f128_J2 K0 R [s0, s1, s2, (.int .i64 p3), (.int .i32 c4), (.bool false), s6, s7, s8, s9, s10, s11, s12, s13, (.pointer s14), (.tuple #[(.bool true), (.int .i64 p3), (.int .i32 c4)]), (.bool true), (.int .i64 p3), (.int .i32 c4), (.int .i32 c4), (.bool (decide (c4 ≥ 97))), (.bool false), undef, undef, (.bool false), (.bool false), (.int .i32 c4), (.bool (decide (c4 ≥ 65))), (.bool false), undef, undef, (.bool false), (.bool false), s33, s34, s35, s36, s37, s38, s39, s40, s41, s42, s43, s44, s45, s46, s47, s48, s49, s50] H5)))
 (R (.ret (.bool true)) H)
theorem f128_R0_eq (s0 s1 s2 s3 s4 s5 s6 s7 s8 s9 s10 s11 s12 s13 : Value) (s14 : Option Addr) (s15 s16 s17 s18 s19 s20 s21 s22 s23 s24 s25 s26 s27 s28 s29 s30 s31 s32 s33 s34 s35 s36 s37 s38 s39 s40 s41 s42 s43 s44 s45 s46 s47 s48 s49 s50 : Value) (H : AH) (K0 : List Value → AH → Prop) (R : AEnd → AH → Prop) : awpF Try.prog (codeAt f128_c [1, 1, 0, 1, 0, 0]) (thenF K0 (f128_Q0 R)) [s0, s1, s2, s3, s4, s5, s6, s7, s8, s9, s10, s11, s12, s13, (.pointer s14), s15, s16, s17, s18, s19, s20, s21, s22, s23, s24, s25, s26, s27, s28, s29, s30, s31, s32, s33, s34, s35, s36, s37, s38, s39, s40, s41, s42, s43, s44, s45, s46, s47, s48, s49, s50] H = f128_R0 s0 s1 s2 s3 s4 s5 s6 s7 s8 s9 s10 s11 s12 s13 s14 s15 s16 s17 s18 s19 s20 s21 s22 s23 s24 s25 s26 s27 s28 s29 s30 s31 s32 s33 s34 s35 s36 s37 s38 s39 s40 s41 s42 s43 s44 s45 s46 s47 s48 s49 s50 H K0 R := by kernel_rfl
def f128_I0 (s0 s1 s6 s7 s8 s9 s10 s11 s12 s13 : Value) (s14 : Option Addr) (J : Nat → AH → Prop) (n : Nat) (tm : List Value) (H : AH) : Prop := ∃ (s2 s3 s4 s5 s15 s16 s17 s18 s19 s20 s21 s22 s23 s24 s25 s26 s27 s28 s29 s30 s31 s32 s33 s34 s35 s36 s37 s38 s39 s40 s41 s42 s43 s44 s45 s46 s47 s48 s49 s50 : Value), tm = [s0, s1, s2, s3, s4, s5, s6, s7, s8, s9, s10, s11, s12, s13, (.pointer s14), s15, s16, s17, s18, s19, s20, s21, s22, s23, s24, s25, s26, s27, s28, s29, s30, s31, s32, s33, s34, s35, s36, s37, s38, s39, s40, s41, s42, s43, s44, s45, s46, s47, s48, s49, s50] ∧ J n  H
theorem f128_I0_mk {s0 : Value} {s1 : Value} {s2 : Value} {s3 : Value} {s4 : Value} {s5 : Value} {s6 : Value} {s7 : Value} {s8 : Value} {s9 : Value} {s10 : Value} {s11 : Value} {s12 : Value} {s13 : Value} {s14 : Option Addr} {s15 : Value} {s16 : Value} {s17 : Value} {s18 : Value} {s19 : Value} {s20 : Value} {s21 : Value} {s22 : Value} {s23 : Value} {s24 : Value} {s25 : Value} {s26 : Value} {s27 : Value} {s28 : Value} {s29 : Value} {s30 : Value} {s31 : Value} {s32 : Value} {s33 : Value} {s34 : Value} {s35 : Value} {s36 : Value} {s37 : Value} {s38 : Value} {s39 : Value} {s40 : Value} {s41 : Value} {s42 : Value} {s43 : Value} {s44 : Value} {s45 : Value} {s46 : Value} {s47 : Value} {s48 : Value} {s49 : Value} {s50 : Value} {J : Nat → AH → Prop} {n : Nat} {H : AH} (h : J n  H) : f128_I0 s0 s1 s6 s7 s8 s9 s10 s11 s12 s13 s14 J n [s0, s1, s2, s3, s4, s5, s6, s7, s8, s9, s10, s11, s12, s13, (.pointer s14), s15, s16, s17, s18, s19, s20, s21, s22, s23, s24, s25, s26, s27, s28, s29, s30, s31, s32, s33, s34, s35, s36, s37, s38, s39, s40, s41, s42, s43, s44, s45, s46, s47, s48, s49, s50] H := ⟨_, _, _, _, _, _, _, _, _, _, _, _, _, _, _, _, _, _, _, _, _, _, _, _, _, _, _, _, _, _, _, _, _, _, _, _, _, _, _, _, rfl, h⟩
-- loop 0: carried 
theorem f128_L0_rule {s0 : Value} {s1 : Value} {s2 : Value} {s3 : Value} {s4 : Value} {s5 : Value} {s6 : Value} {s7 : Value} {s8 : Value} {s9 : Value} {s10 : Value} {s11 : Value} {s12 : Value} {s13 : Value} {s14 : Option Addr} {s15 : Value} {s16 : Value} {s17 : Value} {s18 : Value} {s19 : Value} {s20 : Value} {s21 : Value} {s22 : Value} {s23 : Value} {s24 : Value} {s25 : Value} {s26 : Value} {s27 : Value} {s28 : Value} {s29 : Value} {s30 : Value} {s31 : Value} {s32 : Value} {s33 : Value} {s34 : Value} {s35 : Value} {s36 : Value} {s37 : Value} {s38 : Value} {s39 : Value} {s40 : Value} {s41 : Value} {s42 : Value} {s43 : Value} {s44 : Value} {s45 : Value} {s46 : Value} {s47 : Value} {s48 : Value} {s49 : Value} {s50 : Value} {H : AH} {R : AEnd → AH → Prop} (J : Nat → AH → Prop) (n : Nat) (h0 : J n  H)
  (step : ∀ (n : Nat)  (H : AH), J n  H → ∀ (s2 s3 s4 s5 s15 s16 s17 s18 s19 s20 s21 s22 s23 s24 s25 s26 s27 s28 s29 s30 s31 s32 s33 s34 s35 s36 s37 s38 s39 s40 s41 s42 s43 s44 s45 s46 s47 s48 s49 s50 : Value), f128_R0 s0 s1 s2 s3 s4 s5 s6 s7 s8 s9 s10 s11 s12 s13 s14 s15 s16 s17 s18 s19 s20 s21 s22 s23 s24 s25 s26 s27 s28 s29 s30 s31 s32 s33 s34 s35 s36 s37 s38 s39 s40 s41 s42 s43 s44 s45 s46 s47 s48 s49 s50 H (fun tm H => ∃ m, m < n ∧ f128_I0 s0 s1 s6 s7 s8 s9 s10 s11 s12 s13 s14 J m tm H) R) : f128_L0 R [s0, s1, s2, s3, s4, s5, s6, s7, s8, s9, s10, s11, s12, s13, (.pointer s14), s15, s16, s17, s18, s19, s20, s21, s22, s23, s24, s25, s26, s27, s28, s29, s30, s31, s32, s33, s34, s35, s36, s37, s38, s39, s40, s41, s42, s43, s44, s45, s46, s47, s48, s49, s50] H :=
  awpF_loop (f128_I0 s0 s1 s6 s7 s8 s9 s10 s11 s12 s13 s14 J) n (f128_I0_mk h0) (by
    intro n tm H hh
    exact Exists.elim hh fun s2 hh => Exists.elim hh fun s3 hh => Exists.elim hh fun s4 hh => Exists.elim hh fun s5 hh => Exists.elim hh fun s15 hh => Exists.elim hh fun s16 hh => Exists.elim hh fun s17 hh => Exists.elim hh fun s18 hh => Exists.elim hh fun s19 hh => Exists.elim hh fun s20 hh => Exists.elim hh fun s21 hh => Exists.elim hh fun s22 hh => Exists.elim hh fun s23 hh => Exists.elim hh fun s24 hh => Exists.elim hh fun s25 hh => Exists.elim hh fun s26 hh => Exists.elim hh fun s27 hh => Exists.elim hh fun s28 hh => Exists.elim hh fun s29 hh => Exists.elim hh fun s30 hh => Exists.elim hh fun s31 hh => Exists.elim hh fun s32 hh => Exists.elim hh fun s33 hh => Exists.elim hh fun s34 hh => Exists.elim hh fun s35 hh => Exists.elim hh fun s36 hh => Exists.elim hh fun s37 hh => Exists.elim hh fun s38 hh => Exists.elim hh fun s39 hh => Exists.elim hh fun s40 hh => Exists.elim hh fun s41 hh => Exists.elim hh fun s42 hh => Exists.elim hh fun s43 hh => Exists.elim hh fun s44 hh => Exists.elim hh fun s45 hh => Exists.elim hh fun s46 hh => Exists.elim hh fun s47 hh => Exists.elim hh fun s48 hh => Exists.elim hh fun s49 hh => Exists.elim hh fun s50 hh => And.elim (fun e h =>
     (by subst e; exact Eq.mpr (f128_R0_eq s0 s1 s2 s3 s4 s5 s6 s7 s8 s9 s10 s11 s12 s13 s14 s15 s16 s17 s18 s19 s20 s21 s22 s23 s24 s25 s26 s27 s28 s29 s30 s31 s32 s33 s34 s35 s36 s37 s38 s39 s40 s41 s42 s43 s44 s45 s46 s47 s48 s49 s50 H _ R) (step n  H h s2 s3 s4 s5 s15 s16 s17 s18 s19 s20 s21 s22 s23 s24 s25 s26 s27 s28 s29 s30 s31 s32 s33 s34 s35 s36 s37 s38 s39 s40 s41 s42 s43 s44 s45 s46 s47 s48 s49 s50))) hh)
def f128_B (x0 : ByteArray) (H : AH) (R : AEnd → AH → Prop) : Prop :=
 wIf (decide (x0 = ({ data := #[] })))
 (f128_J0 R [(.string x0), undef, (.bool false), undef, undef, undef, (.string x0), (.bool (decide (x0 = ({ data := #[] })))), (.bool true), undef, undef, undef, (.bool true), undef, undef, undef, undef, undef, undef, undef, undef, undef, undef, undef, undef, undef, undef, undef, undef, undef, undef, undef, undef, undef, undef, undef, undef, undef, undef, undef, undef, undef, undef, undef, undef, undef, undef, undef, undef, undef, undef] H)
 (f128_J0 R [(.string x0), undef, (.bool false), undef, undef, undef, (.string x0), (.bool (decide (x0 = ({ data := #[] })))), (.bool false), (.string x0), (.int .i64 (x0.size : Int)), (.bool (decide ((x0.size : Int) > 24))), (.bool (decide ((x0.size : Int) > 24))), undef, undef, undef, undef, undef, undef, undef, undef, undef, undef, undef, undef, undef, undef, undef, undef, undef, undef, undef, undef, undef, undef, undef, undef, undef, undef, undef, undef, undef, undef, undef, undef, undef, undef, undef, undef, undef, undef] H)
theorem f128_eq (x0 : ByteArray) (H : AH) (R : AEnd → AH → Prop) : awpF Try.prog f128_c (aPost Try.prog Try.f128 R) (([(.string x0)] : List Value) ++ List.replicate (Try.f128.ntmps - (([(.string x0)] : List Value)).length) undef) H = f128_B x0 H R := by kernel_rfl
theorem f128_call (x0 : ByteArray) (H : AH) (R : AEnd → AH → Prop) (h : f128_B x0 H R) : ACall Try.prog 128 ([(.string x0)] : List Value) H R :=
  acall_of mixed Try.func128 (by kernel_rfl : Try.f128.body = some f128_c) (by kernel_rfl) (by kernel_rfl) (awp_of (Eq.mpr (f128_eq x0 H R) h))

end Go.Proofs.Ytfghglacfjncmaa
