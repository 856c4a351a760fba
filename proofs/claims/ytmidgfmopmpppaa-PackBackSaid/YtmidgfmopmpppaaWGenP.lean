/- Bodies of functions as nested rules: printed by genw.py, a program of this claim. -/
import Derived.Test.YtmidgfmopmpppaaWTy
namespace Go.Proofs.Ytmidgfmopmpppaa
open Go.RowKit
set_option linter.unusedVariables false
set_option maxRecDepth 100000

/-! f19: switchyard/switchyardlaw02.awake -/
noncomputable def f19_c : Code := Try.f19.body.getD .skip
def f19_B (H : AH) (R : AEnd → AH → Prop) : Prop :=
 wCall Try.prog 27 [(.string ({ data := #[128, 0] }))] H (fun r1 H2 =>
 opP r1 fun a5 =>
 wCall Try.prog 28 [(.pointer a5)] H2 (fun r6 H7 =>
 opI .u64 r6 fun n10 =>
 wCall Try.prog 20 [(.int .u64 300)] H7 (fun r11 H12 =>
 opS r11 fun t15 =>
 wIf (decide (t15 = ({ data := #[172, 2] })))
 (wCall Try.prog 21 [(.int .i64 (-1))] H12 (fun r16 H17 =>
 opS r16 fun t20 =>
 wIf (decide (t20 = ({ data := #[1] })))
 (wCall Try.prog 21 [(.int .i64 64)] H17 (fun r21 H22 =>
 opS r21 fun t25 =>
 wIf (decide (t25 = ({ data := #[128, 1] })))
 (wCall Try.prog 31 [(.pointer a5)] H22 (fun r26 H27 =>
 opI .i64 r26 fun n30 =>
 R (.ret (.bool (decide (n30 = 4)))) H27) (fun v29 H28 => R (.panic v29) H28))
 (R (.ret (.bool false)) H22)) (fun v24 H23 => R (.panic v24) H23))
 (R (.ret (.bool false)) H17)) (fun v19 H18 => R (.panic v19) H18))
 (R (.ret (.bool false)) H12)) (fun v14 H13 => R (.panic v14) H13)) (fun v9 H8 => R (.panic v9) H8)) (fun v4 H3 => R (.panic v4) H3)
theorem f19_eq (H : AH) (R : AEnd → AH → Prop) : awpF Try.prog f19_c (aPost Try.f19 R) (([] : List Value) ++ List.replicate (Try.f19.ntmps - (([] : List Value)).length) undef) H = f19_B H R := by kernel_rfl
theorem f19_call (H : AH) (R : AEnd → AH → Prop) (h : f19_B H R) : ACall Try.prog 19 ([] : List Value) H R :=
  acall_of mixed Try.func19 (by kernel_rfl : Try.f19.body = some f19_c) (by kernel_rfl) (by kernel_rfl) (awp_of (Eq.mpr (f19_eq H R) h))

/-! f20: switchyard/pack.Count -/
noncomputable def f20_c : Code := Try.f20.body.getD .skip
noncomputable def f20_Q0 (R : AEnd → AH → Prop) : AExit → List Value → AH → Prop := ctxF Try.prog f20_c [1, 1, 0, 0] (aPost Try.f20 R)
def f20_L0 (R : AEnd → AH → Prop) (tm : List Value) (H : AH) : Prop := awpF Try.prog (codeAt f20_c [1, 1, 0, 0]) (f20_Q0 R) tm H
def f20_J0 (R : AEnd → AH → Prop) (tm : List Value) (H : AH) : Prop := hold (awpF Try.prog (codeAt f20_c [1, 1, 1]) (ctxF Try.prog f20_c [1, 1, 1] (aPost Try.f20 R)) tm H)
-- join 0: live 0:n, 3:b
def f20_J0_B (s0 : Int) (s3b : Option Addr) (s3l : Nat) (s3c : Nat) (H : AH) (R : AEnd → AH → Prop) : Prop :=
 wBs [(.int .u8 (IntKind.u8.wrap s0))] 1 H fun i1 H2 =>
 wAppL 1 1 s3b s3l s3c (some ⟨i1, 0, none⟩) 1 0 H2 fun z3b z3l z3c H4 =>
 wB2S z3b z3l z3c H4 fun t5 =>
 R (.ret (.string t5)) H4
theorem f20_J0_eq (s0 : Int) (s1 : Value) (s2 : Value) (s3b : Option Addr) (s3l : Nat) (s3c : Nat) (s4 : Value) (s5 : Value) (s6 : Value) (s7 : Value) (s8 : Value) (s9 : Value) (s10 : Value) (s11 : Value) (s12 : Value) (s13 : Value) (s14 : Value) (s15 : Value) (s16 : Value) (s17 : Value) (s18 : Value) (s19 : Value) (H : AH) (R : AEnd → AH → Prop) : f20_J0 R [(.int .u64 s0), s1, s2, (.slice s3b s3l s3c), s4, s5, s6, s7, s8, s9, s10, s11, s12, s13, s14, s15, s16, s17, s18, s19] H = f20_J0_B s0 s3b s3l s3c H R := by kernel_rfl
def f20_R0 (s0 : Int) (s1 : Value) (s2 : Value) (s3b : Option Addr) (s3l : Nat) (s3c : Nat) (s4 : Value) (s5 : Value) (s6 : Value) (s7 : Value) (s8 : Value) (s9 : Value) (s10 : Value) (s11 : Value) (s12 : Value) (s13 : Value) (s14 : Value) (s15 : Value) (s16 : Value) (s17 : Value) (s18 : Value) (s19 : Value) (H : AH) (K0 : List Value → AH → Prop) (R : AEnd → AH → Prop) : Prop :=
 wIf (decide (s0 ≥ 128))
 (wBs [(.int .u8 (IntKind.u8.wrap ((BitVec.ofInt IntKind.u8.bits (IntKind.u8.wrap s0)) ||| (BitVec.ofInt IntKind.u8.bits 128)).toNat))] 1 H fun i6 H7 =>
 wAppL 1 1 s3b s3l s3c (some ⟨i6, 0, none⟩) 1 0 H7 fun z8b z8l z8c H9 =>
 K0 [(.int .u64 (Int.fdiv s0 (2 ^ (min (Int.toNat 7) IntKind.u64.bits)))), s1, s2, (.slice z8b z8l z8c), (.int .u64 s0), (.bool true), (.int .u64 s0), (.int .u64 (Int.fdiv s0 (2 ^ (min (Int.toNat 7) IntKind.u64.bits)))), (.slice s3b s3l s3c), (.int .u64 s0), (.int .u8 (IntKind.u8.wrap s0)), (.int .u8 (IntKind.u8.wrap ((BitVec.ofInt IntKind.u8.bits (IntKind.u8.wrap s0)) ||| (BitVec.ofInt IntKind.u8.bits 128)).toNat)), (.slice (some ⟨i6, 0, none⟩) 1 0), (.slice z8b z8l z8c), s14, s15, s16, s17, s18, s19] H9)
 (f20_J0 R [(.int .u64 s0), s1, s2, (.slice s3b s3l s3c), (.int .u64 s0), (.bool false), s6, s7, s8, s9, s10, s11, s12, s13, s14, s15, s16, s17, s18, s19] H)
theorem f20_R0_eq (s0 : Int) (s1 : Value) (s2 : Value) (s3b : Option Addr) (s3l : Nat) (s3c : Nat) (s4 : Value) (s5 : Value) (s6 : Value) (s7 : Value) (s8 : Value) (s9 : Value) (s10 : Value) (s11 : Value) (s12 : Value) (s13 : Value) (s14 : Value) (s15 : Value) (s16 : Value) (s17 : Value) (s18 : Value) (s19 : Value) (H : AH) (K0 : List Value → AH → Prop) (R : AEnd → AH → Prop) : awpF Try.prog (codeAt f20_c [1, 1, 0, 0, 0]) (thenF K0 (f20_Q0 R)) [(.int .u64 s0), s1, s2, (.slice s3b s3l s3c), s4, s5, s6, s7, s8, s9, s10, s11, s12, s13, s14, s15, s16, s17, s18, s19] H = f20_R0 s0 s1 s2 s3b s3l s3c s4 s5 s6 s7 s8 s9 s10 s11 s12 s13 s14 s15 s16 s17 s18 s19 H K0 R := by kernel_rfl
def f20_I0 (s1 : Value) (s2 : Value) (s14 : Value) (s15 : Value) (s16 : Value) (s17 : Value) (s18 : Value) (s19 : Value) (J : Nat → Int → Option Addr → Nat → Nat → AH → Prop) (n : Nat) (tm : List Value) (H : AH) : Prop := ∃ (s0 : Int) (s3b : Option Addr) (s3l : Nat) (s3c : Nat) (s4 : Value) (s5 : Value) (s6 : Value) (s7 : Value) (s8 : Value) (s9 : Value) (s10 : Value) (s11 : Value) (s12 : Value) (s13 : Value), tm = [(.int .u64 s0), s1, s2, (.slice s3b s3l s3c), s4, s5, s6, s7, s8, s9, s10, s11, s12, s13, s14, s15, s16, s17, s18, s19] ∧ J n s0 s3b s3l s3c H
theorem f20_I0_mk {s0 : Int} {s1 : Value} {s2 : Value} {s3b : Option Addr} {s3l : Nat} {s3c : Nat} {s4 : Value} {s5 : Value} {s6 : Value} {s7 : Value} {s8 : Value} {s9 : Value} {s10 : Value} {s11 : Value} {s12 : Value} {s13 : Value} {s14 : Value} {s15 : Value} {s16 : Value} {s17 : Value} {s18 : Value} {s19 : Value} {J : Nat → Int → Option Addr → Nat → Nat → AH → Prop} {n : Nat} {H : AH} (h : J n s0 s3b s3l s3c H) : f20_I0 s1 s2 s14 s15 s16 s17 s18 s19 J n [(.int .u64 s0), s1, s2, (.slice s3b s3l s3c), s4, s5, s6, s7, s8, s9, s10, s11, s12, s13, s14, s15, s16, s17, s18, s19] H := ⟨_, _, _, _, _, _, _, _, _, _, _, _, _, _, rfl, h⟩
-- loop 0: carried 0:n, 3:b
theorem f20_L0_rule {s0 : Int} {s1 : Value} {s2 : Value} {s3b : Option Addr} {s3l : Nat} {s3c : Nat} {s4 : Value} {s5 : Value} {s6 : Value} {s7 : Value} {s8 : Value} {s9 : Value} {s10 : Value} {s11 : Value} {s12 : Value} {s13 : Value} {s14 : Value} {s15 : Value} {s16 : Value} {s17 : Value} {s18 : Value} {s19 : Value} {H : AH} {R : AEnd → AH → Prop} (J : Nat → Int → Option Addr → Nat → Nat → AH → Prop) (n : Nat) (h0 : J n s0 s3b s3l s3c H)
  (step : ∀ (n : Nat) (s0 : Int) (s3b : Option Addr) (s3l : Nat) (s3c : Nat) (H : AH), J n s0 s3b s3l s3c H → ∀ (s4 : Value) (s5 : Value) (s6 : Value) (s7 : Value) (s8 : Value) (s9 : Value) (s10 : Value) (s11 : Value) (s12 : Value) (s13 : Value), f20_R0 s0 s1 s2 s3b s3l s3c s4 s5 s6 s7 s8 s9 s10 s11 s12 s13 s14 s15 s16 s17 s18 s19 H (fun tm H => ∃ m, m < n ∧ f20_I0 s1 s2 s14 s15 s16 s17 s18 s19 J m tm H) R) : f20_L0 R [(.int .u64 s0), s1, s2, (.slice s3b s3l s3c), s4, s5, s6, s7, s8, s9, s10, s11, s12, s13, s14, s15, s16, s17, s18, s19] H :=
  awpF_loop (f20_I0 s1 s2 s14 s15 s16 s17 s18 s19 J) n (f20_I0_mk h0) (by
    rintro n tm H ⟨s0, s3b, s3l, s3c, s4, s5, s6, s7, s8, s9, s10, s11, s12, s13, rfl, h⟩
    exact Eq.mpr (f20_R0_eq s0 s1 s2 s3b s3l s3c s4 s5 s6 s7 s8 s9 s10 s11 s12 s13 s14 s15 s16 s17 s18 s19 H _ R) (step n s0 s3b s3l s3c H h s4 s5 s6 s7 s8 s9 s10 s11 s12 s13))
def f20_B (x0 : Int) (H : AH) (R : AEnd → AH → Prop) : Prop :=
 f20_L0 R [(.int .u64 x0), undef, (.string ({ data := #[] })), (.slice none 0 0), undef, undef, undef, undef, undef, undef, undef, undef, undef, undef, undef, undef, undef, undef, undef, undef] H
theorem f20_eq (x0 : Int) (H : AH) (R : AEnd → AH → Prop) : awpF Try.prog f20_c (aPost Try.f20 R) (([(.int .u64 x0)] : List Value) ++ List.replicate (Try.f20.ntmps - (([(.int .u64 x0)] : List Value)).length) undef) H = f20_B x0 H R := by kernel_rfl
theorem f20_call (x0 : Int) (H : AH) (R : AEnd → AH → Prop) (h : f20_B x0 H R) : ACall Try.prog 20 ([(.int .u64 x0)] : List Value) H R :=
  acall_of mixed Try.func20 (by kernel_rfl : Try.f20.body = some f20_c) (by kernel_rfl) (by kernel_rfl) (awp_of (Eq.mpr (f20_eq x0 H R) h))

/-! f21: switchyard/pack.Number -/
noncomputable def f21_c : Code := Try.f21.body.getD .skip
def f21_B (x0 : Int) (H : AH) (R : AEnd → AH → Prop) : Prop :=
 wCall Try.prog 20 [(.int .u64 (IntKind.u64.wrap ((BitVec.ofInt IntKind.u64.bits (IntKind.u64.wrap ((IntKind.u64.wrap x0) * (2 ^ (min (Int.toNat 1) IntKind.u64.bits))))) ^^^ (BitVec.ofInt IntKind.u64.bits (IntKind.u64.wrap (Int.fdiv x0 (2 ^ (min (Int.toNat 63) IntKind.i64.bits)))))).toNat))] H (fun r1 H2 =>
 opS r1 fun t5 =>
 R (.ret (.string t5)) H2) (fun v4 H3 => R (.panic v4) H3)
theorem f21_eq (x0 : Int) (H : AH) (R : AEnd → AH → Prop) : awpF Try.prog f21_c (aPost Try.f21 R) (([(.int .i64 x0)] : List Value) ++ List.replicate (Try.f21.ntmps - (([(.int .i64 x0)] : List Value)).length) undef) H = f21_B x0 H R := by kernel_rfl
theorem f21_call (x0 : Int) (H : AH) (R : AEnd → AH → Prop) (h : f21_B x0 H R) : ACall Try.prog 21 ([(.int .i64 x0)] : List Value) H R :=
  acall_of mixed Try.func21 (by kernel_rfl : Try.f21.body = some f21_c) (by kernel_rfl) (by kernel_rfl) (awp_of (Eq.mpr (f21_eq x0 H R) h))

/-! f24: switchyard/pack.Text -/
noncomputable def f24_c : Code := Try.f24.body.getD .skip
def f24_B (x0 : ByteArray) (H : AH) (R : AEnd → AH → Prop) : Prop :=
 wCall Try.prog 20 [(.int .u64 (IntKind.u64.wrap (x0.size : Int)))] H (fun r1 H2 =>
 opS r1 fun t5 =>
 wCat t5 x0 fun t6 =>
 R (.ret (.string t6)) H2) (fun v4 H3 => R (.panic v4) H3)
theorem f24_eq (x0 : ByteArray) (H : AH) (R : AEnd → AH → Prop) : awpF Try.prog f24_c (aPost Try.f24 R) (([(.string x0)] : List Value) ++ List.replicate (Try.f24.ntmps - (([(.string x0)] : List Value)).length) undef) H = f24_B x0 H R := by kernel_rfl
theorem f24_call (x0 : ByteArray) (H : AH) (R : AEnd → AH → Prop) (h : f24_B x0 H R) : ACall Try.prog 24 ([(.string x0)] : List Value) H R :=
  acall_of mixed Try.func24 (by kernel_rfl : Try.f24.body = some f24_c) (by kernel_rfl) (by kernel_rfl) (awp_of (Eq.mpr (f24_eq x0 H R) h))

/-! f26: switchyard/pack.Truth -/
noncomputable def f26_c : Code := Try.f26.body.getD .skip
def f26_B (x0 : Bool) (H : AH) (R : AEnd → AH → Prop) : Prop :=
 wIf x0
 (R (.ret (.string ({ data := #[1] }))) H)
 (R (.ret (.string ({ data := #[0] }))) H)
theorem f26_eq (x0 : Bool) (H : AH) (R : AEnd → AH → Prop) : awpF Try.prog f26_c (aPost Try.f26 R) (([(.bool x0)] : List Value) ++ List.replicate (Try.f26.ntmps - (([(.bool x0)] : List Value)).length) undef) H = f26_B x0 H R := by kernel_rfl
theorem f26_call (x0 : Bool) (H : AH) (R : AEnd → AH → Prop) (h : f26_B x0 H R) : ACall Try.prog 26 ([(.bool x0)] : List Value) H R :=
  acall_of mixed Try.func26 (by kernel_rfl : Try.f26.body = some f26_c) (by kernel_rfl) (by kernel_rfl) (awp_of (Eq.mpr (f26_eq x0 H R) h))

/-! f27: switchyard/pack.New -/
noncomputable def f27_c : Code := Try.f27.body.getD .skip
def f27_B (x0 : ByteArray) (H : AH) (R : AEnd → AH → Prop) : Prop :=
 wNew [(.string x0), (.int .i64 0)] H fun i1 H2 =>
 R (.ret (.pointer (some ⟨i1, 0, none⟩))) H2
theorem f27_eq (x0 : ByteArray) (H : AH) (R : AEnd → AH → Prop) : awpF Try.prog f27_c (aPost Try.f27 R) (([(.string x0)] : List Value) ++ List.replicate (Try.f27.ntmps - (([(.string x0)] : List Value)).length) undef) H = f27_B x0 H R := by kernel_rfl
theorem f27_call (x0 : ByteArray) (H : AH) (R : AEnd → AH → Prop) (h : f27_B x0 H R) : ACall Try.prog 27 ([(.string x0)] : List Value) H R :=
  acall_of mixed Try.func27 (by kernel_rfl : Try.f27.body = some f27_c) (by kernel_rfl) (by kernel_rfl) (awp_of (Eq.mpr (f27_eq x0 H R) h))

/-! f28: (*switchyard/pack.Reader).Count -/
noncomputable def f28_c : Code := Try.f28.body.getD .skip
def f28_B (x0 : Option Addr) (H : AH) (R : AEnd → AH → Prop) : Prop :=
 wCall Try.prog 41 [(.pointer x0)] H (fun r1 H2 =>
 opB r1 fun b5 =>
 wIf b5
 (R (.ret (.int .u64 0)) H2)
 (wCall Try.prog 42 [(.pointer x0)] H2 (fun r6 H7 =>
 opT 3 r6 fun l10 =>
 opI .u64 (l10.headD undef) fun n11 =>
 opI .i64 (l10.tail.headD undef) fun n12 =>
 opI .i64 (l10.tail.tail.headD undef) fun n13 =>
 wIf (!decide (n13 = 0))
 (wCall Try.prog 43 [(.pointer x0), (.int .i64 n13)] H7 (fun r14 H15 =>
 R (.ret (.int .u64 0)) H15) (fun v17 H16 => R (.panic v17) H16))
 (wPt x0 fun i18 k19 =>
 ldS i18 k19 H7 fun t20 =>
 wSlS t20 n12 t20.size fun t21 =>
 wPt x0 fun i22 k23 =>
 wSt i22 k23 [(.string t21)] H7 fun H24 =>
 R (.ret (.int .u64 n11)) H24)) (fun v9 H8 => R (.panic v9) H8))) (fun v4 H3 => R (.panic v4) H3)
theorem f28_eq (x0 : Option Addr) (H : AH) (R : AEnd → AH → Prop) : awpF Try.prog f28_c (aPost Try.f28 R) (([(.pointer x0)] : List Value) ++ List.replicate (Try.f28.ntmps - (([(.pointer x0)] : List Value)).length) undef) H = f28_B x0 H R := by kernel_rfl
theorem f28_call (x0 : Option Addr) (H : AH) (R : AEnd → AH → Prop) (h : f28_B x0 H R) : ACall Try.prog 28 ([(.pointer x0)] : List Value) H R :=
  acall_of mixed Try.func28 (by kernel_rfl : Try.f28.body = some f28_c) (by kernel_rfl) (by kernel_rfl) (awp_of (Eq.mpr (f28_eq x0 H R) h))

/-! f29: (*switchyard/pack.Reader).Number -/
noncomputable def f29_c : Code := Try.f29.body.getD .skip
def f29_B (x0 : Option Addr) (H : AH) (R : AEnd → AH → Prop) : Prop :=
 wCall Try.prog 28 [(.pointer x0)] H (fun r1 H2 =>
 opI .u64 r1 fun n5 =>
 R (.ret (.int .i64 (IntKind.i64.wrap ((BitVec.ofInt IntKind.i64.bits (IntKind.i64.wrap (Int.fdiv n5 (2 ^ (min (Int.toNat 1) IntKind.u64.bits))))) ^^^ (BitVec.ofInt IntKind.i64.bits (IntKind.i64.wrap (0 - (IntKind.i64.wrap (IntKind.u64.wrap ((BitVec.ofInt IntKind.u64.bits n5) &&& (BitVec.ofInt IntKind.u64.bits 1)).toNat)))))).toNat))) H2) (fun v4 H3 => R (.panic v4) H3)
theorem f29_eq (x0 : Option Addr) (H : AH) (R : AEnd → AH → Prop) : awpF Try.prog f29_c (aPost Try.f29 R) (([(.pointer x0)] : List Value) ++ List.replicate (Try.f29.ntmps - (([(.pointer x0)] : List Value)).length) undef) H = f29_B x0 H R := by kernel_rfl
theorem f29_call (x0 : Option Addr) (H : AH) (R : AEnd → AH → Prop) (h : f29_B x0 H R) : ACall Try.prog 29 ([(.pointer x0)] : List Value) H R :=
  acall_of mixed Try.func29 (by kernel_rfl : Try.f29.body = some f29_c) (by kernel_rfl) (by kernel_rfl) (awp_of (Eq.mpr (f29_eq x0 H R) h))

/-! f30: (*switchyard/pack.Reader).Text -/
noncomputable def f30_c : Code := Try.f30.body.getD .skip
def f30_J0 (R : AEnd → AH → Prop) (tm : List Value) (H : AH) : Prop := hold (awpF Try.prog (codeAt f30_c [1, 1, 1, 0, 0, 1, 1, 1]) (ctxF Try.prog f30_c [1, 1, 1, 0, 0, 1, 1, 1] (aPost Try.f30 R)) tm H)
def f30_J1 (R : AEnd → AH → Prop) (tm : List Value) (H : AH) : Prop := hold (awpF Try.prog (codeAt f30_c [1, 1, 1, 1]) (ctxF Try.prog f30_c [1, 1, 1, 1] (aPost Try.f30 R)) tm H)
-- join 1: live 0:G, 5:d, 6:e, 7:.
def f30_J1_B (s0 : Option Addr) (s5 : Int) (s6 : Int) (s7 : Int) (H : AH) (R : AEnd → AH → Prop) : Prop :=
 wIf (!decide (s7 = 0))
 (wCall Try.prog 43 [(.pointer s0), (.int .i64 s7)] H (fun r1 H2 =>
 R (.ret (.string ({ data := #[] }))) H2) (fun v4 H3 => R (.panic v4) H3))
 (wPt s0 fun i5 k6 =>
 ldS i5 k6 H fun t7 =>
 wSlS t7 s6 (IntKind.i64.wrap (s6 + (IntKind.i64.wrap s5))) fun t8 =>
 wPt s0 fun i9 k10 =>
 ldS i9 k10 H fun t11 =>
 wSlS t11 (IntKind.i64.wrap (s6 + (IntKind.i64.wrap s5))) t11.size fun t12 =>
 wPt s0 fun i13 k14 =>
 wSt i13 k14 [(.string t12)] H fun H15 =>
 R (.ret (.string t8)) H15)
theorem f30_J1_eq (s0 : Option Addr) (s1 : Value) (s2 : Value) (s3 : Value) (s4 : Value) (s5 : Int) (s6 : Int) (s7 : Int) (s8 : Value) (s9 : Value) (s10 : Value) (s11 : Value) (s12 : Value) (s13 : Value) (s14 : Value) (s15 : Value) (s16 : Value) (s17 : Value) (s18 : Value) (s19 : Value) (s20 : Value) (s21 : Value) (s22 : Value) (s23 : Value) (s24 : Value) (s25 : Value) (s26 : Value) (s27 : Value) (s28 : Value) (s29 : Value) (s30 : Value) (s31 : Value) (s32 : Value) (s33 : Value) (s34 : Value) (s35 : Value) (s36 : Value) (s37 : Value) (s38 : Value) (s39 : Value) (s40 : Value) (s41 : Value) (s42 : Value) (s43 : Value) (s44 : Value) (s45 : Value) (s46 : Value) (s47 : Value) (s48 : Value) (s49 : Value) (s50 : Value) (s51 : Value) (s52 : Value) (s53 : Value) (s54 : Value) (s55 : Value) (s56 : Value) (s57 : Value) (s58 : Value) (s59 : Value) (s60 : Value) (s61 : Value) (s62 : Value) (s63 : Value) (s64 : Value) (s65 : Value) (s66 : Value) (s67 : Value) (H : AH) (R : AEnd → AH → Prop) : f30_J1 R [(.pointer s0), s1, s2, s3, s4, (.int .u64 s5), (.int .i64 s6), (.int .i64 s7), s8, s9, s10, s11, s12, s13, s14, s15, s16, s17, s18, s19, s20, s21, s22, s23, s24, s25, s26, s27, s28, s29, s30, s31, s32, s33, s34, s35, s36, s37, s38, s39, s40, s41, s42, s43, s44, s45, s46, s47, s48, s49, s50, s51, s52, s53, s54, s55, s56, s57, s58, s59, s60, s61, s62, s63, s64, s65, s66, s67] H = f30_J1_B s0 s5 s6 s7 H R := by kernel_rfl
-- join 0: live 0:G, 5:d, 6:e, 7:., 20:?
def f30_J0_B (s0 : Option Addr) (s1 : Value) (s2 : Value) (s3 : Value) (s4 : Value) (s5 : Int) (s6 : Int) (s7 : Int) (s8 : Value) (s9 : Value) (s10 : Value) (s11 : Value) (s12 : Value) (s13 : Value) (s14 : Value) (s15 : Value) (s16 : Value) (s17 : Value) (s18 : Value) (s19 : Value) (s20 : Bool) (s21 : Value) (s22 : Value) (s23 : Value) (s24 : Value) (s25 : Value) (s26 : Value) (s27 : Value) (s28 : Value) (s29 : Value) (s30 : Value) (s31 : Value) (s32 : Value) (s33 : Value) (s34 : Value) (s35 : Value) (s36 : Value) (s37 : Value) (s38 : Value) (s39 : Value) (s40 : Value) (s41 : Value) (s42 : Value) (s43 : Value) (s44 : Value) (s45 : Value) (s46 : Value) (s47 : Value) (s48 : Value) (s49 : Value) (s50 : Value) (s51 : Value) (s52 : Value) (s53 : Value) (s54 : Value) (s55 : Value) (s56 : Value) (s57 : Value) (s58 : Value) (s59 : Value) (s60 : Value) (s61 : Value) (s62 : Value) (s63 : Value) (s64 : Value) (s65 : Value) (s66 : Value) (s67 : Value) (H : AH) (R : AEnd → AH → Prop) : Prop :=
 wIf s20
 (f30_J1 R [(.pointer s0), s1, s2, s3, s4, (.int .u64 s5), (.int .i64 s6), (.int .i64 5), s8, s9, s10, s11, s12, s13, s14, s15, s16, s17, s18, s19, (.bool true), s21, s22, s23, s24, s25, s26, s27, s28, s29, s30, s31, s32, s33, s34, s35, s36, s37, s38, s39, s40, s41, s42, s43, s44, s45, s46, s47, s48, s49, s50, s51, s52, s53, s54, s55, s56, s57, s58, s59, s60, s61, s62, s63, s64, s65, s66, s67] H)
 (wPt s0 fun i16 k17 =>
 ldS i16 k17 H fun t18 =>
 wIf (decide (s5 > (IntKind.u64.wrap (IntKind.i64.wrap ((t18.size : Int) - s6)))))
 (f30_J1 R [(.pointer s0), s1, s2, s3, s4, (.int .u64 s5), (.int .i64 s6), (.int .i64 3), s8, s9, s10, s11, s12, s13, s14, s15, s16, s17, s18, s19, (.bool false), s21, s22, s23, s24, s25, s26, s27, s28, (.bool true), (.int .u64 s5), (.pointer s0), (.pointer (some ⟨i16, k17, none⟩)), (.pointer (some ⟨i16, k17, none⟩)), (.string t18), (.int .i64 (t18.size : Int)), (.int .i64 s6), (.int .i64 (IntKind.i64.wrap ((t18.size : Int) - s6))), (.int .u64 (IntKind.u64.wrap (IntKind.i64.wrap ((t18.size : Int) - s6)))), (.bool (decide (s5 > (IntKind.u64.wrap (IntKind.i64.wrap ((t18.size : Int) - s6)))))), s40, s41, s42, s43, s44, s45, s46, s47, s48, s49, s50, s51, s52, s53, s54, s55, s56, s57, s58, s59, s60, s61, s62, s63, s64, s65, s66, s67] H)
 (f30_J1 R [(.pointer s0), s1, s2, s3, s4, (.int .u64 s5), (.int .i64 s6), (.int .i64 s7), s8, s9, s10, s11, s12, s13, s14, s15, s16, s17, s18, s19, (.bool false), s21, s22, s23, s24, s25, s26, s27, s28, (.bool false), (.int .u64 s5), (.pointer s0), (.pointer (some ⟨i16, k17, none⟩)), (.pointer (some ⟨i16, k17, none⟩)), (.string t18), (.int .i64 (t18.size : Int)), (.int .i64 s6), (.int .i64 (IntKind.i64.wrap ((t18.size : Int) - s6))), (.int .u64 (IntKind.u64.wrap (IntKind.i64.wrap ((t18.size : Int) - s6)))), (.bool (decide (s5 > (IntKind.u64.wrap (IntKind.i64.wrap ((t18.size : Int) - s6)))))), s40, s41, s42, s43, s44, s45, s46, s47, s48, s49, s50, s51, s52, s53, s54, s55, s56, s57, s58, s59, s60, s61, s62, s63, s64, s65, s66, s67] H))
theorem f30_J0_eq (s0 : Option Addr) (s1 : Value) (s2 : Value) (s3 : Value) (s4 : Value) (s5 : Int) (s6 : Int) (s7 : Int) (s8 : Value) (s9 : Value) (s10 : Value) (s11 : Value) (s12 : Value) (s13 : Value) (s14 : Value) (s15 : Value) (s16 : Value) (s17 : Value) (s18 : Value) (s19 : Value) (s20 : Bool) (s21 : Value) (s22 : Value) (s23 : Value) (s24 : Value) (s25 : Value) (s26 : Value) (s27 : Value) (s28 : Value) (s29 : Value) (s30 : Value) (s31 : Value) (s32 : Value) (s33 : Value) (s34 : Value) (s35 : Value) (s36 : Value) (s37 : Value) (s38 : Value) (s39 : Value) (s40 : Value) (s41 : Value) (s42 : Value) (s43 : Value) (s44 : Value) (s45 : Value) (s46 : Value) (s47 : Value) (s48 : Value) (s49 : Value) (s50 : Value) (s51 : Value) (s52 : Value) (s53 : Value) (s54 : Value) (s55 : Value) (s56 : Value) (s57 : Value) (s58 : Value) (s59 : Value) (s60 : Value) (s61 : Value) (s62 : Value) (s63 : Value) (s64 : Value) (s65 : Value) (s66 : Value) (s67 : Value) (H : AH) (R : AEnd → AH → Prop) : f30_J0 R [(.pointer s0), s1, s2, s3, s4, (.int .u64 s5), (.int .i64 s6), (.int .i64 s7), s8, s9, s10, s11, s12, s13, s14, s15, s16, s17, s18, s19, (.bool s20), s21, s22, s23, s24, s25, s26, s27, s28, s29, s30, s31, s32, s33, s34, s35, s36, s37, s38, s39, s40, s41, s42, s43, s44, s45, s46, s47, s48, s49, s50, s51, s52, s53, s54, s55, s56, s57, s58, s59, s60, s61, s62, s63, s64, s65, s66, s67] H = f30_J0_B s0 s1 s2 s3 s4 s5 s6 s7 s8 s9 s10 s11 s12 s13 s14 s15 s16 s17 s18 s19 s20 s21 s22 s23 s24 s25 s26 s27 s28 s29 s30 s31 s32 s33 s34 s35 s36 s37 s38 s39 s40 s41 s42 s43 s44 s45 s46 s47 s48 s49 s50 s51 s52 s53 s54 s55 s56 s57 s58 s59 s60 s61 s62 s63 s64 s65 s66 s67 H R := by kernel_rfl
def f30_B (x0 : Option Addr) (x1 : Int) (H : AH) (R : AEnd → AH → Prop) : Prop :=
 wCall Try.prog 41 [(.pointer x0)] H (fun r19 H20 =>
 opB r19 fun b23 =>
 wIf b23
 (R (.ret (.string ({ data := #[] }))) H20)
 (wCall Try.prog 42 [(.pointer x0)] H20 (fun r24 H25 =>
 opT 3 r24 fun l28 =>
 opI .u64 (l28.headD undef) fun n29 =>
 opI .i64 (l28.tail.headD undef) fun n30 =>
 opI .i64 (l28.tail.tail.headD undef) fun n31 =>
 wIf (!decide (n31 = 0))
 (f30_J1 R [(.pointer x0), (.int .i64 x1), undef, undef, (.string ({ data := #[] })), (.int .u64 n29), (.int .i64 n30), (.int .i64 n31), undef, (.pointer x0), (.bool false), (.tuple #[(.int .u64 n29), (.int .i64 n30), (.int .i64 n31)]), (.pointer x0), (.tuple #[(.int .u64 n29), (.int .i64 n30), (.int .i64 n31)]), (.int .u64 n29), (.int .i64 n30), (.int .i64 n31), (.bool true), (.int .i64 n31), (.bool (!decide (n31 = 0))), undef, undef, undef, undef, undef, undef, undef, undef, undef, undef, undef, undef, undef, undef, undef, undef, undef, undef, undef, undef, undef, undef, undef, undef, undef, undef, undef, undef, undef, undef, undef, undef, undef, undef, undef, undef, undef, undef, undef, undef, undef, undef, undef, undef, undef, undef, undef, undef] H25)
 (wIf (decide (x1 < 0))
 (f30_J0 R [(.pointer x0), (.int .i64 x1), undef, undef, (.string ({ data := #[] })), (.int .u64 n29), (.int .i64 n30), (.int .i64 n31), undef, (.pointer x0), (.bool false), (.tuple #[(.int .u64 n29), (.int .i64 n30), (.int .i64 n31)]), (.pointer x0), (.tuple #[(.int .u64 n29), (.int .i64 n30), (.int .i64 n31)]), (.int .u64 n29), (.int .i64 n30), (.int .i64 n31), (.bool false), (.int .i64 n31), (.bool (!decide (n31 = 0))), (.bool true), (.int .i64 x1), (.bool (decide (x1 < 0))), (.bool true), undef, undef, undef, undef, (.bool true), undef, undef, undef, undef, undef, undef, undef, undef, undef, undef, undef, undef, undef, undef, undef, undef, undef, undef, undef, undef, undef, undef, undef, undef, undef, undef, undef, undef, undef, undef, undef, undef, undef, undef, undef, undef, undef, undef, undef] H25)
 (f30_J0 R [(.pointer x0), (.int .i64 x1), undef, undef, (.string ({ data := #[] })), (.int .u64 n29), (.int .i64 n30), (.int .i64 n31), undef, (.pointer x0), (.bool false), (.tuple #[(.int .u64 n29), (.int .i64 n30), (.int .i64 n31)]), (.pointer x0), (.tuple #[(.int .u64 n29), (.int .i64 n30), (.int .i64 n31)]), (.int .u64 n29), (.int .i64 n30), (.int .i64 n31), (.bool false), (.int .i64 n31), (.bool (!decide (n31 = 0))), (.bool (decide (n29 > (IntKind.u64.wrap x1)))), (.int .i64 x1), (.bool (decide (x1 < 0))), (.bool false), (.int .u64 n29), (.int .i64 x1), (.int .u64 (IntKind.u64.wrap x1)), (.bool (decide (n29 > (IntKind.u64.wrap x1)))), (.bool (decide (n29 > (IntKind.u64.wrap x1)))), undef, undef, undef, undef, undef, undef, undef, undef, undef, undef, undef, undef, undef, undef, undef, undef, undef, undef, undef, undef, undef, undef, undef, undef, undef, undef, undef, undef, undef, undef, undef, undef, undef, undef, undef, undef, undef, undef, undef] H25))) (fun v27 H26 => R (.panic v27) H26))) (fun v22 H21 => R (.panic v22) H21)
theorem f30_eq (x0 : Option Addr) (x1 : Int) (H : AH) (R : AEnd → AH → Prop) : awpF Try.prog f30_c (aPost Try.f30 R) (([(.pointer x0), (.int .i64 x1)] : List Value) ++ List.replicate (Try.f30.ntmps - (([(.pointer x0), (.int .i64 x1)] : List Value)).length) undef) H = f30_B x0 x1 H R := by kernel_rfl
theorem f30_call (x0 : Option Addr) (x1 : Int) (H : AH) (R : AEnd → AH → Prop) (h : f30_B x0 x1 H R) : ACall Try.prog 30 ([(.pointer x0), (.int .i64 x1)] : List Value) H R :=
  acall_of mixed Try.func30 (by kernel_rfl : Try.f30.body = some f30_c) (by kernel_rfl) (by kernel_rfl) (awp_of (Eq.mpr (f30_eq x0 x1 H R) h))

/-! f31: (*switchyard/pack.Reader).Bad -/
noncomputable def f31_c : Code := Try.f31.body.getD .skip
def f31_B (x0 : Option Addr) (H : AH) (R : AEnd → AH → Prop) : Prop :=
 wIf x0.isNone
 (R (.ret (.int .i64 1)) H)
 (wPt x0 fun i1 k2 =>
 ldI .i64 i1 (k2 + 1) H fun n3 =>
 R (.ret (.int .i64 n3)) H)
theorem f31_eq (x0 : Option Addr) (H : AH) (R : AEnd → AH → Prop) : awpF Try.prog f31_c (aPost Try.f31 R) (([(.pointer x0)] : List Value) ++ List.replicate (Try.f31.ntmps - (([(.pointer x0)] : List Value)).length) undef) H = f31_B x0 H R := by kernel_rfl
theorem f31_call (x0 : Option Addr) (H : AH) (R : AEnd → AH → Prop) (h : f31_B x0 H R) : ACall Try.prog 31 ([(.pointer x0)] : List Value) H R :=
  acall_of mixed Try.func31 (by kernel_rfl : Try.f31.body = some f31_c) (by kernel_rfl) (by kernel_rfl) (awp_of (Eq.mpr (f31_eq x0 H R) h))

/-! f32: (*switchyard/pack.Reader).Left -/
noncomputable def f32_c : Code := Try.f32.body.getD .skip
def f32_B (x0 : Option Addr) (H : AH) (R : AEnd → AH → Prop) : Prop :=
 wIf x0.isNone
 (R (.ret (.int .i64 0)) H)
 (wPt x0 fun i1 k2 =>
 ldS i1 k2 H fun t3 =>
 R (.ret (.int .i64 (t3.size : Int))) H)
theorem f32_eq (x0 : Option Addr) (H : AH) (R : AEnd → AH → Prop) : awpF Try.prog f32_c (aPost Try.f32 R) (([(.pointer x0)] : List Value) ++ List.replicate (Try.f32.ntmps - (([(.pointer x0)] : List Value)).length) undef) H = f32_B x0 H R := by kernel_rfl
theorem f32_call (x0 : Option Addr) (H : AH) (R : AEnd → AH → Prop) (h : f32_B x0 H R) : ACall Try.prog 32 ([(.pointer x0)] : List Value) H R :=
  acall_of mixed Try.func32 (by kernel_rfl : Try.f32.body = some f32_c) (by kernel_rfl) (by kernel_rfl) (awp_of (Eq.mpr (f32_eq x0 H R) h))

/-! f33: (switchyard/switchyardlaw02.Thing).bytes -/
noncomputable def f33_c : Code := Try.f33.body.getD .skip
def f33_J0 (R : AEnd → AH → Prop) (tm : List Value) (H : AH) : Prop := hold (awpF Try.prog (codeAt f33_c [1, 0, 1, 0, 1]) (ctxF Try.prog f33_c [1, 0, 1, 0, 1] (aPost Try.f33 R)) tm H)
def f33_J1 (R : AEnd → AH → Prop) (tm : List Value) (H : AH) : Prop := hold (awpF Try.prog (codeAt f33_c [1, 0, 1, 0, 1, 1, 1]) (ctxF Try.prog f33_c [1, 0, 1, 0, 1, 1, 1] (aPost Try.f33 R)) tm H)
def f33_J2 (R : AEnd → AH → Prop) (tm : List Value) (H : AH) : Prop := hold (awpF Try.prog (codeAt f33_c [1, 0, 1, 0, 1, 1, 1, 1, 1]) (ctxF Try.prog f33_c [1, 0, 1, 0, 1, 1, 1, 1, 1] (aPost Try.f33 R)) tm H)
def f33_J3 (R : AEnd → AH → Prop) (tm : List Value) (H : AH) : Prop := hold (awpF Try.prog (codeAt f33_c [1, 1]) (ctxF Try.prog f33_c [1, 1] (aPost Try.f33 R)) tm H)
-- join 3: live 1:t
def f33_J3_B (s1 : Option Addr) (H : AH) (R : AEnd → AH → Prop) : Prop :=
 wPt s1 fun i1 k2 =>
 ldI .u64 i1 (k2 + 1) H fun n3 =>
 wCall Try.prog 20 [(.int .u64 n3)] H (fun r4 H5 =>
 opS r4 fun t8 =>
 R (.ret (.string t8)) H5) (fun v7 H6 => R (.panic v7) H6)
theorem f33_J3_eq (s0 : Value) (s1 : Option Addr) (s2 : Value) (s3 : Value) (s4 : Value) (s5 : Value) (s6 : Value) (s7 : Value) (s8 : Value) (s9 : Value) (s10 : Value) (s11 : Value) (s12 : Value) (s13 : Value) (s14 : Value) (s15 : Value) (s16 : Value) (s17 : Value) (s18 : Value) (s19 : Value) (s20 : Value) (s21 : Value) (s22 : Value) (s23 : Value) (s24 : Value) (s25 : Value) (s26 : Value) (s27 : Value) (s28 : Value) (s29 : Value) (H : AH) (R : AEnd → AH → Prop) : f33_J3 R [s0, (.pointer s1), s2, s3, s4, s5, s6, s7, s8, s9, s10, s11, s12, s13, s14, s15, s16, s17, s18, s19, s20, s21, s22, s23, s24, s25, s26, s27, s28, s29] H = f33_J3_B s1 H R := by kernel_rfl
-- join 2: live 1:t, 21:
def f33_J2_B (s0 : Value) (s1 : Option Addr) (s2 : Value) (s3 : Value) (s4 : Value) (s5 : Value) (s6 : Value) (s7 : Value) (s8 : Value) (s9 : Value) (s10 : Value) (s11 : Value) (s12 : Value) (s13 : Value) (s14 : Value) (s15 : Value) (s16 : Value) (s17 : Value) (s18 : Value) (s19 : Value) (s20 : Value) (s21 : Bool) (s22 : Value) (s23 : Value) (s24 : Value) (s25 : Value) (s26 : Value) (s27 : Value) (s28 : Value) (s29 : Value) (H : AH) (R : AEnd → AH → Prop) : Prop :=
 wIf s21
 (wPt s1 fun i9 k10 =>
 ldS i9 (k10 + 2) H fun t11 =>
 wCall Try.prog 24 [(.string t11)] H (fun r12 H13 =>
 opS r12 fun t16 =>
 R (.ret (.string t16)) H13) (fun v15 H14 => R (.panic v15) H14))
 (f33_J3 R [s0, (.pointer s1), s2, s3, s4, s5, s6, s7, s8, s9, s10, s11, s12, s13, s14, s15, s16, s17, s18, s19, s20, (.bool false), s22, s23, s24, s25, s26, s27, s28, s29] H)
theorem f33_J2_eq (s0 : Value) (s1 : Option Addr) (s2 : Value) (s3 : Value) (s4 : Value) (s5 : Value) (s6 : Value) (s7 : Value) (s8 : Value) (s9 : Value) (s10 : Value) (s11 : Value) (s12 : Value) (s13 : Value) (s14 : Value) (s15 : Value) (s16 : Value) (s17 : Value) (s18 : Value) (s19 : Value) (s20 : Value) (s21 : Bool) (s22 : Value) (s23 : Value) (s24 : Value) (s25 : Value) (s26 : Value) (s27 : Value) (s28 : Value) (s29 : Value) (H : AH) (R : AEnd → AH → Prop) : f33_J2 R [s0, (.pointer s1), s2, s3, s4, s5, s6, s7, s8, s9, s10, s11, s12, s13, s14, s15, s16, s17, s18, s19, s20, (.bool s21), s22, s23, s24, s25, s26, s27, s28, s29] H = f33_J2_B s0 s1 s2 s3 s4 s5 s6 s7 s8 s9 s10 s11 s12 s13 s14 s15 s16 s17 s18 s19 s20 s21 s22 s23 s24 s25 s26 s27 s28 s29 H R := by kernel_rfl
-- join 1: live 1:t, 5:, 13:
def f33_J1_B (s0 : Value) (s1 : Option Addr) (s2 : Value) (s3 : Value) (s4 : Value) (s5 : Int) (s6 : Value) (s7 : Value) (s8 : Value) (s9 : Value) (s10 : Value) (s11 : Value) (s12 : Value) (s13 : Bool) (s14 : Value) (s15 : Value) (s16 : Value) (s17 : Value) (s18 : Value) (s19 : Value) (s20 : Value) (s23 : Value) (s24 : Value) (s25 : Value) (s26 : Value) (s27 : Value) (s28 : Value) (s29 : Value) (H : AH) (R : AEnd → AH → Prop) : Prop :=
 wIf s13
 (wPt s1 fun i17 k18 =>
 ldI .u64 i17 (k18 + 1) H fun n19 =>
 wCall Try.prog 26 [(.bool (decide ((Int.tmod n19 2) = 1)))] H (fun r20 H21 =>
 opS r20 fun t24 =>
 R (.ret (.string t24)) H21) (fun v23 H22 => R (.panic v23) H22))
 (wIf (decide (s5 = 3))
 (f33_J2 R [s0, (.pointer s1), s2, s3, s4, (.int .i64 s5), s6, s7, s8, s9, s10, s11, s12, (.bool false), s14, s15, s16, s17, s18, s19, s20, (.bool true), (.bool (decide (s5 = 3))), s23, s24, s25, s26, s27, s28, s29] H)
 (f33_J2 R [s0, (.pointer s1), s2, s3, s4, (.int .i64 s5), s6, s7, s8, s9, s10, s11, s12, (.bool false), s14, s15, s16, s17, s18, s19, s20, (.bool (decide (s5 = (-3)))), (.bool (decide (s5 = 3))), (.bool (decide (s5 = (-3)))), s24, s25, s26, s27, s28, s29] H))
theorem f33_J1_eq (s0 : Value) (s1 : Option Addr) (s2 : Value) (s3 : Value) (s4 : Value) (s5 : Int) (s6 : Value) (s7 : Value) (s8 : Value) (s9 : Value) (s10 : Value) (s11 : Value) (s12 : Value) (s13 : Bool) (s14 : Value) (s15 : Value) (s16 : Value) (s17 : Value) (s18 : Value) (s19 : Value) (s20 : Value) (s21 : Value) (s22 : Value) (s23 : Value) (s24 : Value) (s25 : Value) (s26 : Value) (s27 : Value) (s28 : Value) (s29 : Value) (H : AH) (R : AEnd → AH → Prop) : f33_J1 R [s0, (.pointer s1), s2, s3, s4, (.int .i64 s5), s6, s7, s8, s9, s10, s11, s12, (.bool s13), s14, s15, s16, s17, s18, s19, s20, s21, s22, s23, s24, s25, s26, s27, s28, s29] H = f33_J1_B s0 s1 s2 s3 s4 s5 s6 s7 s8 s9 s10 s11 s12 s13 s14 s15 s16 s17 s18 s19 s20 s23 s24 s25 s26 s27 s28 s29 H R := by kernel_rfl
-- join 0: live 1:t, 5:, 6:
def f33_J0_B (s0 : Value) (s1 : Option Addr) (s2 : Value) (s3 : Value) (s4 : Value) (s5 : Int) (s6 : Bool) (s7 : Value) (s8 : Value) (s9 : Value) (s10 : Value) (s11 : Value) (s12 : Value) (s15 : Value) (s16 : Value) (s17 : Value) (s18 : Value) (s19 : Value) (s20 : Value) (s21 : Value) (s22 : Value) (s23 : Value) (s24 : Value) (s25 : Value) (s26 : Value) (s27 : Value) (s28 : Value) (s29 : Value) (H : AH) (R : AEnd → AH → Prop) : Prop :=
 wIf s6
 (wPt s1 fun i25 k26 =>
 ldI .u64 i25 (k26 + 1) H fun n27 =>
 wCall Try.prog 21 [(.int .i64 (IntKind.i64.wrap n27))] H (fun r28 H29 =>
 opS r28 fun t32 =>
 R (.ret (.string t32)) H29) (fun v31 H30 => R (.panic v31) H30))
 (wIf (decide (s5 = 2))
 (f33_J1 R [s0, (.pointer s1), s2, s3, s4, (.int .i64 s5), (.bool false), s7, s8, s9, s10, s11, s12, (.bool true), (.bool (decide (s5 = 2))), s15, s16, s17, s18, s19, s20, s21, s22, s23, s24, s25, s26, s27, s28, s29] H)
 (f33_J1 R [s0, (.pointer s1), s2, s3, s4, (.int .i64 s5), (.bool false), s7, s8, s9, s10, s11, s12, (.bool (decide (s5 = (-2)))), (.bool (decide (s5 = 2))), (.bool (decide (s5 = (-2)))), s16, s17, s18, s19, s20, s21, s22, s23, s24, s25, s26, s27, s28, s29] H))
theorem f33_J0_eq (s0 : Value) (s1 : Option Addr) (s2 : Value) (s3 : Value) (s4 : Value) (s5 : Int) (s6 : Bool) (s7 : Value) (s8 : Value) (s9 : Value) (s10 : Value) (s11 : Value) (s12 : Value) (s13 : Value) (s14 : Value) (s15 : Value) (s16 : Value) (s17 : Value) (s18 : Value) (s19 : Value) (s20 : Value) (s21 : Value) (s22 : Value) (s23 : Value) (s24 : Value) (s25 : Value) (s26 : Value) (s27 : Value) (s28 : Value) (s29 : Value) (H : AH) (R : AEnd → AH → Prop) : f33_J0 R [s0, (.pointer s1), s2, s3, s4, (.int .i64 s5), (.bool s6), s7, s8, s9, s10, s11, s12, s13, s14, s15, s16, s17, s18, s19, s20, s21, s22, s23, s24, s25, s26, s27, s28, s29] H = f33_J0_B s0 s1 s2 s3 s4 s5 s6 s7 s8 s9 s10 s11 s12 s15 s16 s17 s18 s19 s20 s21 s22 s23 s24 s25 s26 s27 s28 s29 H R := by kernel_rfl
def f33_B (x0_0 : Int) (x0_1 : Int) (x0_2 : ByteArray) (H : AH) (R : AEnd → AH → Prop) : Prop :=
 wNew [(.int .i64 x0_0), (.int .u64 x0_1), (.string x0_2)] H fun i33 H34 =>
 ldI .i64 i33 0 H34 fun n35 =>
 wIf (decide ((Int.tmod n35 4) = 1))
 (f33_J0 R [(.agg #[(.int .i64 x0_0), (.int .u64 x0_1), (.string x0_2)]), (.pointer (some ⟨i33, 0, none⟩)), (.string ({ data := #[] })), (.pointer (some ⟨i33, 0, none⟩)), (.int .i64 n35), (.int .i64 (Int.tmod n35 4)), (.bool true), (.bool (decide ((Int.tmod n35 4) = 1))), undef, undef, undef, undef, undef, undef, undef, undef, undef, undef, undef, undef, undef, undef, undef, undef, undef, undef, undef, undef, undef, undef] H34)
 (f33_J0 R [(.agg #[(.int .i64 x0_0), (.int .u64 x0_1), (.string x0_2)]), (.pointer (some ⟨i33, 0, none⟩)), (.string ({ data := #[] })), (.pointer (some ⟨i33, 0, none⟩)), (.int .i64 n35), (.int .i64 (Int.tmod n35 4)), (.bool (decide ((Int.tmod n35 4) = (-1)))), (.bool (decide ((Int.tmod n35 4) = 1))), (.bool (decide ((Int.tmod n35 4) = (-1)))), undef, undef, undef, undef, undef, undef, undef, undef, undef, undef, undef, undef, undef, undef, undef, undef, undef, undef, undef, undef, undef] H34)
theorem f33_eq (x0_0 : Int) (x0_1 : Int) (x0_2 : ByteArray) (H : AH) (R : AEnd → AH → Prop) : awpF Try.prog f33_c (aPost Try.f33 R) (([(.agg #[(.int .i64 x0_0), (.int .u64 x0_1), (.string x0_2)])] : List Value) ++ List.replicate (Try.f33.ntmps - (([(.agg #[(.int .i64 x0_0), (.int .u64 x0_1), (.string x0_2)])] : List Value)).length) undef) H = f33_B x0_0 x0_1 x0_2 H R := by kernel_rfl
theorem f33_call (x0_0 : Int) (x0_1 : Int) (x0_2 : ByteArray) (H : AH) (R : AEnd → AH → Prop) (h : f33_B x0_0 x0_1 x0_2 H R) : ACall Try.prog 33 ([(.agg #[(.int .i64 x0_0), (.int .u64 x0_1), (.string x0_2)])] : List Value) H R :=
  acall_of mixed Try.func33 (by kernel_rfl : Try.f33.body = some f33_c) (by kernel_rfl) (by kernel_rfl) (awp_of (Eq.mpr (f33_eq x0_0 x0_1 x0_2 H R) h))

/-! f34: (*switchyard/pack.Reader).Truth -/
noncomputable def f34_c : Code := Try.f34.body.getD .skip
def f34_J0 (R : AEnd → AH → Prop) (tm : List Value) (H : AH) : Prop := hold (awpF Try.prog (codeAt f34_c [1, 0, 1]) (ctxF Try.prog f34_c [1, 0, 1] (aPost Try.f34 R)) tm H)
def f34_J1 (R : AEnd → AH → Prop) (tm : List Value) (H : AH) : Prop := hold (awpF Try.prog (codeAt f34_c [1, 1]) (ctxF Try.prog f34_c [1, 1] (aPost Try.f34 R)) tm H)
-- join 1: live 0:r
def f34_J1_B (s0 : Option Addr) (H : AH) (R : AEnd → AH → Prop) : Prop :=
 wCall Try.prog 37 [(.pointer s0)] H (fun r1 H2 =>
 opI .i64 r1 fun n5 =>
 R (.ret (.bool (decide (n5 = 1)))) H2) (fun v4 H3 => R (.panic v4) H3)
theorem f34_J1_eq (s0 : Option Addr) (s1 : Value) (s2 : Value) (s3 : Value) (s4 : Value) (s5 : Value) (s6 : Value) (s7 : Value) (s8 : Value) (s9 : Value) (s10 : Value) (s11 : Value) (s12 : Value) (s13 : Value) (s14 : Value) (s15 : Value) (s16 : Value) (s17 : Value) (s18 : Value) (s19 : Value) (s20 : Value) (s21 : Value) (s22 : Value) (s23 : Value) (s24 : Value) (s25 : Value) (H : AH) (R : AEnd → AH → Prop) : f34_J1 R [(.pointer s0), s1, s2, s3, s4, s5, s6, s7, s8, s9, s10, s11, s12, s13, s14, s15, s16, s17, s18, s19, s20, s21, s22, s23, s24, s25] H = f34_J1_B s0 H R := by kernel_rfl
-- join 0: live 0:r, 20:
def f34_J0_B (s0 : Option Addr) (s1 : Value) (s2 : Value) (s3 : Value) (s4 : Value) (s5 : Value) (s6 : Value) (s7 : Value) (s8 : Value) (s9 : Value) (s10 : Value) (s11 : Value) (s12 : Value) (s13 : Value) (s14 : Value) (s15 : Value) (s16 : Value) (s17 : Value) (s18 : Value) (s19 : Value) (s20 : Bool) (s21 : Value) (s22 : Value) (s23 : Value) (s24 : Value) (s25 : Value) (H : AH) (R : AEnd → AH → Prop) : Prop :=
 wIf s20
 (wCall Try.prog 43 [(.pointer s0), (.int .i64 4)] H (fun r6 H7 =>
 f34_J1 R [(.pointer s0), s1, s2, s3, s4, s5, s6, s7, s8, s9, s10, s11, s12, s13, s14, s15, s16, s17, s18, s19, (.bool true), (.pointer s0), r6, s23, s24, s25] H7) (fun v9 H8 => R (.panic v9) H8))
 (f34_J1 R [(.pointer s0), s1, s2, s3, s4, s5, s6, s7, s8, s9, s10, s11, s12, s13, s14, s15, s16, s17, s18, s19, (.bool false), s21, s22, s23, s24, s25] H)
theorem f34_J0_eq (s0 : Option Addr) (s1 : Value) (s2 : Value) (s3 : Value) (s4 : Value) (s5 : Value) (s6 : Value) (s7 : Value) (s8 : Value) (s9 : Value) (s10 : Value) (s11 : Value) (s12 : Value) (s13 : Value) (s14 : Value) (s15 : Value) (s16 : Value) (s17 : Value) (s18 : Value) (s19 : Value) (s20 : Bool) (s21 : Value) (s22 : Value) (s23 : Value) (s24 : Value) (s25 : Value) (H : AH) (R : AEnd → AH → Prop) : f34_J0 R [(.pointer s0), s1, s2, s3, s4, s5, s6, s7, s8, s9, s10, s11, s12, s13, s14, s15, s16, s17, s18, s19, (.bool s20), s21, s22, s23, s24, s25] H = f34_J0_B s0 s1 s2 s3 s4 s5 s6 s7 s8 s9 s10 s11 s12 s13 s14 s15 s16 s17 s18 s19 s20 s21 s22 s23 s24 s25 H R := by kernel_rfl
def f34_B (x0 : Option Addr) (H : AH) (R : AEnd → AH → Prop) : Prop :=
 wCall Try.prog 41 [(.pointer x0)] H (fun r10 H11 =>
 opB r10 fun b14 =>
 wIf (!b14)
 (wPt x0 fun i15 k16 =>
 ldS i15 k16 H11 fun t17 =>
 wIf (!decide (t17 = ({ data := #[] })))
 (wPt x0 fun i18 k19 =>
 ldS i18 k19 H11 fun t20 =>
 wIxS t20 0 fun n21 =>
 f34_J0 R [(.pointer x0), undef, (.bool false), (.pointer x0), (.bool b14), (.bool (!b14)), (.bool true), (.pointer x0), (.pointer (some ⟨i15, k16, none⟩)), (.pointer (some ⟨i15, k16, none⟩)), (.string t17), (.bool (!decide (t17 = ({ data := #[] })))), (.bool (!decide (t17 = ({ data := #[] })))), (.bool true), (.pointer x0), (.pointer (some ⟨i18, k19, none⟩)), (.pointer (some ⟨i18, k19, none⟩)), (.string t20), (.int .u8 n21), (.bool (decide (n21 > 1))), (.bool (decide (n21 > 1))), undef, undef, undef, undef, undef] H11)
 (f34_J0 R [(.pointer x0), undef, (.bool false), (.pointer x0), (.bool b14), (.bool (!b14)), (.bool true), (.pointer x0), (.pointer (some ⟨i15, k16, none⟩)), (.pointer (some ⟨i15, k16, none⟩)), (.string t17), (.bool (!decide (t17 = ({ data := #[] })))), (.bool (!decide (t17 = ({ data := #[] })))), (.bool false), undef, undef, undef, undef, undef, undef, (.bool false), undef, undef, undef, undef, undef] H11))
 (f34_J0 R [(.pointer x0), undef, (.bool false), (.pointer x0), (.bool b14), (.bool (!b14)), (.bool false), undef, undef, undef, undef, undef, (.bool false), (.bool false), undef, undef, undef, undef, undef, undef, (.bool false), undef, undef, undef, undef, undef] H11)) (fun v13 H12 => R (.panic v13) H12)
theorem f34_eq (x0 : Option Addr) (H : AH) (R : AEnd → AH → Prop) : awpF Try.prog f34_c (aPost Try.f34 R) (([(.pointer x0)] : List Value) ++ List.replicate (Try.f34.ntmps - (([(.pointer x0)] : List Value)).length) undef) H = f34_B x0 H R := by kernel_rfl
theorem f34_call (x0 : Option Addr) (H : AH) (R : AEnd → AH → Prop) (h : f34_B x0 H R) : ACall Try.prog 34 ([(.pointer x0)] : List Value) H R :=
  acall_of mixed Try.func34 (by kernel_rfl : Try.f34.body = some f34_c) (by kernel_rfl) (by kernel_rfl) (awp_of (Eq.mpr (f34_eq x0 H R) h))

/-! f35: (*switchyard/pack.Reader).End -/
noncomputable def f35_c : Code := Try.f35.body.getD .skip
def f35_J0 (R : AEnd → AH → Prop) (tm : List Value) (H : AH) : Prop := hold (awpF Try.prog (codeAt f35_c [1, 0, 1, 1]) (ctxF Try.prog f35_c [1, 0, 1, 1] (aPost Try.f35 R)) tm H)
-- join 0: live 3:e, 14:
def f35_J0_B (s3 : Int) (s14 : Bool) (H : AH) (R : AEnd → AH → Prop) : Prop :=
 wIf s14
 (R (.ret (.int .i64 s3)) H)
 (R (.ret (.int .i64 4)) H)
theorem f35_J0_eq (s0 : Value) (s1 : Value) (s2 : Value) (s3 : Int) (s4 : Value) (s5 : Value) (s6 : Value) (s7 : Value) (s8 : Value) (s9 : Value) (s10 : Value) (s11 : Value) (s12 : Value) (s13 : Value) (s14 : Bool) (s15 : Value) (H : AH) (R : AEnd → AH → Prop) : f35_J0 R [s0, s1, s2, (.int .i64 s3), s4, s5, s6, s7, s8, s9, s10, s11, s12, s13, (.bool s14), s15] H = f35_J0_B s3 s14 H R := by kernel_rfl
def f35_B (x0 : Option Addr) (H : AH) (R : AEnd → AH → Prop) : Prop :=
 wCall Try.prog 31 [(.pointer x0)] H (fun r1 H2 =>
 opI .i64 r1 fun n5 =>
 wIf (!decide (n5 = 0))
 (f35_J0 R [(.pointer x0), undef, (.int .i64 0), (.int .i64 n5), (.pointer x0), (.int .i64 n5), (.int .i64 n5), (.bool (!decide (n5 = 0))), (.bool true), undef, undef, undef, undef, undef, (.bool true), undef] H2)
 (wPt x0 fun i6 k7 =>
 ldS i6 k7 H2 fun t8 =>
 f35_J0 R [(.pointer x0), undef, (.int .i64 0), (.int .i64 n5), (.pointer x0), (.int .i64 n5), (.int .i64 n5), (.bool (!decide (n5 = 0))), (.bool false), (.pointer x0), (.pointer (some ⟨i6, k7, none⟩)), (.pointer (some ⟨i6, k7, none⟩)), (.string t8), (.bool (decide (t8 = ({ data := #[] })))), (.bool (decide (t8 = ({ data := #[] })))), undef] H2)) (fun v4 H3 => R (.panic v4) H3)
theorem f35_eq (x0 : Option Addr) (H : AH) (R : AEnd → AH → Prop) : awpF Try.prog f35_c (aPost Try.f35 R) (([(.pointer x0)] : List Value) ++ List.replicate (Try.f35.ntmps - (([(.pointer x0)] : List Value)).length) undef) H = f35_B x0 H R := by kernel_rfl
theorem f35_call (x0 : Option Addr) (H : AH) (R : AEnd → AH → Prop) (h : f35_B x0 H R) : ACall Try.prog 35 ([(.pointer x0)] : List Value) H R :=
  acall_of mixed Try.func35 (by kernel_rfl : Try.f35.body = some f35_c) (by kernel_rfl) (by kernel_rfl) (awp_of (Eq.mpr (f35_eq x0 H R) h))

/-! f36: (*switchyard/pack.Reader).Small -/
noncomputable def f36_c : Code := Try.f36.body.getD .skip
def f36_J0 (R : AEnd → AH → Prop) (tm : List Value) (H : AH) : Prop := hold (awpF Try.prog (codeAt f36_c [1, 1, 1, 0, 1]) (ctxF Try.prog f36_c [1, 1, 1, 0, 1] (aPost Try.f36 R)) tm H)
def f36_J1 (R : AEnd → AH → Prop) (tm : List Value) (H : AH) : Prop := hold (awpF Try.prog (codeAt f36_c [1, 1, 1, 1]) (ctxF Try.prog f36_c [1, 1, 1, 1] (aPost Try.f36 R)) tm H)
-- join 1: live 0:r, 5:n, 6:k, 7:e
def f36_J1_B (s0 : Option Addr) (s5 : Int) (s6 : Int) (s7 : Int) (H : AH) (R : AEnd → AH → Prop) : Prop :=
 wIf (!decide (s7 = 0))
 (wCall Try.prog 43 [(.pointer s0), (.int .i64 s7)] H (fun r1 H2 =>
 R (.ret (.int .i64 0)) H2) (fun v4 H3 => R (.panic v4) H3))
 (wPt s0 fun i5 k6 =>
 ldS i5 k6 H fun t7 =>
 wSlS t7 s6 t7.size fun t8 =>
 wPt s0 fun i9 k10 =>
 wSt i9 k10 [(.string t8)] H fun H11 =>
 R (.ret (.int .i64 (IntKind.i64.wrap s5))) H11)
theorem f36_J1_eq (s0 : Option Addr) (s1 : Value) (s2 : Value) (s3 : Value) (s4 : Value) (s5 : Int) (s6 : Int) (s7 : Int) (s8 : Value) (s9 : Value) (s10 : Value) (s11 : Value) (s12 : Value) (s13 : Value) (s14 : Value) (s15 : Value) (s16 : Value) (s17 : Value) (s18 : Value) (s19 : Value) (s20 : Value) (s21 : Value) (s22 : Value) (s23 : Value) (s24 : Value) (s25 : Value) (s26 : Value) (s27 : Value) (s28 : Value) (s29 : Value) (s30 : Value) (s31 : Value) (s32 : Value) (s33 : Value) (s34 : Value) (s35 : Value) (s36 : Value) (s37 : Value) (s38 : Value) (s39 : Value) (s40 : Value) (s41 : Value) (s42 : Value) (s43 : Value) (H : AH) (R : AEnd → AH → Prop) : f36_J1 R [(.pointer s0), s1, s2, s3, s4, (.int .u64 s5), (.int .i64 s6), (.int .i64 s7), s8, s9, s10, s11, s12, s13, s14, s15, s16, s17, s18, s19, s20, s21, s22, s23, s24, s25, s26, s27, s28, s29, s30, s31, s32, s33, s34, s35, s36, s37, s38, s39, s40, s41, s42, s43] H = f36_J1_B s0 s5 s6 s7 H R := by kernel_rfl
-- join 0: live 0:r, 5:n, 6:k, 7:e, 27:
def f36_J0_B (s0 : Option Addr) (s1 : Value) (s2 : Value) (s3 : Value) (s4 : Value) (s5 : Int) (s6 : Int) (s7 : Int) (s8 : Value) (s9 : Value) (s10 : Value) (s11 : Value) (s12 : Value) (s13 : Value) (s14 : Value) (s15 : Value) (s16 : Value) (s17 : Value) (s18 : Value) (s19 : Value) (s20 : Value) (s21 : Value) (s22 : Value) (s23 : Value) (s24 : Value) (s25 : Value) (s26 : Value) (s27 : Bool) (s28 : Value) (s29 : Value) (s30 : Value) (s31 : Value) (s32 : Value) (s33 : Value) (s34 : Value) (s35 : Value) (s36 : Value) (s37 : Value) (s38 : Value) (s39 : Value) (s40 : Value) (s41 : Value) (s42 : Value) (s43 : Value) (H : AH) (R : AEnd → AH → Prop) : Prop :=
 wIf s27
 (f36_J1 R [(.pointer s0), s1, s2, s3, s4, (.int .u64 s5), (.int .i64 s6), (.int .i64 5), s8, s9, s10, s11, s12, s13, s14, s15, s16, s17, s18, s19, s20, s21, s22, s23, s24, s25, s26, (.bool true), s28, s29, s30, s31, s32, s33, s34, s35, s36, s37, s38, s39, s40, s41, s42, s43] H)
 (f36_J1 R [(.pointer s0), s1, s2, s3, s4, (.int .u64 s5), (.int .i64 s6), (.int .i64 s7), s8, s9, s10, s11, s12, s13, s14, s15, s16, s17, s18, s19, s20, s21, s22, s23, s24, s25, s26, (.bool false), s28, s29, s30, s31, s32, s33, s34, s35, s36, s37, s38, s39, s40, s41, s42, s43] H)
theorem f36_J0_eq (s0 : Option Addr) (s1 : Value) (s2 : Value) (s3 : Value) (s4 : Value) (s5 : Int) (s6 : Int) (s7 : Int) (s8 : Value) (s9 : Value) (s10 : Value) (s11 : Value) (s12 : Value) (s13 : Value) (s14 : Value) (s15 : Value) (s16 : Value) (s17 : Value) (s18 : Value) (s19 : Value) (s20 : Value) (s21 : Value) (s22 : Value) (s23 : Value) (s24 : Value) (s25 : Value) (s26 : Value) (s27 : Bool) (s28 : Value) (s29 : Value) (s30 : Value) (s31 : Value) (s32 : Value) (s33 : Value) (s34 : Value) (s35 : Value) (s36 : Value) (s37 : Value) (s38 : Value) (s39 : Value) (s40 : Value) (s41 : Value) (s42 : Value) (s43 : Value) (H : AH) (R : AEnd → AH → Prop) : f36_J0 R [(.pointer s0), s1, s2, s3, s4, (.int .u64 s5), (.int .i64 s6), (.int .i64 s7), s8, s9, s10, s11, s12, s13, s14, s15, s16, s17, s18, s19, s20, s21, s22, s23, s24, s25, s26, (.bool s27), s28, s29, s30, s31, s32, s33, s34, s35, s36, s37, s38, s39, s40, s41, s42, s43] H = f36_J0_B s0 s1 s2 s3 s4 s5 s6 s7 s8 s9 s10 s11 s12 s13 s14 s15 s16 s17 s18 s19 s20 s21 s22 s23 s24 s25 s26 s27 s28 s29 s30 s31 s32 s33 s34 s35 s36 s37 s38 s39 s40 s41 s42 s43 H R := by kernel_rfl
def f36_B (x0 : Option Addr) (x1 : Int) (H : AH) (R : AEnd → AH → Prop) : Prop :=
 wCall Try.prog 41 [(.pointer x0)] H (fun r12 H13 =>
 opB r12 fun b16 =>
 wIf b16
 (R (.ret (.int .i64 0)) H13)
 (wCall Try.prog 42 [(.pointer x0)] H13 (fun r17 H18 =>
 opT 3 r17 fun l21 =>
 opI .u64 (l21.headD undef) fun n22 =>
 opI .i64 (l21.tail.headD undef) fun n23 =>
 opI .i64 (l21.tail.tail.headD undef) fun n24 =>
 wIf (decide (n24 = 0))
 (wIf (decide (x1 < 0))
 (f36_J0 R [(.pointer x0), (.int .i64 x1), undef, undef, (.int .i64 0), (.int .u64 n22), (.int .i64 n23), (.int .i64 n24), (.pointer x0), (.bool false), (.tuple #[(.int .u64 n22), (.int .i64 n23), (.int .i64 n24)]), (.pointer x0), (.tuple #[(.int .u64 n22), (.int .i64 n23), (.int .i64 n24)]), (.int .u64 n22), (.int .i64 n23), (.int .i64 n24), (.int .i64 n24), (.bool (decide (n24 = 0))), (.bool true), (.int .i64 x1), (.bool (decide (x1 < 0))), (.bool true), undef, undef, undef, undef, (.bool true), (.bool true), undef, undef, undef, undef, undef, undef, undef, undef, undef, undef, undef, undef, undef, undef, undef, undef] H18)
 (f36_J0 R [(.pointer x0), (.int .i64 x1), undef, undef, (.int .i64 0), (.int .u64 n22), (.int .i64 n23), (.int .i64 n24), (.pointer x0), (.bool false), (.tuple #[(.int .u64 n22), (.int .i64 n23), (.int .i64 n24)]), (.pointer x0), (.tuple #[(.int .u64 n22), (.int .i64 n23), (.int .i64 n24)]), (.int .u64 n22), (.int .i64 n23), (.int .i64 n24), (.int .i64 n24), (.bool (decide (n24 = 0))), (.bool true), (.int .i64 x1), (.bool (decide (x1 < 0))), (.bool false), (.int .u64 n22), (.int .i64 x1), (.int .u64 (IntKind.u64.wrap x1)), (.bool (decide (n22 > (IntKind.u64.wrap x1)))), (.bool (decide (n22 > (IntKind.u64.wrap x1)))), (.bool (decide (n22 > (IntKind.u64.wrap x1)))), undef, undef, undef, undef, undef, undef, undef, undef, undef, undef, undef, undef, undef, undef, undef, undef] H18))
 (f36_J0 R [(.pointer x0), (.int .i64 x1), undef, undef, (.int .i64 0), (.int .u64 n22), (.int .i64 n23), (.int .i64 n24), (.pointer x0), (.bool false), (.tuple #[(.int .u64 n22), (.int .i64 n23), (.int .i64 n24)]), (.pointer x0), (.tuple #[(.int .u64 n22), (.int .i64 n23), (.int .i64 n24)]), (.int .u64 n22), (.int .i64 n23), (.int .i64 n24), (.int .i64 n24), (.bool (decide (n24 = 0))), (.bool false), undef, undef, undef, undef, undef, undef, undef, undef, (.bool false), undef, undef, undef, undef, undef, undef, undef, undef, undef, undef, undef, undef, undef, undef, undef, undef] H18)) (fun v20 H19 => R (.panic v20) H19))) (fun v15 H14 => R (.panic v15) H14)
theorem f36_eq (x0 : Option Addr) (x1 : Int) (H : AH) (R : AEnd → AH → Prop) : awpF Try.prog f36_c (aPost Try.f36 R) (([(.pointer x0), (.int .i64 x1)] : List Value) ++ List.replicate (Try.f36.ntmps - (([(.pointer x0), (.int .i64 x1)] : List Value)).length) undef) H = f36_B x0 x1 H R := by kernel_rfl
theorem f36_call (x0 : Option Addr) (x1 : Int) (H : AH) (R : AEnd → AH → Prop) (h : f36_B x0 x1 H R) : ACall Try.prog 36 ([(.pointer x0), (.int .i64 x1)] : List Value) H R :=
  acall_of mixed Try.func36 (by kernel_rfl : Try.f36.body = some f36_c) (by kernel_rfl) (by kernel_rfl) (awp_of (Eq.mpr (f36_eq x0 x1 H R) h))

/-! f37: (*switchyard/pack.Reader).Byte -/
noncomputable def f37_c : Code := Try.f37.body.getD .skip
def f37_B (x0 : Option Addr) (H : AH) (R : AEnd → AH → Prop) : Prop :=
 wCall Try.prog 41 [(.pointer x0)] H (fun r1 H2 =>
 opB r1 fun b5 =>
 wIf b5
 (R (.ret (.int .i64 0)) H2)
 (wPt x0 fun i6 k7 =>
 ldS i6 k7 H2 fun t8 =>
 wIf (decide (t8 = ({ data := #[] })))
 (wCall Try.prog 43 [(.pointer x0), (.int .i64 3)] H2 (fun r9 H10 =>
 R (.ret (.int .i64 0)) H10) (fun v12 H11 => R (.panic v12) H11))
 (wPt x0 fun i13 k14 =>
 ldS i13 k14 H2 fun t15 =>
 wIxS t15 0 fun n16 =>
 wPt x0 fun i17 k18 =>
 ldS i17 k18 H2 fun t19 =>
 wSlS t19 1 t19.size fun t20 =>
 wPt x0 fun i21 k22 =>
 wSt i21 k22 [(.string t20)] H2 fun H23 =>
 R (.ret (.int .i64 (IntKind.i64.wrap n16))) H23))) (fun v4 H3 => R (.panic v4) H3)
theorem f37_eq (x0 : Option Addr) (H : AH) (R : AEnd → AH → Prop) : awpF Try.prog f37_c (aPost Try.f37 R) (([(.pointer x0)] : List Value) ++ List.replicate (Try.f37.ntmps - (([(.pointer x0)] : List Value)).length) undef) H = f37_B x0 H R := by kernel_rfl
theorem f37_call (x0 : Option Addr) (H : AH) (R : AEnd → AH → Prop) (h : f37_B x0 H R) : ACall Try.prog 37 ([(.pointer x0)] : List Value) H R :=
  acall_of mixed Try.func37 (by kernel_rfl : Try.f37.body = some f37_c) (by kernel_rfl) (by kernel_rfl) (awp_of (Eq.mpr (f37_eq x0 H R) h))

/-! f41: (*switchyard/pack.Reader).off -/
noncomputable def f41_c : Code := Try.f41.body.getD .skip
def f41_B (x0 : Option Addr) (H : AH) (R : AEnd → AH → Prop) : Prop :=
 wIf x0.isNone
 (R (.ret (.bool true)) H)
 (wPt x0 fun i1 k2 =>
 ldI .i64 i1 (k2 + 1) H fun n3 =>
 R (.ret (.bool (!decide (n3 = 0)))) H)
theorem f41_eq (x0 : Option Addr) (H : AH) (R : AEnd → AH → Prop) : awpF Try.prog f41_c (aPost Try.f41 R) (([(.pointer x0)] : List Value) ++ List.replicate (Try.f41.ntmps - (([(.pointer x0)] : List Value)).length) undef) H = f41_B x0 H R := by kernel_rfl
theorem f41_call (x0 : Option Addr) (H : AH) (R : AEnd → AH → Prop) (h : f41_B x0 H R) : ACall Try.prog 41 ([(.pointer x0)] : List Value) H R :=
  acall_of mixed Try.func41 (by kernel_rfl : Try.f41.body = some f41_c) (by kernel_rfl) (by kernel_rfl) (awp_of (Eq.mpr (f41_eq x0 H R) h))

/-! f42: (*switchyard/pack.Reader).count -/
noncomputable def f42_c : Code := Try.f42.body.getD .skip
noncomputable def f42_Q0 (R : AEnd → AH → Prop) : AExit → List Value → AH → Prop := ctxF Try.prog f42_c [1, 1, 0, 1, 0] (aPost Try.f42 R)
def f42_L0 (R : AEnd → AH → Prop) (tm : List Value) (H : AH) : Prop := awpF Try.prog (codeAt f42_c [1, 1, 0, 1, 0]) (f42_Q0 R) tm H
def f42_J0 (K0 : List Value → AH → Prop) (R : AEnd → AH → Prop) (tm : List Value) (H : AH) : Prop := hold (awpF Try.prog (codeAt f42_c [1, 1, 0, 1, 0, 0, 1, 1, 0, 0, 1, 1, 1, 0, 1]) (ctxF Try.prog (codeAt f42_c [1, 1, 0, 1, 0, 0]) [1, 1, 0, 0, 1, 1, 1, 0, 1] (thenF K0 (f42_Q0 R))) tm H)
def f42_J1 (K0 : List Value → AH → Prop) (R : AEnd → AH → Prop) (tm : List Value) (H : AH) : Prop := hold (awpF Try.prog (codeAt f42_c [1, 1, 0, 1, 0, 0, 1, 1, 0, 0, 1, 1, 1, 1]) (ctxF Try.prog (codeAt f42_c [1, 1, 0, 1, 0, 0]) [1, 1, 0, 0, 1, 1, 1, 1] (thenF K0 (f42_Q0 R))) tm H)
def f42_J2 (K0 : List Value → AH → Prop) (R : AEnd → AH → Prop) (tm : List Value) (H : AH) : Prop := hold (awpF Try.prog (codeAt f42_c [1, 1, 0, 1, 0, 0, 1, 1, 0, 0, 1, 1, 1, 1, 1, 1, 0, 0, 1]) (ctxF Try.prog (codeAt f42_c [1, 1, 0, 1, 0, 0]) [1, 1, 0, 0, 1, 1, 1, 1, 1, 1, 0, 0, 1] (thenF K0 (f42_Q0 R))) tm H)
def f42_J3 (K0 : List Value → AH → Prop) (R : AEnd → AH → Prop) (tm : List Value) (H : AH) : Prop := hold (awpF Try.prog (codeAt f42_c [1, 1, 0, 1, 0, 0, 1, 1, 0, 0, 1, 1, 1, 1, 1, 1, 0, 1]) (ctxF Try.prog (codeAt f42_c [1, 1, 0, 1, 0, 0]) [1, 1, 0, 0, 1, 1, 1, 1, 1, 1, 0, 1] (thenF K0 (f42_Q0 R))) tm H)
def f42_J4 (R : AEnd → AH → Prop) (tm : List Value) (H : AH) : Prop := hold (awpF Try.prog (codeAt f42_c [1, 1, 1]) (ctxF Try.prog f42_c [1, 1, 1] (aPost Try.f42 R)) tm H)
-- join 4: live 
def f42_J4_B  (H : AH) (R : AEnd → AH → Prop) : Prop :=
 R (.ret (.tuple #[(.int .u64 0), (.int .i64 0), (.int .i64 4)])) H
theorem f42_J4_eq (s0 : Value) (s1 : Value) (s2 : Value) (s3 : Value) (s4 : Value) (s5 : Value) (s6 : Value) (s7 : Value) (s8 : Value) (s9 : Value) (s10 : Value) (s11 : Value) (s12 : Value) (s13 : Value) (s14 : Value) (s15 : Value) (s16 : Value) (s17 : Value) (s18 : Value) (s19 : Value) (s20 : Value) (s21 : Value) (s22 : Value) (s23 : Value) (s24 : Value) (s25 : Value) (s26 : Value) (s27 : Value) (s28 : Value) (s29 : Value) (s30 : Value) (s31 : Value) (s32 : Value) (s33 : Value) (s34 : Value) (s35 : Value) (s36 : Value) (s37 : Value) (s38 : Value) (s39 : Value) (s40 : Value) (s41 : Value) (s42 : Value) (s43 : Value) (s44 : Value) (s45 : Value) (s46 : Value) (s47 : Value) (s48 : Value) (s49 : Value) (H : AH) (R : AEnd → AH → Prop) : f42_J4 R [s0, s1, s2, s3, s4, s5, s6, s7, s8, s9, s10, s11, s12, s13, s14, s15, s16, s17, s18, s19, s20, s21, s22, s23, s24, s25, s26, s27, s28, s29, s30, s31, s32, s33, s34, s35, s36, s37, s38, s39, s40, s41, s42, s43, s44, s45, s46, s47, s48, s49] H = f42_J4_B  H R := by kernel_rfl
-- join 3: live 5:n, 6:i
def f42_J3_B (s5 : Int) (s6 : Int) (H : AH) (K0 : List Value → AH → Prop) (R : AEnd → AH → Prop) : Prop :=
 R (.ret (.tuple #[(.int .u64 s5), (.int .i64 (IntKind.i64.wrap (s6 + 1))), (.int .i64 0)])) H
theorem f42_J3_eq (s0 : Value) (s1 : Value) (s2 : Value) (s3 : Value) (s4 : Value) (s5 : Int) (s6 : Int) (s7 : Value) (s8 : Value) (s9 : Value) (s10 : Value) (s11 : Value) (s12 : Value) (s13 : Value) (s14 : Value) (s15 : Value) (s16 : Value) (s17 : Value) (s18 : Value) (s19 : Value) (s20 : Value) (s21 : Value) (s22 : Value) (s23 : Value) (s24 : Value) (s25 : Value) (s26 : Value) (s27 : Value) (s28 : Value) (s29 : Value) (s30 : Value) (s31 : Value) (s32 : Value) (s33 : Value) (s34 : Value) (s35 : Value) (s36 : Value) (s37 : Value) (s38 : Value) (s39 : Value) (s40 : Value) (s41 : Value) (s42 : Value) (s43 : Value) (s44 : Value) (s45 : Value) (s46 : Value) (s47 : Value) (s48 : Value) (s49 : Value) (H : AH) (K0 : List Value → AH → Prop) (R : AEnd → AH → Prop) : f42_J3 K0 R [s0, s1, s2, s3, s4, (.int .u64 s5), (.int .i64 s6), s7, s8, s9, s10, s11, s12, s13, s14, s15, s16, s17, s18, s19, s20, s21, s22, s23, s24, s25, s26, s27, s28, s29, s30, s31, s32, s33, s34, s35, s36, s37, s38, s39, s40, s41, s42, s43, s44, s45, s46, s47, s48, s49] H = f42_J3_B s5 s6 H K0 R := by kernel_rfl
-- join 2: live 5:n, 6:i, 45:
def f42_J2_B (s0 : Value) (s1 : Value) (s2 : Value) (s3 : Value) (s4 : Value) (s5 : Int) (s6 : Int) (s7 : Value) (s8 : Value) (s9 : Value) (s10 : Value) (s11 : Value) (s12 : Value) (s13 : Value) (s14 : Value) (s15 : Value) (s16 : Value) (s17 : Value) (s18 : Value) (s19 : Value) (s20 : Value) (s21 : Value) (s22 : Value) (s23 : Value) (s24 : Value) (s25 : Value) (s26 : Value) (s27 : Value) (s28 : Value) (s29 : Value) (s30 : Value) (s31 : Value) (s32 : Value) (s33 : Value) (s34 : Value) (s35 : Value) (s36 : Value) (s37 : Value) (s38 : Value) (s39 : Value) (s40 : Value) (s41 : Value) (s42 : Value) (s43 : Value) (s44 : Value) (s45 : Bool) (s46 : Value) (s47 : Value) (s48 : Value) (s49 : Value) (H : AH) (K0 : List Value → AH → Prop) (R : AEnd → AH → Prop) : Prop :=
 wIf s45
 (R (.ret (.tuple #[(.int .u64 0), (.int .i64 0), (.int .i64 4)])) H)
 (f42_J3 K0 R [s0, s1, s2, s3, s4, (.int .u64 s5), (.int .i64 s6), s7, s8, s9, s10, s11, s12, s13, s14, s15, s16, s17, s18, s19, s20, s21, s22, s23, s24, s25, s26, s27, s28, s29, s30, s31, s32, s33, s34, s35, s36, s37, s38, s39, s40, s41, s42, s43, s44, (.bool false), s46, s47, s48, s49] H)
theorem f42_J2_eq (s0 : Value) (s1 : Value) (s2 : Value) (s3 : Value) (s4 : Value) (s5 : Int) (s6 : Int) (s7 : Value) (s8 : Value) (s9 : Value) (s10 : Value) (s11 : Value) (s12 : Value) (s13 : Value) (s14 : Value) (s15 : Value) (s16 : Value) (s17 : Value) (s18 : Value) (s19 : Value) (s20 : Value) (s21 : Value) (s22 : Value) (s23 : Value) (s24 : Value) (s25 : Value) (s26 : Value) (s27 : Value) (s28 : Value) (s29 : Value) (s30 : Value) (s31 : Value) (s32 : Value) (s33 : Value) (s34 : Value) (s35 : Value) (s36 : Value) (s37 : Value) (s38 : Value) (s39 : Value) (s40 : Value) (s41 : Value) (s42 : Value) (s43 : Value) (s44 : Value) (s45 : Bool) (s46 : Value) (s47 : Value) (s48 : Value) (s49 : Value) (H : AH) (K0 : List Value → AH → Prop) (R : AEnd → AH → Prop) : f42_J2 K0 R [s0, s1, s2, s3, s4, (.int .u64 s5), (.int .i64 s6), s7, s8, s9, s10, s11, s12, s13, s14, s15, s16, s17, s18, s19, s20, s21, s22, s23, s24, s25, s26, s27, s28, s29, s30, s31, s32, s33, s34, s35, s36, s37, s38, s39, s40, s41, s42, s43, s44, (.bool s45), s46, s47, s48, s49] H = f42_J2_B s0 s1 s2 s3 s4 s5 s6 s7 s8 s9 s10 s11 s12 s13 s14 s15 s16 s17 s18 s19 s20 s21 s22 s23 s24 s25 s26 s27 s28 s29 s30 s31 s32 s33 s34 s35 s36 s37 s38 s39 s40 s41 s42 s43 s44 s45 s46 s47 s48 s49 H K0 R := by kernel_rfl
-- join 1: live 0:r, 5:n, 6:i, 7:c, 8:, 27:, 28:, 43:, 44:
def f42_J1_B (s0 : Option Addr) (s1 : Value) (s2 : Value) (s3 : Value) (s4 : Value) (s5 : Int) (s6 : Int) (s7 : Int) (s8 : Int) (s9 : Value) (s10 : Value) (s11 : Value) (s12 : Value) (s13 : Value) (s14 : Value) (s15 : Value) (s16 : Value) (s17 : Value) (s18 : Value) (s19 : Value) (s20 : Value) (s21 : Value) (s22 : Value) (s23 : Value) (s24 : Value) (s25 : Value) (s26 : Value) (s27 : Value) (s28 : Value) (s29 : Value) (s40 : Value) (s41 : Value) (s42 : Value) (s43 : Value) (s44 : Value) (s45 : Value) (s46 : Value) (s47 : Value) (s48 : Value) (s49 : Value) (H : AH) (K0 : List Value → AH → Prop) (R : AEnd → AH → Prop) : Prop :=
 wNn (IntKind.i64.wrap (7 * s6))
 (wIf (decide (s7 < 128))
 (wIf (decide (s7 = 0))
 (f42_J2 K0 R [(.pointer s0), s1, s2, s3, s4, (.int .u64 (IntKind.u64.wrap ((BitVec.ofInt IntKind.u64.bits s5) ||| (BitVec.ofInt IntKind.u64.bits (IntKind.u64.wrap ((IntKind.u64.wrap (IntKind.u8.wrap ((BitVec.ofInt IntKind.u8.bits s7) &&& (BitVec.ofInt IntKind.u8.bits 127)).toNat)) * (2 ^ (min (Int.toNat (IntKind.i64.wrap (7 * s6))) IntKind.u64.bits)))))).toNat)), (.int .i64 s6), (.int .u8 s7), (.int .i64 s8), s9, s10, s11, s12, s13, s14, s15, s16, s17, s18, s19, s20, s21, s22, s23, s24, s25, s26, s27, s28, s29, (.int .u64 s5), (.int .u8 s7), (.int .u8 (IntKind.u8.wrap ((BitVec.ofInt IntKind.u8.bits s7) &&& (BitVec.ofInt IntKind.u8.bits 127)).toNat)), (.int .u64 (IntKind.u64.wrap (IntKind.u8.wrap ((BitVec.ofInt IntKind.u8.bits s7) &&& (BitVec.ofInt IntKind.u8.bits 127)).toNat))), (.int .i64 s6), (.int .i64 (IntKind.i64.wrap (7 * s6))), (.int .u64 (IntKind.u64.wrap ((IntKind.u64.wrap (IntKind.u8.wrap ((BitVec.ofInt IntKind.u8.bits s7) &&& (BitVec.ofInt IntKind.u8.bits 127)).toNat)) * (2 ^ (min (Int.toNat (IntKind.i64.wrap (7 * s6))) IntKind.u64.bits))))), (.int .u64 (IntKind.u64.wrap ((BitVec.ofInt IntKind.u64.bits s5) ||| (BitVec.ofInt IntKind.u64.bits (IntKind.u64.wrap ((IntKind.u64.wrap (IntKind.u8.wrap ((BitVec.ofInt IntKind.u8.bits s7) &&& (BitVec.ofInt IntKind.u8.bits 127)).toNat)) * (2 ^ (min (Int.toNat (IntKind.i64.wrap (7 * s6))) IntKind.u64.bits)))))).toNat)), (.int .u8 s7), (.bool true), (.int .u8 s7), (.bool (decide (s7 = 0))), (.bool true), (.int .i64 s6), (.bool (decide (s6 > 0))), (.bool (decide (s6 > 0))), s46, s47, s48, s49] H)
 (f42_J2 K0 R [(.pointer s0), s1, s2, s3, s4, (.int .u64 (IntKind.u64.wrap ((BitVec.ofInt IntKind.u64.bits s5) ||| (BitVec.ofInt IntKind.u64.bits (IntKind.u64.wrap ((IntKind.u64.wrap (IntKind.u8.wrap ((BitVec.ofInt IntKind.u8.bits s7) &&& (BitVec.ofInt IntKind.u8.bits 127)).toNat)) * (2 ^ (min (Int.toNat (IntKind.i64.wrap (7 * s6))) IntKind.u64.bits)))))).toNat)), (.int .i64 s6), (.int .u8 s7), (.int .i64 s8), s9, s10, s11, s12, s13, s14, s15, s16, s17, s18, s19, s20, s21, s22, s23, s24, s25, s26, s27, s28, s29, (.int .u64 s5), (.int .u8 s7), (.int .u8 (IntKind.u8.wrap ((BitVec.ofInt IntKind.u8.bits s7) &&& (BitVec.ofInt IntKind.u8.bits 127)).toNat)), (.int .u64 (IntKind.u64.wrap (IntKind.u8.wrap ((BitVec.ofInt IntKind.u8.bits s7) &&& (BitVec.ofInt IntKind.u8.bits 127)).toNat))), (.int .i64 s6), (.int .i64 (IntKind.i64.wrap (7 * s6))), (.int .u64 (IntKind.u64.wrap ((IntKind.u64.wrap (IntKind.u8.wrap ((BitVec.ofInt IntKind.u8.bits s7) &&& (BitVec.ofInt IntKind.u8.bits 127)).toNat)) * (2 ^ (min (Int.toNat (IntKind.i64.wrap (7 * s6))) IntKind.u64.bits))))), (.int .u64 (IntKind.u64.wrap ((BitVec.ofInt IntKind.u64.bits s5) ||| (BitVec.ofInt IntKind.u64.bits (IntKind.u64.wrap ((IntKind.u64.wrap (IntKind.u8.wrap ((BitVec.ofInt IntKind.u8.bits s7) &&& (BitVec.ofInt IntKind.u8.bits 127)).toNat)) * (2 ^ (min (Int.toNat (IntKind.i64.wrap (7 * s6))) IntKind.u64.bits)))))).toNat)), (.int .u8 s7), (.bool true), (.int .u8 s7), (.bool (decide (s7 = 0))), (.bool false), undef, undef, (.bool false), s46, s47, s48, s49] H))
 (K0 [(.pointer s0), s1, s2, s3, s4, (.int .u64 (IntKind.u64.wrap ((BitVec.ofInt IntKind.u64.bits s5) ||| (BitVec.ofInt IntKind.u64.bits (IntKind.u64.wrap ((IntKind.u64.wrap (IntKind.u8.wrap ((BitVec.ofInt IntKind.u8.bits s7) &&& (BitVec.ofInt IntKind.u8.bits 127)).toNat)) * (2 ^ (min (Int.toNat (IntKind.i64.wrap (7 * s6))) IntKind.u64.bits)))))).toNat)), (.int .i64 s6), (.int .u8 s7), (.int .i64 (IntKind.i64.wrap (s8 + 1))), s9, s10, s11, s12, s13, s14, s15, s16, s17, s18, s19, s20, s21, s22, s23, s24, s25, s26, s27, s28, s29, (.int .u64 s5), (.int .u8 s7), (.int .u8 (IntKind.u8.wrap ((BitVec.ofInt IntKind.u8.bits s7) &&& (BitVec.ofInt IntKind.u8.bits 127)).toNat)), (.int .u64 (IntKind.u64.wrap (IntKind.u8.wrap ((BitVec.ofInt IntKind.u8.bits s7) &&& (BitVec.ofInt IntKind.u8.bits 127)).toNat))), (.int .i64 s6), (.int .i64 (IntKind.i64.wrap (7 * s6))), (.int .u64 (IntKind.u64.wrap ((IntKind.u64.wrap (IntKind.u8.wrap ((BitVec.ofInt IntKind.u8.bits s7) &&& (BitVec.ofInt IntKind.u8.bits 127)).toNat)) * (2 ^ (min (Int.toNat (IntKind.i64.wrap (7 * s6))) IntKind.u64.bits))))), (.int .u64 (IntKind.u64.wrap ((BitVec.ofInt IntKind.u64.bits s5) ||| (BitVec.ofInt IntKind.u64.bits (IntKind.u64.wrap ((IntKind.u64.wrap (IntKind.u8.wrap ((BitVec.ofInt IntKind.u8.bits s7) &&& (BitVec.ofInt IntKind.u8.bits 127)).toNat)) * (2 ^ (min (Int.toNat (IntKind.i64.wrap (7 * s6))) IntKind.u64.bits)))))).toNat)), (.int .u8 s7), (.bool false), s40, s41, s42, s43, s44, s45, s46, s47, s48, (.int .i64 (IntKind.i64.wrap (s8 + 1)))] H))
theorem f42_J1_eq (s0 : Option Addr) (s1 : Value) (s2 : Value) (s3 : Value) (s4 : Value) (s5 : Int) (s6 : Int) (s7 : Int) (s8 : Int) (s9 : Value) (s10 : Value) (s11 : Value) (s12 : Value) (s13 : Value) (s14 : Value) (s15 : Value) (s16 : Value) (s17 : Value) (s18 : Value) (s19 : Value) (s20 : Value) (s21 : Value) (s22 : Value) (s23 : Value) (s24 : Value) (s25 : Value) (s26 : Value) (s27 : Value) (s28 : Value) (s29 : Value) (s30 : Value) (s31 : Value) (s32 : Value) (s33 : Value) (s34 : Value) (s35 : Value) (s36 : Value) (s37 : Value) (s38 : Value) (s39 : Value) (s40 : Value) (s41 : Value) (s42 : Value) (s43 : Value) (s44 : Value) (s45 : Value) (s46 : Value) (s47 : Value) (s48 : Value) (s49 : Value) (H : AH) (K0 : List Value → AH → Prop) (R : AEnd → AH → Prop) : f42_J1 K0 R [(.pointer s0), s1, s2, s3, s4, (.int .u64 s5), (.int .i64 s6), (.int .u8 s7), (.int .i64 s8), s9, s10, s11, s12, s13, s14, s15, s16, s17, s18, s19, s20, s21, s22, s23, s24, s25, s26, s27, s28, s29, s30, s31, s32, s33, s34, s35, s36, s37, s38, s39, s40, s41, s42, s43, s44, s45, s46, s47, s48, s49] H = f42_J1_B s0 s1 s2 s3 s4 s5 s6 s7 s8 s9 s10 s11 s12 s13 s14 s15 s16 s17 s18 s19 s20 s21 s22 s23 s24 s25 s26 s27 s28 s29 s40 s41 s42 s43 s44 s45 s46 s47 s48 s49 H K0 R := by kernel_rfl
-- join 0: live 0:r, 5:n, 6:i, 7:c, 8:, 27:, 28:, 29:, 43:, 44:
def f42_J0_B (s0 : Option Addr) (s1 : Value) (s2 : Value) (s3 : Value) (s4 : Value) (s5 : Int) (s6 : Int) (s7 : Int) (s8 : Int) (s9 : Value) (s10 : Value) (s11 : Value) (s12 : Value) (s13 : Value) (s14 : Value) (s15 : Value) (s16 : Value) (s17 : Value) (s18 : Value) (s19 : Value) (s20 : Value) (s21 : Value) (s22 : Value) (s23 : Value) (s24 : Value) (s25 : Value) (s26 : Value) (s27 : Value) (s28 : Value) (s29 : Bool) (s30 : Value) (s31 : Value) (s32 : Value) (s33 : Value) (s34 : Value) (s35 : Value) (s36 : Value) (s37 : Value) (s38 : Value) (s39 : Value) (s40 : Value) (s41 : Value) (s42 : Value) (s43 : Value) (s44 : Value) (s45 : Value) (s46 : Value) (s47 : Value) (s48 : Value) (s49 : Value) (H : AH) (K0 : List Value → AH → Prop) (R : AEnd → AH → Prop) : Prop :=
 wIf s29
 (R (.ret (.tuple #[(.int .u64 0), (.int .i64 0), (.int .i64 4)])) H)
 (f42_J1 K0 R [(.pointer s0), s1, s2, s3, s4, (.int .u64 s5), (.int .i64 s6), (.int .u8 s7), (.int .i64 s8), s9, s10, s11, s12, s13, s14, s15, s16, s17, s18, s19, s20, s21, s22, s23, s24, s25, s26, s27, s28, (.bool false), s30, s31, s32, s33, s34, s35, s36, s37, s38, s39, s40, s41, s42, s43, s44, s45, s46, s47, s48, s49] H)
theorem f42_J0_eq (s0 : Option Addr) (s1 : Value) (s2 : Value) (s3 : Value) (s4 : Value) (s5 : Int) (s6 : Int) (s7 : Int) (s8 : Int) (s9 : Value) (s10 : Value) (s11 : Value) (s12 : Value) (s13 : Value) (s14 : Value) (s15 : Value) (s16 : Value) (s17 : Value) (s18 : Value) (s19 : Value) (s20 : Value) (s21 : Value) (s22 : Value) (s23 : Value) (s24 : Value) (s25 : Value) (s26 : Value) (s27 : Value) (s28 : Value) (s29 : Bool) (s30 : Value) (s31 : Value) (s32 : Value) (s33 : Value) (s34 : Value) (s35 : Value) (s36 : Value) (s37 : Value) (s38 : Value) (s39 : Value) (s40 : Value) (s41 : Value) (s42 : Value) (s43 : Value) (s44 : Value) (s45 : Value) (s46 : Value) (s47 : Value) (s48 : Value) (s49 : Value) (H : AH) (K0 : List Value → AH → Prop) (R : AEnd → AH → Prop) : f42_J0 K0 R [(.pointer s0), s1, s2, s3, s4, (.int .u64 s5), (.int .i64 s6), (.int .u8 s7), (.int .i64 s8), s9, s10, s11, s12, s13, s14, s15, s16, s17, s18, s19, s20, s21, s22, s23, s24, s25, s26, s27, s28, (.bool s29), s30, s31, s32, s33, s34, s35, s36, s37, s38, s39, s40, s41, s42, s43, s44, s45, s46, s47, s48, s49] H = f42_J0_B s0 s1 s2 s3 s4 s5 s6 s7 s8 s9 s10 s11 s12 s13 s14 s15 s16 s17 s18 s19 s20 s21 s22 s23 s24 s25 s26 s27 s28 s29 s30 s31 s32 s33 s34 s35 s36 s37 s38 s39 s40 s41 s42 s43 s44 s45 s46 s47 s48 s49 H K0 R := by kernel_rfl
def f42_R0 (s0 : Option Addr) (s1 : Value) (s2 : Value) (s3 : Value) (s4 : Value) (s5 : Int) (s6 : Value) (s7 : Value) (s8 : Int) (s9 : Value) (s10 : Value) (s11 : Value) (s12 : Value) (s13 : Value) (s14 : Value) (s15 : Value) (s16 : Value) (s17 : Value) (s18 : Value) (s19 : Value) (s20 : Value) (s21 : Value) (s22 : Value) (s23 : Value) (s24 : Value) (s25 : Value) (s26 : Value) (s27 : Value) (s28 : Value) (s29 : Value) (s30 : Value) (s31 : Value) (s32 : Value) (s33 : Value) (s34 : Value) (s35 : Value) (s36 : Value) (s37 : Value) (s38 : Value) (s39 : Value) (s40 : Value) (s41 : Value) (s42 : Value) (s43 : Value) (s44 : Value) (s45 : Value) (s46 : Value) (s47 : Value) (s48 : Value) (s49 : Value) (H : AH) (K0 : List Value → AH → Prop) (R : AEnd → AH → Prop) : Prop :=
 wIf (decide (s8 < 10))
 (wPt s0 fun i1 k2 =>
 ldS i1 k2 H fun t3 =>
 wIf (decide (s8 ≥ (t3.size : Int)))
 (R (.ret (.tuple #[(.int .u64 0), (.int .i64 0), (.int .i64 3)])) H)
 (wPt s0 fun i4 k5 =>
 ldS i4 k5 H fun t6 =>
 wIxS t6 s8 fun n7 =>
 wIf (decide (s8 = 9))
 (f42_J0 K0 R [(.pointer s0), s1, s2, s3, s4, (.int .u64 s5), (.int .i64 s8), (.int .u8 n7), (.int .i64 s8), (.bool true), (.int .i64 s8), (.int .i64 s8), (.pointer s0), (.pointer (some ⟨i1, k2, none⟩)), (.pointer (some ⟨i1, k2, none⟩)), (.string t3), (.int .i64 (t3.size : Int)), (.bool false), (.pointer s0), (.pointer (some ⟨i4, k5, none⟩)), (.pointer (some ⟨i4, k5, none⟩)), (.string t6), (.int .i64 s8), (.int .u8 n7), (.int .i64 s8), (.bool (decide (s8 = 9))), (.bool true), (.int .u8 n7), (.bool (decide (n7 > 1))), (.bool (decide (n7 > 1))), s30, s31, s32, s33, s34, s35, s36, s37, s38, s39, s40, s41, s42, s43, s44, s45, s46, s47, s48, s49] H)
 (f42_J0 K0 R [(.pointer s0), s1, s2, s3, s4, (.int .u64 s5), (.int .i64 s8), (.int .u8 n7), (.int .i64 s8), (.bool true), (.int .i64 s8), (.int .i64 s8), (.pointer s0), (.pointer (some ⟨i1, k2, none⟩)), (.pointer (some ⟨i1, k2, none⟩)), (.string t3), (.int .i64 (t3.size : Int)), (.bool false), (.pointer s0), (.pointer (some ⟨i4, k5, none⟩)), (.pointer (some ⟨i4, k5, none⟩)), (.string t6), (.int .i64 s8), (.int .u8 n7), (.int .i64 s8), (.bool (decide (s8 = 9))), (.bool false), undef, undef, (.bool false), s30, s31, s32, s33, s34, s35, s36, s37, s38, s39, s40, s41, s42, s43, s44, s45, s46, s47, s48, s49] H)))
 (f42_J4 R [(.pointer s0), s1, s2, s3, s4, (.int .u64 s5), s6, s7, (.int .i64 s8), (.bool false), s10, s11, s12, s13, s14, s15, s16, s17, s18, s19, s20, s21, s22, s23, s24, s25, s26, s27, s28, s29, s30, s31, s32, s33, s34, s35, s36, s37, s38, s39, s40, s41, s42, s43, s44, s45, s46, s47, s48, s49] H)
theorem f42_R0_eq (s0 : Option Addr) (s1 : Value) (s2 : Value) (s3 : Value) (s4 : Value) (s5 : Int) (s6 : Value) (s7 : Value) (s8 : Int) (s9 : Value) (s10 : Value) (s11 : Value) (s12 : Value) (s13 : Value) (s14 : Value) (s15 : Value) (s16 : Value) (s17 : Value) (s18 : Value) (s19 : Value) (s20 : Value) (s21 : Value) (s22 : Value) (s23 : Value) (s24 : Value) (s25 : Value) (s26 : Value) (s27 : Value) (s28 : Value) (s29 : Value) (s30 : Value) (s31 : Value) (s32 : Value) (s33 : Value) (s34 : Value) (s35 : Value) (s36 : Value) (s37 : Value) (s38 : Value) (s39 : Value) (s40 : Value) (s41 : Value) (s42 : Value) (s43 : Value) (s44 : Value) (s45 : Value) (s46 : Value) (s47 : Value) (s48 : Value) (s49 : Value) (H : AH) (K0 : List Value → AH → Prop) (R : AEnd → AH → Prop) : awpF Try.prog (codeAt f42_c [1, 1, 0, 1, 0, 0]) (thenF K0 (f42_Q0 R)) [(.pointer s0), s1, s2, s3, s4, (.int .u64 s5), s6, s7, (.int .i64 s8), s9, s10, s11, s12, s13, s14, s15, s16, s17, s18, s19, s20, s21, s22, s23, s24, s25, s26, s27, s28, s29, s30, s31, s32, s33, s34, s35, s36, s37, s38, s39, s40, s41, s42, s43, s44, s45, s46, s47, s48, s49] H = f42_R0 s0 s1 s2 s3 s4 s5 s6 s7 s8 s9 s10 s11 s12 s13 s14 s15 s16 s17 s18 s19 s20 s21 s22 s23 s24 s25 s26 s27 s28 s29 s30 s31 s32 s33 s34 s35 s36 s37 s38 s39 s40 s41 s42 s43 s44 s45 s46 s47 s48 s49 H K0 R := by kernel_rfl
def f42_I0 (s0 : Option Addr) (s1 : Value) (J : Nat → Int → Int → Value → Value → Value → Value → AH → Prop) (n : Nat) (tm : List Value) (H : AH) : Prop := ∃ (s2 : Value) (s3 : Value) (s4 : Value) (s5 : Int) (s6 : Value) (s7 : Value) (s8 : Int) (s9 : Value) (s10 : Value) (s11 : Value) (s12 : Value) (s13 : Value) (s14 : Value) (s15 : Value) (s16 : Value) (s17 : Value) (s18 : Value) (s19 : Value) (s20 : Value) (s21 : Value) (s22 : Value) (s23 : Value) (s24 : Value) (s25 : Value) (s26 : Value) (s27 : Value) (s28 : Value) (s29 : Value) (s30 : Value) (s31 : Value) (s32 : Value) (s33 : Value) (s34 : Value) (s35 : Value) (s36 : Value) (s37 : Value) (s38 : Value) (s39 : Value) (s40 : Value) (s41 : Value) (s42 : Value) (s43 : Value) (s44 : Value) (s45 : Value) (s46 : Value) (s47 : Value) (s48 : Value) (s49 : Value), tm = [(.pointer s0), s1, s2, s3, s4, (.int .u64 s5), s6, s7, (.int .i64 s8), s9, s10, s11, s12, s13, s14, s15, s16, s17, s18, s19, s20, s21, s22, s23, s24, s25, s26, s27, s28, s29, s30, s31, s32, s33, s34, s35, s36, s37, s38, s39, s40, s41, s42, s43, s44, s45, s46, s47, s48, s49] ∧ J n s5 s8 s27 s28 s43 s44 H
theorem f42_I0_mk {s0 : Option Addr} {s1 : Value} {s2 : Value} {s3 : Value} {s4 : Value} {s5 : Int} {s6 : Value} {s7 : Value} {s8 : Int} {s9 : Value} {s10 : Value} {s11 : Value} {s12 : Value} {s13 : Value} {s14 : Value} {s15 : Value} {s16 : Value} {s17 : Value} {s18 : Value} {s19 : Value} {s20 : Value} {s21 : Value} {s22 : Value} {s23 : Value} {s24 : Value} {s25 : Value} {s26 : Value} {s27 : Value} {s28 : Value} {s29 : Value} {s30 : Value} {s31 : Value} {s32 : Value} {s33 : Value} {s34 : Value} {s35 : Value} {s36 : Value} {s37 : Value} {s38 : Value} {s39 : Value} {s40 : Value} {s41 : Value} {s42 : Value} {s43 : Value} {s44 : Value} {s45 : Value} {s46 : Value} {s47 : Value} {s48 : Value} {s49 : Value} {J : Nat → Int → Int → Value → Value → Value → Value → AH → Prop} {n : Nat} {H : AH} (h : J n s5 s8 s27 s28 s43 s44 H) : f42_I0 s0 s1 J n [(.pointer s0), s1, s2, s3, s4, (.int .u64 s5), s6, s7, (.int .i64 s8), s9, s10, s11, s12, s13, s14, s15, s16, s17, s18, s19, s20, s21, s22, s23, s24, s25, s26, s27, s28, s29, s30, s31, s32, s33, s34, s35, s36, s37, s38, s39, s40, s41, s42, s43, s44, s45, s46, s47, s48, s49] H := ⟨_, _, _, _, _, _, _, _, _, _, _, _, _, _, _, _, _, _, _, _, _, _, _, _, _, _, _, _, _, _, _, _, _, _, _, _, _, _, _, _, _, _, _, _, _, _, _, _, rfl, h⟩
-- loop 0: carried 5:n, 8:, 27:, 28:, 43:, 44:
theorem f42_L0_rule {s0 : Option Addr} {s1 : Value} {s2 : Value} {s3 : Value} {s4 : Value} {s5 : Int} {s6 : Value} {s7 : Value} {s8 : Int} {s9 : Value} {s10 : Value} {s11 : Value} {s12 : Value} {s13 : Value} {s14 : Value} {s15 : Value} {s16 : Value} {s17 : Value} {s18 : Value} {s19 : Value} {s20 : Value} {s21 : Value} {s22 : Value} {s23 : Value} {s24 : Value} {s25 : Value} {s26 : Value} {s27 : Value} {s28 : Value} {s29 : Value} {s30 : Value} {s31 : Value} {s32 : Value} {s33 : Value} {s34 : Value} {s35 : Value} {s36 : Value} {s37 : Value} {s38 : Value} {s39 : Value} {s40 : Value} {s41 : Value} {s42 : Value} {s43 : Value} {s44 : Value} {s45 : Value} {s46 : Value} {s47 : Value} {s48 : Value} {s49 : Value} {H : AH} {R : AEnd → AH → Prop} (J : Nat → Int → Int → Value → Value → Value → Value → AH → Prop) (n : Nat) (h0 : J n s5 s8 s27 s28 s43 s44 H)
  (step : ∀ (n : Nat) (s5 : Int) (s8 : Int) (s27 : Value) (s28 : Value) (s43 : Value) (s44 : Value) (H : AH), J n s5 s8 s27 s28 s43 s44 H → ∀ (s2 : Value) (s3 : Value) (s4 : Value) (s6 : Value) (s7 : Value) (s9 : Value) (s10 : Value) (s11 : Value) (s12 : Value) (s13 : Value) (s14 : Value) (s15 : Value) (s16 : Value) (s17 : Value) (s18 : Value) (s19 : Value) (s20 : Value) (s21 : Value) (s22 : Value) (s23 : Value) (s24 : Value) (s25 : Value) (s26 : Value) (s29 : Value) (s30 : Value) (s31 : Value) (s32 : Value) (s33 : Value) (s34 : Value) (s35 : Value) (s36 : Value) (s37 : Value) (s38 : Value) (s39 : Value) (s40 : Value) (s41 : Value) (s42 : Value) (s45 : Value) (s46 : Value) (s47 : Value) (s48 : Value) (s49 : Value), f42_R0 s0 s1 s2 s3 s4 s5 s6 s7 s8 s9 s10 s11 s12 s13 s14 s15 s16 s17 s18 s19 s20 s21 s22 s23 s24 s25 s26 s27 s28 s29 s30 s31 s32 s33 s34 s35 s36 s37 s38 s39 s40 s41 s42 s43 s44 s45 s46 s47 s48 s49 H (fun tm H => ∃ m, m < n ∧ f42_I0 s0 s1 J m tm H) R) : f42_L0 R [(.pointer s0), s1, s2, s3, s4, (.int .u64 s5), s6, s7, (.int .i64 s8), s9, s10, s11, s12, s13, s14, s15, s16, s17, s18, s19, s20, s21, s22, s23, s24, s25, s26, s27, s28, s29, s30, s31, s32, s33, s34, s35, s36, s37, s38, s39, s40, s41, s42, s43, s44, s45, s46, s47, s48, s49] H :=
  awpF_loop (f42_I0 s0 s1 J) n (f42_I0_mk h0) (by
    rintro n tm H ⟨s2, s3, s4, s5, s6, s7, s8, s9, s10, s11, s12, s13, s14, s15, s16, s17, s18, s19, s20, s21, s22, s23, s24, s25, s26, s27, s28, s29, s30, s31, s32, s33, s34, s35, s36, s37, s38, s39, s40, s41, s42, s43, s44, s45, s46, s47, s48, s49, rfl, h⟩
    exact Eq.mpr (f42_R0_eq s0 s1 s2 s3 s4 s5 s6 s7 s8 s9 s10 s11 s12 s13 s14 s15 s16 s17 s18 s19 s20 s21 s22 s23 s24 s25 s26 s27 s28 s29 s30 s31 s32 s33 s34 s35 s36 s37 s38 s39 s40 s41 s42 s43 s44 s45 s46 s47 s48 s49 H _ R) (step n s5 s8 s27 s28 s43 s44 H h s2 s3 s4 s6 s7 s9 s10 s11 s12 s13 s14 s15 s16 s17 s18 s19 s20 s21 s22 s23 s24 s25 s26 s29 s30 s31 s32 s33 s34 s35 s36 s37 s38 s39 s40 s41 s42 s45 s46 s47 s48 s49))
def f42_B (x0 : Option Addr) (H : AH) (R : AEnd → AH → Prop) : Prop :=
 f42_L0 R [(.pointer x0), undef, (.int .u64 0), (.int .i64 0), (.int .i64 0), (.int .u64 0), undef, undef, (.int .i64 0), undef, undef, undef, undef, undef, undef, undef, undef, undef, undef, undef, undef, undef, undef, undef, undef, undef, undef, undef, undef, undef, undef, undef, undef, undef, undef, undef, undef, undef, undef, undef, undef, undef, undef, undef, undef, undef, undef, undef, undef, undef] H
theorem f42_eq (x0 : Option Addr) (H : AH) (R : AEnd → AH → Prop) : awpF Try.prog f42_c (aPost Try.f42 R) (([(.pointer x0)] : List Value) ++ List.replicate (Try.f42.ntmps - (([(.pointer x0)] : List Value)).length) undef) H = f42_B x0 H R := by kernel_rfl
theorem f42_call (x0 : Option Addr) (H : AH) (R : AEnd → AH → Prop) (h : f42_B x0 H R) : ACall Try.prog 42 ([(.pointer x0)] : List Value) H R :=
  acall_of mixed Try.func42 (by kernel_rfl : Try.f42.body = some f42_c) (by kernel_rfl) (by kernel_rfl) (awp_of (Eq.mpr (f42_eq x0 H R) h))

/-! f43: (*switchyard/pack.Reader).fail -/
noncomputable def f43_c : Code := Try.f43.body.getD .skip
def f43_B (x0 : Option Addr) (x1 : Int) (H : AH) (R : AEnd → AH → Prop) : Prop :=
 wPt x0 fun i1 k2 =>
 wSt i1 k2 [(.string ({ data := #[] }))] H fun H3 =>
 wPt x0 fun i4 k5 =>
 wSt i4 (k5 + 1) [(.int .i64 x1)] H3 fun H6 =>
 R (.ret (.tuple #[])) H6
theorem f43_eq (x0 : Option Addr) (x1 : Int) (H : AH) (R : AEnd → AH → Prop) : awpF Try.prog f43_c (aPost Try.f43 R) (([(.pointer x0), (.int .i64 x1)] : List Value) ++ List.replicate (Try.f43.ntmps - (([(.pointer x0), (.int .i64 x1)] : List Value)).length) undef) H = f43_B x0 x1 H R := by kernel_rfl
theorem f43_call (x0 : Option Addr) (x1 : Int) (H : AH) (R : AEnd → AH → Prop) (h : f43_B x0 x1 H R) : ACall Try.prog 43 ([(.pointer x0), (.int .i64 x1)] : List Value) H R :=
  acall_of mixed Try.func43 (by kernel_rfl : Try.f43.body = some f43_c) (by kernel_rfl) (by kernel_rfl) (awp_of (Eq.mpr (f43_eq x0 x1 H R) h))

end Go.Proofs.Ytmidgfmopmpppaa
