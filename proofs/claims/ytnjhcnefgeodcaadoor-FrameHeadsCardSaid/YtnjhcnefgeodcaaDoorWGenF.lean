/- Bodies of functions as nested rules: printed by genw.py, a program of this claim. -/
import Derived.Test.YtnjhcnefgeodcaaDoorWTy
namespace Go.Proofs.YtnjhcnefgeodcaaDoor
open Go.RowKit
set_option linter.unusedVariables false
set_option maxRecDepth 100000

/-! f9: switchyard/switchyardlaw04.awake -/
noncomputable def f9_c : Code := Tryd.f9.body.getD .skip
def f9_B (H : AH) (R : AEnd → AH → Prop) : Prop :=
 wCall Tryd.prog 10 [(.agg #[(.int .u32 1), (.int .u64 2), (.int .i64 3), (.string ({ data := #[97, 98, 99] }))])] H (fun r1 H2 =>
 opT 2 r1 fun l5 =>
 opS (l5.headD undef) fun t6 =>
 opI .i64 (l5.tail.headD undef) fun n7 =>
 wCall Tryd.prog 14 [(.string t6)] H2 (fun r8 H9 =>
 opT 2 r8 fun l12 =>
 opA 4 (l12.headD undef) fun l13 =>
 opI .u32 (l13.headD undef) fun n14 =>
 opI .u64 (l13.tail.headD undef) fun n15 =>
 opI .i64 (l13.tail.tail.headD undef) fun n16 =>
 opS (l13.tail.tail.tail.headD undef) fun t17 =>
 opI .i64 (l12.tail.headD undef) fun n18 =>
 wNew [(.int .u32 0), (.int .u64 0), (.int .i64 0), (.string ({ data := #[] }))] H9 fun i19 H20 =>
 wSt i19 0 [(.int .u32 n14), (.int .u64 n15), (.int .i64 n16), (.string t17)] H20 fun H21 =>
 wCall Tryd.prog 12 [(.int .i64 43)] H21 (fun r22 H23 =>
 opI .i64 r22 fun n26 =>
 wIf (decide (n26 = 1))
 (wCall Tryd.prog 12 [(.int .i64 44)] H23 (fun r27 H28 =>
 opI .i64 r27 fun n31 =>
 wIf (decide (n31 = 2))
 (wIf (decide (n7 = 0))
 (wIf (decide ((t6.size : Int) = 64))
 (wIf (decide (n18 = 0))
 (ldS i19 3 H28 fun t32 =>
 R (.ret (.bool (decide (t32 = ({ data := #[97, 98, 99] }))))) H28)
 (R (.ret (.bool false)) H28))
 (R (.ret (.bool false)) H28))
 (R (.ret (.bool false)) H28))
 (R (.ret (.bool false)) H28)) (fun v30 H29 => R (.panic v30) H29))
 (R (.ret (.bool false)) H23)) (fun v25 H24 => R (.panic v25) H24)) (fun v11 H10 => R (.panic v11) H10)) (fun v4 H3 => R (.panic v4) H3)
theorem f9_eq (H : AH) (R : AEnd → AH → Prop) : awpF Tryd.prog f9_c (aPost Tryd.prog Tryd.f9 R) (([] : List Value) ++ List.replicate (Tryd.f9.ntmps - (([] : List Value)).length) undef) H = f9_B H R := by kernel_rfl
theorem f9_call (H : AH) (R : AEnd → AH → Prop) (h : f9_B H R) : ACall Tryd.prog 9 ([] : List Value) H R :=
  acall_of mixed Tryd.func9 (by kernel_rfl : Tryd.f9.body = some f9_c) (by kernel_rfl) (by kernel_rfl) (awp_of (Eq.mpr (f9_eq H R) h))

/-! f12: switchyard/frame.Sectors -/
noncomputable def f12_c : Code := Tryd.f12.body.getD .skip
noncomputable def f12_X0 (R : AEnd → AH → Prop) : AExit → List Value → AH → Prop := thenF (fun tm H => hold (awpF Tryd.prog (codeAt f12_c [1, 1]) (aPost Tryd.prog Tryd.f12 R) tm H)) (aPost Tryd.prog Tryd.f12 R)
def f12_J0 (R : AEnd → AH → Prop) (tm : List Value) (H : AH) : Prop := hold (awpF Tryd.prog (codeAt f12_c [1, 0, 1]) ((f12_X0 R)) tm H)
def f12_J1 (R : AEnd → AH → Prop) (tm : List Value) (H : AH) : Prop := hold (awpF Tryd.prog (codeAt f12_c [1, 1]) ((aPost Tryd.prog Tryd.f12 R)) tm H)
-- join 1: live 0:n
def f12_J1_B (s0 : Int) (H : AH) (R : AEnd → AH → Prop) : Prop :=
 R (.ret (.int .i64 (IntKind.i64.wrap (Int.tdiv (IntKind.i64.wrap ((IntKind.i64.wrap ((IntKind.i64.wrap (s0 + 21)) + 64)) - 1)) 64)))) H
theorem f12_J1_eq (s0 : Int) (s1 : Value) (s2 : Value) (s3 : Value) (s4 : Value) (s5 : Value) (s6 : Value) (s7 : Value) (s8 : Value) (s9 : Value) (s10 : Value) (s11 : Value) (s12 : Value) (s13 : Value) (H : AH) (R : AEnd → AH → Prop) : f12_J1 R [(.int .i64 s0), s1, s2, s3, s4, s5, s6, s7, s8, s9, s10, s11, s12, s13] H = f12_J1_B s0 H R := by kernel_rfl
-- join 0: live 0:n, 8:
def f12_J0_B (s0 : Int) (s1 : Value) (s2 : Value) (s3 : Value) (s4 : Value) (s5 : Value) (s6 : Value) (s7 : Value) (s8 : Bool) (s9 : Value) (s10 : Value) (s11 : Value) (s12 : Value) (s13 : Value) (H : AH) (R : AEnd → AH → Prop) : Prop :=
 wIf s8
 (R (.ret (.int .i64 0)) H)
 (f12_J1 R [(.int .i64 s0), s1, s2, s3, s4, s5, s6, s7, (.bool false), s9, s10, s11, s12, s13] H)
theorem f12_J0_eq (s0 : Int) (s1 : Value) (s2 : Value) (s3 : Value) (s4 : Value) (s5 : Value) (s6 : Value) (s7 : Value) (s8 : Bool) (s9 : Value) (s10 : Value) (s11 : Value) (s12 : Value) (s13 : Value) (H : AH) (R : AEnd → AH → Prop) : f12_J0 R [(.int .i64 s0), s1, s2, s3, s4, s5, s6, s7, (.bool s8), s9, s10, s11, s12, s13] H = f12_J0_B s0 s1 s2 s3 s4 s5 s6 s7 s8 s9 s10 s11 s12 s13 H R := by kernel_rfl
def f12_B (x0 : Int) (H : AH) (R : AEnd → AH → Prop) : Prop :=
 wIf (decide (x0 < 0))
 (f12_J0 R [(.int .i64 x0), undef, (.int .i64 0), (.int .i64 x0), (.bool (decide (x0 < 0))), (.bool true), undef, undef, (.bool true), undef, undef, undef, undef, undef] H)
 (f12_J0 R [(.int .i64 x0), undef, (.int .i64 0), (.int .i64 x0), (.bool (decide (x0 < 0))), (.bool false), (.int .i64 x0), (.bool (decide (x0 > 1048576))), (.bool (decide (x0 > 1048576))), undef, undef, undef, undef, undef] H)
theorem f12_eq (x0 : Int) (H : AH) (R : AEnd → AH → Prop) : awpF Tryd.prog f12_c (aPost Tryd.prog Tryd.f12 R) (([(.int .i64 x0)] : List Value) ++ List.replicate (Tryd.f12.ntmps - (([(.int .i64 x0)] : List Value)).length) undef) H = f12_B x0 H R := by kernel_rfl
theorem f12_call (x0 : Int) (H : AH) (R : AEnd → AH → Prop) (h : f12_B x0 H R) : ACall Tryd.prog 12 ([(.int .i64 x0)] : List Value) H R :=
  acall_of mixed Tryd.func12 (by kernel_rfl : Tryd.f12.body = some f12_c) (by kernel_rfl) (by kernel_rfl) (awp_of (Eq.mpr (f12_eq x0 H R) h))

/-! f13: switchyard/switchyardref04.Sectors -/
noncomputable def f13_c : Code := Tryd.f13.body.getD .skip
noncomputable def f13_X0 (R : AEnd → AH → Prop) : AExit → List Value → AH → Prop := thenF (fun tm H => hold (awpF Tryd.prog (codeAt f13_c [1, 1, 1, 1]) (aPost Tryd.prog Tryd.f13 R) tm H)) (aPost Tryd.prog Tryd.f13 R)
noncomputable def f13_X1 (R : AEnd → AH → Prop) : AExit → List Value → AH → Prop := inBlockF 0 (f13_X0 R)
noncomputable def f13_Q0 (R : AEnd → AH → Prop) : AExit → List Value → AH → Prop := (f13_X1 R)
def f13_L0 (R : AEnd → AH → Prop) (tm : List Value) (H : AH) : Prop := awpF Tryd.prog (codeAt f13_c [1, 1, 1, 0, 0]) (f13_Q0 R) tm H
noncomputable def f13_X2 (R : AEnd → AH → Prop) : AExit → List Value → AH → Prop := thenF (fun tm H => hold (awpF Tryd.prog (codeAt f13_c [1, 1]) (aPost Tryd.prog Tryd.f13 R) tm H)) (aPost Tryd.prog Tryd.f13 R)
def f13_J0 (R : AEnd → AH → Prop) (tm : List Value) (H : AH) : Prop := hold (awpF Tryd.prog (codeAt f13_c [1, 0, 1]) ((f13_X2 R)) tm H)
def f13_J1 (R : AEnd → AH → Prop) (tm : List Value) (H : AH) : Prop := hold (awpF Tryd.prog (codeAt f13_c [1, 1]) ((aPost Tryd.prog Tryd.f13 R)) tm H)
-- join 1: live 0:n
def f13_J1_B (s0 : Int) (s1 : Value) (s2 : Value) (s4 : Value) (s5 : Value) (s6 : Value) (s7 : Value) (s8 : Value) (s9 : Value) (s10 : Value) (s11 : Value) (s12 : Value) (s13 : Value) (s14 : Value) (s15 : Value) (s16 : Value) (s17 : Value) (H : AH) (R : AEnd → AH → Prop) : Prop :=
 f13_L0 R [(.int .i64 s0), s1, s2, (.int .i64 0), s4, s5, s6, s7, s8, s9, s10, s11, s12, s13, s14, s15, s16, s17] H
theorem f13_J1_eq (s0 : Int) (s1 : Value) (s2 : Value) (s3 : Value) (s4 : Value) (s5 : Value) (s6 : Value) (s7 : Value) (s8 : Value) (s9 : Value) (s10 : Value) (s11 : Value) (s12 : Value) (s13 : Value) (s14 : Value) (s15 : Value) (s16 : Value) (s17 : Value) (H : AH) (R : AEnd → AH → Prop) : f13_J1 R [(.int .i64 s0), s1, s2, s3, s4, s5, s6, s7, s8, s9, s10, s11, s12, s13, s14, s15, s16, s17] H = f13_J1_B s0 s1 s2 s4 s5 s6 s7 s8 s9 s10 s11 s12 s13 s14 s15 s16 s17 H R := by kernel_rfl
-- join 0: live 0:n, 9:
def f13_J0_B (s0 : Int) (s1 : Value) (s2 : Value) (s3 : Value) (s4 : Value) (s5 : Value) (s6 : Value) (s7 : Value) (s8 : Value) (s9 : Bool) (s10 : Value) (s11 : Value) (s12 : Value) (s13 : Value) (s14 : Value) (s15 : Value) (s16 : Value) (s17 : Value) (H : AH) (R : AEnd → AH → Prop) : Prop :=
 wIf s9
 (R (.ret (.int .i64 0)) H)
 (f13_J1 R [(.int .i64 s0), s1, s2, s3, s4, s5, s6, s7, s8, (.bool false), s10, s11, s12, s13, s14, s15, s16, s17] H)
theorem f13_J0_eq (s0 : Int) (s1 : Value) (s2 : Value) (s3 : Value) (s4 : Value) (s5 : Value) (s6 : Value) (s7 : Value) (s8 : Value) (s9 : Bool) (s10 : Value) (s11 : Value) (s12 : Value) (s13 : Value) (s14 : Value) (s15 : Value) (s16 : Value) (s17 : Value) (H : AH) (R : AEnd → AH → Prop) : f13_J0 R [(.int .i64 s0), s1, s2, s3, s4, s5, s6, s7, s8, (.bool s9), s10, s11, s12, s13, s14, s15, s16, s17] H = f13_J0_B s0 s1 s2 s3 s4 s5 s6 s7 s8 s9 s10 s11 s12 s13 s14 s15 s16 s17 H R := by kernel_rfl
def f13_R0 (s0 : Int) (s1 : Value) (s2 : Value) (s3 : Int) (s4 : Value) (s5 : Value) (s6 : Value) (s7 : Value) (s8 : Value) (s9 : Value) (s10 : Value) (s11 : Value) (s12 : Value) (s13 : Value) (s14 : Value) (s15 : Value) (s16 : Value) (s17 : Value) (H : AH) (K0 : List Value → AH → Prop) (R : AEnd → AH → Prop) : Prop :=
 wIf (decide ((IntKind.i64.wrap (s3 * 64)) < (IntKind.i64.wrap (21 + s0))))
 (K0 [(.int .i64 s0), s1, s2, (.int .i64 (IntKind.i64.wrap (s3 + 1))), s4, s5, s6, s7, s8, s9, (.int .i64 s3), (.int .i64 (IntKind.i64.wrap (s3 * 64))), (.int .i64 s0), (.int .i64 (IntKind.i64.wrap (21 + s0))), (.bool true), (.int .i64 s3), (.int .i64 (IntKind.i64.wrap (s3 + 1))), s17] H)
 (R (.ret (.int .i64 s3)) H)
theorem f13_R0_eq (s0 : Int) (s1 : Value) (s2 : Value) (s3 : Int) (s4 : Value) (s5 : Value) (s6 : Value) (s7 : Value) (s8 : Value) (s9 : Value) (s10 : Value) (s11 : Value) (s12 : Value) (s13 : Value) (s14 : Value) (s15 : Value) (s16 : Value) (s17 : Value) (H : AH) (K0 : List Value → AH → Prop) (R : AEnd → AH → Prop) : awpF Tryd.prog (codeAt f13_c [1, 1, 1, 0, 0, 0]) (thenF K0 (f13_Q0 R)) [(.int .i64 s0), s1, s2, (.int .i64 s3), s4, s5, s6, s7, s8, s9, s10, s11, s12, s13, s14, s15, s16, s17] H = f13_R0 s0 s1 s2 s3 s4 s5 s6 s7 s8 s9 s10 s11 s12 s13 s14 s15 s16 s17 H K0 R := by kernel_rfl
def f13_I0 (s0 : Int) (s1 : Value) (s2 : Value) (s4 : Value) (s5 : Value) (s6 : Value) (s7 : Value) (s8 : Value) (s9 : Value) (s17 : Value) (J : Nat → Int → AH → Prop) (n : Nat) (tm : List Value) (H : AH) : Prop := ∃ (s3 : Int) (s10 : Value) (s11 : Value) (s12 : Value) (s13 : Value) (s14 : Value) (s15 : Value) (s16 : Value), tm = [(.int .i64 s0), s1, s2, (.int .i64 s3), s4, s5, s6, s7, s8, s9, s10, s11, s12, s13, s14, s15, s16, s17] ∧ J n s3 H
theorem f13_I0_mk {s0 : Int} {s1 : Value} {s2 : Value} {s3 : Int} {s4 : Value} {s5 : Value} {s6 : Value} {s7 : Value} {s8 : Value} {s9 : Value} {s10 : Value} {s11 : Value} {s12 : Value} {s13 : Value} {s14 : Value} {s15 : Value} {s16 : Value} {s17 : Value} {J : Nat → Int → AH → Prop} {n : Nat} {H : AH} (h : J n s3 H) : f13_I0 s0 s1 s2 s4 s5 s6 s7 s8 s9 s17 J n [(.int .i64 s0), s1, s2, (.int .i64 s3), s4, s5, s6, s7, s8, s9, s10, s11, s12, s13, s14, s15, s16, s17] H := ⟨_, _, _, _, _, _, _, _, rfl, h⟩
-- loop 0: carried 3:k
theorem f13_L0_rule {s0 : Int} {s1 : Value} {s2 : Value} {s3 : Int} {s4 : Value} {s5 : Value} {s6 : Value} {s7 : Value} {s8 : Value} {s9 : Value} {s10 : Value} {s11 : Value} {s12 : Value} {s13 : Value} {s14 : Value} {s15 : Value} {s16 : Value} {s17 : Value} {H : AH} {R : AEnd → AH → Prop} (J : Nat → Int → AH → Prop) (n : Nat) (h0 : J n s3 H)
  (step : ∀ (n : Nat) (s3 : Int) (H : AH), J n s3 H → ∀ (s10 : Value) (s11 : Value) (s12 : Value) (s13 : Value) (s14 : Value) (s15 : Value) (s16 : Value), f13_R0 s0 s1 s2 s3 s4 s5 s6 s7 s8 s9 s10 s11 s12 s13 s14 s15 s16 s17 H (fun tm H => ∃ m, m < n ∧ f13_I0 s0 s1 s2 s4 s5 s6 s7 s8 s9 s17 J m tm H) R) : f13_L0 R [(.int .i64 s0), s1, s2, (.int .i64 s3), s4, s5, s6, s7, s8, s9, s10, s11, s12, s13, s14, s15, s16, s17] H :=
  awpF_loop (f13_I0 s0 s1 s2 s4 s5 s6 s7 s8 s9 s17 J) n (f13_I0_mk h0) (by
    rintro n tm H ⟨s3, s10, s11, s12, s13, s14, s15, s16, rfl, h⟩
    exact Eq.mpr (f13_R0_eq s0 s1 s2 s3 s4 s5 s6 s7 s8 s9 s10 s11 s12 s13 s14 s15 s16 s17 H _ R) (step n s3 H h s10 s11 s12 s13 s14 s15 s16))
def f13_B (x0 : Int) (H : AH) (R : AEnd → AH → Prop) : Prop :=
 wIf (decide (x0 < 0))
 (f13_J0 R [(.int .i64 x0), undef, (.int .i64 0), undef, (.int .i64 x0), (.bool (decide (x0 < 0))), (.bool true), undef, undef, (.bool true), undef, undef, undef, undef, undef, undef, undef, undef] H)
 (f13_J0 R [(.int .i64 x0), undef, (.int .i64 0), undef, (.int .i64 x0), (.bool (decide (x0 < 0))), (.bool false), (.int .i64 x0), (.bool (decide (x0 > 1048576))), (.bool (decide (x0 > 1048576))), undef, undef, undef, undef, undef, undef, undef, undef] H)
theorem f13_eq (x0 : Int) (H : AH) (R : AEnd → AH → Prop) : awpF Tryd.prog f13_c (aPost Tryd.prog Tryd.f13 R) (([(.int .i64 x0)] : List Value) ++ List.replicate (Tryd.f13.ntmps - (([(.int .i64 x0)] : List Value)).length) undef) H = f13_B x0 H R := by kernel_rfl
theorem f13_call (x0 : Int) (H : AH) (R : AEnd → AH → Prop) (h : f13_B x0 H R) : ACall Tryd.prog 13 ([(.int .i64 x0)] : List Value) H R :=
  acall_of mixed Tryd.func13 (by kernel_rfl : Tryd.f13.body = some f13_c) (by kernel_rfl) (by kernel_rfl) (awp_of (Eq.mpr (f13_eq x0 H R) h))

/-! f14: switchyard/frame.Get -/
noncomputable def f14_c : Code := Tryd.f14.body.getD .skip
noncomputable def f14_X0 (R : AEnd → AH → Prop) : AExit → List Value → AH → Prop := thenF (fun tm H => hold (awpF Tryd.prog (codeAt f14_c [1, 1, 1, 1, 1, 1]) (aPost Tryd.prog Tryd.f14 R) tm H)) (aPost Tryd.prog Tryd.f14 R)
def f14_J0 (R : AEnd → AH → Prop) (tm : List Value) (H : AH) : Prop := hold (awpF Tryd.prog (codeAt f14_c [1, 1, 1, 1, 1, 0, 1]) ((f14_X0 R)) tm H)
def f14_J1 (R : AEnd → AH → Prop) (tm : List Value) (H : AH) : Prop := hold (awpF Tryd.prog (codeAt f14_c [1, 1, 1, 1, 1, 1]) ((aPost Tryd.prog Tryd.f14 R)) tm H)
-- join 1: live 0:s, 2:, 5:end
def f14_J1_B (s0 : ByteArray) (s2 : Option Addr) (s5 : Int) (H : AH) (R : AEnd → AH → Prop) : Prop :=
 wSlS s0 4 8 fun t1 =>
 wSlS s0 8 16 fun t2 =>
 wIxS s0 16 fun n3 =>
 wSlS s0 21 s5 fun t4 =>
 wCall Tryd.prog 26 [(.string t1)] H (fun r5 H6 =>
 opI .u64 r5 fun n9 =>
 wCall Tryd.prog 26 [(.string t2)] H6 (fun r10 H11 =>
 opI .u64 r10 fun n14 =>
 wPt s2 fun i16 k17 =>
 wSt i16 k17 [(.int .u32 (IntKind.u32.wrap n9)), (.int .u64 n14), (.int .i64 (IntKind.i64.wrap n3)), (.string t4)] H11 fun H15 =>
 wPt s2 fun i18 k19 =>
 ldI .u32 i18 k19 H15 fun n20 =>
 ldI .u64 i18 (k19 + 1) H15 fun n21 =>
 ldI .i64 i18 (k19 + 2) H15 fun n22 =>
 ldS i18 (k19 + 3) H15 fun t23 =>
 R (.ret (.tuple #[(.agg #[(.int .u32 n20), (.int .u64 n21), (.int .i64 n22), (.string t23)]), (.int .i64 0)])) H15) (fun v13 H12 => R (.panic v13) H12)) (fun v8 H7 => R (.panic v8) H7)
theorem f14_J1_eq (s0 : ByteArray) (s1 : Value) (s2 : Option Addr) (s3 : Value) (s4 : Value) (s5 : Int) (s6 : Value) (s7 : Value) (s8 : Value) (s9 : Value) (s10 : Value) (s11 : Value) (s12 : Value) (s13 : Value) (s14 : Value) (s15 : Value) (s16 : Value) (s17 : Value) (s18 : Value) (s19 : Value) (s20 : Value) (s21 : Value) (s22 : Value) (s23 : Value) (s24 : Value) (s25 : Value) (s26 : Value) (s27 : Value) (s28 : Value) (s29 : Value) (s30 : Value) (s31 : Value) (s32 : Value) (s33 : Value) (s34 : Value) (s35 : Value) (s36 : Value) (s37 : Value) (s38 : Value) (s39 : Value) (s40 : Value) (s41 : Value) (s42 : Value) (s43 : Value) (s44 : Value) (s45 : Value) (s46 : Value) (s47 : Value) (s48 : Value) (s49 : Value) (s50 : Value) (s51 : Value) (s52 : Value) (s53 : Value) (s54 : Value) (s55 : Value) (s56 : Value) (s57 : Value) (s58 : Value) (s59 : Value) (s60 : Value) (s61 : Value) (s62 : Value) (s63 : Value) (H : AH) (R : AEnd → AH → Prop) : f14_J1 R [(.string s0), s1, (.pointer s2), s3, s4, (.int .i64 s5), s6, s7, s8, s9, s10, s11, s12, s13, s14, s15, s16, s17, s18, s19, s20, s21, s22, s23, s24, s25, s26, s27, s28, s29, s30, s31, s32, s33, s34, s35, s36, s37, s38, s39, s40, s41, s42, s43, s44, s45, s46, s47, s48, s49, s50, s51, s52, s53, s54, s55, s56, s57, s58, s59, s60, s61, s62, s63] H = f14_J1_B s0 s2 s5 H R := by kernel_rfl
-- join 0: live 0:s, 2:, 5:end, 48:
def f14_J0_B (s0 : ByteArray) (s1 : Value) (s2 : Option Addr) (s3 : Value) (s4 : Value) (s5 : Int) (s6 : Value) (s7 : Value) (s8 : Value) (s9 : Value) (s10 : Value) (s11 : Value) (s12 : Value) (s13 : Value) (s14 : Value) (s15 : Value) (s16 : Value) (s17 : Value) (s18 : Value) (s19 : Value) (s20 : Value) (s21 : Value) (s22 : Value) (s23 : Value) (s24 : Value) (s25 : Value) (s26 : Value) (s27 : Value) (s28 : Value) (s29 : Value) (s30 : Value) (s31 : Value) (s32 : Value) (s33 : Value) (s34 : Value) (s35 : Value) (s36 : Value) (s37 : Value) (s38 : Value) (s39 : Value) (s40 : Value) (s41 : Value) (s42 : Value) (s43 : Value) (s44 : Value) (s45 : Value) (s46 : Value) (s47 : Value) (s48 : Bool) (s49 : Value) (s50 : Value) (s51 : Value) (s52 : Value) (s53 : Value) (s54 : Value) (s55 : Value) (s56 : Value) (s57 : Value) (s58 : Value) (s59 : Value) (s60 : Value) (s61 : Value) (s62 : Value) (s63 : Value) (H : AH) (R : AEnd → AH → Prop) : Prop :=
 wIf s48
 (wPt s2 fun i25 k26 =>
 wSt i25 k26 [(.int .u32 0), (.int .u64 0), (.int .i64 0), (.string ({ data := #[] }))] H fun H24 =>
 wPt s2 fun i27 k28 =>
 ldI .u32 i27 k28 H24 fun n29 =>
 ldI .u64 i27 (k28 + 1) H24 fun n30 =>
 ldI .i64 i27 (k28 + 2) H24 fun n31 =>
 ldS i27 (k28 + 3) H24 fun t32 =>
 R (.ret (.tuple #[(.agg #[(.int .u32 n29), (.int .u64 n30), (.int .i64 n31), (.string t32)]), (.int .i64 4)])) H24)
 (f14_J1 R [(.string s0), s1, (.pointer s2), s3, s4, (.int .i64 s5), s6, s7, s8, s9, s10, s11, s12, s13, s14, s15, s16, s17, s18, s19, s20, s21, s22, s23, s24, s25, s26, s27, s28, s29, s30, s31, s32, s33, s34, s35, s36, s37, s38, s39, s40, s41, s42, s43, s44, s45, s46, s47, (.bool false), s49, s50, s51, s52, s53, s54, s55, s56, s57, s58, s59, s60, s61, s62, s63] H)
theorem f14_J0_eq (s0 : ByteArray) (s1 : Value) (s2 : Option Addr) (s3 : Value) (s4 : Value) (s5 : Int) (s6 : Value) (s7 : Value) (s8 : Value) (s9 : Value) (s10 : Value) (s11 : Value) (s12 : Value) (s13 : Value) (s14 : Value) (s15 : Value) (s16 : Value) (s17 : Value) (s18 : Value) (s19 : Value) (s20 : Value) (s21 : Value) (s22 : Value) (s23 : Value) (s24 : Value) (s25 : Value) (s26 : Value) (s27 : Value) (s28 : Value) (s29 : Value) (s30 : Value) (s31 : Value) (s32 : Value) (s33 : Value) (s34 : Value) (s35 : Value) (s36 : Value) (s37 : Value) (s38 : Value) (s39 : Value) (s40 : Value) (s41 : Value) (s42 : Value) (s43 : Value) (s44 : Value) (s45 : Value) (s46 : Value) (s47 : Value) (s48 : Bool) (s49 : Value) (s50 : Value) (s51 : Value) (s52 : Value) (s53 : Value) (s54 : Value) (s55 : Value) (s56 : Value) (s57 : Value) (s58 : Value) (s59 : Value) (s60 : Value) (s61 : Value) (s62 : Value) (s63 : Value) (H : AH) (R : AEnd → AH → Prop) : f14_J0 R [(.string s0), s1, (.pointer s2), s3, s4, (.int .i64 s5), s6, s7, s8, s9, s10, s11, s12, s13, s14, s15, s16, s17, s18, s19, s20, s21, s22, s23, s24, s25, s26, s27, s28, s29, s30, s31, s32, s33, s34, s35, s36, s37, s38, s39, s40, s41, s42, s43, s44, s45, s46, s47, (.bool s48), s49, s50, s51, s52, s53, s54, s55, s56, s57, s58, s59, s60, s61, s62, s63] H = f14_J0_B s0 s1 s2 s3 s4 s5 s6 s7 s8 s9 s10 s11 s12 s13 s14 s15 s16 s17 s18 s19 s20 s21 s22 s23 s24 s25 s26 s27 s28 s29 s30 s31 s32 s33 s34 s35 s36 s37 s38 s39 s40 s41 s42 s43 s44 s45 s46 s47 s48 s49 s50 s51 s52 s53 s54 s55 s56 s57 s58 s59 s60 s61 s62 s63 H R := by kernel_rfl
def f14_B (x0 : ByteArray) (H : AH) (R : AEnd → AH → Prop) : Prop :=
 wNew [(.int .u32 0), (.int .u64 0), (.int .i64 0), (.string ({ data := #[] }))] H fun i33 H34 =>
 wIf (decide ((x0.size : Int) < 21))
 (wSt i33 0 [(.int .u32 0), (.int .u64 0), (.int .i64 0), (.string ({ data := #[] }))] H34 fun H35 =>
 wPt (some ⟨i33, 0, none⟩) fun i36 k37 =>
 ldI .u32 i36 k37 H35 fun n38 =>
 ldI .u64 i36 (k37 + 1) H35 fun n39 =>
 ldI .i64 i36 (k37 + 2) H35 fun n40 =>
 ldS i36 (k37 + 3) H35 fun t41 =>
 R (.ret (.tuple #[(.agg #[(.int .u32 n38), (.int .u64 n39), (.int .i64 n40), (.string t41)]), (.int .i64 3)])) H35)
 (wSlS x0 17 21 fun t42 =>
 wCall Tryd.prog 26 [(.string t42)] H34 (fun r43 H44 =>
 opI .u64 r43 fun n47 =>
 wIf (decide (n47 > 1048576))
 (wSt i33 0 [(.int .u32 0), (.int .u64 0), (.int .i64 0), (.string ({ data := #[] }))] H44 fun H48 =>
 wPt (some ⟨i33, 0, none⟩) fun i49 k50 =>
 ldI .u32 i49 k50 H48 fun n51 =>
 ldI .u64 i49 (k50 + 1) H48 fun n52 =>
 ldI .i64 i49 (k50 + 2) H48 fun n53 =>
 ldS i49 (k50 + 3) H48 fun t54 =>
 R (.ret (.tuple #[(.agg #[(.int .u32 n51), (.int .u64 n52), (.int .i64 n53), (.string t54)]), (.int .i64 4)])) H48)
 (wCall Tryd.prog 12 [(.int .i64 (IntKind.i64.wrap n47))] H44 (fun r55 H56 =>
 opI .i64 r55 fun n59 =>
 wIf (decide ((IntKind.i64.wrap (n59 * 64)) > (x0.size : Int)))
 (wSt i33 0 [(.int .u32 0), (.int .u64 0), (.int .i64 0), (.string ({ data := #[] }))] H56 fun H60 =>
 wPt (some ⟨i33, 0, none⟩) fun i61 k62 =>
 ldI .u32 i61 k62 H60 fun n63 =>
 ldI .u64 i61 (k62 + 1) H60 fun n64 =>
 ldI .i64 i61 (k62 + 2) H60 fun n65 =>
 ldS i61 (k62 + 3) H60 fun t66 =>
 R (.ret (.tuple #[(.agg #[(.int .u32 n63), (.int .u64 n64), (.int .i64 n65), (.string t66)]), (.int .i64 3)])) H60)
 (wSlS x0 4 (IntKind.i64.wrap (21 + (IntKind.i64.wrap n47))) fun t67 =>
 wSlS x0 0 4 fun t68 =>
 wCall Tryd.prog 22 [(.string t67)] H56 (fun r69 H70 =>
 opI .u32 r69 fun n73 =>
 wCall Tryd.prog 26 [(.string t68)] H70 (fun r74 H75 =>
 opI .u64 r74 fun n78 =>
 wIf (!decide ((IntKind.u64.wrap n73) = n78))
 (f14_J0 R [(.string x0), undef, (.pointer (some ⟨i33, 0, none⟩)), (.int .i64 0), (.int .u64 n47), (.int .i64 (IntKind.i64.wrap (21 + (IntKind.i64.wrap n47)))), (.string x0), (.int .i64 (x0.size : Int)), (.bool false), undef, (.string x0), (.string t42), (.int .u64 n47), (.bool false), (.int .u64 n47), (.bool (decide (n47 > 1048576))), undef, (.bool false), (.int .u64 n47), (.int .i64 (IntKind.i64.wrap n47)), (.int .i64 n59), (.int .i64 (IntKind.i64.wrap (n59 * 64))), (.string x0), (.int .i64 (x0.size : Int)), (.bool (decide ((IntKind.i64.wrap (n59 * 64)) > (x0.size : Int)))), undef, (.int .u64 n47), (.int .i64 (IntKind.i64.wrap n47)), (.int .i64 (IntKind.i64.wrap (21 + (IntKind.i64.wrap n47)))), (.string x0), (.int .i64 (IntKind.i64.wrap (21 + (IntKind.i64.wrap n47)))), (.string t67), (.int .u32 n73), (.int .u64 (IntKind.u64.wrap n73)), (.string x0), (.string t68), (.int .u64 n78), (.bool (!decide ((IntKind.u64.wrap n73) = n78))), (.bool true), undef, undef, undef, undef, undef, undef, undef, undef, undef, (.bool true), undef, undef, undef, undef, undef, undef, undef, undef, undef, undef, undef, undef, undef, undef, undef] H75)
 (wCall Tryd.prog 12 [(.int .i64 (IntKind.i64.wrap n47))] H75 (fun r79 H80 =>
 opI .i64 r79 fun n83 =>
 wSlS x0 (IntKind.i64.wrap (21 + (IntKind.i64.wrap n47))) (IntKind.i64.wrap (n83 * 64)) fun t84 =>
 wCall Tryd.prog 27 [(.string t84), (.string ({ data := #[0] }))] H80 (fun r85 H86 =>
 opS r85 fun t89 =>
 f14_J0 R [(.string x0), undef, (.pointer (some ⟨i33, 0, none⟩)), (.int .i64 0), (.int .u64 n47), (.int .i64 (IntKind.i64.wrap (21 + (IntKind.i64.wrap n47)))), (.string x0), (.int .i64 (x0.size : Int)), (.bool false), undef, (.string x0), (.string t42), (.int .u64 n47), (.bool false), (.int .u64 n47), (.bool (decide (n47 > 1048576))), undef, (.bool false), (.int .u64 n47), (.int .i64 (IntKind.i64.wrap n47)), (.int .i64 n59), (.int .i64 (IntKind.i64.wrap (n59 * 64))), (.string x0), (.int .i64 (x0.size : Int)), (.bool (decide ((IntKind.i64.wrap (n59 * 64)) > (x0.size : Int)))), undef, (.int .u64 n47), (.int .i64 (IntKind.i64.wrap n47)), (.int .i64 (IntKind.i64.wrap (21 + (IntKind.i64.wrap n47)))), (.string x0), (.int .i64 (IntKind.i64.wrap (21 + (IntKind.i64.wrap n47)))), (.string t67), (.int .u32 n73), (.int .u64 (IntKind.u64.wrap n73)), (.string x0), (.string t68), (.int .u64 n78), (.bool (!decide ((IntKind.u64.wrap n73) = n78))), (.bool false), (.string x0), (.int .i64 (IntKind.i64.wrap (21 + (IntKind.i64.wrap n47)))), (.int .u64 n47), (.int .i64 (IntKind.i64.wrap n47)), (.int .i64 n83), (.int .i64 (IntKind.i64.wrap (n83 * 64))), (.string t84), (.string t89), (.bool (!decide (t89 = ({ data := #[] })))), (.bool (!decide (t89 = ({ data := #[] })))), undef, undef, undef, undef, undef, undef, undef, undef, undef, undef, undef, undef, undef, undef, undef] H86) (fun v88 H87 => R (.panic v88) H87)) (fun v82 H81 => R (.panic v82) H81))) (fun v77 H76 => R (.panic v77) H76)) (fun v72 H71 => R (.panic v72) H71))) (fun v58 H57 => R (.panic v58) H57))) (fun v46 H45 => R (.panic v46) H45))
theorem f14_eq (x0 : ByteArray) (H : AH) (R : AEnd → AH → Prop) : awpF Tryd.prog f14_c (aPost Tryd.prog Tryd.f14 R) (([(.string x0)] : List Value) ++ List.replicate (Tryd.f14.ntmps - (([(.string x0)] : List Value)).length) undef) H = f14_B x0 H R := by kernel_rfl
theorem f14_call (x0 : ByteArray) (H : AH) (R : AEnd → AH → Prop) (h : f14_B x0 H R) : ACall Tryd.prog 14 ([(.string x0)] : List Value) H R :=
  acall_of mixed Tryd.func14 (by kernel_rfl : Tryd.f14.body = some f14_c) (by kernel_rfl) (by kernel_rfl) (awp_of (Eq.mpr (f14_eq x0 H R) h))

/-! f15: switchyard/switchyardref04.Get -/
noncomputable def f15_c : Code := Tryd.f15.body.getD .skip
def f15_J0 (R : AEnd → AH → Prop) (tm : List Value) (H : AH) : Prop := hold (awpF Tryd.prog (codeAt f15_c [1, 1, 1, 1, 1, 1, 1]) ((aPost Tryd.prog Tryd.f15 R)) tm H)
-- join 0: live 0:s, 2:, 5:k, 6:u
def f15_J0_B (s0 : ByteArray) (s2 : Option Addr) (s5 : Int) (s6 : Option Addr) (H : AH) (R : AEnd → AH → Prop) : Prop :=
 wPt s6 fun i1 k2 =>
 ldI .u32 i1 k2 H fun n3 =>
 ldI .u64 i1 (k2 + 1) H fun n4 =>
 ldI .i64 i1 (k2 + 2) H fun n5 =>
 ldS i1 (k2 + 3) H fun t6 =>
 wCall Tryd.prog 11 [(.agg #[(.int .u32 n3), (.int .u64 n4), (.int .i64 n5), (.string t6)])] H (fun r7 H8 =>
 opT 2 r7 fun l11 =>
 opS (l11.headD undef) fun t12 =>
 opI .i64 (l11.tail.headD undef) fun n13 =>
 wSlS s0 0 s5 fun t14 =>
 wIf (!decide (t12 = t14))
 (wPt s2 fun i16 k17 =>
 wSt i16 k17 [(.int .u32 0), (.int .u64 0), (.int .i64 0), (.string ({ data := #[] }))] H8 fun H15 =>
 wPt s2 fun i18 k19 =>
 ldI .u32 i18 k19 H15 fun n20 =>
 ldI .u64 i18 (k19 + 1) H15 fun n21 =>
 ldI .i64 i18 (k19 + 2) H15 fun n22 =>
 ldS i18 (k19 + 3) H15 fun t23 =>
 R (.ret (.tuple #[(.agg #[(.int .u32 n20), (.int .u64 n21), (.int .i64 n22), (.string t23)]), (.int .i64 4)])) H15)
 (wPt s6 fun i24 k25 =>
 ldI .u32 i24 k25 H8 fun n26 =>
 ldI .u64 i24 (k25 + 1) H8 fun n27 =>
 ldI .i64 i24 (k25 + 2) H8 fun n28 =>
 ldS i24 (k25 + 3) H8 fun t29 =>
 wPt s2 fun i31 k32 =>
 wSt i31 k32 [(.int .u32 n26), (.int .u64 n27), (.int .i64 n28), (.string t29)] H8 fun H30 =>
 wPt s2 fun i33 k34 =>
 ldI .u32 i33 k34 H30 fun n35 =>
 ldI .u64 i33 (k34 + 1) H30 fun n36 =>
 ldI .i64 i33 (k34 + 2) H30 fun n37 =>
 ldS i33 (k34 + 3) H30 fun t38 =>
 R (.ret (.tuple #[(.agg #[(.int .u32 n35), (.int .u64 n36), (.int .i64 n37), (.string t38)]), (.int .i64 0)])) H30)) (fun v10 H9 => R (.panic v10) H9)
theorem f15_J0_eq (s0 : ByteArray) (s1 : Value) (s2 : Option Addr) (s3 : Value) (s4 : Value) (s5 : Int) (s6 : Option Addr) (s7 : Value) (s8 : Value) (s9 : Value) (s10 : Value) (s11 : Value) (s12 : Value) (s13 : Value) (s14 : Value) (s15 : Value) (s16 : Value) (s17 : Value) (s18 : Value) (s19 : Value) (s20 : Value) (s21 : Value) (s22 : Value) (s23 : Value) (s24 : Value) (s25 : Value) (s26 : Value) (s27 : Value) (s28 : Value) (s29 : Value) (s30 : Value) (s31 : Value) (s32 : Value) (s33 : Value) (s34 : Value) (s35 : Value) (s36 : Value) (s37 : Value) (s38 : Value) (s39 : Value) (s40 : Value) (s41 : Value) (s42 : Value) (s43 : Value) (s44 : Value) (s45 : Value) (s46 : Value) (s47 : Value) (s48 : Value) (s49 : Value) (s50 : Value) (s51 : Value) (s52 : Value) (s53 : Value) (s54 : Value) (s55 : Value) (s56 : Value) (s57 : Value) (H : AH) (R : AEnd → AH → Prop) : f15_J0 R [(.string s0), s1, (.pointer s2), s3, s4, (.int .i64 s5), (.pointer s6), s7, s8, s9, s10, s11, s12, s13, s14, s15, s16, s17, s18, s19, s20, s21, s22, s23, s24, s25, s26, s27, s28, s29, s30, s31, s32, s33, s34, s35, s36, s37, s38, s39, s40, s41, s42, s43, s44, s45, s46, s47, s48, s49, s50, s51, s52, s53, s54, s55, s56, s57] H = f15_J0_B s0 s2 s5 s6 H R := by kernel_rfl
def f15_B (x0 : ByteArray) (H : AH) (R : AEnd → AH → Prop) : Prop :=
 wNew [(.int .u32 0), (.int .u64 0), (.int .i64 0), (.string ({ data := #[] }))] H fun i39 H40 =>
 wIf (decide ((x0.size : Int) < 21))
 (wSt i39 0 [(.int .u32 0), (.int .u64 0), (.int .i64 0), (.string ({ data := #[] }))] H40 fun H41 =>
 wPt (some ⟨i39, 0, none⟩) fun i42 k43 =>
 ldI .u32 i42 k43 H41 fun n44 =>
 ldI .u64 i42 (k43 + 1) H41 fun n45 =>
 ldI .i64 i42 (k43 + 2) H41 fun n46 =>
 ldS i42 (k43 + 3) H41 fun t47 =>
 R (.ret (.tuple #[(.agg #[(.int .u32 n44), (.int .u64 n45), (.int .i64 n46), (.string t47)]), (.int .i64 3)])) H41)
 (wSlS x0 17 21 fun t48 =>
 wCall Tryd.prog 28 [(.string t48)] H40 (fun r49 H50 =>
 opI .u64 r49 fun n53 =>
 wIf (decide (n53 > 1048576))
 (wSt i39 0 [(.int .u32 0), (.int .u64 0), (.int .i64 0), (.string ({ data := #[] }))] H50 fun H54 =>
 wPt (some ⟨i39, 0, none⟩) fun i55 k56 =>
 ldI .u32 i55 k56 H54 fun n57 =>
 ldI .u64 i55 (k56 + 1) H54 fun n58 =>
 ldI .i64 i55 (k56 + 2) H54 fun n59 =>
 ldS i55 (k56 + 3) H54 fun t60 =>
 R (.ret (.tuple #[(.agg #[(.int .u32 n57), (.int .u64 n58), (.int .i64 n59), (.string t60)]), (.int .i64 4)])) H54)
 (wIf (decide ((x0.size : Int) < (IntKind.i64.wrap ((IntKind.i64.wrap (Int.tdiv (IntKind.i64.wrap ((IntKind.i64.wrap ((IntKind.i64.wrap n53) + 21)) + 63)) 64)) * 64))))
 (wSt i39 0 [(.int .u32 0), (.int .u64 0), (.int .i64 0), (.string ({ data := #[] }))] H50 fun H61 =>
 wPt (some ⟨i39, 0, none⟩) fun i62 k63 =>
 ldI .u32 i62 k63 H61 fun n64 =>
 ldI .u64 i62 (k63 + 1) H61 fun n65 =>
 ldI .i64 i62 (k63 + 2) H61 fun n66 =>
 ldS i62 (k63 + 3) H61 fun t67 =>
 R (.ret (.tuple #[(.agg #[(.int .u32 n64), (.int .u64 n65), (.int .i64 n66), (.string t67)]), (.int .i64 3)])) H61)
 (wSlS x0 4 8 fun t68 =>
 wSlS x0 8 16 fun t69 =>
 wIxS x0 16 fun n70 =>
 wSlS x0 21 (IntKind.i64.wrap (21 + (IntKind.i64.wrap n53))) fun t71 =>
 (wCall Tryd.prog 28 [(.string t68)] H50 (fun r72 H73 =>
 opI .u64 r72 fun n76 =>
 (wCall Tryd.prog 28 [(.string t69)] H73 (fun r77 H78 =>
 opI .u64 r77 fun n81 =>
 wNew [(.int .u32 0), (.int .u64 0), (.int .i64 0), (.string ({ data := #[] }))] H78 fun i82 H83 =>
 wSt i82 0 [(.int .u32 (IntKind.u32.wrap n76)), (.int .u64 n81), (.int .i64 (IntKind.i64.wrap n70)), (.string t71)] H83 fun H84 =>
 f15_J0 R [(.string x0), undef, (.pointer (some ⟨i39, 0, none⟩)), (.int .i64 0), (.int .u64 n53), (.int .i64 (IntKind.i64.wrap ((IntKind.i64.wrap (Int.tdiv (IntKind.i64.wrap ((IntKind.i64.wrap ((IntKind.i64.wrap n53) + 21)) + 63)) 64)) * 64))), (.pointer (some ⟨i82, 0, none⟩)), undef, undef, (.string x0), (.int .i64 (x0.size : Int)), (.bool false), undef, (.string x0), (.string t48), (.int .u64 n53), (.int .u64 n53), (.bool false), undef, (.int .u64 n53), (.int .i64 (IntKind.i64.wrap n53)), (.int .i64 (IntKind.i64.wrap ((IntKind.i64.wrap n53) + 21))), (.int .i64 (IntKind.i64.wrap ((IntKind.i64.wrap ((IntKind.i64.wrap n53) + 21)) + 63))), (.int .i64 (IntKind.i64.wrap (Int.tdiv (IntKind.i64.wrap ((IntKind.i64.wrap ((IntKind.i64.wrap n53) + 21)) + 63)) 64))), (.int .i64 (IntKind.i64.wrap ((IntKind.i64.wrap (Int.tdiv (IntKind.i64.wrap ((IntKind.i64.wrap ((IntKind.i64.wrap n53) + 21)) + 63)) 64)) * 64))), (.string x0), (.int .i64 (x0.size : Int)), (.int .i64 (IntKind.i64.wrap ((IntKind.i64.wrap (Int.tdiv (IntKind.i64.wrap ((IntKind.i64.wrap ((IntKind.i64.wrap n53) + 21)) + 63)) 64)) * 64))), (.bool false), undef, (.string x0), (.string t68), (.int .u64 n76), (.int .u32 (IntKind.u32.wrap n76)), (.string x0), (.string t69), (.int .u64 n81), (.string x0), (.int .u8 n70), (.int .i64 (IntKind.i64.wrap n70)), (.string x0), (.int .u64 n53), (.int .i64 (IntKind.i64.wrap n53)), (.int .i64 (IntKind.i64.wrap (21 + (IntKind.i64.wrap n53)))), (.string t71), (.agg #[(.int .u32 (IntKind.u32.wrap n76)), (.int .u64 n81), (.int .i64 (IntKind.i64.wrap n70)), (.string t71)]), undef, undef, undef, undef, undef, undef, undef, undef, undef, undef, undef, undef] H84) (fun v80 H79 => R (.panic v80) H79)) ∧
 (wNew [(.int .u32 0), (.int .u64 0), (.int .i64 0), (.string ({ data := #[] }))] H73 fun i85 H86 =>
 wCall Tryd.prog 28 [(.string t69)] H86 (fun r87 H88 =>
 opI .u64 r87 fun n91 =>
 wSt i85 0 [(.int .u32 (IntKind.u32.wrap n76)), (.int .u64 n91), (.int .i64 (IntKind.i64.wrap n70)), (.string t71)] H88 fun H92 =>
 f15_J0 R [(.string x0), undef, (.pointer (some ⟨i39, 0, none⟩)), (.int .i64 0), (.int .u64 n53), (.int .i64 (IntKind.i64.wrap ((IntKind.i64.wrap (Int.tdiv (IntKind.i64.wrap ((IntKind.i64.wrap ((IntKind.i64.wrap n53) + 21)) + 63)) 64)) * 64))), (.pointer (some ⟨i85, 0, none⟩)), undef, undef, (.string x0), (.int .i64 (x0.size : Int)), (.bool false), undef, (.string x0), (.string t48), (.int .u64 n53), (.int .u64 n53), (.bool false), undef, (.int .u64 n53), (.int .i64 (IntKind.i64.wrap n53)), (.int .i64 (IntKind.i64.wrap ((IntKind.i64.wrap n53) + 21))), (.int .i64 (IntKind.i64.wrap ((IntKind.i64.wrap ((IntKind.i64.wrap n53) + 21)) + 63))), (.int .i64 (IntKind.i64.wrap (Int.tdiv (IntKind.i64.wrap ((IntKind.i64.wrap ((IntKind.i64.wrap n53) + 21)) + 63)) 64))), (.int .i64 (IntKind.i64.wrap ((IntKind.i64.wrap (Int.tdiv (IntKind.i64.wrap ((IntKind.i64.wrap ((IntKind.i64.wrap n53) + 21)) + 63)) 64)) * 64))), (.string x0), (.int .i64 (x0.size : Int)), (.int .i64 (IntKind.i64.wrap ((IntKind.i64.wrap (Int.tdiv (IntKind.i64.wrap ((IntKind.i64.wrap ((IntKind.i64.wrap n53) + 21)) + 63)) 64)) * 64))), (.bool false), undef, (.string x0), (.string t68), (.int .u64 n76), (.int .u32 (IntKind.u32.wrap n76)), (.string x0), (.string t69), (.int .u64 n91), (.string x0), (.int .u8 n70), (.int .i64 (IntKind.i64.wrap n70)), (.string x0), (.int .u64 n53), (.int .i64 (IntKind.i64.wrap n53)), (.int .i64 (IntKind.i64.wrap (21 + (IntKind.i64.wrap n53)))), (.string t71), (.agg #[(.int .u32 (IntKind.u32.wrap n76)), (.int .u64 n91), (.int .i64 (IntKind.i64.wrap n70)), (.string t71)]), undef, undef, undef, undef, undef, undef, undef, undef, undef, undef, undef, undef] H92) (fun v90 H89 => R (.panic v90) H89))) (fun v75 H74 => R (.panic v75) H74)) ∧
 (wNew [(.int .u32 0), (.int .u64 0), (.int .i64 0), (.string ({ data := #[] }))] H50 fun i93 H94 =>
 wCall Tryd.prog 28 [(.string t68)] H94 (fun r95 H96 =>
 opI .u64 r95 fun n99 =>
 wCall Tryd.prog 28 [(.string t69)] H96 (fun r100 H101 =>
 opI .u64 r100 fun n104 =>
 wSt i93 0 [(.int .u32 (IntKind.u32.wrap n99)), (.int .u64 n104), (.int .i64 (IntKind.i64.wrap n70)), (.string t71)] H101 fun H105 =>
 f15_J0 R [(.string x0), undef, (.pointer (some ⟨i39, 0, none⟩)), (.int .i64 0), (.int .u64 n53), (.int .i64 (IntKind.i64.wrap ((IntKind.i64.wrap (Int.tdiv (IntKind.i64.wrap ((IntKind.i64.wrap ((IntKind.i64.wrap n53) + 21)) + 63)) 64)) * 64))), (.pointer (some ⟨i93, 0, none⟩)), undef, undef, (.string x0), (.int .i64 (x0.size : Int)), (.bool false), undef, (.string x0), (.string t48), (.int .u64 n53), (.int .u64 n53), (.bool false), undef, (.int .u64 n53), (.int .i64 (IntKind.i64.wrap n53)), (.int .i64 (IntKind.i64.wrap ((IntKind.i64.wrap n53) + 21))), (.int .i64 (IntKind.i64.wrap ((IntKind.i64.wrap ((IntKind.i64.wrap n53) + 21)) + 63))), (.int .i64 (IntKind.i64.wrap (Int.tdiv (IntKind.i64.wrap ((IntKind.i64.wrap ((IntKind.i64.wrap n53) + 21)) + 63)) 64))), (.int .i64 (IntKind.i64.wrap ((IntKind.i64.wrap (Int.tdiv (IntKind.i64.wrap ((IntKind.i64.wrap ((IntKind.i64.wrap n53) + 21)) + 63)) 64)) * 64))), (.string x0), (.int .i64 (x0.size : Int)), (.int .i64 (IntKind.i64.wrap ((IntKind.i64.wrap (Int.tdiv (IntKind.i64.wrap ((IntKind.i64.wrap ((IntKind.i64.wrap n53) + 21)) + 63)) 64)) * 64))), (.bool false), undef, (.string x0), (.string t68), (.int .u64 n99), (.int .u32 (IntKind.u32.wrap n99)), (.string x0), (.string t69), (.int .u64 n104), (.string x0), (.int .u8 n70), (.int .i64 (IntKind.i64.wrap n70)), (.string x0), (.int .u64 n53), (.int .i64 (IntKind.i64.wrap n53)), (.int .i64 (IntKind.i64.wrap (21 + (IntKind.i64.wrap n53)))), (.string t71), (.agg #[(.int .u32 (IntKind.u32.wrap n99)), (.int .u64 n104), (.int .i64 (IntKind.i64.wrap n70)), (.string t71)]), undef, undef, undef, undef, undef, undef, undef, undef, undef, undef, undef, undef] H105) (fun v103 H102 => R (.panic v103) H102)) (fun v98 H97 => R (.panic v98) H97))))) (fun v52 H51 => R (.panic v52) H51))
theorem f15_eq (x0 : ByteArray) (H : AH) (R : AEnd → AH → Prop) : awpF Tryd.prog f15_c (aPost Tryd.prog Tryd.f15 R) (([(.string x0)] : List Value) ++ List.replicate (Tryd.f15.ntmps - (([(.string x0)] : List Value)).length) undef) H = f15_B x0 H R := by kernel_rfl
theorem f15_call (x0 : ByteArray) (H : AH) (R : AEnd → AH → Prop) (h : f15_B x0 H R) : ACall Tryd.prog 15 ([(.string x0)] : List Value) H R :=
  acall_of mixed Tryd.func15 (by kernel_rfl : Tryd.f15.body = some f15_c) (by kernel_rfl) (by kernel_rfl) (awp_of (Eq.mpr (f15_eq x0 H R) h))

/-! f17: switchyard/switchyardref04.GetHead -/
noncomputable def f17_c : Code := Tryd.f17.body.getD .skip
def f17_J0 (R : AEnd → AH → Prop) (tm : List Value) (H : AH) : Prop := hold (awpF Tryd.prog (codeAt f17_c [1, 1, 1]) ((aPost Tryd.prog Tryd.f17 R)) tm H)
noncomputable def f17_X0 (R : AEnd → AH → Prop) : AExit → List Value → AH → Prop := thenF (fun tm H => hold (awpF Tryd.prog (codeAt f17_c [1, 1, 1, 1, 1]) (aPost Tryd.prog Tryd.f17 R) tm H)) (aPost Tryd.prog Tryd.f17 R)
def f17_J1 (R : AEnd → AH → Prop) (tm : List Value) (H : AH) : Prop := hold (awpF Tryd.prog (codeAt f17_c [1, 1, 1, 1, 0, 1]) ((f17_X0 R)) tm H)
def f17_J2 (R : AEnd → AH → Prop) (tm : List Value) (H : AH) : Prop := hold (awpF Tryd.prog (codeAt f17_c [1, 1, 1, 1, 1]) ((aPost Tryd.prog Tryd.f17 R)) tm H)
-- join 2: live 2:, 4:h
def f17_J2_B (s2 : Option Addr) (s4 : Option Addr) (H : AH) (R : AEnd → AH → Prop) : Prop :=
 wPt s4 fun i1 k2 =>
 ldI .u32 i1 k2 H fun n3 =>
 ldI .u32 i1 (k2 + 1) H fun n4 =>
 ldI .u32 i1 (k2 + 2) H fun n5 =>
 ldI .u64 i1 (k2 + 3) H fun n6 =>
 wPt s2 fun i8 k9 =>
 wSt i8 k9 [(.int .u32 n3), (.int .u32 n4), (.int .u32 n5), (.int .u64 n6)] H fun H7 =>
 wPt s2 fun i10 k11 =>
 ldI .u32 i10 k11 H7 fun n12 =>
 ldI .u32 i10 (k11 + 1) H7 fun n13 =>
 ldI .u32 i10 (k11 + 2) H7 fun n14 =>
 ldI .u64 i10 (k11 + 3) H7 fun n15 =>
 R (.ret (.tuple #[(.agg #[(.int .u32 n12), (.int .u32 n13), (.int .u32 n14), (.int .u64 n15)]), (.bool true)])) H7
theorem f17_J2_eq (s0 : Value) (s1 : Value) (s2 : Option Addr) (s3 : Value) (s4 : Option Addr) (s5 : Value) (s6 : Value) (s7 : Value) (s8 : Value) (s9 : Value) (s10 : Value) (s11 : Value) (s12 : Value) (s13 : Value) (s14 : Value) (s15 : Value) (s16 : Value) (s17 : Value) (s18 : Value) (s19 : Value) (s20 : Value) (s21 : Value) (s22 : Value) (s23 : Value) (s24 : Value) (s25 : Value) (s26 : Value) (s27 : Value) (s28 : Value) (s29 : Value) (s30 : Value) (s31 : Value) (s32 : Value) (s33 : Value) (s34 : Value) (s35 : Value) (s36 : Value) (s37 : Value) (s38 : Value) (s39 : Value) (s40 : Value) (H : AH) (R : AEnd → AH → Prop) : f17_J2 R [s0, s1, (.pointer s2), s3, (.pointer s4), s5, s6, s7, s8, s9, s10, s11, s12, s13, s14, s15, s16, s17, s18, s19, s20, s21, s22, s23, s24, s25, s26, s27, s28, s29, s30, s31, s32, s33, s34, s35, s36, s37, s38, s39, s40] H = f17_J2_B s2 s4 H R := by kernel_rfl
-- join 1: live 2:, 4:h, 38:
def f17_J1_B (s0 : Value) (s1 : Value) (s2 : Option Addr) (s3 : Value) (s4 : Option Addr) (s5 : Value) (s6 : Value) (s7 : Value) (s8 : Value) (s9 : Value) (s10 : Value) (s11 : Value) (s12 : Value) (s13 : Value) (s14 : Value) (s15 : Value) (s16 : Value) (s17 : Value) (s18 : Value) (s19 : Value) (s20 : Value) (s21 : Value) (s22 : Value) (s23 : Value) (s24 : Value) (s25 : Value) (s26 : Value) (s27 : Value) (s28 : Value) (s29 : Value) (s30 : Value) (s31 : Value) (s32 : Value) (s33 : Value) (s34 : Value) (s35 : Value) (s36 : Value) (s37 : Value) (s38 : Bool) (s39 : Value) (s40 : Value) (H : AH) (R : AEnd → AH → Prop) : Prop :=
 wIf s38
 (wPt s2 fun i17 k18 =>
 wSt i17 k18 [(.int .u32 0), (.int .u32 0), (.int .u32 0), (.int .u64 0)] H fun H16 =>
 wPt s2 fun i19 k20 =>
 ldI .u32 i19 k20 H16 fun n21 =>
 ldI .u32 i19 (k20 + 1) H16 fun n22 =>
 ldI .u32 i19 (k20 + 2) H16 fun n23 =>
 ldI .u64 i19 (k20 + 3) H16 fun n24 =>
 R (.ret (.tuple #[(.agg #[(.int .u32 n21), (.int .u32 n22), (.int .u32 n23), (.int .u64 n24)]), (.bool false)])) H16)
 (f17_J2 R [s0, s1, (.pointer s2), s3, (.pointer s4), s5, s6, s7, s8, s9, s10, s11, s12, s13, s14, s15, s16, s17, s18, s19, s20, s21, s22, s23, s24, s25, s26, s27, s28, s29, s30, s31, s32, s33, s34, s35, s36, s37, (.bool false), s39, s40] H)
theorem f17_J1_eq (s0 : Value) (s1 : Value) (s2 : Option Addr) (s3 : Value) (s4 : Option Addr) (s5 : Value) (s6 : Value) (s7 : Value) (s8 : Value) (s9 : Value) (s10 : Value) (s11 : Value) (s12 : Value) (s13 : Value) (s14 : Value) (s15 : Value) (s16 : Value) (s17 : Value) (s18 : Value) (s19 : Value) (s20 : Value) (s21 : Value) (s22 : Value) (s23 : Value) (s24 : Value) (s25 : Value) (s26 : Value) (s27 : Value) (s28 : Value) (s29 : Value) (s30 : Value) (s31 : Value) (s32 : Value) (s33 : Value) (s34 : Value) (s35 : Value) (s36 : Value) (s37 : Value) (s38 : Bool) (s39 : Value) (s40 : Value) (H : AH) (R : AEnd → AH → Prop) : f17_J1 R [s0, s1, (.pointer s2), s3, (.pointer s4), s5, s6, s7, s8, s9, s10, s11, s12, s13, s14, s15, s16, s17, s18, s19, s20, s21, s22, s23, s24, s25, s26, s27, s28, s29, s30, s31, s32, s33, s34, s35, s36, s37, (.bool s38), s39, s40] H = f17_J1_B s0 s1 s2 s3 s4 s5 s6 s7 s8 s9 s10 s11 s12 s13 s14 s15 s16 s17 s18 s19 s20 s21 s22 s23 s24 s25 s26 s27 s28 s29 s30 s31 s32 s33 s34 s35 s36 s37 s38 s39 s40 H R := by kernel_rfl
-- join 0: live 0:s, 2:, 4:h
def f17_J0_B (s0 : ByteArray) (s1 : Value) (s2 : Option Addr) (s3 : Value) (s4 : Option Addr) (s7 : Value) (s8 : Value) (s9 : Value) (s10 : Value) (s11 : Value) (s12 : Value) (s13 : Value) (s14 : Value) (s15 : Value) (s16 : Value) (s17 : Value) (s18 : Value) (s19 : Value) (s20 : Value) (s21 : Value) (s22 : Value) (s23 : Value) (s24 : Value) (s25 : Value) (s26 : Value) (s39 : Value) (s40 : Value) (H : AH) (R : AEnd → AH → Prop) : Prop :=
 wPt s4 fun i25 k26 =>
 ldI .u32 i25 k26 H fun n27 =>
 ldI .u32 i25 (k26 + 1) H fun n28 =>
 ldI .u32 i25 (k26 + 2) H fun n29 =>
 ldI .u64 i25 (k26 + 3) H fun n30 =>
 wCall Tryd.prog 19 [(.agg #[(.int .u32 n27), (.int .u32 n28), (.int .u32 n29), (.int .u64 n30)])] H (fun r31 H32 =>
 opT 2 r31 fun l35 =>
 opS (l35.headD undef) fun t36 =>
 opI .i64 (l35.tail.headD undef) fun n37 =>
 wIf (!decide (n37 = 0))
 (f17_J1 R [(.string s0), s1, (.pointer s2), s3, (.pointer s4), (.string t36), (.int .i64 n37), s7, s8, s9, s10, s11, s12, s13, s14, s15, s16, s17, s18, s19, s20, s21, s22, s23, s24, s25, s26, (.tuple #[(.string t36), (.int .i64 n37)]), (.agg #[(.int .u32 n27), (.int .u32 n28), (.int .u32 n29), (.int .u64 n30)]), (.tuple #[(.string t36), (.int .i64 n37)]), (.string t36), (.int .i64 n37), (.int .i64 n37), (.bool (!decide (n37 = 0))), (.bool true), undef, undef, undef, (.bool true), s39, s40] H32)
 (f17_J1 R [(.string s0), s1, (.pointer s2), s3, (.pointer s4), (.string t36), (.int .i64 n37), s7, s8, s9, s10, s11, s12, s13, s14, s15, s16, s17, s18, s19, s20, s21, s22, s23, s24, s25, s26, (.tuple #[(.string t36), (.int .i64 n37)]), (.agg #[(.int .u32 n27), (.int .u32 n28), (.int .u32 n29), (.int .u64 n30)]), (.tuple #[(.string t36), (.int .i64 n37)]), (.string t36), (.int .i64 n37), (.int .i64 n37), (.bool (!decide (n37 = 0))), (.bool false), (.string t36), (.string s0), (.bool (!decide (t36 = s0))), (.bool (!decide (t36 = s0))), s39, s40] H32)) (fun v34 H33 => R (.panic v34) H33)
theorem f17_J0_eq (s0 : ByteArray) (s1 : Value) (s2 : Option Addr) (s3 : Value) (s4 : Option Addr) (s5 : Value) (s6 : Value) (s7 : Value) (s8 : Value) (s9 : Value) (s10 : Value) (s11 : Value) (s12 : Value) (s13 : Value) (s14 : Value) (s15 : Value) (s16 : Value) (s17 : Value) (s18 : Value) (s19 : Value) (s20 : Value) (s21 : Value) (s22 : Value) (s23 : Value) (s24 : Value) (s25 : Value) (s26 : Value) (s27 : Value) (s28 : Value) (s29 : Value) (s30 : Value) (s31 : Value) (s32 : Value) (s33 : Value) (s34 : Value) (s35 : Value) (s36 : Value) (s37 : Value) (s38 : Value) (s39 : Value) (s40 : Value) (H : AH) (R : AEnd → AH → Prop) : f17_J0 R [(.string s0), s1, (.pointer s2), s3, (.pointer s4), s5, s6, s7, s8, s9, s10, s11, s12, s13, s14, s15, s16, s17, s18, s19, s20, s21, s22, s23, s24, s25, s26, s27, s28, s29, s30, s31, s32, s33, s34, s35, s36, s37, s38, s39, s40] H = f17_J0_B s0 s1 s2 s3 s4 s7 s8 s9 s10 s11 s12 s13 s14 s15 s16 s17 s18 s19 s20 s21 s22 s23 s24 s25 s26 s39 s40 H R := by kernel_rfl
def f17_B (x0 : ByteArray) (H : AH) (R : AEnd → AH → Prop) : Prop :=
 wNew [(.int .u32 0), (.int .u32 0), (.int .u32 0), (.int .u64 0)] H fun i38 H39 =>
 wIf (!decide ((x0.size : Int) = 64))
 (wSt i38 0 [(.int .u32 0), (.int .u32 0), (.int .u32 0), (.int .u64 0)] H39 fun H40 =>
 wPt (some ⟨i38, 0, none⟩) fun i41 k42 =>
 ldI .u32 i41 k42 H40 fun n43 =>
 ldI .u32 i41 (k42 + 1) H40 fun n44 =>
 ldI .u32 i41 (k42 + 2) H40 fun n45 =>
 ldI .u64 i41 (k42 + 3) H40 fun n46 =>
 R (.ret (.tuple #[(.agg #[(.int .u32 n43), (.int .u32 n44), (.int .u32 n45), (.int .u64 n46)]), (.bool false)])) H40)
 (wSlS x0 5 9 fun t47 =>
 wSlS x0 9 13 fun t48 =>
 wSlS x0 13 17 fun t49 =>
 wSlS x0 17 25 fun t50 =>
 (wCall Tryd.prog 28 [(.string t47)] H39 (fun r51 H52 =>
 opI .u64 r51 fun n55 =>
 (wCall Tryd.prog 28 [(.string t48)] H52 (fun r56 H57 =>
 opI .u64 r56 fun n60 =>
 (wCall Tryd.prog 28 [(.string t49)] H57 (fun r61 H62 =>
 opI .u64 r61 fun n65 =>
 (wCall Tryd.prog 28 [(.string t50)] H62 (fun r66 H67 =>
 opI .u64 r66 fun n70 =>
 wNew [(.int .u32 0), (.int .u32 0), (.int .u32 0), (.int .u64 0)] H67 fun i71 H72 =>
 wSt i71 0 [(.int .u32 (IntKind.u32.wrap n55)), (.int .u32 (IntKind.u32.wrap n60)), (.int .u32 (IntKind.u32.wrap n65)), (.int .u64 n70)] H72 fun H73 =>
 f17_J0 R [(.string x0), undef, (.pointer (some ⟨i38, 0, none⟩)), (.bool false), (.pointer (some ⟨i71, 0, none⟩)), undef, undef, (.string x0), (.int .i64 (x0.size : Int)), (.bool false), undef, (.string x0), (.string t47), (.int .u64 n55), (.int .u32 (IntKind.u32.wrap n55)), (.string x0), (.string t48), (.int .u64 n60), (.int .u32 (IntKind.u32.wrap n60)), (.string x0), (.string t49), (.int .u64 n65), (.int .u32 (IntKind.u32.wrap n65)), (.string x0), (.string t50), (.int .u64 n70), (.agg #[(.int .u32 (IntKind.u32.wrap n55)), (.int .u32 (IntKind.u32.wrap n60)), (.int .u32 (IntKind.u32.wrap n65)), (.int .u64 n70)]), undef, undef, undef, undef, undef, undef, undef, undef, undef, undef, undef, undef, undef, undef] H73) (fun v69 H68 => R (.panic v69) H68)) ∧
 (wNew [(.int .u32 0), (.int .u32 0), (.int .u32 0), (.int .u64 0)] H62 fun i74 H75 =>
 wCall Tryd.prog 28 [(.string t50)] H75 (fun r76 H77 =>
 opI .u64 r76 fun n80 =>
 wSt i74 0 [(.int .u32 (IntKind.u32.wrap n55)), (.int .u32 (IntKind.u32.wrap n60)), (.int .u32 (IntKind.u32.wrap n65)), (.int .u64 n80)] H77 fun H81 =>
 f17_J0 R [(.string x0), undef, (.pointer (some ⟨i38, 0, none⟩)), (.bool false), (.pointer (some ⟨i74, 0, none⟩)), undef, undef, (.string x0), (.int .i64 (x0.size : Int)), (.bool false), undef, (.string x0), (.string t47), (.int .u64 n55), (.int .u32 (IntKind.u32.wrap n55)), (.string x0), (.string t48), (.int .u64 n60), (.int .u32 (IntKind.u32.wrap n60)), (.string x0), (.string t49), (.int .u64 n65), (.int .u32 (IntKind.u32.wrap n65)), (.string x0), (.string t50), (.int .u64 n80), (.agg #[(.int .u32 (IntKind.u32.wrap n55)), (.int .u32 (IntKind.u32.wrap n60)), (.int .u32 (IntKind.u32.wrap n65)), (.int .u64 n80)]), undef, undef, undef, undef, undef, undef, undef, undef, undef, undef, undef, undef, undef, undef] H81) (fun v79 H78 => R (.panic v79) H78))) (fun v64 H63 => R (.panic v64) H63)) ∧
 (wNew [(.int .u32 0), (.int .u32 0), (.int .u32 0), (.int .u64 0)] H57 fun i82 H83 =>
 wCall Tryd.prog 28 [(.string t49)] H83 (fun r84 H85 =>
 opI .u64 r84 fun n88 =>
 wCall Tryd.prog 28 [(.string t50)] H85 (fun r89 H90 =>
 opI .u64 r89 fun n93 =>
 wSt i82 0 [(.int .u32 (IntKind.u32.wrap n55)), (.int .u32 (IntKind.u32.wrap n60)), (.int .u32 (IntKind.u32.wrap n88)), (.int .u64 n93)] H90 fun H94 =>
 f17_J0 R [(.string x0), undef, (.pointer (some ⟨i38, 0, none⟩)), (.bool false), (.pointer (some ⟨i82, 0, none⟩)), undef, undef, (.string x0), (.int .i64 (x0.size : Int)), (.bool false), undef, (.string x0), (.string t47), (.int .u64 n55), (.int .u32 (IntKind.u32.wrap n55)), (.string x0), (.string t48), (.int .u64 n60), (.int .u32 (IntKind.u32.wrap n60)), (.string x0), (.string t49), (.int .u64 n88), (.int .u32 (IntKind.u32.wrap n88)), (.string x0), (.string t50), (.int .u64 n93), (.agg #[(.int .u32 (IntKind.u32.wrap n55)), (.int .u32 (IntKind.u32.wrap n60)), (.int .u32 (IntKind.u32.wrap n88)), (.int .u64 n93)]), undef, undef, undef, undef, undef, undef, undef, undef, undef, undef, undef, undef, undef, undef] H94) (fun v92 H91 => R (.panic v92) H91)) (fun v87 H86 => R (.panic v87) H86))) (fun v59 H58 => R (.panic v59) H58)) ∧
 (wNew [(.int .u32 0), (.int .u32 0), (.int .u32 0), (.int .u64 0)] H52 fun i95 H96 =>
 wCall Tryd.prog 28 [(.string t48)] H96 (fun r97 H98 =>
 opI .u64 r97 fun n101 =>
 wCall Tryd.prog 28 [(.string t49)] H98 (fun r102 H103 =>
 opI .u64 r102 fun n106 =>
 wCall Tryd.prog 28 [(.string t50)] H103 (fun r107 H108 =>
 opI .u64 r107 fun n111 =>
 wSt i95 0 [(.int .u32 (IntKind.u32.wrap n55)), (.int .u32 (IntKind.u32.wrap n101)), (.int .u32 (IntKind.u32.wrap n106)), (.int .u64 n111)] H108 fun H112 =>
 f17_J0 R [(.string x0), undef, (.pointer (some ⟨i38, 0, none⟩)), (.bool false), (.pointer (some ⟨i95, 0, none⟩)), undef, undef, (.string x0), (.int .i64 (x0.size : Int)), (.bool false), undef, (.string x0), (.string t47), (.int .u64 n55), (.int .u32 (IntKind.u32.wrap n55)), (.string x0), (.string t48), (.int .u64 n101), (.int .u32 (IntKind.u32.wrap n101)), (.string x0), (.string t49), (.int .u64 n106), (.int .u32 (IntKind.u32.wrap n106)), (.string x0), (.string t50), (.int .u64 n111), (.agg #[(.int .u32 (IntKind.u32.wrap n55)), (.int .u32 (IntKind.u32.wrap n101)), (.int .u32 (IntKind.u32.wrap n106)), (.int .u64 n111)]), undef, undef, undef, undef, undef, undef, undef, undef, undef, undef, undef, undef, undef, undef] H112) (fun v110 H109 => R (.panic v110) H109)) (fun v105 H104 => R (.panic v105) H104)) (fun v100 H99 => R (.panic v100) H99))) (fun v54 H53 => R (.panic v54) H53)) ∧
 (wNew [(.int .u32 0), (.int .u32 0), (.int .u32 0), (.int .u64 0)] H39 fun i113 H114 =>
 wCall Tryd.prog 28 [(.string t47)] H114 (fun r115 H116 =>
 opI .u64 r115 fun n119 =>
 wCall Tryd.prog 28 [(.string t48)] H116 (fun r120 H121 =>
 opI .u64 r120 fun n124 =>
 wCall Tryd.prog 28 [(.string t49)] H121 (fun r125 H126 =>
 opI .u64 r125 fun n129 =>
 wCall Tryd.prog 28 [(.string t50)] H126 (fun r130 H131 =>
 opI .u64 r130 fun n134 =>
 wSt i113 0 [(.int .u32 (IntKind.u32.wrap n119)), (.int .u32 (IntKind.u32.wrap n124)), (.int .u32 (IntKind.u32.wrap n129)), (.int .u64 n134)] H131 fun H135 =>
 f17_J0 R [(.string x0), undef, (.pointer (some ⟨i38, 0, none⟩)), (.bool false), (.pointer (some ⟨i113, 0, none⟩)), undef, undef, (.string x0), (.int .i64 (x0.size : Int)), (.bool false), undef, (.string x0), (.string t47), (.int .u64 n119), (.int .u32 (IntKind.u32.wrap n119)), (.string x0), (.string t48), (.int .u64 n124), (.int .u32 (IntKind.u32.wrap n124)), (.string x0), (.string t49), (.int .u64 n129), (.int .u32 (IntKind.u32.wrap n129)), (.string x0), (.string t50), (.int .u64 n134), (.agg #[(.int .u32 (IntKind.u32.wrap n119)), (.int .u32 (IntKind.u32.wrap n124)), (.int .u32 (IntKind.u32.wrap n129)), (.int .u64 n134)]), undef, undef, undef, undef, undef, undef, undef, undef, undef, undef, undef, undef, undef, undef] H135) (fun v133 H132 => R (.panic v133) H132)) (fun v128 H127 => R (.panic v128) H127)) (fun v123 H122 => R (.panic v123) H122)) (fun v118 H117 => R (.panic v118) H117)))
theorem f17_eq (x0 : ByteArray) (H : AH) (R : AEnd → AH → Prop) : awpF Tryd.prog f17_c (aPost Tryd.prog Tryd.f17 R) (([(.string x0)] : List Value) ++ List.replicate (Tryd.f17.ntmps - (([(.string x0)] : List Value)).length) undef) H = f17_B x0 H R := by kernel_rfl
theorem f17_call (x0 : ByteArray) (H : AH) (R : AEnd → AH → Prop) (h : f17_B x0 H R) : ACall Tryd.prog 17 ([(.string x0)] : List Value) H R :=
  acall_of mixed Tryd.func17 (by kernel_rfl : Tryd.f17.body = some f17_c) (by kernel_rfl) (by kernel_rfl) (awp_of (Eq.mpr (f17_eq x0 H R) h))

/-! f18: switchyard/frame.PutHead -/
noncomputable def f18_c : Code := Tryd.f18.body.getD .skip
def f18_J0 (R : AEnd → AH → Prop) (tm : List Value) (H : AH) : Prop := hold (awpF Tryd.prog (codeAt f18_c [1, 1, 1]) ((aPost Tryd.prog Tryd.f18 R)) tm H)
-- join 0: live 4:s
def f18_J0_B (s4 : ByteArray) (H : AH) (R : AEnd → AH → Prop) : Prop :=
 wCall Tryd.prog 30 [(.string ({ data := #[0] })), (.int .i64 (IntKind.i64.wrap (60 - (s4.size : Int))))] H (fun r1 H2 =>
 opS r1 fun t5 =>
 wCat s4 t5 fun t6 =>
 wCall Tryd.prog 22 [(.string t6)] H2 (fun r7 H8 =>
 opI .u32 r7 fun n11 =>
 wCall Tryd.prog 20 [(.int .u64 (IntKind.u64.wrap n11)), (.int .i64 4)] H8 (fun r12 H13 =>
 opS r12 fun t16 =>
 wCat t16 t6 fun t17 =>
 R (.ret (.tuple #[(.string t17), (.int .i64 0)])) H13) (fun v15 H14 => R (.panic v15) H14)) (fun v10 H9 => R (.panic v10) H9)) (fun v4 H3 => R (.panic v4) H3)
theorem f18_J0_eq (s0 : Value) (s1 : Value) (s2 : Value) (s3 : Value) (s4 : ByteArray) (s5 : Value) (s6 : Value) (s7 : Value) (s8 : Value) (s9 : Value) (s10 : Value) (s11 : Value) (s12 : Value) (s13 : Value) (s14 : Value) (s15 : Value) (s16 : Value) (s17 : Value) (s18 : Value) (s19 : Value) (s20 : Value) (s21 : Value) (s22 : Value) (s23 : Value) (s24 : Value) (s25 : Value) (s26 : Value) (s27 : Value) (s28 : Value) (s29 : Value) (s30 : Value) (s31 : Value) (s32 : Value) (s33 : Value) (s34 : Value) (s35 : Value) (s36 : Value) (s37 : Value) (s38 : Value) (H : AH) (R : AEnd → AH → Prop) : f18_J0 R [s0, s1, s2, s3, (.string s4), s5, s6, s7, s8, s9, s10, s11, s12, s13, s14, s15, s16, s17, s18, s19, s20, s21, s22, s23, s24, s25, s26, s27, s28, s29, s30, s31, s32, s33, s34, s35, s36, s37, s38] H = f18_J0_B s4 H R := by kernel_rfl
def f18_B (x0_0 : Int) (x0_1 : Int) (x0_2 : Int) (x0_3 : Int) (H : AH) (R : AEnd → AH → Prop) : Prop :=
 wNew [(.int .u32 x0_0), (.int .u32 x0_1), (.int .u32 x0_2), (.int .u64 x0_3)] H fun i18 H19 =>
 ldI .u32 i18 0 H19 fun n20 =>
 ldI .u32 i18 1 H19 fun n21 =>
 ldI .u32 i18 2 H19 fun n22 =>
 ldI .u64 i18 3 H19 fun n23 =>
 wCall Tryd.prog 29 [(.agg #[(.int .u32 n20), (.int .u32 n21), (.int .u32 n22), (.int .u64 n23)])] H19 (fun r24 H25 =>
 opB r24 fun b28 =>
 wIf (!b28)
 (R (.ret (.tuple #[(.string ({ data := #[] })), (.int .i64 2)])) H25)
 (ldI .u32 i18 0 H25 fun n29 =>
 ldI .u32 i18 1 H25 fun n30 =>
 ldI .u32 i18 2 H25 fun n31 =>
 ldI .u64 i18 3 H25 fun n32 =>
 wCall Tryd.prog 20 [(.int .u64 (IntKind.u64.wrap n29)), (.int .i64 4)] H25 (fun r33 H34 =>
 opS r33 fun t37 =>
 wPin i18 3 [(.int .u64 n32)] H34 <|
 wPin i18 2 [(.int .u32 n31)] H34 <|
 wPin i18 1 [(.int .u32 n30)] H34 <|
 wPin i18 0 [(.int .u32 n29)] H34 <|
 wCat ({ data := #[72] }) t37 fun t38 =>
 wCall Tryd.prog 20 [(.int .u64 (IntKind.u64.wrap n30)), (.int .i64 4)] H34 (fun r39 H40 =>
 opS r39 fun t43 =>
 wPin i18 3 [(.int .u64 n32)] H40 <|
 wPin i18 2 [(.int .u32 n31)] H40 <|
 wPin i18 1 [(.int .u32 n30)] H40 <|
 wPin i18 0 [(.int .u32 n29)] H40 <|
 wCat t38 t43 fun t44 =>
 wCall Tryd.prog 20 [(.int .u64 (IntKind.u64.wrap n31)), (.int .i64 4)] H40 (fun r45 H46 =>
 opS r45 fun t49 =>
 wPin i18 3 [(.int .u64 n32)] H46 <|
 wPin i18 2 [(.int .u32 n31)] H46 <|
 wPin i18 1 [(.int .u32 n30)] H46 <|
 wPin i18 0 [(.int .u32 n29)] H46 <|
 wCat t44 t49 fun t50 =>
 wCall Tryd.prog 20 [(.int .u64 n32), (.int .i64 8)] H46 (fun r51 H52 =>
 opS r51 fun t55 =>
 wPin i18 2 [(.int .u32 n31)] H52 <|
 wPin i18 1 [(.int .u32 n30)] H52 <|
 wPin i18 0 [(.int .u32 n29)] H52 <|
 wCat t50 t55 fun t56 =>
 f18_J0 R [(.agg #[(.int .u32 x0_0), (.int .u32 x0_1), (.int .u32 x0_2), (.int .u64 x0_3)]), (.pointer (some ⟨i18, 0, none⟩)), (.string ({ data := #[] })), (.int .i64 0), (.string t56), (.agg #[(.int .u32 n20), (.int .u32 n21), (.int .u32 n22), (.int .u64 n23)]), (.bool b28), (.bool false), (.pointer (some ⟨i18, 0, none⟩)), (.int .u32 n29), (.int .u64 (IntKind.u64.wrap n29)), (.string t37), (.string t38), (.pointer (some ⟨i18, 1, none⟩)), (.int .u32 n30), (.int .u64 (IntKind.u64.wrap n30)), (.string t43), (.string t44), (.pointer (some ⟨i18, 2, none⟩)), (.int .u32 n31), (.int .u64 (IntKind.u64.wrap n31)), (.string t49), (.string t50), (.pointer (some ⟨i18, 3, none⟩)), (.int .u64 n32), (.string t55), (.string t56), undef, undef, undef, undef, undef, undef, undef, undef, undef, undef, undef, undef] H52) (fun v54 H53 => R (.panic v54) H53)) (fun v48 H47 => R (.panic v48) H47)) (fun v42 H41 => R (.panic v42) H41)) (fun v36 H35 => R (.panic v36) H35))) (fun v27 H26 => R (.panic v27) H26)
theorem f18_eq (x0_0 : Int) (x0_1 : Int) (x0_2 : Int) (x0_3 : Int) (H : AH) (R : AEnd → AH → Prop) : awpF Tryd.prog f18_c (aPost Tryd.prog Tryd.f18 R) (([(.agg #[(.int .u32 x0_0), (.int .u32 x0_1), (.int .u32 x0_2), (.int .u64 x0_3)])] : List Value) ++ List.replicate (Tryd.f18.ntmps - (([(.agg #[(.int .u32 x0_0), (.int .u32 x0_1), (.int .u32 x0_2), (.int .u64 x0_3)])] : List Value)).length) undef) H = f18_B x0_0 x0_1 x0_2 x0_3 H R := by kernel_rfl
theorem f18_call (x0_0 : Int) (x0_1 : Int) (x0_2 : Int) (x0_3 : Int) (H : AH) (R : AEnd → AH → Prop) (h : f18_B x0_0 x0_1 x0_2 x0_3 H R) : ACall Tryd.prog 18 ([(.agg #[(.int .u32 x0_0), (.int .u32 x0_1), (.int .u32 x0_2), (.int .u64 x0_3)])] : List Value) H R :=
  acall_of mixed Tryd.func18 (by kernel_rfl : Tryd.f18.body = some f18_c) (by kernel_rfl) (by kernel_rfl) (awp_of (Eq.mpr (f18_eq x0_0 x0_1 x0_2 x0_3 H R) h))

/-! f20: switchyard/frame.fixed -/
noncomputable def f20_c : Code := Tryd.f20.body.getD .skip
noncomputable def f20_X0 (R : AEnd → AH → Prop) : AExit → List Value → AH → Prop := thenF (fun tm H => hold (awpF Tryd.prog (codeAt f20_c [1, 1, 1]) (aPost Tryd.prog Tryd.f20 R) tm H)) (aPost Tryd.prog Tryd.f20 R)
noncomputable def f20_X1 (R : AEnd → AH → Prop) : AExit → List Value → AH → Prop := inBlockF 0 (f20_X0 R)
noncomputable def f20_Q0 (R : AEnd → AH → Prop) : AExit → List Value → AH → Prop := (f20_X1 R)
def f20_L0 (R : AEnd → AH → Prop) (tm : List Value) (H : AH) : Prop := awpF Tryd.prog (codeAt f20_c [1, 1, 0, 1, 0]) (f20_Q0 R) tm H
def f20_J0 (R : AEnd → AH → Prop) (tm : List Value) (H : AH) : Prop := hold (awpF Tryd.prog (codeAt f20_c [1, 1, 1]) ((aPost Tryd.prog Tryd.f20 R)) tm H)
-- join 0: live 5:b
def f20_J0_B (s5b : Option Addr) (s5l : Nat) (s5c : Nat) (H : AH) (R : AEnd → AH → Prop) : Prop :=
 wB2S s5b s5l s5c H fun t1 =>
 R (.ret (.string t1)) H
theorem f20_J0_eq (s0 : Value) (s1 : Value) (s2 : Value) (s3 : Value) (s4 : Value) (s5b : Option Addr) (s5l : Nat) (s5c : Nat) (s6 : Value) (s7 : Value) (s8 : Value) (s9 : Value) (s10 : Value) (s11 : Value) (s12 : Value) (s13 : Value) (s14 : Value) (s15 : Value) (s16 : Value) (s17 : Value) (s18 : Value) (s19 : Value) (s20 : Value) (s21 : Value) (s22 : Value) (s23 : Value) (s24 : Value) (s25 : Value) (s26 : Value) (s27 : Value) (H : AH) (R : AEnd → AH → Prop) : f20_J0 R [s0, s1, s2, s3, s4, (.slice s5b s5l s5c), s6, s7, s8, s9, s10, s11, s12, s13, s14, s15, s16, s17, s18, s19, s20, s21, s22, s23, s24, s25, s26, s27] H = f20_J0_B s5b s5l s5c H R := by kernel_rfl
def f20_R0 (s0 : Int) (s1 : Int) (s2 : Value) (s3 : Value) (s4 : Value) (s5b : Option Addr) (s5l : Nat) (s5c : Nat) (s6 : Value) (s7 : Value) (s8 : Value) (s9 : Value) (s10 : Int) (s11 : Int) (s12 : Value) (s13 : Value) (s14 : Value) (s15 : Value) (s16 : Value) (s17 : Value) (s18 : Value) (s19 : Value) (s20 : Value) (s21 : Value) (s22 : Value) (s23 : Value) (s24 : Value) (s25 : Value) (s26 : Value) (s27 : Value) (H : AH) (K0 : List Value → AH → Prop) (R : AEnd → AH → Prop) : Prop :=
 wIf (decide (s11 < s10))
 (wNn (IntKind.i64.wrap (8 * s11))
 (wIx s5b s5l 1 (IntKind.i64.wrap ((IntKind.i64.wrap (s1 - 1)) - s11)) fun i2 k3 =>
 wSt i2 k3 [(.int .u8 (IntKind.u8.wrap (Int.fdiv s0 (2 ^ (min (Int.toNat (IntKind.i64.wrap (8 * s11))) IntKind.u64.bits)))))] H fun H4 =>
 K0 [(.int .u64 s0), (.int .i64 s1), s2, s3, s4, (.slice s5b s5l s5c), (.int .i64 s11), s7, s8, s9, (.int .i64 s10), (.int .i64 (IntKind.i64.wrap (s11 + 1))), (.bool true), (.int .i64 s11), (.slice s5b s5l s5c), (.int .i64 s1), (.int .i64 (IntKind.i64.wrap (s1 - 1))), (.int .i64 s11), (.int .i64 (IntKind.i64.wrap ((IntKind.i64.wrap (s1 - 1)) - s11))), (.int .u64 s0), (.int .i64 s11), (.int .i64 (IntKind.i64.wrap (8 * s11))), (.int .u64 (Int.fdiv s0 (2 ^ (min (Int.toNat (IntKind.i64.wrap (8 * s11))) IntKind.u64.bits)))), (.int .u8 (IntKind.u8.wrap (Int.fdiv s0 (2 ^ (min (Int.toNat (IntKind.i64.wrap (8 * s11))) IntKind.u64.bits))))), (.pointer (some ⟨i2, k3, none⟩)), (.int .i64 (IntKind.i64.wrap (s11 + 1))), s26, s27] H4))
 (f20_J0 R [(.int .u64 s0), (.int .i64 s1), s2, s3, s4, (.slice s5b s5l s5c), s6, s7, s8, s9, (.int .i64 s10), (.int .i64 s11), (.bool false), s13, s14, s15, s16, s17, s18, s19, s20, s21, s22, s23, s24, s25, s26, s27] H)
theorem f20_R0_eq (s0 : Int) (s1 : Int) (s2 : Value) (s3 : Value) (s4 : Value) (s5b : Option Addr) (s5l : Nat) (s5c : Nat) (s6 : Value) (s7 : Value) (s8 : Value) (s9 : Value) (s10 : Int) (s11 : Int) (s12 : Value) (s13 : Value) (s14 : Value) (s15 : Value) (s16 : Value) (s17 : Value) (s18 : Value) (s19 : Value) (s20 : Value) (s21 : Value) (s22 : Value) (s23 : Value) (s24 : Value) (s25 : Value) (s26 : Value) (s27 : Value) (H : AH) (K0 : List Value → AH → Prop) (R : AEnd → AH → Prop) : awpF Tryd.prog (codeAt f20_c [1, 1, 0, 1, 0, 0]) (thenF K0 (f20_Q0 R)) [(.int .u64 s0), (.int .i64 s1), s2, s3, s4, (.slice s5b s5l s5c), s6, s7, s8, s9, (.int .i64 s10), (.int .i64 s11), s12, s13, s14, s15, s16, s17, s18, s19, s20, s21, s22, s23, s24, s25, s26, s27] H = f20_R0 s0 s1 s2 s3 s4 s5b s5l s5c s6 s7 s8 s9 s10 s11 s12 s13 s14 s15 s16 s17 s18 s19 s20 s21 s22 s23 s24 s25 s26 s27 H K0 R := by kernel_rfl
def f20_I0 (s0 : Int) (s1 : Int) (s2 : Value) (s3 : Value) (s4 : Value) (s5b : Option Addr) (s5l : Nat) (s5c : Nat) (s7 : Value) (s8 : Value) (s9 : Value) (s10 : Int) (s26 : Value) (s27 : Value) (J : Nat → Int → AH → Prop) (n : Nat) (tm : List Value) (H : AH) : Prop := ∃ (s6 : Value) (s11 : Int) (s12 : Value) (s13 : Value) (s14 : Value) (s15 : Value) (s16 : Value) (s17 : Value) (s18 : Value) (s19 : Value) (s20 : Value) (s21 : Value) (s22 : Value) (s23 : Value) (s24 : Value) (s25 : Value), tm = [(.int .u64 s0), (.int .i64 s1), s2, s3, s4, (.slice s5b s5l s5c), s6, s7, s8, s9, (.int .i64 s10), (.int .i64 s11), s12, s13, s14, s15, s16, s17, s18, s19, s20, s21, s22, s23, s24, s25, s26, s27] ∧ J n s11 H
theorem f20_I0_mk {s0 : Int} {s1 : Int} {s2 : Value} {s3 : Value} {s4 : Value} {s5b : Option Addr} {s5l : Nat} {s5c : Nat} {s6 : Value} {s7 : Value} {s8 : Value} {s9 : Value} {s10 : Int} {s11 : Int} {s12 : Value} {s13 : Value} {s14 : Value} {s15 : Value} {s16 : Value} {s17 : Value} {s18 : Value} {s19 : Value} {s20 : Value} {s21 : Value} {s22 : Value} {s23 : Value} {s24 : Value} {s25 : Value} {s26 : Value} {s27 : Value} {J : Nat → Int → AH → Prop} {n : Nat} {H : AH} (h : J n s11 H) : f20_I0 s0 s1 s2 s3 s4 s5b s5l s5c s7 s8 s9 s10 s26 s27 J n [(.int .u64 s0), (.int .i64 s1), s2, s3, s4, (.slice s5b s5l s5c), s6, s7, s8, s9, (.int .i64 s10), (.int .i64 s11), s12, s13, s14, s15, s16, s17, s18, s19, s20, s21, s22, s23, s24, s25, s26, s27] H := ⟨_, _, _, _, _, _, _, _, _, _, _, _, _, _, _, _, rfl, h⟩
-- loop 0: carried 11:
theorem f20_L0_rule {s0 : Int} {s1 : Int} {s2 : Value} {s3 : Value} {s4 : Value} {s5b : Option Addr} {s5l : Nat} {s5c : Nat} {s6 : Value} {s7 : Value} {s8 : Value} {s9 : Value} {s10 : Int} {s11 : Int} {s12 : Value} {s13 : Value} {s14 : Value} {s15 : Value} {s16 : Value} {s17 : Value} {s18 : Value} {s19 : Value} {s20 : Value} {s21 : Value} {s22 : Value} {s23 : Value} {s24 : Value} {s25 : Value} {s26 : Value} {s27 : Value} {H : AH} {R : AEnd → AH → Prop} (J : Nat → Int → AH → Prop) (n : Nat) (h0 : J n s11 H)
  (step : ∀ (n : Nat) (s11 : Int) (H : AH), J n s11 H → ∀ (s6 : Value) (s12 : Value) (s13 : Value) (s14 : Value) (s15 : Value) (s16 : Value) (s17 : Value) (s18 : Value) (s19 : Value) (s20 : Value) (s21 : Value) (s22 : Value) (s23 : Value) (s24 : Value) (s25 : Value), f20_R0 s0 s1 s2 s3 s4 s5b s5l s5c s6 s7 s8 s9 s10 s11 s12 s13 s14 s15 s16 s17 s18 s19 s20 s21 s22 s23 s24 s25 s26 s27 H (fun tm H => ∃ m, m < n ∧ f20_I0 s0 s1 s2 s3 s4 s5b s5l s5c s7 s8 s9 s10 s26 s27 J m tm H) R) : f20_L0 R [(.int .u64 s0), (.int .i64 s1), s2, s3, s4, (.slice s5b s5l s5c), s6, s7, s8, s9, (.int .i64 s10), (.int .i64 s11), s12, s13, s14, s15, s16, s17, s18, s19, s20, s21, s22, s23, s24, s25, s26, s27] H :=
  awpF_loop (f20_I0 s0 s1 s2 s3 s4 s5b s5l s5c s7 s8 s9 s10 s26 s27 J) n (f20_I0_mk h0) (by
    rintro n tm H ⟨s6, s11, s12, s13, s14, s15, s16, s17, s18, s19, s20, s21, s22, s23, s24, s25, rfl, h⟩
    exact Eq.mpr (f20_R0_eq s0 s1 s2 s3 s4 s5b s5l s5c s6 s7 s8 s9 s10 s11 s12 s13 s14 s15 s16 s17 s18 s19 s20 s21 s22 s23 s24 s25 s26 s27 H _ R) (step n s11 H h s6 s12 s13 s14 s15 s16 s17 s18 s19 s20 s21 s22 s23 s24 s25))
def f20_B (x0 : Int) (x1 : Int) (H : AH) (R : AEnd → AH → Prop) : Prop :=
 wMk [(.int .u8 0)] 1 1 x1 x1 H fun i5 H6 =>
 f20_L0 R [(.int .u64 x0), (.int .i64 x1), undef, undef, (.string ({ data := #[] })), (.slice (some ⟨i5, 0, none⟩) (Int.toNat x1) 0), undef, (.int .i64 x1), (.slice (some ⟨i5, 0, none⟩) (Int.toNat x1) 0), (.slice (some ⟨i5, 0, none⟩) (Int.toNat x1) 0), (.int .i64 ((Int.toNat x1) : Int)), (.int .i64 0), undef, undef, undef, undef, undef, undef, undef, undef, undef, undef, undef, undef, undef, undef, undef, undef] H6
theorem f20_eq (x0 : Int) (x1 : Int) (H : AH) (R : AEnd → AH → Prop) : awpF Tryd.prog f20_c (aPost Tryd.prog Tryd.f20 R) (([(.int .u64 x0), (.int .i64 x1)] : List Value) ++ List.replicate (Tryd.f20.ntmps - (([(.int .u64 x0), (.int .i64 x1)] : List Value)).length) undef) H = f20_B x0 x1 H R := by kernel_rfl
theorem f20_call (x0 : Int) (x1 : Int) (H : AH) (R : AEnd → AH → Prop) (h : f20_B x0 x1 H R) : ACall Tryd.prog 20 ([(.int .u64 x0), (.int .i64 x1)] : List Value) H R :=
  acall_of mixed Tryd.func20 (by kernel_rfl : Tryd.f20.body = some f20_c) (by kernel_rfl) (by kernel_rfl) (awp_of (Eq.mpr (f20_eq x0 x1 H R) h))

/-! f21: switchyard/frame.padded -/
noncomputable def f21_c : Code := Tryd.f21.body.getD .skip
def f21_B (x0 : ByteArray) (H : AH) (R : AEnd → AH → Prop) : Prop :=
 wCall Tryd.prog 30 [(.string ({ data := #[0] })), (.int .i64 (Int.tmod (IntKind.i64.wrap (64 - (Int.tmod (x0.size : Int) 64))) 64))] H (fun r1 H2 =>
 opS r1 fun t5 =>
 wCat x0 t5 fun t6 =>
 R (.ret (.string t6)) H2) (fun v4 H3 => R (.panic v4) H3)
theorem f21_eq (x0 : ByteArray) (H : AH) (R : AEnd → AH → Prop) : awpF Tryd.prog f21_c (aPost Tryd.prog Tryd.f21 R) (([(.string x0)] : List Value) ++ List.replicate (Tryd.f21.ntmps - (([(.string x0)] : List Value)).length) undef) H = f21_B x0 H R := by kernel_rfl
theorem f21_call (x0 : ByteArray) (H : AH) (R : AEnd → AH → Prop) (h : f21_B x0 H R) : ACall Tryd.prog 21 ([(.string x0)] : List Value) H R :=
  acall_of mixed Tryd.func21 (by kernel_rfl : Tryd.f21.body = some f21_c) (by kernel_rfl) (by kernel_rfl) (awp_of (Eq.mpr (f21_eq x0 H R) h))

/-! f22: switchyard/crc.Sum -/
noncomputable def f22_c : Code := Tryd.f22.body.getD .skip
noncomputable def f22_X0 (R : AEnd → AH → Prop) : AExit → List Value → AH → Prop := thenF (fun tm H => hold (awpF Tryd.prog (codeAt f22_c [1, 1, 1]) (aPost Tryd.prog Tryd.f22 R) tm H)) (aPost Tryd.prog Tryd.f22 R)
noncomputable def f22_X1 (R : AEnd → AH → Prop) : AExit → List Value → AH → Prop := inBlockF 0 (f22_X0 R)
noncomputable def f22_Q0 (R : AEnd → AH → Prop) : AExit → List Value → AH → Prop := (f22_X1 R)
def f22_L0 (R : AEnd → AH → Prop) (tm : List Value) (H : AH) : Prop := awpF Tryd.prog (codeAt f22_c [1, 1, 0, 1, 0]) (f22_Q0 R) tm H
noncomputable def f22_X2 (K0 : List Value → AH → Prop) (R : AEnd → AH → Prop) : AExit → List Value → AH → Prop := thenF (fun tm H => hold (awpF Tryd.prog (codeAt f22_c [1, 1, 0, 1, 0, 0, 1, 1, 1]) (thenF K0 (f22_Q0 R)) tm H)) (thenF K0 (f22_Q0 R))
noncomputable def f22_X3 (K0 : List Value → AH → Prop) (R : AEnd → AH → Prop) : AExit → List Value → AH → Prop := inBlockF 1 (f22_X2 K0 R)
noncomputable def f22_X4 (K0 : List Value → AH → Prop) (R : AEnd → AH → Prop) : AExit → List Value → AH → Prop := inBlockF 2 (f22_X3 K0 R)
noncomputable def f22_Q1 (K0 : List Value → AH → Prop) (R : AEnd → AH → Prop) : AExit → List Value → AH → Prop := (f22_X4 K0 R)
def f22_L1 (K0 : List Value → AH → Prop) (R : AEnd → AH → Prop) (tm : List Value) (H : AH) : Prop := awpF Tryd.prog (codeAt f22_c [1, 1, 0, 1, 0, 0, 1, 1, 0, 0, 1, 1, 1, 0]) (f22_Q1 K0 R) tm H
def f22_J0 (R : AEnd → AH → Prop) (tm : List Value) (H : AH) : Prop := hold (awpF Tryd.prog (codeAt f22_c [1, 1, 1]) ((aPost Tryd.prog Tryd.f22 R)) tm H)
-- join 0: live 3:reg
def f22_J0_B (s3 : Int) (H : AH) (R : AEnd → AH → Prop) : Prop :=
 R (.ret (.int .u32 (IntKind.u32.wrap ((BitVec.ofInt IntKind.u32.bits (if IntKind.u32.signed then -1 else IntKind.u32.max)) ^^^ (BitVec.ofInt IntKind.u32.bits s3)).toNat))) H
theorem f22_J0_eq (s0 : Value) (s1 : Value) (s2 : Value) (s3 : Int) (s4 : Value) (s5 : Value) (s6 : Value) (s7 : Value) (s8 : Value) (s9 : Value) (s10 : Value) (s11 : Value) (s12 : Value) (s13 : Value) (s14 : Value) (s15 : Value) (s16 : Value) (s17 : Value) (s18 : Value) (s19 : Value) (s20 : Value) (s21 : Value) (s22 : Value) (s23 : Value) (s24 : Value) (H : AH) (R : AEnd → AH → Prop) : f22_J0 R [s0, s1, s2, (.int .u32 s3), s4, s5, s6, s7, s8, s9, s10, s11, s12, s13, s14, s15, s16, s17, s18, s19, s20, s21, s22, s23, s24] H = f22_J0_B s3 H R := by kernel_rfl
def f22_R0 (s0 : Value) (s1 : Value) (s2 : Value) (s3 : Int) (s4 : Value) (s5 : Value) (s6 : Value) (s7b : Option Addr) (s7l : Nat) (s7c : Nat) (s8 : Int) (s9 : Int) (s10 : Value) (s11 : Value) (s12 : Value) (s13 : Value) (s14 : Value) (s15 : Value) (s16 : Value) (s17 : Value) (s18 : Value) (s19 : Value) (s20 : Value) (s21 : Value) (s22 : Value) (s23 : Value) (s24 : Value) (H : AH) (K0 : List Value → AH → Prop) (R : AEnd → AH → Prop) : Prop :=
 wIf (decide (s9 < s8))
 (wIx s7b s7l 1 s9 fun i1 k2 =>
 ldI .u8 i1 k2 H fun n3 =>
 f22_L1 K0 R [s0, s1, s2, (.int .u32 (IntKind.u32.wrap ((BitVec.ofInt IntKind.u32.bits s3) ^^^ (BitVec.ofInt IntKind.u32.bits (IntKind.u32.wrap n3))).toNat)), s4, (.int .u8 n3), s6, (.slice s7b s7l s7c), (.int .i64 s8), (.int .i64 s9), (.bool true), (.pointer (some ⟨i1, k2, none⟩)), (.int .u8 n3), (.int .u32 s3), (.int .u8 n3), (.int .u32 (IntKind.u32.wrap n3)), (.int .u32 (IntKind.u32.wrap ((BitVec.ofInt IntKind.u32.bits s3) ^^^ (BitVec.ofInt IntKind.u32.bits (IntKind.u32.wrap n3))).toNat)), (.int .i64 0), s18, s19, s20, s21, s22, s23, s24] H)
 (f22_J0 R [s0, s1, s2, (.int .u32 s3), s4, s5, s6, (.slice s7b s7l s7c), (.int .i64 s8), (.int .i64 s9), (.bool false), s11, s12, s13, s14, s15, s16, s17, s18, s19, s20, s21, s22, s23, s24] H)
theorem f22_R0_eq (s0 : Value) (s1 : Value) (s2 : Value) (s3 : Int) (s4 : Value) (s5 : Value) (s6 : Value) (s7b : Option Addr) (s7l : Nat) (s7c : Nat) (s8 : Int) (s9 : Int) (s10 : Value) (s11 : Value) (s12 : Value) (s13 : Value) (s14 : Value) (s15 : Value) (s16 : Value) (s17 : Value) (s18 : Value) (s19 : Value) (s20 : Value) (s21 : Value) (s22 : Value) (s23 : Value) (s24 : Value) (H : AH) (K0 : List Value → AH → Prop) (R : AEnd → AH → Prop) : awpF Tryd.prog (codeAt f22_c [1, 1, 0, 1, 0, 0]) (thenF K0 (f22_Q0 R)) [s0, s1, s2, (.int .u32 s3), s4, s5, s6, (.slice s7b s7l s7c), (.int .i64 s8), (.int .i64 s9), s10, s11, s12, s13, s14, s15, s16, s17, s18, s19, s20, s21, s22, s23, s24] H = f22_R0 s0 s1 s2 s3 s4 s5 s6 s7b s7l s7c s8 s9 s10 s11 s12 s13 s14 s15 s16 s17 s18 s19 s20 s21 s22 s23 s24 H K0 R := by kernel_rfl
def f22_I0 (s0 : Value) (s1 : Value) (s2 : Value) (s4 : Value) (s6 : Value) (s7b : Option Addr) (s7l : Nat) (s7c : Nat) (s8 : Int) (s23 : Value) (s24 : Value) (J : Nat → Int → Int → AH → Prop) (n : Nat) (tm : List Value) (H : AH) : Prop := ∃ (s3 : Int) (s5 : Value) (s9 : Int) (s10 : Value) (s11 : Value) (s12 : Value) (s13 : Value) (s14 : Value) (s15 : Value) (s16 : Value) (s17 : Value) (s18 : Value) (s19 : Value) (s20 : Value) (s21 : Value) (s22 : Value), tm = [s0, s1, s2, (.int .u32 s3), s4, s5, s6, (.slice s7b s7l s7c), (.int .i64 s8), (.int .i64 s9), s10, s11, s12, s13, s14, s15, s16, s17, s18, s19, s20, s21, s22, s23, s24] ∧ J n s3 s9 H
theorem f22_I0_mk {s0 : Value} {s1 : Value} {s2 : Value} {s3 : Int} {s4 : Value} {s5 : Value} {s6 : Value} {s7b : Option Addr} {s7l : Nat} {s7c : Nat} {s8 : Int} {s9 : Int} {s10 : Value} {s11 : Value} {s12 : Value} {s13 : Value} {s14 : Value} {s15 : Value} {s16 : Value} {s17 : Value} {s18 : Value} {s19 : Value} {s20 : Value} {s21 : Value} {s22 : Value} {s23 : Value} {s24 : Value} {J : Nat → Int → Int → AH → Prop} {n : Nat} {H : AH} (h : J n s3 s9 H) : f22_I0 s0 s1 s2 s4 s6 s7b s7l s7c s8 s23 s24 J n [s0, s1, s2, (.int .u32 s3), s4, s5, s6, (.slice s7b s7l s7c), (.int .i64 s8), (.int .i64 s9), s10, s11, s12, s13, s14, s15, s16, s17, s18, s19, s20, s21, s22, s23, s24] H := ⟨_, _, _, _, _, _, _, _, _, _, _, _, _, _, _, _, rfl, h⟩
-- loop 0: carried 3:reg, 9:
theorem f22_L0_rule {s0 : Value} {s1 : Value} {s2 : Value} {s3 : Int} {s4 : Value} {s5 : Value} {s6 : Value} {s7b : Option Addr} {s7l : Nat} {s7c : Nat} {s8 : Int} {s9 : Int} {s10 : Value} {s11 : Value} {s12 : Value} {s13 : Value} {s14 : Value} {s15 : Value} {s16 : Value} {s17 : Value} {s18 : Value} {s19 : Value} {s20 : Value} {s21 : Value} {s22 : Value} {s23 : Value} {s24 : Value} {H : AH} {R : AEnd → AH → Prop} (J : Nat → Int → Int → AH → Prop) (n : Nat) (h0 : J n s3 s9 H)
  (step : ∀ (n : Nat) (s3 : Int) (s9 : Int) (H : AH), J n s3 s9 H → ∀ (s5 : Value) (s10 : Value) (s11 : Value) (s12 : Value) (s13 : Value) (s14 : Value) (s15 : Value) (s16 : Value) (s17 : Value) (s18 : Value) (s19 : Value) (s20 : Value) (s21 : Value) (s22 : Value), f22_R0 s0 s1 s2 s3 s4 s5 s6 s7b s7l s7c s8 s9 s10 s11 s12 s13 s14 s15 s16 s17 s18 s19 s20 s21 s22 s23 s24 H (fun tm H => ∃ m, m < n ∧ f22_I0 s0 s1 s2 s4 s6 s7b s7l s7c s8 s23 s24 J m tm H) R) : f22_L0 R [s0, s1, s2, (.int .u32 s3), s4, s5, s6, (.slice s7b s7l s7c), (.int .i64 s8), (.int .i64 s9), s10, s11, s12, s13, s14, s15, s16, s17, s18, s19, s20, s21, s22, s23, s24] H :=
  awpF_loop (f22_I0 s0 s1 s2 s4 s6 s7b s7l s7c s8 s23 s24 J) n (f22_I0_mk h0) (by
    rintro n tm H ⟨s3, s5, s9, s10, s11, s12, s13, s14, s15, s16, s17, s18, s19, s20, s21, s22, rfl, h⟩
    exact Eq.mpr (f22_R0_eq s0 s1 s2 s3 s4 s5 s6 s7b s7l s7c s8 s9 s10 s11 s12 s13 s14 s15 s16 s17 s18 s19 s20 s21 s22 s23 s24 H _ R) (step n s3 s9 H h s5 s10 s11 s12 s13 s14 s15 s16 s17 s18 s19 s20 s21 s22))
def f22_R1 (s0 : Value) (s1 : Value) (s2 : Value) (s3 : Int) (s4 : Value) (s5 : Value) (s6 : Value) (s7b : Option Addr) (s7l : Nat) (s7c : Nat) (s8 : Int) (s9 : Int) (s10 : Value) (s11 : Value) (s12 : Value) (s13 : Value) (s14 : Value) (s15 : Value) (s16 : Value) (s17 : Int) (s18 : Value) (s19 : Value) (s20 : Value) (s21 : Value) (s22 : Value) (s23 : Value) (s24 : Value) (H : AH) (K0 : List Value → AH → Prop) (K1 : List Value → AH → Prop) (R : AEnd → AH → Prop) : Prop :=
 wIf (decide (s17 < 8))
 (wCall Tryd.prog 31 [(.int .u32 s3)] H (fun r4 H5 =>
 opI .u32 r4 fun n8 =>
 K1 [s0, s1, s2, (.int .u32 n8), s4, s5, s6, (.slice s7b s7l s7c), (.int .i64 s8), (.int .i64 s9), s10, s11, s12, s13, s14, s15, s16, (.int .i64 (IntKind.i64.wrap (s17 + 1))), (.bool true), (.int .u32 s3), (.int .u32 n8), (.int .i64 (IntKind.i64.wrap (s17 + 1))), s22, s23, s24] H5) (fun v7 H6 => R (.panic v7) H6))
 (K0 [s0, s1, s2, (.int .u32 s3), s4, s5, s6, (.slice s7b s7l s7c), (.int .i64 s8), (.int .i64 (IntKind.i64.wrap (s9 + 1))), s10, s11, s12, s13, s14, s15, s16, (.int .i64 s17), (.bool false), s19, s20, s21, (.int .i64 (IntKind.i64.wrap (s9 + 1))), s23, s24] H)
theorem f22_R1_eq (s0 : Value) (s1 : Value) (s2 : Value) (s3 : Int) (s4 : Value) (s5 : Value) (s6 : Value) (s7b : Option Addr) (s7l : Nat) (s7c : Nat) (s8 : Int) (s9 : Int) (s10 : Value) (s11 : Value) (s12 : Value) (s13 : Value) (s14 : Value) (s15 : Value) (s16 : Value) (s17 : Int) (s18 : Value) (s19 : Value) (s20 : Value) (s21 : Value) (s22 : Value) (s23 : Value) (s24 : Value) (H : AH) (K0 : List Value → AH → Prop) (K1 : List Value → AH → Prop) (R : AEnd → AH → Prop) : awpF Tryd.prog (codeAt f22_c [1, 1, 0, 1, 0, 0, 1, 1, 0, 0, 1, 1, 1, 0, 0]) (thenF K1 (f22_Q1 K0 R)) [s0, s1, s2, (.int .u32 s3), s4, s5, s6, (.slice s7b s7l s7c), (.int .i64 s8), (.int .i64 s9), s10, s11, s12, s13, s14, s15, s16, (.int .i64 s17), s18, s19, s20, s21, s22, s23, s24] H = f22_R1 s0 s1 s2 s3 s4 s5 s6 s7b s7l s7c s8 s9 s10 s11 s12 s13 s14 s15 s16 s17 s18 s19 s20 s21 s22 s23 s24 H K0 K1 R := by kernel_rfl
def f22_I1 (s0 : Value) (s1 : Value) (s2 : Value) (s4 : Value) (s5 : Value) (s6 : Value) (s7b : Option Addr) (s7l : Nat) (s7c : Nat) (s8 : Int) (s9 : Int) (s10 : Value) (s11 : Value) (s12 : Value) (s13 : Value) (s14 : Value) (s15 : Value) (s16 : Value) (s22 : Value) (s23 : Value) (s24 : Value) (J : Nat → Int → Int → AH → Prop) (n : Nat) (tm : List Value) (H : AH) : Prop := ∃ (s3 : Int) (s17 : Int) (s18 : Value) (s19 : Value) (s20 : Value) (s21 : Value), tm = [s0, s1, s2, (.int .u32 s3), s4, s5, s6, (.slice s7b s7l s7c), (.int .i64 s8), (.int .i64 s9), s10, s11, s12, s13, s14, s15, s16, (.int .i64 s17), s18, s19, s20, s21, s22, s23, s24] ∧ J n s3 s17 H
theorem f22_I1_mk {s0 : Value} {s1 : Value} {s2 : Value} {s3 : Int} {s4 : Value} {s5 : Value} {s6 : Value} {s7b : Option Addr} {s7l : Nat} {s7c : Nat} {s8 : Int} {s9 : Int} {s10 : Value} {s11 : Value} {s12 : Value} {s13 : Value} {s14 : Value} {s15 : Value} {s16 : Value} {s17 : Int} {s18 : Value} {s19 : Value} {s20 : Value} {s21 : Value} {s22 : Value} {s23 : Value} {s24 : Value} {J : Nat → Int → Int → AH → Prop} {n : Nat} {H : AH} (h : J n s3 s17 H) : f22_I1 s0 s1 s2 s4 s5 s6 s7b s7l s7c s8 s9 s10 s11 s12 s13 s14 s15 s16 s22 s23 s24 J n [s0, s1, s2, (.int .u32 s3), s4, s5, s6, (.slice s7b s7l s7c), (.int .i64 s8), (.int .i64 s9), s10, s11, s12, s13, s14, s15, s16, (.int .i64 s17), s18, s19, s20, s21, s22, s23, s24] H := ⟨_, _, _, _, _, _, rfl, h⟩
-- loop 1: carried 3:reg, 17:
theorem f22_L1_rule {s0 : Value} {s1 : Value} {s2 : Value} {s3 : Int} {s4 : Value} {s5 : Value} {s6 : Value} {s7b : Option Addr} {s7l : Nat} {s7c : Nat} {s8 : Int} {s9 : Int} {s10 : Value} {s11 : Value} {s12 : Value} {s13 : Value} {s14 : Value} {s15 : Value} {s16 : Value} {s17 : Int} {s18 : Value} {s19 : Value} {s20 : Value} {s21 : Value} {s22 : Value} {s23 : Value} {s24 : Value} {H : AH} {K0 : List Value → AH → Prop} {R : AEnd → AH → Prop} (J : Nat → Int → Int → AH → Prop) (n : Nat) (h0 : J n s3 s17 H)
  (step : ∀ (n : Nat) (s3 : Int) (s17 : Int) (H : AH), J n s3 s17 H → ∀ (s18 : Value) (s19 : Value) (s20 : Value) (s21 : Value), f22_R1 s0 s1 s2 s3 s4 s5 s6 s7b s7l s7c s8 s9 s10 s11 s12 s13 s14 s15 s16 s17 s18 s19 s20 s21 s22 s23 s24 H K0 (fun tm H => ∃ m, m < n ∧ f22_I1 s0 s1 s2 s4 s5 s6 s7b s7l s7c s8 s9 s10 s11 s12 s13 s14 s15 s16 s22 s23 s24 J m tm H) R) : f22_L1 K0 R [s0, s1, s2, (.int .u32 s3), s4, s5, s6, (.slice s7b s7l s7c), (.int .i64 s8), (.int .i64 s9), s10, s11, s12, s13, s14, s15, s16, (.int .i64 s17), s18, s19, s20, s21, s22, s23, s24] H :=
  awpF_loop (f22_I1 s0 s1 s2 s4 s5 s6 s7b s7l s7c s8 s9 s10 s11 s12 s13 s14 s15 s16 s22 s23 s24 J) n (f22_I1_mk h0) (by
    rintro n tm H ⟨s3, s17, s18, s19, s20, s21, rfl, h⟩
    exact Eq.mpr (f22_R1_eq s0 s1 s2 s3 s4 s5 s6 s7b s7l s7c s8 s9 s10 s11 s12 s13 s14 s15 s16 s17 s18 s19 s20 s21 s22 s23 s24 H K0 _ R) (step n s3 s17 H h s18 s19 s20 s21))
def f22_B (x0 : ByteArray) (H : AH) (R : AEnd → AH → Prop) : Prop :=
 wS2B x0 H fun i9 H10 =>
 f22_L0 R [(.string x0), undef, (.int .u32 0), (.int .u32 4294967295), undef, undef, (.string x0), (.slice (some ⟨i9, 0, none⟩) x0.size 0), (.int .i64 (x0.size : Int)), (.int .i64 0), undef, undef, undef, undef, undef, undef, undef, undef, undef, undef, undef, undef, undef, undef, undef] H10
theorem f22_eq (x0 : ByteArray) (H : AH) (R : AEnd → AH → Prop) : awpF Tryd.prog f22_c (aPost Tryd.prog Tryd.f22 R) (([(.string x0)] : List Value) ++ List.replicate (Tryd.f22.ntmps - (([(.string x0)] : List Value)).length) undef) H = f22_B x0 H R := by kernel_rfl
theorem f22_call (x0 : ByteArray) (H : AH) (R : AEnd → AH → Prop) (h : f22_B x0 H R) : ACall Tryd.prog 22 ([(.string x0)] : List Value) H R :=
  acall_of mixed Tryd.func22 (by kernel_rfl : Tryd.f22.body = some f22_c) (by kernel_rfl) (by kernel_rfl) (awp_of (Eq.mpr (f22_eq x0 H R) h))

/-! f23: switchyard/switchyardref04.bytes -/
noncomputable def f23_c : Code := Tryd.f23.body.getD .skip
noncomputable def f23_X0 (R : AEnd → AH → Prop) : AExit → List Value → AH → Prop := thenF (fun tm H => hold (awpF Tryd.prog (codeAt f23_c [1, 1, 1]) (aPost Tryd.prog Tryd.f23 R) tm H)) (aPost Tryd.prog Tryd.f23 R)
noncomputable def f23_X1 (R : AEnd → AH → Prop) : AExit → List Value → AH → Prop := inBlockF 0 (f23_X0 R)
noncomputable def f23_Q0 (R : AEnd → AH → Prop) : AExit → List Value → AH → Prop := (f23_X1 R)
def f23_L0 (R : AEnd → AH → Prop) (tm : List Value) (H : AH) : Prop := awpF Tryd.prog (codeAt f23_c [1, 1, 0, 1, 0]) (f23_Q0 R) tm H
def f23_R0 (s0 : Int) (s1 : Int) (s2 : Value) (s3 : Value) (s4 : Value) (s5 : ByteArray) (s6 : Int) (s7 : Value) (s8 : Value) (s9 : Value) (s10 : Value) (s11 : Value) (s12 : Value) (s13 : Value) (s14 : Value) (s15 : Value) (s16 : Value) (s17 : Value) (s18 : Value) (s19 : Value) (s20 : Value) (s21 : Value) (H : AH) (K0 : List Value → AH → Prop) (R : AEnd → AH → Prop) : Prop :=
 wIf (decide (s6 < s1))
 (wBs [(.int .u8 (IntKind.u8.wrap (Int.tmod s0 256)))] 1 H fun i1 H2 =>
 wB2S (some ⟨i1, 0, none⟩) 1 0 H2 fun t3 =>
 wCat t3 s5 fun t4 =>
 K0 [(.int .u64 (IntKind.u64.wrap (Int.tdiv s0 256))), (.int .i64 s1), s2, s3, s4, (.string t4), (.int .i64 (IntKind.i64.wrap (s6 + 1))), (.int .i64 s6), (.int .i64 s1), (.bool true), (.int .i64 s6), (.int .i64 (IntKind.i64.wrap (s6 + 1))), (.int .u64 s0), (.int .u64 (Int.tmod s0 256)), (.int .u8 (IntKind.u8.wrap (Int.tmod s0 256))), (.slice (some ⟨i1, 0, none⟩) 1 0), (.string t3), (.string s5), (.string t4), (.int .u64 s0), (.int .u64 (IntKind.u64.wrap (Int.tdiv s0 256))), s21] H2)
 (R (.ret (.string s5)) H)
theorem f23_R0_eq (s0 : Int) (s1 : Int) (s2 : Value) (s3 : Value) (s4 : Value) (s5 : ByteArray) (s6 : Int) (s7 : Value) (s8 : Value) (s9 : Value) (s10 : Value) (s11 : Value) (s12 : Value) (s13 : Value) (s14 : Value) (s15 : Value) (s16 : Value) (s17 : Value) (s18 : Value) (s19 : Value) (s20 : Value) (s21 : Value) (H : AH) (K0 : List Value → AH → Prop) (R : AEnd → AH → Prop) : awpF Tryd.prog (codeAt f23_c [1, 1, 0, 1, 0, 0]) (thenF K0 (f23_Q0 R)) [(.int .u64 s0), (.int .i64 s1), s2, s3, s4, (.string s5), (.int .i64 s6), s7, s8, s9, s10, s11, s12, s13, s14, s15, s16, s17, s18, s19, s20, s21] H = f23_R0 s0 s1 s2 s3 s4 s5 s6 s7 s8 s9 s10 s11 s12 s13 s14 s15 s16 s17 s18 s19 s20 s21 H K0 R := by kernel_rfl
def f23_I0 (s1 : Int) (s2 : Value) (s3 : Value) (s4 : Value) (s21 : Value) (J : Nat → Int → ByteArray → Int → AH → Prop) (n : Nat) (tm : List Value) (H : AH) : Prop := ∃ (s0 : Int) (s5 : ByteArray) (s6 : Int) (s7 : Value) (s8 : Value) (s9 : Value) (s10 : Value) (s11 : Value) (s12 : Value) (s13 : Value) (s14 : Value) (s15 : Value) (s16 : Value) (s17 : Value) (s18 : Value) (s19 : Value) (s20 : Value), tm = [(.int .u64 s0), (.int .i64 s1), s2, s3, s4, (.string s5), (.int .i64 s6), s7, s8, s9, s10, s11, s12, s13, s14, s15, s16, s17, s18, s19, s20, s21] ∧ J n s0 s5 s6 H
theorem f23_I0_mk {s0 : Int} {s1 : Int} {s2 : Value} {s3 : Value} {s4 : Value} {s5 : ByteArray} {s6 : Int} {s7 : Value} {s8 : Value} {s9 : Value} {s10 : Value} {s11 : Value} {s12 : Value} {s13 : Value} {s14 : Value} {s15 : Value} {s16 : Value} {s17 : Value} {s18 : Value} {s19 : Value} {s20 : Value} {s21 : Value} {J : Nat → Int → ByteArray → Int → AH → Prop} {n : Nat} {H : AH} (h : J n s0 s5 s6 H) : f23_I0 s1 s2 s3 s4 s21 J n [(.int .u64 s0), (.int .i64 s1), s2, s3, s4, (.string s5), (.int .i64 s6), s7, s8, s9, s10, s11, s12, s13, s14, s15, s16, s17, s18, s19, s20, s21] H := ⟨_, _, _, _, _, _, _, _, _, _, _, _, _, _, _, _, _, rfl, h⟩
-- loop 0: carried 0:n, 5:s, 6:i
theorem f23_L0_rule {s0 : Int} {s1 : Int} {s2 : Value} {s3 : Value} {s4 : Value} {s5 : ByteArray} {s6 : Int} {s7 : Value} {s8 : Value} {s9 : Value} {s10 : Value} {s11 : Value} {s12 : Value} {s13 : Value} {s14 : Value} {s15 : Value} {s16 : Value} {s17 : Value} {s18 : Value} {s19 : Value} {s20 : Value} {s21 : Value} {H : AH} {R : AEnd → AH → Prop} (J : Nat → Int → ByteArray → Int → AH → Prop) (n : Nat) (h0 : J n s0 s5 s6 H)
  (step : ∀ (n : Nat) (s0 : Int) (s5 : ByteArray) (s6 : Int) (H : AH), J n s0 s5 s6 H → ∀ (s7 : Value) (s8 : Value) (s9 : Value) (s10 : Value) (s11 : Value) (s12 : Value) (s13 : Value) (s14 : Value) (s15 : Value) (s16 : Value) (s17 : Value) (s18 : Value) (s19 : Value) (s20 : Value), f23_R0 s0 s1 s2 s3 s4 s5 s6 s7 s8 s9 s10 s11 s12 s13 s14 s15 s16 s17 s18 s19 s20 s21 H (fun tm H => ∃ m, m < n ∧ f23_I0 s1 s2 s3 s4 s21 J m tm H) R) : f23_L0 R [(.int .u64 s0), (.int .i64 s1), s2, s3, s4, (.string s5), (.int .i64 s6), s7, s8, s9, s10, s11, s12, s13, s14, s15, s16, s17, s18, s19, s20, s21] H :=
  awpF_loop (f23_I0 s1 s2 s3 s4 s21 J) n (f23_I0_mk h0) (by
    rintro n tm H ⟨s0, s5, s6, s7, s8, s9, s10, s11, s12, s13, s14, s15, s16, s17, s18, s19, s20, rfl, h⟩
    exact Eq.mpr (f23_R0_eq s0 s1 s2 s3 s4 s5 s6 s7 s8 s9 s10 s11 s12 s13 s14 s15 s16 s17 s18 s19 s20 s21 H _ R) (step n s0 s5 s6 H h s7 s8 s9 s10 s11 s12 s13 s14 s15 s16 s17 s18 s19 s20))
def f23_B (x0 : Int) (x1 : Int) (H : AH) (R : AEnd → AH → Prop) : Prop :=
 f23_L0 R [(.int .u64 x0), (.int .i64 x1), undef, undef, (.string ({ data := #[] })), (.string ({ data := #[] })), (.int .i64 0), undef, undef, undef, undef, undef, undef, undef, undef, undef, undef, undef, undef, undef, undef, undef] H
theorem f23_eq (x0 : Int) (x1 : Int) (H : AH) (R : AEnd → AH → Prop) : awpF Tryd.prog f23_c (aPost Tryd.prog Tryd.f23 R) (([(.int .u64 x0), (.int .i64 x1)] : List Value) ++ List.replicate (Tryd.f23.ntmps - (([(.int .u64 x0), (.int .i64 x1)] : List Value)).length) undef) H = f23_B x0 x1 H R := by kernel_rfl
theorem f23_call (x0 : Int) (x1 : Int) (H : AH) (R : AEnd → AH → Prop) (h : f23_B x0 x1 H R) : ACall Tryd.prog 23 ([(.int .u64 x0), (.int .i64 x1)] : List Value) H R :=
  acall_of mixed Tryd.func23 (by kernel_rfl : Tryd.f23.body = some f23_c) (by kernel_rfl) (by kernel_rfl) (awp_of (Eq.mpr (f23_eq x0 x1 H R) h))

/-! f24: switchyard/switchyardref04.whole -/
noncomputable def f24_c : Code := Tryd.f24.body.getD .skip
def f24_B (x0 : ByteArray) (H : AH) (R : AEnd → AH → Prop) : Prop :=
 wMk [(.int .u8 0)] 1 1 (Int.tmod (IntKind.i64.wrap (64 - (Int.tmod (x0.size : Int) 64))) 64) (Int.tmod (IntKind.i64.wrap (64 - (Int.tmod (x0.size : Int) 64))) 64) H fun i1 H2 =>
 wB2S (some ⟨i1, 0, none⟩) (Int.toNat (Int.tmod (IntKind.i64.wrap (64 - (Int.tmod (x0.size : Int) 64))) 64)) 0 H2 fun t3 =>
 wCat x0 t3 fun t4 =>
 R (.ret (.string t4)) H2
theorem f24_eq (x0 : ByteArray) (H : AH) (R : AEnd → AH → Prop) : awpF Tryd.prog f24_c (aPost Tryd.prog Tryd.f24 R) (([(.string x0)] : List Value) ++ List.replicate (Tryd.f24.ntmps - (([(.string x0)] : List Value)).length) undef) H = f24_B x0 H R := by kernel_rfl
theorem f24_call (x0 : ByteArray) (H : AH) (R : AEnd → AH → Prop) (h : f24_B x0 H R) : ACall Tryd.prog 24 ([(.string x0)] : List Value) H R :=
  acall_of mixed Tryd.func24 (by kernel_rfl : Tryd.f24.body = some f24_c) (by kernel_rfl) (by kernel_rfl) (awp_of (Eq.mpr (f24_eq x0 H R) h))

/-! f25: switchyard/switchyardref01.Sum -/
noncomputable def f25_c : Code := Tryd.f25.body.getD .skip
noncomputable def f25_X0 (R : AEnd → AH → Prop) : AExit → List Value → AH → Prop := thenF (fun tm H => hold (awpF Tryd.prog (codeAt f25_c [1, 1, 1]) (aPost Tryd.prog Tryd.f25 R) tm H)) (aPost Tryd.prog Tryd.f25 R)
noncomputable def f25_X1 (R : AEnd → AH → Prop) : AExit → List Value → AH → Prop := inBlockF 0 (f25_X0 R)
noncomputable def f25_Q0 (R : AEnd → AH → Prop) : AExit → List Value → AH → Prop := (f25_X1 R)
def f25_L0 (R : AEnd → AH → Prop) (tm : List Value) (H : AH) : Prop := awpF Tryd.prog (codeAt f25_c [1, 1, 0, 1, 0]) (f25_Q0 R) tm H
noncomputable def f25_X2 (K0 : List Value → AH → Prop) (R : AEnd → AH → Prop) : AExit → List Value → AH → Prop := thenF (fun tm H => hold (awpF Tryd.prog (codeAt f25_c [1, 1, 0, 1, 0, 0, 1, 1]) (thenF K0 (f25_Q0 R)) tm H)) (thenF K0 (f25_Q0 R))
noncomputable def f25_X3 (K0 : List Value → AH → Prop) (R : AEnd → AH → Prop) : AExit → List Value → AH → Prop := inBlockF 1 (f25_X2 K0 R)
noncomputable def f25_X4 (K0 : List Value → AH → Prop) (R : AEnd → AH → Prop) : AExit → List Value → AH → Prop := inBlockF 2 (f25_X3 K0 R)
noncomputable def f25_Q1 (K0 : List Value → AH → Prop) (R : AEnd → AH → Prop) : AExit → List Value → AH → Prop := (f25_X4 K0 R)
def f25_L1 (K0 : List Value → AH → Prop) (R : AEnd → AH → Prop) (tm : List Value) (H : AH) : Prop := awpF Tryd.prog (codeAt f25_c [1, 1, 0, 1, 0, 0, 1, 0, 0, 1, 1, 0]) (f25_Q1 K0 R) tm H
def f25_J0 (K0 : List Value → AH → Prop) (R : AEnd → AH → Prop) (tm : List Value) (H : AH) : Prop := hold (awpF Tryd.prog (codeAt f25_c [1, 1, 0, 1, 0, 0, 1, 1]) ((thenF K0 (f25_Q0 R))) tm H)
def f25_J1 (R : AEnd → AH → Prop) (tm : List Value) (H : AH) : Prop := hold (awpF Tryd.prog (codeAt f25_c [1, 1, 1]) ((aPost Tryd.prog Tryd.f25 R)) tm H)
-- join 1: live 3:r
def f25_J1_B (s3 : Int) (H : AH) (R : AEnd → AH → Prop) : Prop :=
 R (.ret (.int .u32 (IntKind.u32.wrap (4294967295 - s3)))) H
theorem f25_J1_eq (s0 : Value) (s1 : Value) (s2 : Value) (s3 : Int) (s4 : Value) (s5 : Value) (s6 : Value) (s7 : Value) (s8 : Value) (s9 : Value) (s10 : Value) (s11 : Value) (s12 : Value) (s13 : Value) (s14 : Value) (s15 : Value) (s16 : Value) (s17 : Value) (s18 : Value) (s19 : Value) (s20 : Value) (s21 : Value) (s22 : Value) (s23 : Value) (s24 : Value) (s25 : Value) (H : AH) (R : AEnd → AH → Prop) : f25_J1 R [s0, s1, s2, (.int .u32 s3), s4, s5, s6, s7, s8, s9, s10, s11, s12, s13, s14, s15, s16, s17, s18, s19, s20, s21, s22, s23, s24, s25] H = f25_J1_B s3 H R := by kernel_rfl
-- join 0: live 0:s, 3:r, 4:i
def f25_J0_B (s0 : ByteArray) (s1 : Value) (s2 : Value) (s3 : Int) (s4 : Int) (s5 : Value) (s6 : Value) (s7 : Value) (s8 : Value) (s9 : Value) (s12 : Value) (s13 : Value) (s14 : Value) (s15 : Value) (s16 : Value) (s17 : Value) (s18 : Value) (s19 : Value) (s20 : Value) (s21 : Value) (s22 : Value) (s23 : Value) (s24 : Value) (s25 : Value) (H : AH) (K0 : List Value → AH → Prop) (R : AEnd → AH → Prop) : Prop :=
 K0 [(.string s0), s1, s2, (.int .u32 s3), (.int .i64 (IntKind.i64.wrap (s4 + 1))), s5, s6, s7, s8, s9, (.int .i64 s4), (.int .i64 (IntKind.i64.wrap (s4 + 1))), s12, s13, s14, s15, s16, s17, s18, s19, s20, s21, s22, s23, s24, s25] H
theorem f25_J0_eq (s0 : ByteArray) (s1 : Value) (s2 : Value) (s3 : Int) (s4 : Int) (s5 : Value) (s6 : Value) (s7 : Value) (s8 : Value) (s9 : Value) (s10 : Value) (s11 : Value) (s12 : Value) (s13 : Value) (s14 : Value) (s15 : Value) (s16 : Value) (s17 : Value) (s18 : Value) (s19 : Value) (s20 : Value) (s21 : Value) (s22 : Value) (s23 : Value) (s24 : Value) (s25 : Value) (H : AH) (K0 : List Value → AH → Prop) (R : AEnd → AH → Prop) : f25_J0 K0 R [(.string s0), s1, s2, (.int .u32 s3), (.int .i64 s4), s5, s6, s7, s8, s9, s10, s11, s12, s13, s14, s15, s16, s17, s18, s19, s20, s21, s22, s23, s24, s25] H = f25_J0_B s0 s1 s2 s3 s4 s5 s6 s7 s8 s9 s12 s13 s14 s15 s16 s17 s18 s19 s20 s21 s22 s23 s24 s25 H K0 R := by kernel_rfl
def f25_R0 (s0 : ByteArray) (s1 : Value) (s2 : Value) (s3 : Int) (s4 : Int) (s5 : Value) (s6 : Value) (s7 : Value) (s8 : Value) (s9 : Value) (s10 : Value) (s11 : Value) (s12 : Value) (s13 : Value) (s14 : Value) (s15 : Value) (s16 : Value) (s17 : Value) (s18 : Value) (s19 : Value) (s20 : Value) (s21 : Value) (s22 : Value) (s23 : Value) (s24 : Value) (s25 : Value) (H : AH) (K0 : List Value → AH → Prop) (R : AEnd → AH → Prop) : Prop :=
 wIf (decide (s4 < (s0.size : Int)))
 (wIxS s0 s4 fun n1 =>
 f25_L1 K0 R [(.string s0), s1, s2, (.int .u32 (IntKind.u32.wrap ((BitVec.ofInt IntKind.u32.bits s3) ^^^ (BitVec.ofInt IntKind.u32.bits (IntKind.u32.wrap n1))).toNat)), (.int .i64 s4), (.int .i64 0), (.int .i64 s4), (.string s0), (.int .i64 (s0.size : Int)), (.bool true), s10, s11, (.int .u32 s3), (.string s0), (.int .i64 s4), (.int .u8 n1), (.int .u32 (IntKind.u32.wrap n1)), (.int .u32 (IntKind.u32.wrap ((BitVec.ofInt IntKind.u32.bits s3) ^^^ (BitVec.ofInt IntKind.u32.bits (IntKind.u32.wrap n1))).toNat)), s18, s19, s20, s21, s22, s23, s24, s25] H)
 (f25_J1 R [(.string s0), s1, s2, (.int .u32 s3), (.int .i64 s4), s5, (.int .i64 s4), (.string s0), (.int .i64 (s0.size : Int)), (.bool false), s10, s11, s12, s13, s14, s15, s16, s17, s18, s19, s20, s21, s22, s23, s24, s25] H)
theorem f25_R0_eq (s0 : ByteArray) (s1 : Value) (s2 : Value) (s3 : Int) (s4 : Int) (s5 : Value) (s6 : Value) (s7 : Value) (s8 : Value) (s9 : Value) (s10 : Value) (s11 : Value) (s12 : Value) (s13 : Value) (s14 : Value) (s15 : Value) (s16 : Value) (s17 : Value) (s18 : Value) (s19 : Value) (s20 : Value) (s21 : Value) (s22 : Value) (s23 : Value) (s24 : Value) (s25 : Value) (H : AH) (K0 : List Value → AH → Prop) (R : AEnd → AH → Prop) : awpF Tryd.prog (codeAt f25_c [1, 1, 0, 1, 0, 0]) (thenF K0 (f25_Q0 R)) [(.string s0), s1, s2, (.int .u32 s3), (.int .i64 s4), s5, s6, s7, s8, s9, s10, s11, s12, s13, s14, s15, s16, s17, s18, s19, s20, s21, s22, s23, s24, s25] H = f25_R0 s0 s1 s2 s3 s4 s5 s6 s7 s8 s9 s10 s11 s12 s13 s14 s15 s16 s17 s18 s19 s20 s21 s22 s23 s24 s25 H K0 R := by kernel_rfl
def f25_I0 (s0 : ByteArray) (s1 : Value) (s2 : Value) (s24 : Value) (s25 : Value) (J : Nat → Int → Int → AH → Prop) (n : Nat) (tm : List Value) (H : AH) : Prop := ∃ (s3 : Int) (s4 : Int) (s5 : Value) (s6 : Value) (s7 : Value) (s8 : Value) (s9 : Value) (s10 : Value) (s11 : Value) (s12 : Value) (s13 : Value) (s14 : Value) (s15 : Value) (s16 : Value) (s17 : Value) (s18 : Value) (s19 : Value) (s20 : Value) (s21 : Value) (s22 : Value) (s23 : Value), tm = [(.string s0), s1, s2, (.int .u32 s3), (.int .i64 s4), s5, s6, s7, s8, s9, s10, s11, s12, s13, s14, s15, s16, s17, s18, s19, s20, s21, s22, s23, s24, s25] ∧ J n s3 s4 H
theorem f25_I0_mk {s0 : ByteArray} {s1 : Value} {s2 : Value} {s3 : Int} {s4 : Int} {s5 : Value} {s6 : Value} {s7 : Value} {s8 : Value} {s9 : Value} {s10 : Value} {s11 : Value} {s12 : Value} {s13 : Value} {s14 : Value} {s15 : Value} {s16 : Value} {s17 : Value} {s18 : Value} {s19 : Value} {s20 : Value} {s21 : Value} {s22 : Value} {s23 : Value} {s24 : Value} {s25 : Value} {J : Nat → Int → Int → AH → Prop} {n : Nat} {H : AH} (h : J n s3 s4 H) : f25_I0 s0 s1 s2 s24 s25 J n [(.string s0), s1, s2, (.int .u32 s3), (.int .i64 s4), s5, s6, s7, s8, s9, s10, s11, s12, s13, s14, s15, s16, s17, s18, s19, s20, s21, s22, s23, s24, s25] H := ⟨_, _, _, _, _, _, _, _, _, _, _, _, _, _, _, _, _, _, _, _, _, rfl, h⟩
-- loop 0: carried 3:r, 4:i
theorem f25_L0_rule {s0 : ByteArray} {s1 : Value} {s2 : Value} {s3 : Int} {s4 : Int} {s5 : Value} {s6 : Value} {s7 : Value} {s8 : Value} {s9 : Value} {s10 : Value} {s11 : Value} {s12 : Value} {s13 : Value} {s14 : Value} {s15 : Value} {s16 : Value} {s17 : Value} {s18 : Value} {s19 : Value} {s20 : Value} {s21 : Value} {s22 : Value} {s23 : Value} {s24 : Value} {s25 : Value} {H : AH} {R : AEnd → AH → Prop} (J : Nat → Int → Int → AH → Prop) (n : Nat) (h0 : J n s3 s4 H)
  (step : ∀ (n : Nat) (s3 : Int) (s4 : Int) (H : AH), J n s3 s4 H → ∀ (s5 : Value) (s6 : Value) (s7 : Value) (s8 : Value) (s9 : Value) (s10 : Value) (s11 : Value) (s12 : Value) (s13 : Value) (s14 : Value) (s15 : Value) (s16 : Value) (s17 : Value) (s18 : Value) (s19 : Value) (s20 : Value) (s21 : Value) (s22 : Value) (s23 : Value), f25_R0 s0 s1 s2 s3 s4 s5 s6 s7 s8 s9 s10 s11 s12 s13 s14 s15 s16 s17 s18 s19 s20 s21 s22 s23 s24 s25 H (fun tm H => ∃ m, m < n ∧ f25_I0 s0 s1 s2 s24 s25 J m tm H) R) : f25_L0 R [(.string s0), s1, s2, (.int .u32 s3), (.int .i64 s4), s5, s6, s7, s8, s9, s10, s11, s12, s13, s14, s15, s16, s17, s18, s19, s20, s21, s22, s23, s24, s25] H :=
  awpF_loop (f25_I0 s0 s1 s2 s24 s25 J) n (f25_I0_mk h0) (by
    rintro n tm H ⟨s3, s4, s5, s6, s7, s8, s9, s10, s11, s12, s13, s14, s15, s16, s17, s18, s19, s20, s21, s22, s23, rfl, h⟩
    exact Eq.mpr (f25_R0_eq s0 s1 s2 s3 s4 s5 s6 s7 s8 s9 s10 s11 s12 s13 s14 s15 s16 s17 s18 s19 s20 s21 s22 s23 s24 s25 H _ R) (step n s3 s4 H h s5 s6 s7 s8 s9 s10 s11 s12 s13 s14 s15 s16 s17 s18 s19 s20 s21 s22 s23))
def f25_R1 (s0 : ByteArray) (s1 : Value) (s2 : Value) (s3 : Int) (s4 : Int) (s5 : Int) (s6 : Value) (s7 : Value) (s8 : Value) (s9 : Value) (s10 : Value) (s11 : Value) (s12 : Value) (s13 : Value) (s14 : Value) (s15 : Value) (s16 : Value) (s17 : Value) (s18 : Value) (s19 : Value) (s20 : Value) (s21 : Value) (s22 : Value) (s23 : Value) (s24 : Value) (s25 : Value) (H : AH) (K0 : List Value → AH → Prop) (K1 : List Value → AH → Prop) (R : AEnd → AH → Prop) : Prop :=
 wIf (decide (s5 < 8))
 (wCall Tryd.prog 32 [(.int .u32 s3)] H (fun r2 H3 =>
 opI .u32 r2 fun n6 =>
 K1 [(.string s0), s1, s2, (.int .u32 n6), (.int .i64 s4), (.int .i64 (IntKind.i64.wrap (s5 + 1))), s6, s7, s8, s9, s10, s11, s12, s13, s14, s15, s16, s17, (.int .i64 s5), (.bool true), (.int .i64 s5), (.int .i64 (IntKind.i64.wrap (s5 + 1))), (.int .u32 s3), (.int .u32 n6), s24, s25] H3) (fun v5 H4 => R (.panic v5) H4))
 (f25_J0 K0 R [(.string s0), s1, s2, (.int .u32 s3), (.int .i64 s4), (.int .i64 s5), s6, s7, s8, s9, s10, s11, s12, s13, s14, s15, s16, s17, (.int .i64 s5), (.bool false), s20, s21, s22, s23, s24, s25] H)
theorem f25_R1_eq (s0 : ByteArray) (s1 : Value) (s2 : Value) (s3 : Int) (s4 : Int) (s5 : Int) (s6 : Value) (s7 : Value) (s8 : Value) (s9 : Value) (s10 : Value) (s11 : Value) (s12 : Value) (s13 : Value) (s14 : Value) (s15 : Value) (s16 : Value) (s17 : Value) (s18 : Value) (s19 : Value) (s20 : Value) (s21 : Value) (s22 : Value) (s23 : Value) (s24 : Value) (s25 : Value) (H : AH) (K0 : List Value → AH → Prop) (K1 : List Value → AH → Prop) (R : AEnd → AH → Prop) : awpF Tryd.prog (codeAt f25_c [1, 1, 0, 1, 0, 0, 1, 0, 0, 1, 1, 0, 0]) (thenF K1 (f25_Q1 K0 R)) [(.string s0), s1, s2, (.int .u32 s3), (.int .i64 s4), (.int .i64 s5), s6, s7, s8, s9, s10, s11, s12, s13, s14, s15, s16, s17, s18, s19, s20, s21, s22, s23, s24, s25] H = f25_R1 s0 s1 s2 s3 s4 s5 s6 s7 s8 s9 s10 s11 s12 s13 s14 s15 s16 s17 s18 s19 s20 s21 s22 s23 s24 s25 H K0 K1 R := by kernel_rfl
def f25_I1 (s0 : ByteArray) (s1 : Value) (s2 : Value) (s4 : Int) (s6 : Value) (s7 : Value) (s8 : Value) (s9 : Value) (s10 : Value) (s11 : Value) (s12 : Value) (s13 : Value) (s14 : Value) (s15 : Value) (s16 : Value) (s17 : Value) (s24 : Value) (s25 : Value) (J : Nat → Int → Int → AH → Prop) (n : Nat) (tm : List Value) (H : AH) : Prop := ∃ (s3 : Int) (s5 : Int) (s18 : Value) (s19 : Value) (s20 : Value) (s21 : Value) (s22 : Value) (s23 : Value), tm = [(.string s0), s1, s2, (.int .u32 s3), (.int .i64 s4), (.int .i64 s5), s6, s7, s8, s9, s10, s11, s12, s13, s14, s15, s16, s17, s18, s19, s20, s21, s22, s23, s24, s25] ∧ J n s3 s5 H
theorem f25_I1_mk {s0 : ByteArray} {s1 : Value} {s2 : Value} {s3 : Int} {s4 : Int} {s5 : Int} {s6 : Value} {s7 : Value} {s8 : Value} {s9 : Value} {s10 : Value} {s11 : Value} {s12 : Value} {s13 : Value} {s14 : Value} {s15 : Value} {s16 : Value} {s17 : Value} {s18 : Value} {s19 : Value} {s20 : Value} {s21 : Value} {s22 : Value} {s23 : Value} {s24 : Value} {s25 : Value} {J : Nat → Int → Int → AH → Prop} {n : Nat} {H : AH} (h : J n s3 s5 H) : f25_I1 s0 s1 s2 s4 s6 s7 s8 s9 s10 s11 s12 s13 s14 s15 s16 s17 s24 s25 J n [(.string s0), s1, s2, (.int .u32 s3), (.int .i64 s4), (.int .i64 s5), s6, s7, s8, s9, s10, s11, s12, s13, s14, s15, s16, s17, s18, s19, s20, s21, s22, s23, s24, s25] H := ⟨_, _, _, _, _, _, _, _, rfl, h⟩
-- loop 1: carried 3:r, 5:k
theorem f25_L1_rule {s0 : ByteArray} {s1 : Value} {s2 : Value} {s3 : Int} {s4 : Int} {s5 : Int} {s6 : Value} {s7 : Value} {s8 : Value} {s9 : Value} {s10 : Value} {s11 : Value} {s12 : Value} {s13 : Value} {s14 : Value} {s15 : Value} {s16 : Value} {s17 : Value} {s18 : Value} {s19 : Value} {s20 : Value} {s21 : Value} {s22 : Value} {s23 : Value} {s24 : Value} {s25 : Value} {H : AH} {K0 : List Value → AH → Prop} {R : AEnd → AH → Prop} (J : Nat → Int → Int → AH → Prop) (n : Nat) (h0 : J n s3 s5 H)
  (step : ∀ (n : Nat) (s3 : Int) (s5 : Int) (H : AH), J n s3 s5 H → ∀ (s18 : Value) (s19 : Value) (s20 : Value) (s21 : Value) (s22 : Value) (s23 : Value), f25_R1 s0 s1 s2 s3 s4 s5 s6 s7 s8 s9 s10 s11 s12 s13 s14 s15 s16 s17 s18 s19 s20 s21 s22 s23 s24 s25 H K0 (fun tm H => ∃ m, m < n ∧ f25_I1 s0 s1 s2 s4 s6 s7 s8 s9 s10 s11 s12 s13 s14 s15 s16 s17 s24 s25 J m tm H) R) : f25_L1 K0 R [(.string s0), s1, s2, (.int .u32 s3), (.int .i64 s4), (.int .i64 s5), s6, s7, s8, s9, s10, s11, s12, s13, s14, s15, s16, s17, s18, s19, s20, s21, s22, s23, s24, s25] H :=
  awpF_loop (f25_I1 s0 s1 s2 s4 s6 s7 s8 s9 s10 s11 s12 s13 s14 s15 s16 s17 s24 s25 J) n (f25_I1_mk h0) (by
    rintro n tm H ⟨s3, s5, s18, s19, s20, s21, s22, s23, rfl, h⟩
    exact Eq.mpr (f25_R1_eq s0 s1 s2 s3 s4 s5 s6 s7 s8 s9 s10 s11 s12 s13 s14 s15 s16 s17 s18 s19 s20 s21 s22 s23 s24 s25 H K0 _ R) (step n s3 s5 H h s18 s19 s20 s21 s22 s23))
def f25_B (x0 : ByteArray) (H : AH) (R : AEnd → AH → Prop) : Prop :=
 f25_L0 R [(.string x0), undef, (.int .u32 0), (.int .u32 4294967295), (.int .i64 0), undef, undef, undef, undef, undef, undef, undef, undef, undef, undef, undef, undef, undef, undef, undef, undef, undef, undef, undef, undef, undef] H
theorem f25_eq (x0 : ByteArray) (H : AH) (R : AEnd → AH → Prop) : awpF Tryd.prog f25_c (aPost Tryd.prog Tryd.f25 R) (([(.string x0)] : List Value) ++ List.replicate (Tryd.f25.ntmps - (([(.string x0)] : List Value)).length) undef) H = f25_B x0 H R := by kernel_rfl
theorem f25_call (x0 : ByteArray) (H : AH) (R : AEnd → AH → Prop) (h : f25_B x0 H R) : ACall Tryd.prog 25 ([(.string x0)] : List Value) H R :=
  acall_of mixed Tryd.func25 (by kernel_rfl : Tryd.f25.body = some f25_c) (by kernel_rfl) (by kernel_rfl) (awp_of (Eq.mpr (f25_eq x0 H R) h))

/-! f26: switchyard/frame.number -/
noncomputable def f26_c : Code := Tryd.f26.body.getD .skip
noncomputable def f26_X0 (R : AEnd → AH → Prop) : AExit → List Value → AH → Prop := thenF (fun tm H => hold (awpF Tryd.prog (codeAt f26_c [1, 1, 1]) (aPost Tryd.prog Tryd.f26 R) tm H)) (aPost Tryd.prog Tryd.f26 R)
noncomputable def f26_X1 (R : AEnd → AH → Prop) : AExit → List Value → AH → Prop := inBlockF 0 (f26_X0 R)
noncomputable def f26_Q0 (R : AEnd → AH → Prop) : AExit → List Value → AH → Prop := (f26_X1 R)
def f26_L0 (R : AEnd → AH → Prop) (tm : List Value) (H : AH) : Prop := awpF Tryd.prog (codeAt f26_c [1, 1, 0, 1, 0]) (f26_Q0 R) tm H
def f26_R0 (s0 : Value) (s1 : Value) (s2 : Value) (s3 : Int) (s4 : Value) (s5 : Value) (s6 : Value) (s7b : Option Addr) (s7l : Nat) (s7c : Nat) (s8 : Int) (s9 : Int) (s10 : Value) (s11 : Value) (s12 : Value) (s13 : Value) (s14 : Value) (s15 : Value) (s16 : Value) (s17 : Value) (s18 : Value) (s19 : Value) (H : AH) (K0 : List Value → AH → Prop) (R : AEnd → AH → Prop) : Prop :=
 wIf (decide (s9 < s8))
 (wIx s7b s7l 1 s9 fun i1 k2 =>
 ldI .u8 i1 k2 H fun n3 =>
 K0 [s0, s1, s2, (.int .u64 (IntKind.u64.wrap ((BitVec.ofInt IntKind.u64.bits (IntKind.u64.wrap (s3 * (2 ^ (min (Int.toNat 8) IntKind.u64.bits))))) ||| (BitVec.ofInt IntKind.u64.bits (IntKind.u64.wrap n3))).toNat)), s4, (.int .u8 n3), s6, (.slice s7b s7l s7c), (.int .i64 s8), (.int .i64 (IntKind.i64.wrap (s9 + 1))), (.bool true), (.pointer (some ⟨i1, k2, none⟩)), (.int .u8 n3), (.int .u64 s3), (.int .u64 (IntKind.u64.wrap (s3 * (2 ^ (min (Int.toNat 8) IntKind.u64.bits))))), (.int .u8 n3), (.int .u64 (IntKind.u64.wrap n3)), (.int .u64 (IntKind.u64.wrap ((BitVec.ofInt IntKind.u64.bits (IntKind.u64.wrap (s3 * (2 ^ (min (Int.toNat 8) IntKind.u64.bits))))) ||| (BitVec.ofInt IntKind.u64.bits (IntKind.u64.wrap n3))).toNat)), (.int .i64 (IntKind.i64.wrap (s9 + 1))), s19] H)
 (R (.ret (.int .u64 s3)) H)
theorem f26_R0_eq (s0 : Value) (s1 : Value) (s2 : Value) (s3 : Int) (s4 : Value) (s5 : Value) (s6 : Value) (s7b : Option Addr) (s7l : Nat) (s7c : Nat) (s8 : Int) (s9 : Int) (s10 : Value) (s11 : Value) (s12 : Value) (s13 : Value) (s14 : Value) (s15 : Value) (s16 : Value) (s17 : Value) (s18 : Value) (s19 : Value) (H : AH) (K0 : List Value → AH → Prop) (R : AEnd → AH → Prop) : awpF Tryd.prog (codeAt f26_c [1, 1, 0, 1, 0, 0]) (thenF K0 (f26_Q0 R)) [s0, s1, s2, (.int .u64 s3), s4, s5, s6, (.slice s7b s7l s7c), (.int .i64 s8), (.int .i64 s9), s10, s11, s12, s13, s14, s15, s16, s17, s18, s19] H = f26_R0 s0 s1 s2 s3 s4 s5 s6 s7b s7l s7c s8 s9 s10 s11 s12 s13 s14 s15 s16 s17 s18 s19 H K0 R := by kernel_rfl
def f26_I0 (s0 : Value) (s1 : Value) (s2 : Value) (s4 : Value) (s6 : Value) (s7b : Option Addr) (s7l : Nat) (s7c : Nat) (s8 : Int) (s19 : Value) (J : Nat → Int → Int → AH → Prop) (n : Nat) (tm : List Value) (H : AH) : Prop := ∃ (s3 : Int) (s5 : Value) (s9 : Int) (s10 : Value) (s11 : Value) (s12 : Value) (s13 : Value) (s14 : Value) (s15 : Value) (s16 : Value) (s17 : Value) (s18 : Value), tm = [s0, s1, s2, (.int .u64 s3), s4, s5, s6, (.slice s7b s7l s7c), (.int .i64 s8), (.int .i64 s9), s10, s11, s12, s13, s14, s15, s16, s17, s18, s19] ∧ J n s3 s9 H
theorem f26_I0_mk {s0 : Value} {s1 : Value} {s2 : Value} {s3 : Int} {s4 : Value} {s5 : Value} {s6 : Value} {s7b : Option Addr} {s7l : Nat} {s7c : Nat} {s8 : Int} {s9 : Int} {s10 : Value} {s11 : Value} {s12 : Value} {s13 : Value} {s14 : Value} {s15 : Value} {s16 : Value} {s17 : Value} {s18 : Value} {s19 : Value} {J : Nat → Int → Int → AH → Prop} {n : Nat} {H : AH} (h : J n s3 s9 H) : f26_I0 s0 s1 s2 s4 s6 s7b s7l s7c s8 s19 J n [s0, s1, s2, (.int .u64 s3), s4, s5, s6, (.slice s7b s7l s7c), (.int .i64 s8), (.int .i64 s9), s10, s11, s12, s13, s14, s15, s16, s17, s18, s19] H := ⟨_, _, _, _, _, _, _, _, _, _, _, _, rfl, h⟩
-- loop 0: carried 3:n, 9:
theorem f26_L0_rule {s0 : Value} {s1 : Value} {s2 : Value} {s3 : Int} {s4 : Value} {s5 : Value} {s6 : Value} {s7b : Option Addr} {s7l : Nat} {s7c : Nat} {s8 : Int} {s9 : Int} {s10 : Value} {s11 : Value} {s12 : Value} {s13 : Value} {s14 : Value} {s15 : Value} {s16 : Value} {s17 : Value} {s18 : Value} {s19 : Value} {H : AH} {R : AEnd → AH → Prop} (J : Nat → Int → Int → AH → Prop) (n : Nat) (h0 : J n s3 s9 H)
  (step : ∀ (n : Nat) (s3 : Int) (s9 : Int) (H : AH), J n s3 s9 H → ∀ (s5 : Value) (s10 : Value) (s11 : Value) (s12 : Value) (s13 : Value) (s14 : Value) (s15 : Value) (s16 : Value) (s17 : Value) (s18 : Value), f26_R0 s0 s1 s2 s3 s4 s5 s6 s7b s7l s7c s8 s9 s10 s11 s12 s13 s14 s15 s16 s17 s18 s19 H (fun tm H => ∃ m, m < n ∧ f26_I0 s0 s1 s2 s4 s6 s7b s7l s7c s8 s19 J m tm H) R) : f26_L0 R [s0, s1, s2, (.int .u64 s3), s4, s5, s6, (.slice s7b s7l s7c), (.int .i64 s8), (.int .i64 s9), s10, s11, s12, s13, s14, s15, s16, s17, s18, s19] H :=
  awpF_loop (f26_I0 s0 s1 s2 s4 s6 s7b s7l s7c s8 s19 J) n (f26_I0_mk h0) (by
    rintro n tm H ⟨s3, s5, s9, s10, s11, s12, s13, s14, s15, s16, s17, s18, rfl, h⟩
    exact Eq.mpr (f26_R0_eq s0 s1 s2 s3 s4 s5 s6 s7b s7l s7c s8 s9 s10 s11 s12 s13 s14 s15 s16 s17 s18 s19 H _ R) (step n s3 s9 H h s5 s10 s11 s12 s13 s14 s15 s16 s17 s18))
def f26_B (x0 : ByteArray) (H : AH) (R : AEnd → AH → Prop) : Prop :=
 wS2B x0 H fun i4 H5 =>
 f26_L0 R [(.string x0), undef, (.int .u64 0), (.int .u64 0), undef, undef, (.string x0), (.slice (some ⟨i4, 0, none⟩) x0.size 0), (.int .i64 (x0.size : Int)), (.int .i64 0), undef, undef, undef, undef, undef, undef, undef, undef, undef, undef] H5
theorem f26_eq (x0 : ByteArray) (H : AH) (R : AEnd → AH → Prop) : awpF Tryd.prog f26_c (aPost Tryd.prog Tryd.f26 R) (([(.string x0)] : List Value) ++ List.replicate (Tryd.f26.ntmps - (([(.string x0)] : List Value)).length) undef) H = f26_B x0 H R := by kernel_rfl
theorem f26_call (x0 : ByteArray) (H : AH) (R : AEnd → AH → Prop) (h : f26_B x0 H R) : ACall Tryd.prog 26 ([(.string x0)] : List Value) H R :=
  acall_of mixed Tryd.func26 (by kernel_rfl : Tryd.f26.body = some f26_c) (by kernel_rfl) (by kernel_rfl) (awp_of (Eq.mpr (f26_eq x0 H R) h))

/-! f28: switchyard/switchyardref04.value -/
noncomputable def f28_c : Code := Tryd.f28.body.getD .skip
noncomputable def f28_X0 (R : AEnd → AH → Prop) : AExit → List Value → AH → Prop := thenF (fun tm H => hold (awpF Tryd.prog (codeAt f28_c [1, 1, 1]) (aPost Tryd.prog Tryd.f28 R) tm H)) (aPost Tryd.prog Tryd.f28 R)
noncomputable def f28_X1 (R : AEnd → AH → Prop) : AExit → List Value → AH → Prop := inBlockF 0 (f28_X0 R)
noncomputable def f28_Q0 (R : AEnd → AH → Prop) : AExit → List Value → AH → Prop := (f28_X1 R)
def f28_L0 (R : AEnd → AH → Prop) (tm : List Value) (H : AH) : Prop := awpF Tryd.prog (codeAt f28_c [1, 1, 0, 1, 0]) (f28_Q0 R) tm H
def f28_R0 (s0 : ByteArray) (s1 : Value) (s2 : Value) (s3 : Int) (s4 : Int) (s5 : Value) (s6 : Value) (s7 : Value) (s8 : Value) (s9 : Value) (s10 : Value) (s11 : Value) (s12 : Value) (s13 : Value) (s14 : Value) (s15 : Value) (s16 : Value) (s17 : Value) (s18 : Value) (H : AH) (K0 : List Value → AH → Prop) (R : AEnd → AH → Prop) : Prop :=
 wIf (decide (s4 < (s0.size : Int)))
 (wIxS s0 s4 fun n1 =>
 K0 [(.string s0), s1, s2, (.int .u64 (IntKind.u64.wrap ((IntKind.u64.wrap (256 * s3)) + (IntKind.u64.wrap n1)))), (.int .i64 (IntKind.i64.wrap (s4 + 1))), (.int .i64 s4), (.string s0), (.int .i64 (s0.size : Int)), (.bool true), (.int .i64 s4), (.int .i64 (IntKind.i64.wrap (s4 + 1))), (.int .u64 s3), (.int .u64 (IntKind.u64.wrap (256 * s3))), (.string s0), (.int .i64 s4), (.int .u8 n1), (.int .u64 (IntKind.u64.wrap n1)), (.int .u64 (IntKind.u64.wrap ((IntKind.u64.wrap (256 * s3)) + (IntKind.u64.wrap n1)))), s18] H)
 (R (.ret (.int .u64 s3)) H)
theorem f28_R0_eq (s0 : ByteArray) (s1 : Value) (s2 : Value) (s3 : Int) (s4 : Int) (s5 : Value) (s6 : Value) (s7 : Value) (s8 : Value) (s9 : Value) (s10 : Value) (s11 : Value) (s12 : Value) (s13 : Value) (s14 : Value) (s15 : Value) (s16 : Value) (s17 : Value) (s18 : Value) (H : AH) (K0 : List Value → AH → Prop) (R : AEnd → AH → Prop) : awpF Tryd.prog (codeAt f28_c [1, 1, 0, 1, 0, 0]) (thenF K0 (f28_Q0 R)) [(.string s0), s1, s2, (.int .u64 s3), (.int .i64 s4), s5, s6, s7, s8, s9, s10, s11, s12, s13, s14, s15, s16, s17, s18] H = f28_R0 s0 s1 s2 s3 s4 s5 s6 s7 s8 s9 s10 s11 s12 s13 s14 s15 s16 s17 s18 H K0 R := by kernel_rfl
def f28_I0 (s0 : ByteArray) (s1 : Value) (s2 : Value) (s18 : Value) (J : Nat → Int → Int → AH → Prop) (n : Nat) (tm : List Value) (H : AH) : Prop := ∃ (s3 : Int) (s4 : Int) (s5 : Value) (s6 : Value) (s7 : Value) (s8 : Value) (s9 : Value) (s10 : Value) (s11 : Value) (s12 : Value) (s13 : Value) (s14 : Value) (s15 : Value) (s16 : Value) (s17 : Value), tm = [(.string s0), s1, s2, (.int .u64 s3), (.int .i64 s4), s5, s6, s7, s8, s9, s10, s11, s12, s13, s14, s15, s16, s17, s18] ∧ J n s3 s4 H
theorem f28_I0_mk {s0 : ByteArray} {s1 : Value} {s2 : Value} {s3 : Int} {s4 : Int} {s5 : Value} {s6 : Value} {s7 : Value} {s8 : Value} {s9 : Value} {s10 : Value} {s11 : Value} {s12 : Value} {s13 : Value} {s14 : Value} {s15 : Value} {s16 : Value} {s17 : Value} {s18 : Value} {J : Nat → Int → Int → AH → Prop} {n : Nat} {H : AH} (h : J n s3 s4 H) : f28_I0 s0 s1 s2 s18 J n [(.string s0), s1, s2, (.int .u64 s3), (.int .i64 s4), s5, s6, s7, s8, s9, s10, s11, s12, s13, s14, s15, s16, s17, s18] H := ⟨_, _, _, _, _, _, _, _, _, _, _, _, _, _, _, rfl, h⟩
-- loop 0: carried 3:n, 4:i
theorem f28_L0_rule {s0 : ByteArray} {s1 : Value} {s2 : Value} {s3 : Int} {s4 : Int} {s5 : Value} {s6 : Value} {s7 : Value} {s8 : Value} {s9 : Value} {s10 : Value} {s11 : Value} {s12 : Value} {s13 : Value} {s14 : Value} {s15 : Value} {s16 : Value} {s17 : Value} {s18 : Value} {H : AH} {R : AEnd → AH → Prop} (J : Nat → Int → Int → AH → Prop) (n : Nat) (h0 : J n s3 s4 H)
  (step : ∀ (n : Nat) (s3 : Int) (s4 : Int) (H : AH), J n s3 s4 H → ∀ (s5 : Value) (s6 : Value) (s7 : Value) (s8 : Value) (s9 : Value) (s10 : Value) (s11 : Value) (s12 : Value) (s13 : Value) (s14 : Value) (s15 : Value) (s16 : Value) (s17 : Value), f28_R0 s0 s1 s2 s3 s4 s5 s6 s7 s8 s9 s10 s11 s12 s13 s14 s15 s16 s17 s18 H (fun tm H => ∃ m, m < n ∧ f28_I0 s0 s1 s2 s18 J m tm H) R) : f28_L0 R [(.string s0), s1, s2, (.int .u64 s3), (.int .i64 s4), s5, s6, s7, s8, s9, s10, s11, s12, s13, s14, s15, s16, s17, s18] H :=
  awpF_loop (f28_I0 s0 s1 s2 s18 J) n (f28_I0_mk h0) (by
    rintro n tm H ⟨s3, s4, s5, s6, s7, s8, s9, s10, s11, s12, s13, s14, s15, s16, s17, rfl, h⟩
    exact Eq.mpr (f28_R0_eq s0 s1 s2 s3 s4 s5 s6 s7 s8 s9 s10 s11 s12 s13 s14 s15 s16 s17 s18 H _ R) (step n s3 s4 H h s5 s6 s7 s8 s9 s10 s11 s12 s13 s14 s15 s16 s17))
def f28_B (x0 : ByteArray) (H : AH) (R : AEnd → AH → Prop) : Prop :=
 f28_L0 R [(.string x0), undef, (.int .u64 0), (.int .u64 0), (.int .i64 0), undef, undef, undef, undef, undef, undef, undef, undef, undef, undef, undef, undef, undef, undef] H
theorem f28_eq (x0 : ByteArray) (H : AH) (R : AEnd → AH → Prop) : awpF Tryd.prog f28_c (aPost Tryd.prog Tryd.f28 R) (([(.string x0)] : List Value) ++ List.replicate (Tryd.f28.ntmps - (([(.string x0)] : List Value)).length) undef) H = f28_B x0 H R := by kernel_rfl
theorem f28_call (x0 : ByteArray) (H : AH) (R : AEnd → AH → Prop) (h : f28_B x0 H R) : ACall Tryd.prog 28 ([(.string x0)] : List Value) H R :=
  acall_of mixed Tryd.func28 (by kernel_rfl : Tryd.f28.body = some f28_c) (by kernel_rfl) (by kernel_rfl) (awp_of (Eq.mpr (f28_eq x0 H R) h))

/-! f29: switchyard/frame.right -/
noncomputable def f29_c : Code := Tryd.f29.body.getD .skip
def f29_B (x0_0 : Int) (x0_1 : Int) (x0_2 : Int) (x0_3 : Int) (H : AH) (R : AEnd → AH → Prop) : Prop :=
 wNew [(.int .u32 x0_0), (.int .u32 x0_1), (.int .u32 x0_2), (.int .u64 x0_3)] H fun i1 H2 =>
 ldI .u32 i1 1 H2 fun n3 =>
 wIf (decide (n3 ≥ 1))
 (ldI .u32 i1 1 H2 fun n4 =>
 ldI .u32 i1 0 H2 fun n5 =>
 wIf (decide (n4 ≤ n5))
 (ldI .u32 i1 2 H2 fun n6 =>
 ldI .u32 i1 0 H2 fun n7 =>
 R (.ret (.bool (decide (n6 < n7)))) H2)
 (R (.ret (.bool false)) H2))
 (R (.ret (.bool false)) H2)
theorem f29_eq (x0_0 : Int) (x0_1 : Int) (x0_2 : Int) (x0_3 : Int) (H : AH) (R : AEnd → AH → Prop) : awpF Tryd.prog f29_c (aPost Tryd.prog Tryd.f29 R) (([(.agg #[(.int .u32 x0_0), (.int .u32 x0_1), (.int .u32 x0_2), (.int .u64 x0_3)])] : List Value) ++ List.replicate (Tryd.f29.ntmps - (([(.agg #[(.int .u32 x0_0), (.int .u32 x0_1), (.int .u32 x0_2), (.int .u64 x0_3)])] : List Value)).length) undef) H = f29_B x0_0 x0_1 x0_2 x0_3 H R := by kernel_rfl
theorem f29_call (x0_0 : Int) (x0_1 : Int) (x0_2 : Int) (x0_3 : Int) (H : AH) (R : AEnd → AH → Prop) (h : f29_B x0_0 x0_1 x0_2 x0_3 H R) : ACall Tryd.prog 29 ([(.agg #[(.int .u32 x0_0), (.int .u32 x0_1), (.int .u32 x0_2), (.int .u64 x0_3)])] : List Value) H R :=
  acall_of mixed Tryd.func29 (by kernel_rfl : Tryd.f29.body = some f29_c) (by kernel_rfl) (by kernel_rfl) (awp_of (Eq.mpr (f29_eq x0_0 x0_1 x0_2 x0_3 H R) h))

/-! f31: switchyard/crc.step -/
noncomputable def f31_c : Code := Tryd.f31.body.getD .skip
def f31_B (x0 : Int) (H : AH) (R : AEnd → AH → Prop) : Prop :=
 R (.ret (.int .u32 (IntKind.u32.wrap ((BitVec.ofInt IntKind.u32.bits (Int.fdiv x0 (2 ^ (min (Int.toNat 1) IntKind.u32.bits)))) ^^^ (BitVec.ofInt IntKind.u32.bits (IntKind.u32.wrap ((BitVec.ofInt IntKind.u32.bits 2197175160) &&& (BitVec.ofInt IntKind.u32.bits (IntKind.u32.wrap (0 - (IntKind.u32.wrap ((BitVec.ofInt IntKind.u32.bits x0) &&& (BitVec.ofInt IntKind.u32.bits 1)).toNat))))).toNat))).toNat))) H
theorem f31_eq (x0 : Int) (H : AH) (R : AEnd → AH → Prop) : awpF Tryd.prog f31_c (aPost Tryd.prog Tryd.f31 R) (([(.int .u32 x0)] : List Value) ++ List.replicate (Tryd.f31.ntmps - (([(.int .u32 x0)] : List Value)).length) undef) H = f31_B x0 H R := by kernel_rfl
theorem f31_call (x0 : Int) (H : AH) (R : AEnd → AH → Prop) (h : f31_B x0 H R) : ACall Tryd.prog 31 ([(.int .u32 x0)] : List Value) H R :=
  acall_of mixed Tryd.func31 (by kernel_rfl : Tryd.f31.body = some f31_c) (by kernel_rfl) (by kernel_rfl) (awp_of (Eq.mpr (f31_eq x0 H R) h))

/-! f32: switchyard/switchyardref01.move -/
noncomputable def f32_c : Code := Tryd.f32.body.getD .skip
def f32_B (x0 : Int) (H : AH) (R : AEnd → AH → Prop) : Prop :=
 wIf (decide ((Int.tmod x0 2) = 1))
 (R (.ret (.int .u32 (IntKind.u32.wrap ((BitVec.ofInt IntKind.u32.bits (IntKind.u32.wrap (Int.tdiv x0 2))) ^^^ (BitVec.ofInt IntKind.u32.bits 2197175160)).toNat))) H)
 (R (.ret (.int .u32 (IntKind.u32.wrap (Int.tdiv x0 2)))) H)
theorem f32_eq (x0 : Int) (H : AH) (R : AEnd → AH → Prop) : awpF Tryd.prog f32_c (aPost Tryd.prog Tryd.f32 R) (([(.int .u32 x0)] : List Value) ++ List.replicate (Tryd.f32.ntmps - (([(.int .u32 x0)] : List Value)).length) undef) H = f32_B x0 H R := by kernel_rfl
theorem f32_call (x0 : Int) (H : AH) (R : AEnd → AH → Prop) (h : f32_B x0 H R) : ACall Tryd.prog 32 ([(.int .u32 x0)] : List Value) H R :=
  acall_of mixed Tryd.func32 (by kernel_rfl : Tryd.f32.body = some f32_c) (by kernel_rfl) (by kernel_rfl) (awp_of (Eq.mpr (f32_eq x0 H R) h))

end Go.Proofs.YtnjhcnefgeodcaaDoor
