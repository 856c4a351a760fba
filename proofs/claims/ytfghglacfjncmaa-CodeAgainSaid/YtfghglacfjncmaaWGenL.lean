/- Bodies of functions as nested rules: printed by genw.py, a program of this claim. -/
import Derived.Test.YtfghglacfjncmaaWTy
namespace Go.Proofs.Ytfghglacfjncmaa
open Go.RowKit
set_option linter.unusedVariables false
set_option maxRecDepth 100000

/-! f10: switchyard/switchyardlaw13.awake -/
noncomputable def f10_c : Code := Try.f10.body.getD .skip
def f10_B (H : AH) (R : AEnd → AH → Prop) : Prop :=
 wCall Try.prog 12 [(.agg #[(.int .i64 1), (.int .i64 (-1)), (.string ({ data := #[] })), (.slice none 0 0)])] H (fun r1 H2 =>
 opT 2 r1 fun l5 =>
 opS (l5.headD undef) fun t6 =>
 opI .i64 (l5.tail.headD undef) fun n7 =>
 wBs [(.int .i64 1), (.int .i64 2)] 1 H2 fun i8 H9 =>
 wCall Try.prog 12 [(.agg #[(.int .i64 5), (.int .i64 0), (.string ({ data := #[] })), (.slice (some ⟨i8, 0, none⟩) 2 0)])] H9 (fun r10 H11 =>
 opT 2 r10 fun l14 =>
 opS (l14.headD undef) fun t15 =>
 opI .i64 (l14.tail.headD undef) fun n16 =>
 wCall Try.prog 17 [(.string t15)] H11 (fun r17 H18 =>
 opT 2 r17 fun l21 =>
 opA 4 (l21.headD undef) fun l22 =>
 opI .i64 (l22.headD undef) fun n23 =>
 opI .i64 (l22.tail.headD undef) fun n24 =>
 opS (l22.tail.tail.headD undef) fun t25 =>
 opL (l22.tail.tail.tail.headD undef) fun z26b z26l z26c =>
 opI .i64 (l21.tail.headD undef) fun n27 =>
 wNew [(.int .i64 0), (.int .i64 0), (.string ({ data := #[] })), (.slice none 0 0)] H18 fun i28 H29 =>
 wSt i28 0 [(.int .i64 n23), (.int .i64 n24), (.string t25), (.slice z26b z26l z26c)] H29 fun H30 =>
 wIf (decide (t6 = ({ data := #[1, 1] })))
 (wIf (decide (n7 = 0))
 (wIf (decide (t15 = ({ data := #[5, 2, 2, 4] })))
 (wIf (decide (n16 = 0))
 (wIf (decide (n27 = 0))
 (ldL i28 3 H30 fun z31b z31l z31c =>
 R (.ret (.bool (decide ((z31l : Int) = 2)))) H30)
 (R (.ret (.bool false)) H30))
 (R (.ret (.bool false)) H30))
 (R (.ret (.bool false)) H30))
 (R (.ret (.bool false)) H30))
 (R (.ret (.bool false)) H30)) (fun v20 H19 => R (.panic v20) H19)) (fun v13 H12 => R (.panic v13) H12)) (fun v4 H3 => R (.panic v4) H3)
theorem f10_eq (H : AH) (R : AEnd → AH → Prop) : awpF Try.prog f10_c (aPost Try.prog Try.f10 R) (([] : List Value) ++ List.replicate (Try.f10.ntmps - (([] : List Value)).length) undef) H = f10_B H R := by kernel_rfl
theorem f10_call (H : AH) (R : AEnd → AH → Prop) (h : f10_B H R) : ACall Try.prog 10 ([] : List Value) H R :=
  acall_of mixed Try.func10 (by kernel_rfl : Try.f10.body = some f10_c) (by kernel_rfl) (by kernel_rfl) (awp_of (Eq.mpr (f10_eq H R) h))

/-! f11: switchyard/switchyardlaw13.few -/
noncomputable def f11_c : Code := Try.f11.body.getD .skip
noncomputable def f11_X0 (R : AEnd → AH → Prop) : AExit → List Value → AH → Prop := thenF (fun tm H => hold (awpF Try.prog (codeAt f11_c [1, 1]) (aPost Try.prog Try.f11 R) tm H)) (aPost Try.prog Try.f11 R)
noncomputable def f11_X1 (R : AEnd → AH → Prop) : AExit → List Value → AH → Prop := inBlockF 0 (f11_X0 R)
noncomputable def f11_Q0 (R : AEnd → AH → Prop) : AExit → List Value → AH → Prop := (f11_X1 R)
def f11_L0 (R : AEnd → AH → Prop) (tm : List Value) (H : AH) : Prop := awpF Try.prog (codeAt f11_c [1, 0, 1, 0]) (f11_Q0 R) tm H
noncomputable def f11_X2 (K0 : List Value → AH → Prop) (R : AEnd → AH → Prop) : AExit → List Value → AH → Prop := thenF (fun tm H => hold (awpF Try.prog (codeAt f11_c [1, 0, 1, 0, 0, 1, 1, 1]) (thenF K0 (f11_Q0 R)) tm H)) (thenF K0 (f11_Q0 R))
noncomputable def f11_X3 (K0 : List Value → AH → Prop) (R : AEnd → AH → Prop) : AExit → List Value → AH → Prop := inBlockF 1 (f11_X2 K0 R)
def f11_J0 (K0 : List Value → AH → Prop) (R : AEnd → AH → Prop) (tm : List Value) (H : AH) : Prop := hold (awpF Try.prog (codeAt f11_c [1, 0, 1, 0, 0, 1, 1, 0, 0, 1, 1]) ((f11_X3 K0 R)) tm H)
-- join 0: live 0:l, 5:, 6:, 7:, 25:
def f11_J0_B (s0b : Option Addr) (s0l : Nat) (s0c : Nat) (s1 : Value) (s2 : Value) (s3 : Value) (s4 : Value) (s5b : Option Addr) (s5l : Nat) (s5c : Nat) (s6 : Int) (s7 : Int) (s8 : Value) (s9 : Value) (s10 : Value) (s11 : Value) (s12 : Value) (s13 : Value) (s14 : Value) (s15 : Value) (s16 : Value) (s17 : Value) (s18 : Value) (s19 : Value) (s20 : Value) (s21 : Value) (s22 : Value) (s23 : Value) (s24 : Value) (s25 : Bool) (H : AH) (K0 : List Value → AH → Prop) (R : AEnd → AH → Prop) : Prop :=
 wIf s25
 (R (.ret (.bool false)) H)
 (K0 [(.slice s0b s0l s0c), s1, s2, s3, s4, (.slice s5b s5l s5c), (.int .i64 s6), (.int .i64 (IntKind.i64.wrap (s7 + 1))), s8, s9, s10, s11, s12, s13, s14, s15, s16, s17, s18, s19, s20, s21, s22, s23, s24, (.bool false), (.int .i64 (IntKind.i64.wrap (s7 + 1)))] H)
theorem f11_J0_eq (s0b : Option Addr) (s0l : Nat) (s0c : Nat) (s1 : Value) (s2 : Value) (s3 : Value) (s4 : Value) (s5b : Option Addr) (s5l : Nat) (s5c : Nat) (s6 : Int) (s7 : Int) (s8 : Value) (s9 : Value) (s10 : Value) (s11 : Value) (s12 : Value) (s13 : Value) (s14 : Value) (s15 : Value) (s16 : Value) (s17 : Value) (s18 : Value) (s19 : Value) (s20 : Value) (s21 : Value) (s22 : Value) (s23 : Value) (s24 : Value) (s25 : Bool) (s26 : Value) (H : AH) (K0 : List Value → AH → Prop) (R : AEnd → AH → Prop) : f11_J0 K0 R [(.slice s0b s0l s0c), s1, s2, s3, s4, (.slice s5b s5l s5c), (.int .i64 s6), (.int .i64 s7), s8, s9, s10, s11, s12, s13, s14, s15, s16, s17, s18, s19, s20, s21, s22, s23, s24, (.bool s25), s26] H = f11_J0_B s0b s0l s0c s1 s2 s3 s4 s5b s5l s5c s6 s7 s8 s9 s10 s11 s12 s13 s14 s15 s16 s17 s18 s19 s20 s21 s22 s23 s24 s25 H K0 R := by kernel_rfl
def f11_R0 (s0b : Option Addr) (s0l : Nat) (s0c : Nat) (s1 : Value) (s2 : Value) (s3 : Value) (s4 : Value) (s5b : Option Addr) (s5l : Nat) (s5c : Nat) (s6 : Int) (s7 : Int) (s8 : Value) (s9 : Value) (s10 : Value) (s11 : Value) (s12 : Value) (s13 : Value) (s14 : Value) (s15 : Value) (s16 : Value) (s17 : Value) (s18 : Value) (s19 : Value) (s20 : Value) (s21 : Value) (s22 : Value) (s23 : Value) (s24 : Value) (s25 : Value) (s26 : Value) (H : AH) (K0 : List Value → AH → Prop) (R : AEnd → AH → Prop) : Prop :=
 wIf (decide (s7 < s6))
 (wIx s5b s5l 4 s7 fun i1 k2 =>
 ldI .i64 i1 k2 H fun n3 =>
 ldS i1 (k2 + 1) H fun t4 =>
 ldL i1 (k2 + 2) H fun z5b z5l z5c =>
 ldL i1 (k2 + 3) H fun z6b z6l z6c =>
 wNew [(.int .i64 0), (.string ({ data := #[] })), (.slice none 0 0), (.slice none 0 0)] H fun i7 H8 =>
 wSt i7 0 [(.int .i64 n3), (.string t4), (.slice z5b z5l z5c), (.slice z6b z6l z6c)] H8 fun H9 =>
 wIf (decide ((s0l : Int) > 200))
 (f11_J0 K0 R [(.slice s0b s0l s0c), s1, s2, s3, (.pointer (some ⟨i7, 0, none⟩)), (.slice s5b s5l s5c), (.int .i64 s6), (.int .i64 s7), (.bool true), (.pointer (some ⟨i1, k2, none⟩)), (.agg #[(.int .i64 n3), (.string t4), (.slice z5b z5l z5c), (.slice z6b z6l z6c)]), (.slice s0b s0l s0c), (.int .i64 (s0l : Int)), (.bool (decide ((s0l : Int) > 200))), (.bool true), undef, undef, undef, undef, (.bool true), (.bool true), undef, undef, undef, undef, (.bool true), s26] H9)
 (ldL i7 2 H9 fun z10b z10l z10c =>
 wIf (decide ((z10l : Int) > 40))
 (f11_J0 K0 R [(.slice s0b s0l s0c), s1, s2, s3, (.pointer (some ⟨i7, 0, none⟩)), (.slice s5b s5l s5c), (.int .i64 s6), (.int .i64 s7), (.bool true), (.pointer (some ⟨i1, k2, none⟩)), (.agg #[(.int .i64 n3), (.string t4), (.slice z5b z5l z5c), (.slice z6b z6l z6c)]), (.slice s0b s0l s0c), (.int .i64 (s0l : Int)), (.bool (decide ((s0l : Int) > 200))), (.bool false), (.pointer (some ⟨i7, 2, none⟩)), (.slice z10b z10l z10c), (.int .i64 (z10l : Int)), (.bool (decide ((z10l : Int) > 40))), (.bool (decide ((z10l : Int) > 40))), (.bool true), undef, undef, undef, undef, (.bool true), s26] H9)
 (ldL i7 3 H9 fun z11b z11l z11c =>
 f11_J0 K0 R [(.slice s0b s0l s0c), s1, s2, s3, (.pointer (some ⟨i7, 0, none⟩)), (.slice s5b s5l s5c), (.int .i64 s6), (.int .i64 s7), (.bool true), (.pointer (some ⟨i1, k2, none⟩)), (.agg #[(.int .i64 n3), (.string t4), (.slice z5b z5l z5c), (.slice z6b z6l z6c)]), (.slice s0b s0l s0c), (.int .i64 (s0l : Int)), (.bool (decide ((s0l : Int) > 200))), (.bool false), (.pointer (some ⟨i7, 2, none⟩)), (.slice z10b z10l z10c), (.int .i64 (z10l : Int)), (.bool (decide ((z10l : Int) > 40))), (.bool (decide ((z10l : Int) > 40))), (.bool false), (.pointer (some ⟨i7, 3, none⟩)), (.slice z11b z11l z11c), (.int .i64 (z11l : Int)), (.bool (decide ((z11l : Int) > 40))), (.bool (decide ((z11l : Int) > 40))), s26] H9)))
 (R (.ret (.bool true)) H)
theorem f11_R0_eq (s0b : Option Addr) (s0l : Nat) (s0c : Nat) (s1 : Value) (s2 : Value) (s3 : Value) (s4 : Value) (s5b : Option Addr) (s5l : Nat) (s5c : Nat) (s6 : Int) (s7 : Int) (s8 : Value) (s9 : Value) (s10 : Value) (s11 : Value) (s12 : Value) (s13 : Value) (s14 : Value) (s15 : Value) (s16 : Value) (s17 : Value) (s18 : Value) (s19 : Value) (s20 : Value) (s21 : Value) (s22 : Value) (s23 : Value) (s24 : Value) (s25 : Value) (s26 : Value) (H : AH) (K0 : List Value → AH → Prop) (R : AEnd → AH → Prop) : awpF Try.prog (codeAt f11_c [1, 0, 1, 0, 0]) (thenF K0 (f11_Q0 R)) [(.slice s0b s0l s0c), s1, s2, s3, s4, (.slice s5b s5l s5c), (.int .i64 s6), (.int .i64 s7), s8, s9, s10, s11, s12, s13, s14, s15, s16, s17, s18, s19, s20, s21, s22, s23, s24, s25, s26] H = f11_R0 s0b s0l s0c s1 s2 s3 s4 s5b s5l s5c s6 s7 s8 s9 s10 s11 s12 s13 s14 s15 s16 s17 s18 s19 s20 s21 s22 s23 s24 s25 s26 H K0 R := by kernel_rfl
def f11_I0 (s0b : Option Addr) (s0l : Nat) (s0c : Nat) (s1 : Value) (s3 : Value) (s5b : Option Addr) (s5l : Nat) (s5c : Nat) (s6 : Int) (J : Nat → Int → AH → Prop) (n : Nat) (tm : List Value) (H : AH) : Prop := ∃ (s2 : Value) (s4 : Value) (s7 : Int) (s8 : Value) (s9 : Value) (s10 : Value) (s11 : Value) (s12 : Value) (s13 : Value) (s14 : Value) (s15 : Value) (s16 : Value) (s17 : Value) (s18 : Value) (s19 : Value) (s20 : Value) (s21 : Value) (s22 : Value) (s23 : Value) (s24 : Value) (s25 : Value) (s26 : Value), tm = [(.slice s0b s0l s0c), s1, s2, s3, s4, (.slice s5b s5l s5c), (.int .i64 s6), (.int .i64 s7), s8, s9, s10, s11, s12, s13, s14, s15, s16, s17, s18, s19, s20, s21, s22, s23, s24, s25, s26] ∧ J n s7 H
theorem f11_I0_mk {s0b : Option Addr} {s0l : Nat} {s0c : Nat} {s1 : Value} {s2 : Value} {s3 : Value} {s4 : Value} {s5b : Option Addr} {s5l : Nat} {s5c : Nat} {s6 : Int} {s7 : Int} {s8 : Value} {s9 : Value} {s10 : Value} {s11 : Value} {s12 : Value} {s13 : Value} {s14 : Value} {s15 : Value} {s16 : Value} {s17 : Value} {s18 : Value} {s19 : Value} {s20 : Value} {s21 : Value} {s22 : Value} {s23 : Value} {s24 : Value} {s25 : Value} {s26 : Value} {J : Nat → Int → AH → Prop} {n : Nat} {H : AH} (h : J n s7 H) : f11_I0 s0b s0l s0c s1 s3 s5b s5l s5c s6 J n [(.slice s0b s0l s0c), s1, s2, s3, s4, (.slice s5b s5l s5c), (.int .i64 s6), (.int .i64 s7), s8, s9, s10, s11, s12, s13, s14, s15, s16, s17, s18, s19, s20, s21, s22, s23, s24, s25, s26] H := ⟨_, _, _, _, _, _, _, _, _, _, _, _, _, _, _, _, _, _, _, _, _, _, rfl, h⟩
-- loop 0: carried 7:
theorem f11_L0_rule {s0b : Option Addr} {s0l : Nat} {s0c : Nat} {s1 : Value} {s2 : Value} {s3 : Value} {s4 : Value} {s5b : Option Addr} {s5l : Nat} {s5c : Nat} {s6 : Int} {s7 : Int} {s8 : Value} {s9 : Value} {s10 : Value} {s11 : Value} {s12 : Value} {s13 : Value} {s14 : Value} {s15 : Value} {s16 : Value} {s17 : Value} {s18 : Value} {s19 : Value} {s20 : Value} {s21 : Value} {s22 : Value} {s23 : Value} {s24 : Value} {s25 : Value} {s26 : Value} {H : AH} {R : AEnd → AH → Prop} (J : Nat → Int → AH → Prop) (n : Nat) (h0 : J n s7 H)
  (step : ∀ (n : Nat) (s7 : Int) (H : AH), J n s7 H → ∀ (s2 : Value) (s4 : Value) (s8 : Value) (s9 : Value) (s10 : Value) (s11 : Value) (s12 : Value) (s13 : Value) (s14 : Value) (s15 : Value) (s16 : Value) (s17 : Value) (s18 : Value) (s19 : Value) (s20 : Value) (s21 : Value) (s22 : Value) (s23 : Value) (s24 : Value) (s25 : Value) (s26 : Value), f11_R0 s0b s0l s0c s1 s2 s3 s4 s5b s5l s5c s6 s7 s8 s9 s10 s11 s12 s13 s14 s15 s16 s17 s18 s19 s20 s21 s22 s23 s24 s25 s26 H (fun tm H => ∃ m, m < n ∧ f11_I0 s0b s0l s0c s1 s3 s5b s5l s5c s6 J m tm H) R) : f11_L0 R [(.slice s0b s0l s0c), s1, s2, s3, s4, (.slice s5b s5l s5c), (.int .i64 s6), (.int .i64 s7), s8, s9, s10, s11, s12, s13, s14, s15, s16, s17, s18, s19, s20, s21, s22, s23, s24, s25, s26] H :=
  awpF_loop (f11_I0 s0b s0l s0c s1 s3 s5b s5l s5c s6 J) n (f11_I0_mk h0) (by
    intro n tm H hh
    exact Exists.elim hh fun s2 hh => Exists.elim hh fun s4 hh => Exists.elim hh fun s7 hh => Exists.elim hh fun s8 hh => Exists.elim hh fun s9 hh => Exists.elim hh fun s10 hh => Exists.elim hh fun s11 hh => Exists.elim hh fun s12 hh => Exists.elim hh fun s13 hh => Exists.elim hh fun s14 hh => Exists.elim hh fun s15 hh => Exists.elim hh fun s16 hh => Exists.elim hh fun s17 hh => Exists.elim hh fun s18 hh => Exists.elim hh fun s19 hh => Exists.elim hh fun s20 hh => Exists.elim hh fun s21 hh => Exists.elim hh fun s22 hh => Exists.elim hh fun s23 hh => Exists.elim hh fun s24 hh => Exists.elim hh fun s25 hh => Exists.elim hh fun s26 hh => And.elim (fun e h =>
     (by subst e; exact Eq.mpr (f11_R0_eq s0b s0l s0c s1 s2 s3 s4 s5b s5l s5c s6 s7 s8 s9 s10 s11 s12 s13 s14 s15 s16 s17 s18 s19 s20 s21 s22 s23 s24 s25 s26 H _ R) (step n s7 H h s2 s4 s8 s9 s10 s11 s12 s13 s14 s15 s16 s17 s18 s19 s20 s21 s22 s23 s24 s25 s26))) hh)
def f11_B (x0b : Option Addr) (x0l : Nat) (x0c : Nat) (H : AH) (R : AEnd → AH → Prop) : Prop :=
 f11_L0 R [(.slice x0b x0l x0c), undef, (.bool false), undef, undef, (.slice x0b x0l x0c), (.int .i64 (x0l : Int)), (.int .i64 0), undef, undef, undef, undef, undef, undef, undef, undef, undef, undef, undef, undef, undef, undef, undef, undef, undef, undef, undef] H
theorem f11_eq (x0b : Option Addr) (x0l : Nat) (x0c : Nat) (H : AH) (R : AEnd → AH → Prop) : awpF Try.prog f11_c (aPost Try.prog Try.f11 R) (([(.slice x0b x0l x0c)] : List Value) ++ List.replicate (Try.f11.ntmps - (([(.slice x0b x0l x0c)] : List Value)).length) undef) H = f11_B x0b x0l x0c H R := by kernel_rfl
theorem f11_call (x0b : Option Addr) (x0l : Nat) (x0c : Nat) (H : AH) (R : AEnd → AH → Prop) (h : f11_B x0b x0l x0c H R) : ACall Try.prog 11 ([(.slice x0b x0l x0c)] : List Value) H R :=
  acall_of mixed Try.func11 (by kernel_rfl : Try.f11.body = some f11_c) (by kernel_rfl) (by kernel_rfl) (awp_of (Eq.mpr (f11_eq x0b x0l x0c H R) h))

/-! f12: switchyard/code.PutValue -/
noncomputable def f12_c : Code := Try.f12.body.getD .skip
def f12_B (x0_0 : Int) (x0_1 : Int) (x0_2 : ByteArray) (x0_3b : Option Addr) (x0_3l : Nat) (x0_3c : Nat) (H : AH) (R : AEnd → AH → Prop) : Prop :=
 wNew [(.int .i64 x0_0), (.int .i64 x0_1), (.string x0_2), (.slice x0_3b x0_3l x0_3c)] H fun i1 H2 =>
 ldI .i64 i1 0 H2 fun n3 =>
 ldI .i64 i1 1 H2 fun n4 =>
 ldS i1 2 H2 fun t5 =>
 ldL i1 3 H2 fun z6b z6l z6c =>
 wCall Try.prog 49 [(.agg #[(.int .i64 n3), (.int .i64 n4), (.string t5), (.slice z6b z6l z6c)]), (.func (.func 50) #[] #[])] H2 (fun r7 H8 =>
 opT 2 r7 fun l11 =>
 opS (l11.headD undef) fun t12 =>
 opI .i64 (l11.tail.headD undef) fun n13 =>
 R (.ret (.tuple #[(.string t12), (.int .i64 n13)])) H8) (fun v10 H9 => R (.panic v10) H9)
theorem f12_eq (x0_0 : Int) (x0_1 : Int) (x0_2 : ByteArray) (x0_3b : Option Addr) (x0_3l : Nat) (x0_3c : Nat) (H : AH) (R : AEnd → AH → Prop) : awpF Try.prog f12_c (aPost Try.prog Try.f12 R) (([(.agg #[(.int .i64 x0_0), (.int .i64 x0_1), (.string x0_2), (.slice x0_3b x0_3l x0_3c)])] : List Value) ++ List.replicate (Try.f12.ntmps - (([(.agg #[(.int .i64 x0_0), (.int .i64 x0_1), (.string x0_2), (.slice x0_3b x0_3l x0_3c)])] : List Value)).length) undef) H = f12_B x0_0 x0_1 x0_2 x0_3b x0_3l x0_3c H R := by kernel_rfl
theorem f12_call (x0_0 : Int) (x0_1 : Int) (x0_2 : ByteArray) (x0_3b : Option Addr) (x0_3l : Nat) (x0_3c : Nat) (H : AH) (R : AEnd → AH → Prop) (h : f12_B x0_0 x0_1 x0_2 x0_3b x0_3l x0_3c H R) : ACall Try.prog 12 ([(.agg #[(.int .i64 x0_0), (.int .i64 x0_1), (.string x0_2), (.slice x0_3b x0_3l x0_3c)])] : List Value) H R :=
  acall_of mixed Try.func12 (by kernel_rfl : Try.f12.body = some f12_c) (by kernel_rfl) (by kernel_rfl) (awp_of (Eq.mpr (f12_eq x0_0 x0_1 x0_2 x0_3b x0_3l x0_3c H R) h))

/-! f13: switchyard/code.PutMail -/
noncomputable def f13_c : Code := Try.f13.body.getD .skip
def f13_B (x0_0 : Int) (x0_1 : ByteArray) (x0_2b : Option Addr) (x0_2l : Nat) (x0_2c : Nat) (x0_3b : Option Addr) (x0_3l : Nat) (x0_3c : Nat) (H : AH) (R : AEnd → AH → Prop) : Prop :=
 wNew [(.int .i64 x0_0), (.string x0_1), (.slice x0_2b x0_2l x0_2c), (.slice x0_3b x0_3l x0_3c)] H fun i1 H2 =>
 ldI .i64 i1 0 H2 fun n3 =>
 ldS i1 1 H2 fun t4 =>
 ldL i1 2 H2 fun z5b z5l z5c =>
 ldL i1 3 H2 fun z6b z6l z6c =>
 wCall Try.prog 51 [(.agg #[(.int .i64 n3), (.string t4), (.slice z5b z5l z5c), (.slice z6b z6l z6c)]), (.func (.func 52) #[] #[])] H2 (fun r7 H8 =>
 opT 2 r7 fun l11 =>
 opS (l11.headD undef) fun t12 =>
 opI .i64 (l11.tail.headD undef) fun n13 =>
 R (.ret (.tuple #[(.string t12), (.int .i64 n13)])) H8) (fun v10 H9 => R (.panic v10) H9)
theorem f13_eq (x0_0 : Int) (x0_1 : ByteArray) (x0_2b : Option Addr) (x0_2l : Nat) (x0_2c : Nat) (x0_3b : Option Addr) (x0_3l : Nat) (x0_3c : Nat) (H : AH) (R : AEnd → AH → Prop) : awpF Try.prog f13_c (aPost Try.prog Try.f13 R) (([(.agg #[(.int .i64 x0_0), (.string x0_1), (.slice x0_2b x0_2l x0_2c), (.slice x0_3b x0_3l x0_3c)])] : List Value) ++ List.replicate (Try.f13.ntmps - (([(.agg #[(.int .i64 x0_0), (.string x0_1), (.slice x0_2b x0_2l x0_2c), (.slice x0_3b x0_3l x0_3c)])] : List Value)).length) undef) H = f13_B x0_0 x0_1 x0_2b x0_2l x0_2c x0_3b x0_3l x0_3c H R := by kernel_rfl
theorem f13_call (x0_0 : Int) (x0_1 : ByteArray) (x0_2b : Option Addr) (x0_2l : Nat) (x0_2c : Nat) (x0_3b : Option Addr) (x0_3l : Nat) (x0_3c : Nat) (H : AH) (R : AEnd → AH → Prop) (h : f13_B x0_0 x0_1 x0_2b x0_2l x0_2c x0_3b x0_3l x0_3c H R) : ACall Try.prog 13 ([(.agg #[(.int .i64 x0_0), (.string x0_1), (.slice x0_2b x0_2l x0_2c), (.slice x0_3b x0_3l x0_3c)])] : List Value) H R :=
  acall_of mixed Try.func13 (by kernel_rfl : Try.f13.body = some f13_c) (by kernel_rfl) (by kernel_rfl) (awp_of (Eq.mpr (f13_eq x0_0 x0_1 x0_2b x0_2l x0_2c x0_3b x0_3l x0_3c H R) h))

/-! f17: switchyard/code.GetValue -/
noncomputable def f17_c : Code := Try.f17.body.getD .skip
def f17_B (x0 : ByteArray) (H : AH) (R : AEnd → AH → Prop) : Prop :=
 wNew [(.int .i64 0), (.int .i64 0), (.string ({ data := #[] })), (.slice none 0 0)] H fun i1 H2 =>
 wCall Try.prog 54 [(.string x0), (.func (.func 55) #[] #[])] H2 (fun r3 H4 =>
 opT 2 r3 fun l7 =>
 opA 4 (l7.headD undef) fun l8 =>
 opI .i64 (l8.headD undef) fun n9 =>
 opI .i64 (l8.tail.headD undef) fun n10 =>
 opS (l8.tail.tail.headD undef) fun t11 =>
 opL (l8.tail.tail.tail.headD undef) fun z12b z12l z12c =>
 opI .i64 (l7.tail.headD undef) fun n13 =>
 wSt i1 0 [(.int .i64 n9), (.int .i64 n10), (.string t11), (.slice z12b z12l z12c)] H4 fun H14 =>
 wPt (some ⟨i1, 0, none⟩) fun i15 k16 =>
 ldI .i64 i15 k16 H14 fun n17 =>
 ldI .i64 i15 (k16 + 1) H14 fun n18 =>
 ldS i15 (k16 + 2) H14 fun t19 =>
 ldL i15 (k16 + 3) H14 fun z20b z20l z20c =>
 R (.ret (.tuple #[(.agg #[(.int .i64 n17), (.int .i64 n18), (.string t19), (.slice z20b z20l z20c)]), (.int .i64 n13)])) H14) (fun v6 H5 => R (.panic v6) H5)
theorem f17_eq (x0 : ByteArray) (H : AH) (R : AEnd → AH → Prop) : awpF Try.prog f17_c (aPost Try.prog Try.f17 R) (([(.string x0)] : List Value) ++ List.replicate (Try.f17.ntmps - (([(.string x0)] : List Value)).length) undef) H = f17_B x0 H R := by kernel_rfl
theorem f17_call (x0 : ByteArray) (H : AH) (R : AEnd → AH → Prop) (h : f17_B x0 H R) : ACall Try.prog 17 ([(.string x0)] : List Value) H R :=
  acall_of mixed Try.func17 (by kernel_rfl : Try.f17.body = some f17_c) (by kernel_rfl) (by kernel_rfl) (awp_of (Eq.mpr (f17_eq x0 H R) h))

/-! f24: switchyard/code.PutItem -/
noncomputable def f24_c : Code := Try.f24.body.getD .skip
def f24_B (x0_0 : Int) (x0_1 : ByteArray) (x0_2 : ByteArray) (x0_3 : Int) (x0_4b : Option Addr) (x0_4l : Nat) (x0_4c : Nat) (x0_5b : Option Addr) (x0_5l : Nat) (x0_5c : Nat) (x0_6b : Option Addr) (x0_6l : Nat) (x0_6c : Nat) (H : AH) (R : AEnd → AH → Prop) : Prop :=
 wNew [(.int .i64 x0_0), (.string x0_1), (.string x0_2), (.int .i64 x0_3), (.slice x0_4b x0_4l x0_4c), (.slice x0_5b x0_5l x0_5c), (.slice x0_6b x0_6l x0_6c)] H fun i1 H2 =>
 ldI .i64 i1 0 H2 fun n3 =>
 ldS i1 1 H2 fun t4 =>
 ldS i1 2 H2 fun t5 =>
 ldI .i64 i1 3 H2 fun n6 =>
 ldL i1 4 H2 fun z7b z7l z7c =>
 ldL i1 5 H2 fun z8b z8l z8c =>
 ldL i1 6 H2 fun z9b z9l z9c =>
 wCall Try.prog 66 [(.agg #[(.int .i64 n3), (.string t4), (.string t5), (.int .i64 n6), (.slice z7b z7l z7c), (.slice z8b z8l z8c), (.slice z9b z9l z9c)]), (.func (.func 67) #[] #[])] H2 (fun r10 H11 =>
 opT 2 r10 fun l14 =>
 opS (l14.headD undef) fun t15 =>
 opI .i64 (l14.tail.headD undef) fun n16 =>
 R (.ret (.tuple #[(.string t15), (.int .i64 n16)])) H11) (fun v13 H12 => R (.panic v13) H12)
theorem f24_eq (x0_0 : Int) (x0_1 : ByteArray) (x0_2 : ByteArray) (x0_3 : Int) (x0_4b : Option Addr) (x0_4l : Nat) (x0_4c : Nat) (x0_5b : Option Addr) (x0_5l : Nat) (x0_5c : Nat) (x0_6b : Option Addr) (x0_6l : Nat) (x0_6c : Nat) (H : AH) (R : AEnd → AH → Prop) : awpF Try.prog f24_c (aPost Try.prog Try.f24 R) (([(.agg #[(.int .i64 x0_0), (.string x0_1), (.string x0_2), (.int .i64 x0_3), (.slice x0_4b x0_4l x0_4c), (.slice x0_5b x0_5l x0_5c), (.slice x0_6b x0_6l x0_6c)])] : List Value) ++ List.replicate (Try.f24.ntmps - (([(.agg #[(.int .i64 x0_0), (.string x0_1), (.string x0_2), (.int .i64 x0_3), (.slice x0_4b x0_4l x0_4c), (.slice x0_5b x0_5l x0_5c), (.slice x0_6b x0_6l x0_6c)])] : List Value)).length) undef) H = f24_B x0_0 x0_1 x0_2 x0_3 x0_4b x0_4l x0_4c x0_5b x0_5l x0_5c x0_6b x0_6l x0_6c H R := by kernel_rfl
theorem f24_call (x0_0 : Int) (x0_1 : ByteArray) (x0_2 : ByteArray) (x0_3 : Int) (x0_4b : Option Addr) (x0_4l : Nat) (x0_4c : Nat) (x0_5b : Option Addr) (x0_5l : Nat) (x0_5c : Nat) (x0_6b : Option Addr) (x0_6l : Nat) (x0_6c : Nat) (H : AH) (R : AEnd → AH → Prop) (h : f24_B x0_0 x0_1 x0_2 x0_3 x0_4b x0_4l x0_4c x0_5b x0_5l x0_5c x0_6b x0_6l x0_6c H R) : ACall Try.prog 24 ([(.agg #[(.int .i64 x0_0), (.string x0_1), (.string x0_2), (.int .i64 x0_3), (.slice x0_4b x0_4l x0_4c), (.slice x0_5b x0_5l x0_5c), (.slice x0_6b x0_6l x0_6c)])] : List Value) H R :=
  acall_of mixed Try.func24 (by kernel_rfl : Try.f24.body = some f24_c) (by kernel_rfl) (by kernel_rfl) (awp_of (Eq.mpr (f24_eq x0_0 x0_1 x0_2 x0_3 x0_4b x0_4l x0_4c x0_5b x0_5l x0_5c x0_6b x0_6l x0_6c H R) h))

/-! f25: switchyard/switchyardlaw13.put -/
noncomputable def f25_c : Code := Try.f25.body.getD .skip
def f25_B (x0 : ByteArray) (x1 : Int) (x2 : ByteArray) (x3 : Bool) (H : AH) (R : AEnd → AH → Prop) : Prop :=
 wIf ((decide (x1 = 0)) == x3)
 (wIf x3
 (wIf (decide (x0 = x2))
 (R (.ret (.bool true)) H)
 (wIf (!x3)
 (wIf (decide (x0 = ({ data := #[] })))
 (R (.ret (.bool (decide (x1 = 4)))) H)
 (R (.ret (.bool false)) H))
 (R (.ret (.bool false)) H)))
 (wIf (!x3)
 (wIf (decide (x0 = ({ data := #[] })))
 (R (.ret (.bool (decide (x1 = 4)))) H)
 (R (.ret (.bool false)) H))
 (R (.ret (.bool false)) H)))
 (R (.ret (.bool false)) H)
theorem f25_eq (x0 : ByteArray) (x1 : Int) (x2 : ByteArray) (x3 : Bool) (H : AH) (R : AEnd → AH → Prop) : awpF Try.prog f25_c (aPost Try.prog Try.f25 R) (([(.string x0), (.int .i64 x1), (.string x2), (.bool x3)] : List Value) ++ List.replicate (Try.f25.ntmps - (([(.string x0), (.int .i64 x1), (.string x2), (.bool x3)] : List Value)).length) undef) H = f25_B x0 x1 x2 x3 H R := by kernel_rfl
theorem f25_call (x0 : ByteArray) (x1 : Int) (x2 : ByteArray) (x3 : Bool) (H : AH) (R : AEnd → AH → Prop) (h : f25_B x0 x1 x2 x3 H R) : ACall Try.prog 25 ([(.string x0), (.int .i64 x1), (.string x2), (.bool x3)] : List Value) H R :=
  acall_of mixed Try.func25 (by kernel_rfl : Try.f25.body = some f25_c) (by kernel_rfl) (by kernel_rfl) (awp_of (Eq.mpr (f25_eq x0 x1 x2 x3 H R) h))

/-! f32: switchyard/code.PutDead -/
noncomputable def f32_c : Code := Try.f32.body.getD .skip
def f32_B (x0_0 : Int) (x0_1 : Int) (x0_2 : ByteArray) (x0_3b : Option Addr) (x0_3l : Nat) (x0_3c : Nat) (x0_4b : Option Addr) (x0_4l : Nat) (x0_4c : Nat) (x0_5 : Int) (H : AH) (R : AEnd → AH → Prop) : Prop :=
 wNew [(.int .i64 x0_0), (.int .i64 x0_1), (.string x0_2), (.slice x0_3b x0_3l x0_3c), (.slice x0_4b x0_4l x0_4c), (.int .i64 x0_5)] H fun i1 H2 =>
 ldI .i64 i1 0 H2 fun n3 =>
 ldI .i64 i1 1 H2 fun n4 =>
 ldS i1 2 H2 fun t5 =>
 ldL i1 3 H2 fun z6b z6l z6c =>
 ldL i1 4 H2 fun z7b z7l z7c =>
 ldI .i64 i1 5 H2 fun n8 =>
 wCall Try.prog 74 [(.agg #[(.int .i64 n3), (.int .i64 n4), (.string t5), (.slice z6b z6l z6c), (.slice z7b z7l z7c), (.int .i64 n8)]), (.func (.func 75) #[] #[])] H2 (fun r9 H10 =>
 opT 2 r9 fun l13 =>
 opS (l13.headD undef) fun t14 =>
 opI .i64 (l13.tail.headD undef) fun n15 =>
 R (.ret (.tuple #[(.string t14), (.int .i64 n15)])) H10) (fun v12 H11 => R (.panic v12) H11)
theorem f32_eq (x0_0 : Int) (x0_1 : Int) (x0_2 : ByteArray) (x0_3b : Option Addr) (x0_3l : Nat) (x0_3c : Nat) (x0_4b : Option Addr) (x0_4l : Nat) (x0_4c : Nat) (x0_5 : Int) (H : AH) (R : AEnd → AH → Prop) : awpF Try.prog f32_c (aPost Try.prog Try.f32 R) (([(.agg #[(.int .i64 x0_0), (.int .i64 x0_1), (.string x0_2), (.slice x0_3b x0_3l x0_3c), (.slice x0_4b x0_4l x0_4c), (.int .i64 x0_5)])] : List Value) ++ List.replicate (Try.f32.ntmps - (([(.agg #[(.int .i64 x0_0), (.int .i64 x0_1), (.string x0_2), (.slice x0_3b x0_3l x0_3c), (.slice x0_4b x0_4l x0_4c), (.int .i64 x0_5)])] : List Value)).length) undef) H = f32_B x0_0 x0_1 x0_2 x0_3b x0_3l x0_3c x0_4b x0_4l x0_4c x0_5 H R := by kernel_rfl
theorem f32_call (x0_0 : Int) (x0_1 : Int) (x0_2 : ByteArray) (x0_3b : Option Addr) (x0_3l : Nat) (x0_3c : Nat) (x0_4b : Option Addr) (x0_4l : Nat) (x0_4c : Nat) (x0_5 : Int) (H : AH) (R : AEnd → AH → Prop) (h : f32_B x0_0 x0_1 x0_2 x0_3b x0_3l x0_3c x0_4b x0_4l x0_4c x0_5 H R) : ACall Try.prog 32 ([(.agg #[(.int .i64 x0_0), (.int .i64 x0_1), (.string x0_2), (.slice x0_3b x0_3l x0_3c), (.slice x0_4b x0_4l x0_4c), (.int .i64 x0_5)])] : List Value) H R :=
  acall_of mixed Try.func32 (by kernel_rfl : Try.f32.body = some f32_c) (by kernel_rfl) (by kernel_rfl) (awp_of (Eq.mpr (f32_eq x0_0 x0_1 x0_2 x0_3b x0_3l x0_3c x0_4b x0_4l x0_4c x0_5 H R) h))

/-! f33: switchyard/code.PutEvent -/
noncomputable def f33_c : Code := Try.f33.body.getD .skip
def f33_B (x0_0 : Int) (x0_1 : Int) (x0_2 : ByteArray) (x0_3 : Int) (x0_4 : ByteArray) (x0_5 : ByteArray) (x0_6b : Option Addr) (x0_6l : Nat) (x0_6c : Nat) (H : AH) (R : AEnd → AH → Prop) : Prop :=
 wNew [(.int .i64 x0_0), (.int .i64 x0_1), (.string x0_2), (.int .i64 x0_3), (.string x0_4), (.string x0_5), (.slice x0_6b x0_6l x0_6c)] H fun i1 H2 =>
 ldI .i64 i1 0 H2 fun n3 =>
 ldI .i64 i1 1 H2 fun n4 =>
 ldS i1 2 H2 fun t5 =>
 ldI .i64 i1 3 H2 fun n6 =>
 ldS i1 4 H2 fun t7 =>
 ldS i1 5 H2 fun t8 =>
 ldL i1 6 H2 fun z9b z9l z9c =>
 wCall Try.prog 76 [(.agg #[(.int .i64 n3), (.int .i64 n4), (.string t5), (.int .i64 n6), (.string t7), (.string t8), (.slice z9b z9l z9c)]), (.func (.func 77) #[] #[])] H2 (fun r10 H11 =>
 opT 2 r10 fun l14 =>
 opS (l14.headD undef) fun t15 =>
 opI .i64 (l14.tail.headD undef) fun n16 =>
 R (.ret (.tuple #[(.string t15), (.int .i64 n16)])) H11) (fun v13 H12 => R (.panic v13) H12)
theorem f33_eq (x0_0 : Int) (x0_1 : Int) (x0_2 : ByteArray) (x0_3 : Int) (x0_4 : ByteArray) (x0_5 : ByteArray) (x0_6b : Option Addr) (x0_6l : Nat) (x0_6c : Nat) (H : AH) (R : AEnd → AH → Prop) : awpF Try.prog f33_c (aPost Try.prog Try.f33 R) (([(.agg #[(.int .i64 x0_0), (.int .i64 x0_1), (.string x0_2), (.int .i64 x0_3), (.string x0_4), (.string x0_5), (.slice x0_6b x0_6l x0_6c)])] : List Value) ++ List.replicate (Try.f33.ntmps - (([(.agg #[(.int .i64 x0_0), (.int .i64 x0_1), (.string x0_2), (.int .i64 x0_3), (.string x0_4), (.string x0_5), (.slice x0_6b x0_6l x0_6c)])] : List Value)).length) undef) H = f33_B x0_0 x0_1 x0_2 x0_3 x0_4 x0_5 x0_6b x0_6l x0_6c H R := by kernel_rfl
theorem f33_call (x0_0 : Int) (x0_1 : Int) (x0_2 : ByteArray) (x0_3 : Int) (x0_4 : ByteArray) (x0_5 : ByteArray) (x0_6b : Option Addr) (x0_6l : Nat) (x0_6c : Nat) (H : AH) (R : AEnd → AH → Prop) (h : f33_B x0_0 x0_1 x0_2 x0_3 x0_4 x0_5 x0_6b x0_6l x0_6c H R) : ACall Try.prog 33 ([(.agg #[(.int .i64 x0_0), (.int .i64 x0_1), (.string x0_2), (.int .i64 x0_3), (.string x0_4), (.string x0_5), (.slice x0_6b x0_6l x0_6c)])] : List Value) H R :=
  acall_of mixed Try.func33 (by kernel_rfl : Try.f33.body = some f33_c) (by kernel_rfl) (by kernel_rfl) (awp_of (Eq.mpr (f33_eq x0_0 x0_1 x0_2 x0_3 x0_4 x0_5 x0_6b x0_6l x0_6c H R) h))

/-! f34: switchyard/code.PutSub -/
noncomputable def f34_c : Code := Try.f34.body.getD .skip
def f34_B (x0_0 : Int) (x0_1 : ByteArray) (x0_2 : Int) (H : AH) (R : AEnd → AH → Prop) : Prop :=
 wNew [(.int .i64 x0_0), (.string x0_1), (.int .i64 x0_2)] H fun i1 H2 =>
 ldI .i64 i1 0 H2 fun n3 =>
 ldS i1 1 H2 fun t4 =>
 ldI .i64 i1 2 H2 fun n5 =>
 wCall Try.prog 78 [(.agg #[(.int .i64 n3), (.string t4), (.int .i64 n5)]), (.func (.func 79) #[] #[])] H2 (fun r6 H7 =>
 opT 2 r6 fun l10 =>
 opS (l10.headD undef) fun t11 =>
 opI .i64 (l10.tail.headD undef) fun n12 =>
 R (.ret (.tuple #[(.string t11), (.int .i64 n12)])) H7) (fun v9 H8 => R (.panic v9) H8)
theorem f34_eq (x0_0 : Int) (x0_1 : ByteArray) (x0_2 : Int) (H : AH) (R : AEnd → AH → Prop) : awpF Try.prog f34_c (aPost Try.prog Try.f34 R) (([(.agg #[(.int .i64 x0_0), (.string x0_1), (.int .i64 x0_2)])] : List Value) ++ List.replicate (Try.f34.ntmps - (([(.agg #[(.int .i64 x0_0), (.string x0_1), (.int .i64 x0_2)])] : List Value)).length) undef) H = f34_B x0_0 x0_1 x0_2 H R := by kernel_rfl
theorem f34_call (x0_0 : Int) (x0_1 : ByteArray) (x0_2 : Int) (H : AH) (R : AEnd → AH → Prop) (h : f34_B x0_0 x0_1 x0_2 H R) : ACall Try.prog 34 ([(.agg #[(.int .i64 x0_0), (.string x0_1), (.int .i64 x0_2)])] : List Value) H R :=
  acall_of mixed Try.func34 (by kernel_rfl : Try.f34.body = some f34_c) (by kernel_rfl) (by kernel_rfl) (awp_of (Eq.mpr (f34_eq x0_0 x0_1 x0_2 H R) h))

/-! f19: switchyard/code.GetMail -/
noncomputable def f19_c : Code := Try.f19.body.getD .skip
def f19_B (x0 : ByteArray) (H : AH) (R : AEnd → AH → Prop) : Prop :=
 wNew [(.int .i64 0), (.string ({ data := #[] })), (.slice none 0 0), (.slice none 0 0)] H fun i1 H2 =>
 wCall Try.prog 58 [(.string x0), (.func (.func 59) #[] #[])] H2 (fun r3 H4 =>
 opT 2 r3 fun l7 =>
 opA 4 (l7.headD undef) fun l8 =>
 opI .i64 (l8.headD undef) fun n9 =>
 opS (l8.tail.headD undef) fun t10 =>
 opL (l8.tail.tail.headD undef) fun z11b z11l z11c =>
 opL (l8.tail.tail.tail.headD undef) fun z12b z12l z12c =>
 opI .i64 (l7.tail.headD undef) fun n13 =>
 wSt i1 0 [(.int .i64 n9), (.string t10), (.slice z11b z11l z11c), (.slice z12b z12l z12c)] H4 fun H14 =>
 wPt (some ⟨i1, 0, none⟩) fun i15 k16 =>
 ldI .i64 i15 k16 H14 fun n17 =>
 ldS i15 (k16 + 1) H14 fun t18 =>
 ldL i15 (k16 + 2) H14 fun z19b z19l z19c =>
 ldL i15 (k16 + 3) H14 fun z20b z20l z20c =>
 R (.ret (.tuple #[(.agg #[(.int .i64 n17), (.string t18), (.slice z19b z19l z19c), (.slice z20b z20l z20c)]), (.int .i64 n13)])) H14) (fun v6 H5 => R (.panic v6) H5)
theorem f19_eq (x0 : ByteArray) (H : AH) (R : AEnd → AH → Prop) : awpF Try.prog f19_c (aPost Try.prog Try.f19 R) (([(.string x0)] : List Value) ++ List.replicate (Try.f19.ntmps - (([(.string x0)] : List Value)).length) undef) H = f19_B x0 H R := by kernel_rfl
theorem f19_call (x0 : ByteArray) (H : AH) (R : AEnd → AH → Prop) (h : f19_B x0 H R) : ACall Try.prog 19 ([(.string x0)] : List Value) H R :=
  acall_of mixed Try.func19 (by kernel_rfl : Try.f19.body = some f19_c) (by kernel_rfl) (by kernel_rfl) (awp_of (Eq.mpr (f19_eq x0 H R) h))

/-! f21: switchyard/code.GetItem -/
noncomputable def f21_c : Code := Try.f21.body.getD .skip
def f21_B (x0 : ByteArray) (H : AH) (R : AEnd → AH → Prop) : Prop :=
 wNew [(.int .i64 0), (.string ({ data := #[] })), (.string ({ data := #[] })), (.int .i64 0), (.slice none 0 0), (.slice none 0 0), (.slice none 0 0)] H fun i1 H2 =>
 wCall Try.prog 61 [(.string x0), (.func (.func 62) #[] #[])] H2 (fun r3 H4 =>
 opT 2 r3 fun l7 =>
 opA 7 (l7.headD undef) fun l8 =>
 opI .i64 (l8.headD undef) fun n9 =>
 opS (l8.tail.headD undef) fun t10 =>
 opS (l8.tail.tail.headD undef) fun t11 =>
 opI .i64 (l8.tail.tail.tail.headD undef) fun n12 =>
 opL (l8.tail.tail.tail.tail.headD undef) fun z13b z13l z13c =>
 opL (l8.tail.tail.tail.tail.tail.headD undef) fun z14b z14l z14c =>
 opL (l8.tail.tail.tail.tail.tail.tail.headD undef) fun z15b z15l z15c =>
 opI .i64 (l7.tail.headD undef) fun n16 =>
 wSt i1 0 [(.int .i64 n9), (.string t10), (.string t11), (.int .i64 n12), (.slice z13b z13l z13c), (.slice z14b z14l z14c), (.slice z15b z15l z15c)] H4 fun H17 =>
 wPt (some ⟨i1, 0, none⟩) fun i18 k19 =>
 ldI .i64 i18 k19 H17 fun n20 =>
 ldS i18 (k19 + 1) H17 fun t21 =>
 ldS i18 (k19 + 2) H17 fun t22 =>
 ldI .i64 i18 (k19 + 3) H17 fun n23 =>
 ldL i18 (k19 + 4) H17 fun z24b z24l z24c =>
 ldL i18 (k19 + 5) H17 fun z25b z25l z25c =>
 ldL i18 (k19 + 6) H17 fun z26b z26l z26c =>
 R (.ret (.tuple #[(.agg #[(.int .i64 n20), (.string t21), (.string t22), (.int .i64 n23), (.slice z24b z24l z24c), (.slice z25b z25l z25c), (.slice z26b z26l z26c)]), (.int .i64 n16)])) H17) (fun v6 H5 => R (.panic v6) H5)
theorem f21_eq (x0 : ByteArray) (H : AH) (R : AEnd → AH → Prop) : awpF Try.prog f21_c (aPost Try.prog Try.f21 R) (([(.string x0)] : List Value) ++ List.replicate (Try.f21.ntmps - (([(.string x0)] : List Value)).length) undef) H = f21_B x0 H R := by kernel_rfl
theorem f21_call (x0 : ByteArray) (H : AH) (R : AEnd → AH → Prop) (h : f21_B x0 H R) : ACall Try.prog 21 ([(.string x0)] : List Value) H R :=
  acall_of mixed Try.func21 (by kernel_rfl : Try.f21.body = some f21_c) (by kernel_rfl) (by kernel_rfl) (awp_of (Eq.mpr (f21_eq x0 H R) h))

/-! f41: switchyard/code.GetDead -/
noncomputable def f41_c : Code := Try.f41.body.getD .skip
def f41_B (x0 : ByteArray) (H : AH) (R : AEnd → AH → Prop) : Prop :=
 wNew [(.int .i64 0), (.int .i64 0), (.string ({ data := #[] })), (.slice none 0 0), (.slice none 0 0), (.int .i64 0)] H fun i1 H2 =>
 wCall Try.prog 80 [(.string x0), (.func (.func 81) #[] #[])] H2 (fun r3 H4 =>
 opT 2 r3 fun l7 =>
 opA 6 (l7.headD undef) fun l8 =>
 opI .i64 (l8.headD undef) fun n9 =>
 opI .i64 (l8.tail.headD undef) fun n10 =>
 opS (l8.tail.tail.headD undef) fun t11 =>
 opL (l8.tail.tail.tail.headD undef) fun z12b z12l z12c =>
 opL (l8.tail.tail.tail.tail.headD undef) fun z13b z13l z13c =>
 opI .i64 (l8.tail.tail.tail.tail.tail.headD undef) fun n14 =>
 opI .i64 (l7.tail.headD undef) fun n15 =>
 wSt i1 0 [(.int .i64 n9), (.int .i64 n10), (.string t11), (.slice z12b z12l z12c), (.slice z13b z13l z13c), (.int .i64 n14)] H4 fun H16 =>
 wPt (some ⟨i1, 0, none⟩) fun i17 k18 =>
 ldI .i64 i17 k18 H16 fun n19 =>
 ldI .i64 i17 (k18 + 1) H16 fun n20 =>
 ldS i17 (k18 + 2) H16 fun t21 =>
 ldL i17 (k18 + 3) H16 fun z22b z22l z22c =>
 ldL i17 (k18 + 4) H16 fun z23b z23l z23c =>
 ldI .i64 i17 (k18 + 5) H16 fun n24 =>
 R (.ret (.tuple #[(.agg #[(.int .i64 n19), (.int .i64 n20), (.string t21), (.slice z22b z22l z22c), (.slice z23b z23l z23c), (.int .i64 n24)]), (.int .i64 n15)])) H16) (fun v6 H5 => R (.panic v6) H5)
theorem f41_eq (x0 : ByteArray) (H : AH) (R : AEnd → AH → Prop) : awpF Try.prog f41_c (aPost Try.prog Try.f41 R) (([(.string x0)] : List Value) ++ List.replicate (Try.f41.ntmps - (([(.string x0)] : List Value)).length) undef) H = f41_B x0 H R := by kernel_rfl
theorem f41_call (x0 : ByteArray) (H : AH) (R : AEnd → AH → Prop) (h : f41_B x0 H R) : ACall Try.prog 41 ([(.string x0)] : List Value) H R :=
  acall_of mixed Try.func41 (by kernel_rfl : Try.f41.body = some f41_c) (by kernel_rfl) (by kernel_rfl) (awp_of (Eq.mpr (f41_eq x0 H R) h))

/-! f43: switchyard/code.GetEvent -/
noncomputable def f43_c : Code := Try.f43.body.getD .skip
def f43_B (x0 : ByteArray) (H : AH) (R : AEnd → AH → Prop) : Prop :=
 wNew [(.int .i64 0), (.int .i64 0), (.string ({ data := #[] })), (.int .i64 0), (.string ({ data := #[] })), (.string ({ data := #[] })), (.slice none 0 0)] H fun i1 H2 =>
 wCall Try.prog 84 [(.string x0), (.func (.func 85) #[] #[])] H2 (fun r3 H4 =>
 opT 2 r3 fun l7 =>
 opA 7 (l7.headD undef) fun l8 =>
 opI .i64 (l8.headD undef) fun n9 =>
 opI .i64 (l8.tail.headD undef) fun n10 =>
 opS (l8.tail.tail.headD undef) fun t11 =>
 opI .i64 (l8.tail.tail.tail.headD undef) fun n12 =>
 opS (l8.tail.tail.tail.tail.headD undef) fun t13 =>
 opS (l8.tail.tail.tail.tail.tail.headD undef) fun t14 =>
 opL (l8.tail.tail.tail.tail.tail.tail.headD undef) fun z15b z15l z15c =>
 opI .i64 (l7.tail.headD undef) fun n16 =>
 wSt i1 0 [(.int .i64 n9), (.int .i64 n10), (.string t11), (.int .i64 n12), (.string t13), (.string t14), (.slice z15b z15l z15c)] H4 fun H17 =>
 wPt (some ⟨i1, 0, none⟩) fun i18 k19 =>
 ldI .i64 i18 k19 H17 fun n20 =>
 ldI .i64 i18 (k19 + 1) H17 fun n21 =>
 ldS i18 (k19 + 2) H17 fun t22 =>
 ldI .i64 i18 (k19 + 3) H17 fun n23 =>
 ldS i18 (k19 + 4) H17 fun t24 =>
 ldS i18 (k19 + 5) H17 fun t25 =>
 ldL i18 (k19 + 6) H17 fun z26b z26l z26c =>
 R (.ret (.tuple #[(.agg #[(.int .i64 n20), (.int .i64 n21), (.string t22), (.int .i64 n23), (.string t24), (.string t25), (.slice z26b z26l z26c)]), (.int .i64 n16)])) H17) (fun v6 H5 => R (.panic v6) H5)
theorem f43_eq (x0 : ByteArray) (H : AH) (R : AEnd → AH → Prop) : awpF Try.prog f43_c (aPost Try.prog Try.f43 R) (([(.string x0)] : List Value) ++ List.replicate (Try.f43.ntmps - (([(.string x0)] : List Value)).length) undef) H = f43_B x0 H R := by kernel_rfl
theorem f43_call (x0 : ByteArray) (H : AH) (R : AEnd → AH → Prop) (h : f43_B x0 H R) : ACall Try.prog 43 ([(.string x0)] : List Value) H R :=
  acall_of mixed Try.func43 (by kernel_rfl : Try.f43.body = some f43_c) (by kernel_rfl) (by kernel_rfl) (awp_of (Eq.mpr (f43_eq x0 H R) h))

/-! f45: switchyard/code.GetSub -/
noncomputable def f45_c : Code := Try.f45.body.getD .skip
def f45_B (x0 : ByteArray) (H : AH) (R : AEnd → AH → Prop) : Prop :=
 wNew [(.int .i64 0), (.string ({ data := #[] })), (.int .i64 0)] H fun i1 H2 =>
 wCall Try.prog 88 [(.string x0), (.func (.func 89) #[] #[])] H2 (fun r3 H4 =>
 opT 2 r3 fun l7 =>
 opA 3 (l7.headD undef) fun l8 =>
 opI .i64 (l8.headD undef) fun n9 =>
 opS (l8.tail.headD undef) fun t10 =>
 opI .i64 (l8.tail.tail.headD undef) fun n11 =>
 opI .i64 (l7.tail.headD undef) fun n12 =>
 wSt i1 0 [(.int .i64 n9), (.string t10), (.int .i64 n11)] H4 fun H13 =>
 wPt (some ⟨i1, 0, none⟩) fun i14 k15 =>
 ldI .i64 i14 k15 H13 fun n16 =>
 ldS i14 (k15 + 1) H13 fun t17 =>
 ldI .i64 i14 (k15 + 2) H13 fun n18 =>
 R (.ret (.tuple #[(.agg #[(.int .i64 n16), (.string t17), (.int .i64 n18)]), (.int .i64 n12)])) H13) (fun v6 H5 => R (.panic v6) H5)
theorem f45_eq (x0 : ByteArray) (H : AH) (R : AEnd → AH → Prop) : awpF Try.prog f45_c (aPost Try.prog Try.f45 R) (([(.string x0)] : List Value) ++ List.replicate (Try.f45.ntmps - (([(.string x0)] : List Value)).length) undef) H = f45_B x0 H R := by kernel_rfl
theorem f45_call (x0 : ByteArray) (H : AH) (R : AEnd → AH → Prop) (h : f45_B x0 H R) : ACall Try.prog 45 ([(.string x0)] : List Value) H R :=
  acall_of mixed Try.func45 (by kernel_rfl : Try.f45.body = some f45_c) (by kernel_rfl) (by kernel_rfl) (awp_of (Eq.mpr (f45_eq x0 H R) h))

end Go.Proofs.Ytfghglacfjncmaa
