/- Bodies of functions as nested rules: printed by genw.py, a program of this claim. -/
import Derived.Test.YtfghglacfjncmaaWTy
import Derived.Test.YtfghglacfjncmaaWAbsZ
namespace Go.Proofs.Ytfghglacfjncmaa
open Go.RowKit
set_option linter.unusedVariables false
set_option maxRecDepth 100000

/-! f49: switchyard/code.put[switchyard/api.Value] -/
noncomputable def f49_c : Code := Try.f49.body.getD .skip
def f49_B (x0_0 x0_1 : Int) (x0_2 : ByteArray) (x0_3b : Option Addr) (x0_3l x0_3c : Nat) (H : AH) (R : AEnd → AH → Prop) : Prop :=
 wNew [(.int .i64 x0_0), (.int .i64 x0_1), (.string x0_2), (.slice x0_3b x0_3l x0_3c)] H fun i1 H2 =>
 wNew [(.string ({ data := #[] }))] H2 fun i3 H4 =>
 wNew [(.int .i64 0)] H4 fun i5 H6 =>
 wNewT 163 [(.pointer none), (.slice none 0 0)] H6 fun i7 H8 =>
 ldI .i64 i1 0 H8 fun n9 =>
 ldI .i64 i1 1 H8 fun n10 =>
 ldS i1 2 H8 fun t11 =>
 ldL i1 3 H8 fun z12b z12l z12c =>
 wCall Try.prog 50 [(.pointer (some ⟨i7, 0, none⟩)), (.agg #[(.int .i64 n9), (.int .i64 n10), (.string t11), (.slice z12b z12l z12c)])] H8 (fun r13 H14 =>
 wCall Try.prog 91 [(.pointer (some ⟨i7, 0, none⟩))] H14 (fun r17 H18 =>
 opS r17 fun t21 =>
 wSt i3 0 [(.string t21)] H18 fun H22 =>
 wSt i5 0 [(.int .i64 0)] H22 fun H23 =>
 ADef Try.prog 90 [(.pointer (some ⟨i3, 0, none⟩)), (.pointer (some ⟨i5, 0, none⟩))] none H23 (fun H24 =>
 wPt (some ⟨i3, 0, none⟩) fun i25 k26 =>
 ldS i25 k26 H24 fun t27 =>
 wPt (some ⟨i5, 0, none⟩) fun i28 k29 =>
 ldI .i64 i28 k29 H24 fun n30 =>
 R (.ret (.tuple #[(.string t27), (.int .i64 n30)])) H24)) (fun v20 H19 => ADef Try.prog 90 [(.pointer (some ⟨i3, 0, none⟩)), (.pointer (some ⟨i5, 0, none⟩))] (some v20) H19 (fun H31 =>
 wPt (some ⟨i3, 0, none⟩) fun i32 k33 =>
 ldS i32 k33 H31 fun t34 =>
 wPt (some ⟨i5, 0, none⟩) fun i35 k36 =>
 ldI .i64 i35 k36 H31 fun n37 =>
 R (.ret (.tuple #[(.string t34), (.int .i64 n37)])) H31))) (fun v16 H15 => ADef Try.prog 90 [(.pointer (some ⟨i3, 0, none⟩)), (.pointer (some ⟨i5, 0, none⟩))] (some v16) H15 (fun H38 =>
 wPt (some ⟨i3, 0, none⟩) fun i39 k40 =>
 ldS i39 k40 H38 fun t41 =>
 wPt (some ⟨i5, 0, none⟩) fun i42 k43 =>
 ldI .i64 i42 k43 H38 fun n44 =>
 R (.ret (.tuple #[(.string t41), (.int .i64 n44)])) H38))
theorem f49_eq (x0_0 x0_1 : Int) (x0_2 : ByteArray) (x0_3b : Option Addr) (x0_3l x0_3c : Nat) (H : AH) (R : AEnd → AH → Prop) : awpF Try.prog (codeAt f49_c [0]) (D0 Try.prog Try.f49 90 (codeAt f49_c [1, 1]) 7 [4, 5] R) (([(.agg #[(.int .i64 x0_0), (.int .i64 x0_1), (.string x0_2), (.slice x0_3b x0_3l x0_3c)]), (.func (.func 50) #[] #[])] : List Value) ++ List.replicate (Try.f49.ntmps - (([(.agg #[(.int .i64 x0_0), (.int .i64 x0_1), (.string x0_2), (.slice x0_3b x0_3l x0_3c)]), (.func (.func 50) #[] #[])] : List Value)).length) undef) H = f49_B x0_0 x0_1 x0_2 x0_3b x0_3l x0_3c H R := by kernel_rfl
theorem f49_call (x0_0 x0_1 : Int) (x0_2 : ByteArray) (x0_3b : Option Addr) (x0_3l x0_3c : Nat) (H : AH) (R : AEnd → AH → Prop) (h : f49_B x0_0 x0_1 x0_2 x0_3b x0_3l x0_3c H R) : ACall Try.prog 49 ([(.agg #[(.int .i64 x0_0), (.int .i64 x0_1), (.string x0_2), (.slice x0_3b x0_3l x0_3c)]), (.func (.func 50) #[] #[])] : List Value) H R :=
  acall_deferF (id := 1) (o0 := opAt (codeAt f49_c [1, 0]) 0) (o1 := opAt (codeAt f49_c [1, 0]) 1) (t7 := 7) (cp := [4, 5]) mixed Try.func49 (by kernel_rfl : Try.f49.body = some f49_c) (by kernel_rfl) (by kernel_rfl) (by kernel_rfl) (by kernel_rfl) (by kernel_rfl) (by kernel_rfl) (by kernel_rfl) (by kernel_rfl) (by kernel_rfl) (by kernel_rfl) (by kernel_rfl) (Eq.mpr (f49_eq x0_0 x0_1 x0_2 x0_3b x0_3l x0_3c H R) h)

/-! f51: switchyard/code.put[switchyard/api.Mail] -/
/-! f66: switchyard/code.put[switchyard/api.Item] -/
/-! f74: switchyard/code.put[switchyard/api.Dead] -/
/-! f76: switchyard/code.put[switchyard/api.Event] -/
/-! f78: switchyard/code.put[switchyard/api.Sub] -/
/-! f90: switchyard/code.put[switchyard/api.Value]$1 -/
noncomputable def f90_c : Code := Try.f90.body.getD .skip
def f90_N_B (y0 y1 : Option Addr) (H : AH) (R : AH → Prop) : Prop :=
 R H
theorem f90_N_eq (y0 y1 : Option Addr) (H : AH) (R : AH → Prop) : awpF Try.prog (codeAt f90_c [1]) (C0 R) [(.pointer y0), (.pointer y1), Value.nilIface, undef, undef, Value.nilIface, undef, undef, undef, undef, undef, undef, undef, undef, undef, undef, undef, undef] H = f90_N_B y0 y1 H R := by kernel_rfl
theorem f90_N (y0 y1 : Option Addr) (H : AH) (R : AH → Prop) (h : f90_N_B y0 y1 H R) : ADef Try.prog 90 ([(.pointer y0), (.pointer y1)] : List Value) none H R :=
  adef_ofF (id := 0) (o0 := opAt (codeAt f90_c [0]) 0) (o1 := opAt (codeAt f90_c [0]) 1) (t5 := 5) (t2 := 2) mixed Try.func90 (by kernel_rfl : Try.f90.body = some f90_c) (by kernel_rfl) (by kernel_rfl) (by kernel_rfl) (by kernel_rfl) (by kernel_rfl) (by kernel_rfl) (by kernel_rfl) (by kernel_rfl) (by kernel_rfl) (show 5 < 2 + (18 - 2) by decide) [(.pointer y0), (.pointer y1), Value.nilIface, undef, undef, Value.nilIface, undef, undef, undef, undef, undef, undef, undef, undef, undef, undef, undef, undef] (by kernel_rfl) (Eq.mpr (f90_N_eq y0 y1 H R) h)
def f90_P_B (y0 y1 : Option Addr) (er : Int) (H : AH) (R : AH → Prop) : Prop :=
 wNew [(.int .i64 0)] H fun i1 H2 =>
 wSt i1 0 [(.int .i64 er)] H2 fun H3 =>
 ldI .i64 i1 0 H3 fun n4 =>
 wPt y0 fun i6 k7 =>
 wSt i6 k7 [(.string ({ data := #[] }))] H3 fun H5 =>
 wPin i1 0 [(.int .i64 n4)] H5 <|
 wPt y1 fun i9 k10 =>
 wSt i9 k10 [(.int .i64 n4)] H5 fun H8 =>
 R H8
theorem f90_P_eq (y0 y1 : Option Addr) (er : Int) (H : AH) (R : AH → Prop) : awpF Try.prog (codeAt f90_c [1]) (C0 R) [(.pointer y0), (.pointer y1), (.iface 157 (.agg #[(.int .i64 er)])), undef, undef, (.iface 157 (.agg #[(.int .i64 er)])), undef, undef, undef, undef, undef, undef, undef, undef, undef, undef, undef, undef] H = f90_P_B y0 y1 er H R := by kernel_rfl
theorem f90_P (y0 y1 : Option Addr) (er : Int) (H : AH) (R : AH → Prop) (h : f90_P_B y0 y1 er H R) : ADef Try.prog 90 ([(.pointer y0), (.pointer y1)] : List Value) (some (.iface 157 (.agg #[.int .i64 er]))) H R :=
  adef_ofF (id := 0) (o0 := opAt (codeAt f90_c [0]) 0) (o1 := opAt (codeAt f90_c [0]) 1) (t5 := 5) (t2 := 2) mixed Try.func90 (by kernel_rfl : Try.f90.body = some f90_c) (by kernel_rfl) (by kernel_rfl) (by kernel_rfl) (by kernel_rfl) (by kernel_rfl) (by kernel_rfl) (by kernel_rfl) (by kernel_rfl) (by kernel_rfl) (show 5 < 2 + (18 - 2) by decide) [(.pointer y0), (.pointer y1), (.iface 157 (.agg #[(.int .i64 er)])), undef, undef, (.iface 157 (.agg #[(.int .i64 er)])), undef, undef, undef, undef, undef, undef, undef, undef, undef, undef, undef, undef] (by kernel_rfl) (Eq.mpr (f90_P_eq y0 y1 er H R) h)

/-! f100: switchyard/code.put[switchyard/api.Mail]$1 -/
/-! f118: switchyard/code.put[switchyard/api.Item]$1 -/
/-! f120: switchyard/code.put[switchyard/api.Dead]$1 -/
/-! f121: switchyard/code.put[switchyard/api.Event]$1 -/
/-! f122: switchyard/code.put[switchyard/api.Sub]$1 -/
end Go.Proofs.Ytfghglacfjncmaa
