/- Bodies of functions as nested rules: printed by genw.py, a program of this claim. -/
import Derived.Test.YtfghglacfjncmaaWTy
import Derived.Test.YtfghglacfjncmaaWAbsZ
namespace Go.Proofs.Ytfghglacfjncmaa
open Go.RowKit
set_option linter.unusedVariables false
set_option maxRecDepth 100000

/-! f49: switchyard/code.put[switchyard/api.Value] -/
noncomputable def f49_c : Code := Try.f49.body.getD .skip
def f49_B (x0_0 : Int) (x0_1 : Int) (x0_2 : ByteArray) (x0_3b : Option Addr) (x0_3l : Nat) (x0_3c : Nat) (H : AH) (R : AEnd → AH → Prop) : Prop :=
 wNew [(.int .i64 x0_0), (.int .i64 x0_1), (.string x0_2), (.slice x0_3b x0_3l x0_3c)] H fun i1 H2 =>
 wNew [(.string ({ data := #[] }))] H2 fun i3 H4 =>
 wNew [(.int .i64 0)] H4 fun i5 H6 =>
 wNewT 163 [(.pointer none), (.slice none 0 0)] H6 fun i7 H8 =>
 ldI .i64 i1 0 H8 fun n9 =>
 ldI .i64 i1 1 H8 fun n10 =>
 ldS i1 2 H8 fun t11 =>
 ldL i1 3 H8 fun z12b z12l z12c =>
 wCall Try.prog 50 [(.pointer (some ⟨i7, 0, none⟩)), (.agg #[(.int .i64 n9), (.int .i64 n10), (.string t11), (.slice z12b z12l z12c)])] H8 (fun r13 H14 =>
 wCall Try.prog 91 [(.pointer (some ⟨i7, 0, none⟩))] H14 (fun r17 H18 =>
 opS r17 fun t21 =>
 wSt i3 0 [(.string t21)] H18 fun H22 =>
 wSt i5 0 [(.int .i64 0)] H22 fun H23 =>
 ADef Try.prog 90 [(.pointer (some ⟨i3, 0, none⟩)), (.pointer (some ⟨i5, 0, none⟩))] none H23 (fun H24 =>
 wPt (some ⟨i3, 0, none⟩) fun i25 k26 =>
 ldS i25 k26 H24 fun t27 =>
 wPt (some ⟨i5, 0, none⟩) fun i28 k29 =>
 ldI .i64 i28 k29 H24 fun n30 =>
 R (.ret (.tuple #[(.string t27), (.int .i64 n30)])) H24)) (fun v20 H19 => ADef Try.prog 90 [(.pointer (some ⟨i3, 0, none⟩)), (.pointer (some ⟨i5, 0, none⟩))] (some v20) H19 (fun H31 =>
 wPt (some ⟨i3, 0, none⟩) fun i32 k33 =>
 ldS i32 k33 H31 fun t34 =>
 wPt (some ⟨i5, 0, none⟩) fun i35 k36 =>
 ldI .i64 i35 k36 H31 fun n37 =>
 R (.ret (.tuple #[(.string t34), (.int .i64 n37)])) H31))) (fun v16 H15 => ADef Try.prog 90 [(.pointer (some ⟨i3, 0, none⟩)), (.pointer (some ⟨i5, 0, none⟩))] (some v16) H15 (fun H38 =>
 wPt (some ⟨i3, 0, none⟩) fun i39 k40 =>
 ldS i39 k40 H38 fun t41 =>
 wPt (some ⟨i5, 0, none⟩) fun i42 k43 =>
 ldI .i64 i42 k43 H38 fun n44 =>
 R (.ret (.tuple #[(.string t41), (.int .i64 n44)])) H38))
theorem f49_eq (x0_0 : Int) (x0_1 : Int) (x0_2 : ByteArray) (x0_3b : Option Addr) (x0_3l : Nat) (x0_3c : Nat) (H : AH) (R : AEnd → AH → Prop) : awpF Try.prog (codeAt f49_c [0]) (D0 Try.prog Try.f49 90 (codeAt f49_c [1, 1]) 7 [4, 5] R) (([(.agg #[(.int .i64 x0_0), (.int .i64 x0_1), (.string x0_2), (.slice x0_3b x0_3l x0_3c)]), (.func (.func 50) #[] #[])] : List Value) ++ List.replicate (Try.f49.ntmps - (([(.agg #[(.int .i64 x0_0), (.int .i64 x0_1), (.string x0_2), (.slice x0_3b x0_3l x0_3c)]), (.func (.func 50) #[] #[])] : List Value)).length) undef) H = f49_B x0_0 x0_1 x0_2 x0_3b x0_3l x0_3c H R := by kernel_rfl
theorem f49_call (x0_0 : Int) (x0_1 : Int) (x0_2 : ByteArray) (x0_3b : Option Addr) (x0_3l : Nat) (x0_3c : Nat) (H : AH) (R : AEnd → AH → Prop) (h : f49_B x0_0 x0_1 x0_2 x0_3b x0_3l x0_3c H R) : ACall Try.prog 49 ([(.agg #[(.int .i64 x0_0), (.int .i64 x0_1), (.string x0_2), (.slice x0_3b x0_3l x0_3c)]), (.func (.func 50) #[] #[])] : List Value) H R :=
  acall_deferF (id := 1) (o0 := opAt (codeAt f49_c [1, 0]) 0) (o1 := opAt (codeAt f49_c [1, 0]) 1) (t7 := 7) (cp := [4, 5]) mixed Try.func49 (by kernel_rfl : Try.f49.body = some f49_c) (by kernel_rfl) (by kernel_rfl) (by kernel_rfl) (by kernel_rfl) (by kernel_rfl) (by kernel_rfl) (by kernel_rfl) (by kernel_rfl) (by kernel_rfl) (by kernel_rfl) (by kernel_rfl) (Eq.mpr (f49_eq x0_0 x0_1 x0_2 x0_3b x0_3l x0_3c H R) h)

/-! f51: switchyard/code.put[switchyard/api.Mail] -/
noncomputable def f51_c : Code := Try.f51.body.getD .skip
def f51_B (x0_0 : Int) (x0_1 : ByteArray) (x0_2b : Option Addr) (x0_2l : Nat) (x0_2c : Nat) (x0_3b : Option Addr) (x0_3l : Nat) (x0_3c : Nat) (H : AH) (R : AEnd → AH → Prop) : Prop :=
 wNew [(.int .i64 x0_0), (.string x0_1), (.slice x0_2b x0_2l x0_2c), (.slice x0_3b x0_3l x0_3c)] H fun i1 H2 =>
 wNew [(.string ({ data := #[] }))] H2 fun i3 H4 =>
 wNew [(.int .i64 0)] H4 fun i5 H6 =>
 wNewT 163 [(.pointer none), (.slice none 0 0)] H6 fun i7 H8 =>
 ldI .i64 i1 0 H8 fun n9 =>
 ldS i1 1 H8 fun t10 =>
 ldL i1 2 H8 fun z11b z11l z11c =>
 ldL i1 3 H8 fun z12b z12l z12c =>
 wCall Try.prog 52 [(.pointer (some ⟨i7, 0, none⟩)), (.agg #[(.int .i64 n9), (.string t10), (.slice z11b z11l z11c), (.slice z12b z12l z12c)])] H8 (fun r13 H14 =>
 wCall Try.prog 91 [(.pointer (some ⟨i7, 0, none⟩))] H14 (fun r17 H18 =>
 opS r17 fun t21 =>
 wSt i3 0 [(.string t21)] H18 fun H22 =>
 wSt i5 0 [(.int .i64 0)] H22 fun H23 =>
 ADef Try.prog 100 [(.pointer (some ⟨i3, 0, none⟩)), (.pointer (some ⟨i5, 0, none⟩))] none H23 (fun H24 =>
 wPt (some ⟨i3, 0, none⟩) fun i25 k26 =>
 ldS i25 k26 H24 fun t27 =>
 wPt (some ⟨i5, 0, none⟩) fun i28 k29 =>
 ldI .i64 i28 k29 H24 fun n30 =>
 R (.ret (.tuple #[(.string t27), (.int .i64 n30)])) H24)) (fun v20 H19 => ADef Try.prog 100 [(.pointer (some ⟨i3, 0, none⟩)), (.pointer (some ⟨i5, 0, none⟩))] (some v20) H19 (fun H31 =>
 wPt (some ⟨i3, 0, none⟩) fun i32 k33 =>
 ldS i32 k33 H31 fun t34 =>
 wPt (some ⟨i5, 0, none⟩) fun i35 k36 =>
 ldI .i64 i35 k36 H31 fun n37 =>
 R (.ret (.tuple #[(.string t34), (.int .i64 n37)])) H31))) (fun v16 H15 => ADef Try.prog 100 [(.pointer (some ⟨i3, 0, none⟩)), (.pointer (some ⟨i5, 0, none⟩))] (some v16) H15 (fun H38 =>
 wPt (some ⟨i3, 0, none⟩) fun i39 k40 =>
 ldS i39 k40 H38 fun t41 =>
 wPt (some ⟨i5, 0, none⟩) fun i42 k43 =>
 ldI .i64 i42 k43 H38 fun n44 =>
 R (.ret (.tuple #[(.string t41), (.int .i64 n44)])) H38))
theorem f51_eq (x0_0 : Int) (x0_1 : ByteArray) (x0_2b : Option Addr) (x0_2l : Nat) (x0_2c : Nat) (x0_3b : Option Addr) (x0_3l : Nat) (x0_3c : Nat) (H : AH) (R : AEnd → AH → Prop) : awpF Try.prog (codeAt f51_c [0]) (D0 Try.prog Try.f51 100 (codeAt f51_c [1, 1]) 7 [4, 5] R) (([(.agg #[(.int .i64 x0_0), (.string x0_1), (.slice x0_2b x0_2l x0_2c), (.slice x0_3b x0_3l x0_3c)]), (.func (.func 52) #[] #[])] : List Value) ++ List.replicate (Try.f51.ntmps - (([(.agg #[(.int .i64 x0_0), (.string x0_1), (.slice x0_2b x0_2l x0_2c), (.slice x0_3b x0_3l x0_3c)]), (.func (.func 52) #[] #[])] : List Value)).length) undef) H = f51_B x0_0 x0_1 x0_2b x0_2l x0_2c x0_3b x0_3l x0_3c H R := by kernel_rfl
theorem f51_call (x0_0 : Int) (x0_1 : ByteArray) (x0_2b : Option Addr) (x0_2l : Nat) (x0_2c : Nat) (x0_3b : Option Addr) (x0_3l : Nat) (x0_3c : Nat) (H : AH) (R : AEnd → AH → Prop) (h : f51_B x0_0 x0_1 x0_2b x0_2l x0_2c x0_3b x0_3l x0_3c H R) : ACall Try.prog 51 ([(.agg #[(.int .i64 x0_0), (.string x0_1), (.slice x0_2b x0_2l x0_2c), (.slice x0_3b x0_3l x0_3c)]), (.func (.func 52) #[] #[])] : List Value) H R :=
  acall_deferF (id := 1) (o0 := opAt (codeAt f51_c [1, 0]) 0) (o1 := opAt (codeAt f51_c [1, 0]) 1) (t7 := 7) (cp := [4, 5]) mixed Try.func51 (by kernel_rfl : Try.f51.body = some f51_c) (by kernel_rfl) (by kernel_rfl) (by kernel_rfl) (by kernel_rfl) (by kernel_rfl) (by kernel_rfl) (by kernel_rfl) (by kernel_rfl) (by kernel_rfl) (by kernel_rfl) (by kernel_rfl) (Eq.mpr (f51_eq x0_0 x0_1 x0_2b x0_2l x0_2c x0_3b x0_3l x0_3c H R) h)

/-! f66: switchyard/code.put[switchyard/api.Item] -/
noncomputable def f66_c : Code := Try.f66.body.getD .skip
def f66_B (x0_0 : Int) (x0_1 : ByteArray) (x0_2 : ByteArray) (x0_3 : Int) (x0_4b : Option Addr) (x0_4l : Nat) (x0_4c : Nat) (x0_5b : Option Addr) (x0_5l : Nat) (x0_5c : Nat) (x0_6b : Option Addr) (x0_6l : Nat) (x0_6c : Nat) (H : AH) (R : AEnd → AH → Prop) : Prop :=
 wNew [(.int .i64 x0_0), (.string x0_1), (.string x0_2), (.int .i64 x0_3), (.slice x0_4b x0_4l x0_4c), (.slice x0_5b x0_5l x0_5c), (.slice x0_6b x0_6l x0_6c)] H fun i1 H2 =>
 wNew [(.string ({ data := #[] }))] H2 fun i3 H4 =>
 wNew [(.int .i64 0)] H4 fun i5 H6 =>
 wNewT 163 [(.pointer none), (.slice none 0 0)] H6 fun i7 H8 =>
 ldI .i64 i1 0 H8 fun n9 =>
 ldS i1 1 H8 fun t10 =>
 ldS i1 2 H8 fun t11 =>
 ldI .i64 i1 3 H8 fun n12 =>
 ldL i1 4 H8 fun z13b z13l z13c =>
 ldL i1 5 H8 fun z14b z14l z14c =>
 ldL i1 6 H8 fun z15b z15l z15c =>
 wCall Try.prog 67 [(.pointer (some ⟨i7, 0, none⟩)), (.agg #[(.int .i64 n9), (.string t10), (.string t11), (.int .i64 n12), (.slice z13b z13l z13c), (.slice z14b z14l z14c), (.slice z15b z15l z15c)])] H8 (fun r16 H17 =>
 wCall Try.prog 91 [(.pointer (some ⟨i7, 0, none⟩))] H17 (fun r20 H21 =>
 opS r20 fun t24 =>
 wSt i3 0 [(.string t24)] H21 fun H25 =>
 wSt i5 0 [(.int .i64 0)] H25 fun H26 =>
 ADef Try.prog 118 [(.pointer (some ⟨i3, 0, none⟩)), (.pointer (some ⟨i5, 0, none⟩))] none H26 (fun H27 =>
 wPt (some ⟨i3, 0, none⟩) fun i28 k29 =>
 ldS i28 k29 H27 fun t30 =>
 wPt (some ⟨i5, 0, none⟩) fun i31 k32 =>
 ldI .i64 i31 k32 H27 fun n33 =>
 R (.ret (.tuple #[(.string t30), (.int .i64 n33)])) H27)) (fun v23 H22 => ADef Try.prog 118 [(.pointer (some ⟨i3, 0, none⟩)), (.pointer (some ⟨i5, 0, none⟩))] (some v23) H22 (fun H34 =>
 wPt (some ⟨i3, 0, none⟩) fun i35 k36 =>
 ldS i35 k36 H34 fun t37 =>
 wPt (some ⟨i5, 0, none⟩) fun i38 k39 =>
 ldI .i64 i38 k39 H34 fun n40 =>
 R (.ret (.tuple #[(.string t37), (.int .i64 n40)])) H34))) (fun v19 H18 => ADef Try.prog 118 [(.pointer (some ⟨i3, 0, none⟩)), (.pointer (some ⟨i5, 0, none⟩))] (some v19) H18 (fun H41 =>
 wPt (some ⟨i3, 0, none⟩) fun i42 k43 =>
 ldS i42 k43 H41 fun t44 =>
 wPt (some ⟨i5, 0, none⟩) fun i45 k46 =>
 ldI .i64 i45 k46 H41 fun n47 =>
 R (.ret (.tuple #[(.string t44), (.int .i64 n47)])) H41))
theorem f66_eq (x0_0 : Int) (x0_1 : ByteArray) (x0_2 : ByteArray) (x0_3 : Int) (x0_4b : Option Addr) (x0_4l : Nat) (x0_4c : Nat) (x0_5b : Option Addr) (x0_5l : Nat) (x0_5c : Nat) (x0_6b : Option Addr) (x0_6l : Nat) (x0_6c : Nat) (H : AH) (R : AEnd → AH → Prop) : awpF Try.prog (codeAt f66_c [0]) (D0 Try.prog Try.f66 118 (codeAt f66_c [1, 1]) 7 [4, 5] R) (([(.agg #[(.int .i64 x0_0), (.string x0_1), (.string x0_2), (.int .i64 x0_3), (.slice x0_4b x0_4l x0_4c), (.slice x0_5b x0_5l x0_5c), (.slice x0_6b x0_6l x0_6c)]), (.func (.func 67) #[] #[])] : List Value) ++ List.replicate (Try.f66.ntmps - (([(.agg #[(.int .i64 x0_0), (.string x0_1), (.string x0_2), (.int .i64 x0_3), (.slice x0_4b x0_4l x0_4c), (.slice x0_5b x0_5l x0_5c), (.slice x0_6b x0_6l x0_6c)]), (.func (.func 67) #[] #[])] : List Value)).length) undef) H = f66_B x0_0 x0_1 x0_2 x0_3 x0_4b x0_4l x0_4c x0_5b x0_5l x0_5c x0_6b x0_6l x0_6c H R := by kernel_rfl
theorem f66_call (x0_0 : Int) (x0_1 : ByteArray) (x0_2 : ByteArray) (x0_3 : Int) (x0_4b : Option Addr) (x0_4l : Nat) (x0_4c : Nat) (x0_5b : Option Addr) (x0_5l : Nat) (x0_5c : Nat) (x0_6b : Option Addr) (x0_6l : Nat) (x0_6c : Nat) (H : AH) (R : AEnd → AH → Prop) (h : f66_B x0_0 x0_1 x0_2 x0_3 x0_4b x0_4l x0_4c x0_5b x0_5l x0_5c x0_6b x0_6l x0_6c H R) : ACall Try.prog 66 ([(.agg #[(.int .i64 x0_0), (.string x0_1), (.string x0_2), (.int .i64 x0_3), (.slice x0_4b x0_4l x0_4c), (.slice x0_5b x0_5l x0_5c), (.slice x0_6b x0_6l x0_6c)]), (.func (.func 67) #[] #[])] : List Value) H R :=
  acall_deferF (id := 1) (o0 := opAt (codeAt f66_c [1, 0]) 0) (o1 := opAt (codeAt f66_c [1, 0]) 1) (t7 := 7) (cp := [4, 5]) mixed Try.func66 (by kernel_rfl : Try.f66.body = some f66_c) (by kernel_rfl) (by kernel_rfl) (by kernel_rfl) (by kernel_rfl) (by kernel_rfl) (by kernel_rfl) (by kernel_rfl) (by kernel_rfl) (by kernel_rfl) (by kernel_rfl) (by kernel_rfl) (Eq.mpr (f66_eq x0_0 x0_1 x0_2 x0_3 x0_4b x0_4l x0_4c x0_5b x0_5l x0_5c x0_6b x0_6l x0_6c H R) h)

/-! f74: switchyard/code.put[switchyard/api.Dead] -/
noncomputable def f74_c : Code := Try.f74.body.getD .skip
def f74_B (x0_0 : Int) (x0_1 : Int) (x0_2 : ByteArray) (x0_3b : Option Addr) (x0_3l : Nat) (x0_3c : Nat) (x0_4b : Option Addr) (x0_4l : Nat) (x0_4c : Nat) (x0_5 : Int) (H : AH) (R : AEnd → AH → Prop) : Prop :=
 wNew [(.int .i64 x0_0), (.int .i64 x0_1), (.string x0_2), (.slice x0_3b x0_3l x0_3c), (.slice x0_4b x0_4l x0_4c), (.int .i64 x0_5)] H fun i1 H2 =>
 wNew [(.string ({ data := #[] }))] H2 fun i3 H4 =>
 wNew [(.int .i64 0)] H4 fun i5 H6 =>
 wNewT 163 [(.pointer none), (.slice none 0 0)] H6 fun i7 H8 =>
 ldI .i64 i1 0 H8 fun n9 =>
 ldI .i64 i1 1 H8 fun n10 =>
 ldS i1 2 H8 fun t11 =>
 ldL i1 3 H8 fun z12b z12l z12c =>
 ldL i1 4 H8 fun z13b z13l z13c =>
 ldI .i64 i1 5 H8 fun n14 =>
 wCall Try.prog 75 [(.pointer (some ⟨i7, 0, none⟩)), (.agg #[(.int .i64 n9), (.int .i64 n10), (.string t11), (.slice z12b z12l z12c), (.slice z13b z13l z13c), (.int .i64 n14)])] H8 (fun r15 H16 =>
 wCall Try.prog 91 [(.pointer (some ⟨i7, 0, none⟩))] H16 (fun r19 H20 =>
 opS r19 fun t23 =>
 wSt i3 0 [(.string t23)] H20 fun H24 =>
 wSt i5 0 [(.int .i64 0)] H24 fun H25 =>
 ADef Try.prog 120 [(.pointer (some ⟨i3, 0, none⟩)), (.pointer (some ⟨i5, 0, none⟩))] none H25 (fun H26 =>
 wPt (some ⟨i3, 0, none⟩) fun i27 k28 =>
 ldS i27 k28 H26 fun t29 =>
 wPt (some ⟨i5, 0, none⟩) fun i30 k31 =>
 ldI .i64 i30 k31 H26 fun n32 =>
 R (.ret (.tuple #[(.string t29), (.int .i64 n32)])) H26)) (fun v22 H21 => ADef Try.prog 120 [(.pointer (some ⟨i3, 0, none⟩)), (.pointer (some ⟨i5, 0, none⟩))] (some v22) H21 (fun H33 =>
 wPt (some ⟨i3, 0, none⟩) fun i34 k35 =>
 ldS i34 k35 H33 fun t36 =>
 wPt (some ⟨i5, 0, none⟩) fun i37 k38 =>
 ldI .i64 i37 k38 H33 fun n39 =>
 R (.ret (.tuple #[(.string t36), (.int .i64 n39)])) H33))) (fun v18 H17 => ADef Try.prog 120 [(.pointer (some ⟨i3, 0, none⟩)), (.pointer (some ⟨i5, 0, none⟩))] (some v18) H17 (fun H40 =>
 wPt (some ⟨i3, 0, none⟩) fun i41 k42 =>
 ldS i41 k42 H40 fun t43 =>
 wPt (some ⟨i5, 0, none⟩) fun i44 k45 =>
 ldI .i64 i44 k45 H40 fun n46 =>
 R (.ret (.tuple #[(.string t43), (.int .i64 n46)])) H40))
theorem f74_eq (x0_0 : Int) (x0_1 : Int) (x0_2 : ByteArray) (x0_3b : Option Addr) (x0_3l : Nat) (x0_3c : Nat) (x0_4b : Option Addr) (x0_4l : Nat) (x0_4c : Nat) (x0_5 : Int) (H : AH) (R : AEnd → AH → Prop) : awpF Try.prog (codeAt f74_c [0]) (D0 Try.prog Try.f74 120 (codeAt f74_c [1, 1]) 7 [4, 5] R) (([(.agg #[(.int .i64 x0_0), (.int .i64 x0_1), (.string x0_2), (.slice x0_3b x0_3l x0_3c), (.slice x0_4b x0_4l x0_4c), (.int .i64 x0_5)]), (.func (.func 75) #[] #[])] : List Value) ++ List.replicate (Try.f74.ntmps - (([(.agg #[(.int .i64 x0_0), (.int .i64 x0_1), (.string x0_2), (.slice x0_3b x0_3l x0_3c), (.slice x0_4b x0_4l x0_4c), (.int .i64 x0_5)]), (.func (.func 75) #[] #[])] : List Value)).length) undef) H = f74_B x0_0 x0_1 x0_2 x0_3b x0_3l x0_3c x0_4b x0_4l x0_4c x0_5 H R := by kernel_rfl
theorem f74_call (x0_0 : Int) (x0_1 : Int) (x0_2 : ByteArray) (x0_3b : Option Addr) (x0_3l : Nat) (x0_3c : Nat) (x0_4b : Option Addr) (x0_4l : Nat) (x0_4c : Nat) (x0_5 : Int) (H : AH) (R : AEnd → AH → Prop) (h : f74_B x0_0 x0_1 x0_2 x0_3b x0_3l x0_3c x0_4b x0_4l x0_4c x0_5 H R) : ACall Try.prog 74 ([(.agg #[(.int .i64 x0_0), (.int .i64 x0_1), (.string x0_2), (.slice x0_3b x0_3l x0_3c), (.slice x0_4b x0_4l x0_4c), (.int .i64 x0_5)]), (.func (.func 75) #[] #[])] : List Value) H R :=
  acall_deferF (id := 1) (o0 := opAt (codeAt f74_c [1, 0]) 0) (o1 := opAt (codeAt f74_c [1, 0]) 1) (t7 := 7) (cp := [4, 5]) mixed Try.func74 (by kernel_rfl : Try.f74.body = some f74_c) (by kernel_rfl) (by kernel_rfl) (by kernel_rfl) (by kernel_rfl) (by kernel_rfl) (by kernel_rfl) (by kernel_rfl) (by kernel_rfl) (by kernel_rfl) (by kernel_rfl) (by kernel_rfl) (Eq.mpr (f74_eq x0_0 x0_1 x0_2 x0_3b x0_3l x0_3c x0_4b x0_4l x0_4c x0_5 H R) h)

/-! f76: switchyard/code.put[switchyard/api.Event] -/
noncomputable def f76_c : Code := Try.f76.body.getD .skip
def f76_B (x0_0 : Int) (x0_1 : Int) (x0_2 : ByteArray) (x0_3 : Int) (x0_4 : ByteArray) (x0_5 : ByteArray) (x0_6b : Option Addr) (x0_6l : Nat) (x0_6c : Nat) (H : AH) (R : AEnd → AH → Prop) : Prop :=
 wNew [(.int .i64 x0_0), (.int .i64 x0_1), (.string x0_2), (.int .i64 x0_3), (.string x0_4), (.string x0_5), (.slice x0_6b x0_6l x0_6c)] H fun i1 H2 =>
 wNew [(.string ({ data := #[] }))] H2 fun i3 H4 =>
 wNew [(.int .i64 0)] H4 fun i5 H6 =>
 wNewT 163 [(.pointer none), (.slice none 0 0)] H6 fun i7 H8 =>
 ldI .i64 i1 0 H8 fun n9 =>
 ldI .i64 i1 1 H8 fun n10 =>
 ldS i1 2 H8 fun t11 =>
 ldI .i64 i1 3 H8 fun n12 =>
 ldS i1 4 H8 fun t13 =>
 ldS i1 5 H8 fun t14 =>
 ldL i1 6 H8 fun z15b z15l z15c =>
 wCall Try.prog 77 [(.pointer (some ⟨i7, 0, none⟩)), (.agg #[(.int .i64 n9), (.int .i64 n10), (.string t11), (.int .i64 n12), (.string t13), (.string t14), (.slice z15b z15l z15c)])] H8 (fun r16 H17 =>
 wCall Try.prog 91 [(.pointer (some ⟨i7, 0, none⟩))] H17 (fun r20 H21 =>
 opS r20 fun t24 =>
 wSt i3 0 [(.string t24)] H21 fun H25 =>
 wSt i5 0 [(.int .i64 0)] H25 fun H26 =>
 ADef Try.prog 121 [(.pointer (some ⟨i3, 0, none⟩)), (.pointer (some ⟨i5, 0, none⟩))] none H26 (fun H27 =>
 wPt (some ⟨i3, 0, none⟩) fun i28 k29 =>
 ldS i28 k29 H27 fun t30 =>
 wPt (some ⟨i5, 0, none⟩) fun i31 k32 =>
 ldI .i64 i31 k32 H27 fun n33 =>
 R (.ret (.tuple #[(.string t30), (.int .i64 n33)])) H27)) (fun v23 H22 => ADef Try.prog 121 [(.pointer (some ⟨i3, 0, none⟩)), (.pointer (some ⟨i5, 0, none⟩))] (some v23) H22 (fun H34 =>
 wPt (some ⟨i3, 0, none⟩) fun i35 k36 =>
 ldS i35 k36 H34 fun t37 =>
 wPt (some ⟨i5, 0, none⟩) fun i38 k39 =>
 ldI .i64 i38 k39 H34 fun n40 =>
 R (.ret (.tuple #[(.string t37), (.int .i64 n40)])) H34))) (fun v19 H18 => ADef Try.prog 121 [(.pointer (some ⟨i3, 0, none⟩)), (.pointer (some ⟨i5, 0, none⟩))] (some v19) H18 (fun H41 =>
 wPt (some ⟨i3, 0, none⟩) fun i42 k43 =>
 ldS i42 k43 H41 fun t44 =>
 wPt (some ⟨i5, 0, none⟩) fun i45 k46 =>
 ldI .i64 i45 k46 H41 fun n47 =>
 R (.ret (.tuple #[(.string t44), (.int .i64 n47)])) H41))
theorem f76_eq (x0_0 : Int) (x0_1 : Int) (x0_2 : ByteArray) (x0_3 : Int) (x0_4 : ByteArray) (x0_5 : ByteArray) (x0_6b : Option Addr) (x0_6l : Nat) (x0_6c : Nat) (H : AH) (R : AEnd → AH → Prop) : awpF Try.prog (codeAt f76_c [0]) (D0 Try.prog Try.f76 121 (codeAt f76_c [1, 1]) 7 [4, 5] R) (([(.agg #[(.int .i64 x0_0), (.int .i64 x0_1), (.string x0_2), (.int .i64 x0_3), (.string x0_4), (.string x0_5), (.slice x0_6b x0_6l x0_6c)]), (.func (.func 77) #[] #[])] : List Value) ++ List.replicate (Try.f76.ntmps - (([(.agg #[(.int .i64 x0_0), (.int .i64 x0_1), (.string x0_2), (.int .i64 x0_3), (.string x0_4), (.string x0_5), (.slice x0_6b x0_6l x0_6c)]), (.func (.func 77) #[] #[])] : List Value)).length) undef) H = f76_B x0_0 x0_1 x0_2 x0_3 x0_4 x0_5 x0_6b x0_6l x0_6c H R := by kernel_rfl
theorem f76_call (x0_0 : Int) (x0_1 : Int) (x0_2 : ByteArray) (x0_3 : Int) (x0_4 : ByteArray) (x0_5 : ByteArray) (x0_6b : Option Addr) (x0_6l : Nat) (x0_6c : Nat) (H : AH) (R : AEnd → AH → Prop) (h : f76_B x0_0 x0_1 x0_2 x0_3 x0_4 x0_5 x0_6b x0_6l x0_6c H R) : ACall Try.prog 76 ([(.agg #[(.int .i64 x0_0), (.int .i64 x0_1), (.string x0_2), (.int .i64 x0_3), (.string x0_4), (.string x0_5), (.slice x0_6b x0_6l x0_6c)]), (.func (.func 77) #[] #[])] : List Value) H R :=
  acall_deferF (id := 1) (o0 := opAt (codeAt f76_c [1, 0]) 0) (o1 := opAt (codeAt f76_c [1, 0]) 1) (t7 := 7) (cp := [4, 5]) mixed Try.func76 (by kernel_rfl : Try.f76.body = some f76_c) (by kernel_rfl) (by kernel_rfl) (by kernel_rfl) (by kernel_rfl) (by kernel_rfl) (by kernel_rfl) (by kernel_rfl) (by kernel_rfl) (by kernel_rfl) (by kernel_rfl) (by kernel_rfl) (Eq.mpr (f76_eq x0_0 x0_1 x0_2 x0_3 x0_4 x0_5 x0_6b x0_6l x0_6c H R) h)

/-! f78: switchyard/code.put[switchyard/api.Sub] -/
noncomputable def f78_c : Code := Try.f78.body.getD .skip
def f78_B (x0_0 : Int) (x0_1 : ByteArray) (x0_2 : Int) (H : AH) (R : AEnd → AH → Prop) : Prop :=
 wNew [(.int .i64 x0_0), (.string x0_1), (.int .i64 x0_2)] H fun i1 H2 =>
 wNew [(.string ({ data := #[] }))] H2 fun i3 H4 =>
 wNew [(.int .i64 0)] H4 fun i5 H6 =>
 wNewT 163 [(.pointer none), (.slice none 0 0)] H6 fun i7 H8 =>
 ldI .i64 i1 0 H8 fun n9 =>
 ldS i1 1 H8 fun t10 =>
 ldI .i64 i1 2 H8 fun n11 =>
 wCall Try.prog 79 [(.pointer (some ⟨i7, 0, none⟩)), (.agg #[(.int .i64 n9), (.string t10), (.int .i64 n11)])] H8 (fun r12 H13 =>
 wCall Try.prog 91 [(.pointer (some ⟨i7, 0, none⟩))] H13 (fun r16 H17 =>
 opS r16 fun t20 =>
 wSt i3 0 [(.string t20)] H17 fun H21 =>
 wSt i5 0 [(.int .i64 0)] H21 fun H22 =>
 ADef Try.prog 122 [(.pointer (some ⟨i3, 0, none⟩)), (.pointer (some ⟨i5, 0, none⟩))] none H22 (fun H23 =>
 wPt (some ⟨i3, 0, none⟩) fun i24 k25 =>
 ldS i24 k25 H23 fun t26 =>
 wPt (some ⟨i5, 0, none⟩) fun i27 k28 =>
 ldI .i64 i27 k28 H23 fun n29 =>
 R (.ret (.tuple #[(.string t26), (.int .i64 n29)])) H23)) (fun v19 H18 => ADef Try.prog 122 [(.pointer (some ⟨i3, 0, none⟩)), (.pointer (some ⟨i5, 0, none⟩))] (some v19) H18 (fun H30 =>
 wPt (some ⟨i3, 0, none⟩) fun i31 k32 =>
 ldS i31 k32 H30 fun t33 =>
 wPt (some ⟨i5, 0, none⟩) fun i34 k35 =>
 ldI .i64 i34 k35 H30 fun n36 =>
 R (.ret (.tuple #[(.string t33), (.int .i64 n36)])) H30))) (fun v15 H14 => ADef Try.prog 122 [(.pointer (some ⟨i3, 0, none⟩)), (.pointer (some ⟨i5, 0, none⟩))] (some v15) H14 (fun H37 =>
 wPt (some ⟨i3, 0, none⟩) fun i38 k39 =>
 ldS i38 k39 H37 fun t40 =>
 wPt (some ⟨i5, 0, none⟩) fun i41 k42 =>
 ldI .i64 i41 k42 H37 fun n43 =>
 R (.ret (.tuple #[(.string t40), (.int .i64 n43)])) H37))
theorem f78_eq (x0_0 : Int) (x0_1 : ByteArray) (x0_2 : Int) (H : AH) (R : AEnd → AH → Prop) : awpF Try.prog (codeAt f78_c [0]) (D0 Try.prog Try.f78 122 (codeAt f78_c [1, 1]) 7 [4, 5] R) (([(.agg #[(.int .i64 x0_0), (.string x0_1), (.int .i64 x0_2)]), (.func (.func 79) #[] #[])] : List Value) ++ List.replicate (Try.f78.ntmps - (([(.agg #[(.int .i64 x0_0), (.string x0_1), (.int .i64 x0_2)]), (.func (.func 79) #[] #[])] : List Value)).length) undef) H = f78_B x0_0 x0_1 x0_2 H R := by kernel_rfl
theorem f78_call (x0_0 : Int) (x0_1 : ByteArray) (x0_2 : Int) (H : AH) (R : AEnd → AH → Prop) (h : f78_B x0_0 x0_1 x0_2 H R) : ACall Try.prog 78 ([(.agg #[(.int .i64 x0_0), (.string x0_1), (.int .i64 x0_2)]), (.func (.func 79) #[] #[])] : List Value) H R :=
  acall_deferF (id := 1) (o0 := opAt (codeAt f78_c [1, 0]) 0) (o1 := opAt (codeAt f78_c [1, 0]) 1) (t7 := 7) (cp := [4, 5]) mixed Try.func78 (by kernel_rfl : Try.f78.body = some f78_c) (by kernel_rfl) (by kernel_rfl) (by kernel_rfl) (by kernel_rfl) (by kernel_rfl) (by kernel_rfl) (by kernel_rfl) (by kernel_rfl) (by kernel_rfl) (by kernel_rfl) (by kernel_rfl) (Eq.mpr (f78_eq x0_0 x0_1 x0_2 H R) h)

/-! f90: switchyard/code.put[switchyard/api.Value]$1 -/
noncomputable def f90_c : Code := Try.f90.body.getD .skip
def f90_N_B (y0 : Option Addr) (y1 : Option Addr) (H : AH) (R : AH → Prop) : Prop :=
 R H
theorem f90_N_eq (y0 : Option Addr) (y1 : Option Addr) (H : AH) (R : AH → Prop) : awpF Try.prog (codeAt f90_c [1]) (C0 R) [(.pointer y0), (.pointer y1), Value.nilIface, undef, undef, Value.nilIface, undef, undef, undef, undef, undef, undef, undef, undef, undef, undef, undef, undef] H = f90_N_B y0 y1 H R := by kernel_rfl
theorem f90_N (y0 : Option Addr) (y1 : Option Addr) (H : AH) (R : AH → Prop) (h : f90_N_B y0 y1 H R) : ADef Try.prog 90 ([(.pointer y0), (.pointer y1)] : List Value) none H R :=
  adef_ofF (id := 0) (o0 := opAt (codeAt f90_c [0]) 0) (o1 := opAt (codeAt f90_c [0]) 1) (t5 := 5) (t2 := 2) mixed Try.func90 (by kernel_rfl : Try.f90.body = some f90_c) (by kernel_rfl) (by kernel_rfl) (by kernel_rfl) (by kernel_rfl) (by kernel_rfl) (by kernel_rfl) (by kernel_rfl) (by kernel_rfl) (by kernel_rfl) (show 5 < 2 + (18 - 2) by decide) [(.pointer y0), (.pointer y1), Value.nilIface, undef, undef, Value.nilIface, undef, undef, undef, undef, undef, undef, undef, undef, undef, undef, undef, undef] (by kernel_rfl) (Eq.mpr (f90_N_eq y0 y1 H R) h)
def f90_P_B (y0 : Option Addr) (y1 : Option Addr) (er : Int) (H : AH) (R : AH → Prop) : Prop :=
 wNew [(.int .i64 0)] H fun i1 H2 =>
 wSt i1 0 [(.int .i64 er)] H2 fun H3 =>
 ldI .i64 i1 0 H3 fun n4 =>
 wPt y0 fun i6 k7 =>
 wSt i6 k7 [(.string ({ data := #[] }))] H3 fun H5 =>
 wPin i1 0 [(.int .i64 n4)] H5 <|
 wPt y1 fun i9 k10 =>
 wSt i9 k10 [(.int .i64 n4)] H5 fun H8 =>
 R H8
theorem f90_P_eq (y0 : Option Addr) (y1 : Option Addr) (er : Int) (H : AH) (R : AH → Prop) : awpF Try.prog (codeAt f90_c [1]) (C0 R) [(.pointer y0), (.pointer y1), (.iface 157 (.agg #[(.int .i64 er)])), undef, undef, (.iface 157 (.agg #[(.int .i64 er)])), undef, undef, undef, undef, undef, undef, undef, undef, undef, undef, undef, undef] H = f90_P_B y0 y1 er H R := by kernel_rfl
theorem f90_P (y0 : Option Addr) (y1 : Option Addr) (er : Int) (H : AH) (R : AH → Prop) (h : f90_P_B y0 y1 er H R) : ADef Try.prog 90 ([(.pointer y0), (.pointer y1)] : List Value) (some (.iface 157 (.agg #[.int .i64 er]))) H R :=
  adef_ofF (id := 0) (o0 := opAt (codeAt f90_c [0]) 0) (o1 := opAt (codeAt f90_c [0]) 1) (t5 := 5) (t2 := 2) mixed Try.func90 (by kernel_rfl : Try.f90.body = some f90_c) (by kernel_rfl) (by kernel_rfl) (by kernel_rfl) (by kernel_rfl) (by kernel_rfl) (by kernel_rfl) (by kernel_rfl) (by kernel_rfl) (by kernel_rfl) (show 5 < 2 + (18 - 2) by decide) [(.pointer y0), (.pointer y1), (.iface 157 (.agg #[(.int .i64 er)])), undef, undef, (.iface 157 (.agg #[(.int .i64 er)])), undef, undef, undef, undef, undef, undef, undef, undef, undef, undef, undef, undef] (by kernel_rfl) (Eq.mpr (f90_P_eq y0 y1 er H R) h)

/-! f100: switchyard/code.put[switchyard/api.Mail]$1 -/
noncomputable def f100_c : Code := Try.f100.body.getD .skip
def f100_N_B (y0 : Option Addr) (y1 : Option Addr) (H : AH) (R : AH → Prop) : Prop :=
 R H
theorem f100_N_eq (y0 : Option Addr) (y1 : Option Addr) (H : AH) (R : AH → Prop) : awpF Try.prog (codeAt f100_c [1]) (C0 R) [(.pointer y0), (.pointer y1), Value.nilIface, undef, undef, Value.nilIface, undef, undef, undef, undef, undef, undef, undef, undef, undef, undef, undef, undef] H = f100_N_B y0 y1 H R := by kernel_rfl
theorem f100_N (y0 : Option Addr) (y1 : Option Addr) (H : AH) (R : AH → Prop) (h : f100_N_B y0 y1 H R) : ADef Try.prog 100 ([(.pointer y0), (.pointer y1)] : List Value) none H R :=
  adef_ofF (id := 0) (o0 := opAt (codeAt f100_c [0]) 0) (o1 := opAt (codeAt f100_c [0]) 1) (t5 := 5) (t2 := 2) mixed Try.func100 (by kernel_rfl : Try.f100.body = some f100_c) (by kernel_rfl) (by kernel_rfl) (by kernel_rfl) (by kernel_rfl) (by kernel_rfl) (by kernel_rfl) (by kernel_rfl) (by kernel_rfl) (by kernel_rfl) (show 5 < 2 + (18 - 2) by decide) [(.pointer y0), (.pointer y1), Value.nilIface, undef, undef, Value.nilIface, undef, undef, undef, undef, undef, undef, undef, undef, undef, undef, undef, undef] (by kernel_rfl) (Eq.mpr (f100_N_eq y0 y1 H R) h)
def f100_P_B (y0 : Option Addr) (y1 : Option Addr) (er : Int) (H : AH) (R : AH → Prop) : Prop :=
 wNew [(.int .i64 0)] H fun i1 H2 =>
 wSt i1 0 [(.int .i64 er)] H2 fun H3 =>
 ldI .i64 i1 0 H3 fun n4 =>
 wPt y0 fun i6 k7 =>
 wSt i6 k7 [(.string ({ data := #[] }))] H3 fun H5 =>
 wPin i1 0 [(.int .i64 n4)] H5 <|
 wPt y1 fun i9 k10 =>
 wSt i9 k10 [(.int .i64 n4)] H5 fun H8 =>
 R H8
theorem f100_P_eq (y0 : Option Addr) (y1 : Option Addr) (er : Int) (H : AH) (R : AH → Prop) : awpF Try.prog (codeAt f100_c [1]) (C0 R) [(.pointer y0), (.pointer y1), (.iface 157 (.agg #[(.int .i64 er)])), undef, undef, (.iface 157 (.agg #[(.int .i64 er)])), undef, undef, undef, undef, undef, undef, undef, undef, undef, undef, undef, undef] H = f100_P_B y0 y1 er H R := by kernel_rfl
theorem f100_P (y0 : Option Addr) (y1 : Option Addr) (er : Int) (H : AH) (R : AH → Prop) (h : f100_P_B y0 y1 er H R) : ADef Try.prog 100 ([(.pointer y0), (.pointer y1)] : List Value) (some (.iface 157 (.agg #[.int .i64 er]))) H R :=
  adef_ofF (id := 0) (o0 := opAt (codeAt f100_c [0]) 0) (o1 := opAt (codeAt f100_c [0]) 1) (t5 := 5) (t2 := 2) mixed Try.func100 (by kernel_rfl : Try.f100.body = some f100_c) (by kernel_rfl) (by kernel_rfl) (by kernel_rfl) (by kernel_rfl) (by kernel_rfl) (by kernel_rfl) (by kernel_rfl) (by kernel_rfl) (by kernel_rfl) (show 5 < 2 + (18 - 2) by decide) [(.pointer y0), (.pointer y1), (.iface 157 (.agg #[(.int .i64 er)])), undef, undef, (.iface 157 (.agg #[(.int .i64 er)])), undef, undef, undef, undef, undef, undef, undef, undef, undef, undef, undef, undef] (by kernel_rfl) (Eq.mpr (f100_P_eq y0 y1 er H R) h)

/-! f118: switchyard/code.put[switchyard/api.Item]$1 -/
noncomputable def f118_c : Code := Try.f118.body.getD .skip
def f118_N_B (y0 : Option Addr) (y1 : Option Addr) (H : AH) (R : AH → Prop) : Prop :=
 R H
theorem f118_N_eq (y0 : Option Addr) (y1 : Option Addr) (H : AH) (R : AH → Prop) : awpF Try.prog (codeAt f118_c [1]) (C0 R) [(.pointer y0), (.pointer y1), Value.nilIface, undef, undef, Value.nilIface, undef, undef, undef, undef, undef, undef, undef, undef, undef, undef, undef, undef] H = f118_N_B y0 y1 H R := by kernel_rfl
theorem f118_N (y0 : Option Addr) (y1 : Option Addr) (H : AH) (R : AH → Prop) (h : f118_N_B y0 y1 H R) : ADef Try.prog 118 ([(.pointer y0), (.pointer y1)] : List Value) none H R :=
  adef_ofF (id := 0) (o0 := opAt (codeAt f118_c [0]) 0) (o1 := opAt (codeAt f118_c [0]) 1) (t5 := 5) (t2 := 2) mixed Try.func118 (by kernel_rfl : Try.f118.body = some f118_c) (by kernel_rfl) (by kernel_rfl) (by kernel_rfl) (by kernel_rfl) (by kernel_rfl) (by kernel_rfl) (by kernel_rfl) (by kernel_rfl) (by kernel_rfl) (show 5 < 2 + (18 - 2) by decide) [(.pointer y0), (.pointer y1), Value.nilIface, undef, undef, Value.nilIface, undef, undef, undef, undef, undef, undef, undef, undef, undef, undef, undef, undef] (by kernel_rfl) (Eq.mpr (f118_N_eq y0 y1 H R) h)
def f118_P_B (y0 : Option Addr) (y1 : Option Addr) (er : Int) (H : AH) (R : AH → Prop) : Prop :=
 wNew [(.int .i64 0)] H fun i1 H2 =>
 wSt i1 0 [(.int .i64 er)] H2 fun H3 =>
 ldI .i64 i1 0 H3 fun n4 =>
 wPt y0 fun i6 k7 =>
 wSt i6 k7 [(.string ({ data := #[] }))] H3 fun H5 =>
 wPin i1 0 [(.int .i64 n4)] H5 <|
 wPt y1 fun i9 k10 =>
 wSt i9 k10 [(.int .i64 n4)] H5 fun H8 =>
 R H8
theorem f118_P_eq (y0 : Option Addr) (y1 : Option Addr) (er : Int) (H : AH) (R : AH → Prop) : awpF Try.prog (codeAt f118_c [1]) (C0 R) [(.pointer y0), (.pointer y1), (.iface 157 (.agg #[(.int .i64 er)])), undef, undef, (.iface 157 (.agg #[(.int .i64 er)])), undef, undef, undef, undef, undef, undef, undef, undef, undef, undef, undef, undef] H = f118_P_B y0 y1 er H R := by kernel_rfl
theorem f118_P (y0 : Option Addr) (y1 : Option Addr) (er : Int) (H : AH) (R : AH → Prop) (h : f118_P_B y0 y1 er H R) : ADef Try.prog 118 ([(.pointer y0), (.pointer y1)] : List Value) (some (.iface 157 (.agg #[.int .i64 er]))) H R :=
  adef_ofF (id := 0) (o0 := opAt (codeAt f118_c [0]) 0) (o1 := opAt (codeAt f118_c [0]) 1) (t5 := 5) (t2 := 2) mixed Try.func118 (by kernel_rfl : Try.f118.body = some f118_c) (by kernel_rfl) (by kernel_rfl) (by kernel_rfl) (by kernel_rfl) (by kernel_rfl) (by kernel_rfl) (by kernel_rfl) (by kernel_rfl) (by kernel_rfl) (show 5 < 2 + (18 - 2) by decide) [(.pointer y0), (.pointer y1), (.iface 157 (.agg #[(.int .i64 er)])), undef, undef, (.iface 157 (.agg #[(.int .i64 er)])), undef, undef, undef, undef, undef, undef, undef, undef, undef, undef, undef, undef] (by kernel_rfl) (Eq.mpr (f118_P_eq y0 y1 er H R) h)

/-! f120: switchyard/code.put[switchyard/api.Dead]$1 -/
noncomputable def f120_c : Code := Try.f120.body.getD .skip
def f120_N_B (y0 : Option Addr) (y1 : Option Addr) (H : AH) (R : AH → Prop) : Prop :=
 R H
theorem f120_N_eq (y0 : Option Addr) (y1 : Option Addr) (H : AH) (R : AH → Prop) : awpF Try.prog (codeAt f120_c [1]) (C0 R) [(.pointer y0), (.pointer y1), Value.nilIface, undef, undef, Value.nilIface, undef, undef, undef, undef, undef, undef, undef, undef, undef, undef, undef, undef] H = f120_N_B y0 y1 H R := by kernel_rfl
theorem f120_N (y0 : Option Addr) (y1 : Option Addr) (H : AH) (R : AH → Prop) (h : f120_N_B y0 y1 H R) : ADef Try.prog 120 ([(.pointer y0), (.pointer y1)] : List Value) none H R :=
  adef_ofF (id := 0) (o0 := opAt (codeAt f120_c [0]) 0) (o1 := opAt (codeAt f120_c [0]) 1) (t5 := 5) (t2 := 2) mixed Try.func120 (by kernel_rfl : Try.f120.body = some f120_c) (by kernel_rfl) (by kernel_rfl) (by kernel_rfl) (by kernel_rfl) (by kernel_rfl) (by kernel_rfl) (by kernel_rfl) (by kernel_rfl) (by kernel_rfl) (show 5 < 2 + (18 - 2) by decide) [(.pointer y0), (.pointer y1), Value.nilIface, undef, undef, Value.nilIface, undef, undef, undef, undef, undef, undef, undef, undef, undef, undef, undef, undef] (by kernel_rfl) (Eq.mpr (f120_N_eq y0 y1 H R) h)
def f120_P_B (y0 : Option Addr) (y1 : Option Addr) (er : Int) (H : AH) (R : AH → Prop) : Prop :=
 wNew [(.int .i64 0)] H fun i1 H2 =>
 wSt i1 0 [(.int .i64 er)] H2 fun H3 =>
 ldI .i64 i1 0 H3 fun n4 =>
 wPt y0 fun i6 k7 =>
 wSt i6 k7 [(.string ({ data := #[] }))] H3 fun H5 =>
 wPin i1 0 [(.int .i64 n4)] H5 <|
 wPt y1 fun i9 k10 =>
 wSt i9 k10 [(.int .i64 n4)] H5 fun H8 =>
 R H8
theorem f120_P_eq (y0 : Option Addr) (y1 : Option Addr) (er : Int) (H : AH) (R : AH → Prop) : awpF Try.prog (codeAt f120_c [1]) (C0 R) [(.pointer y0), (.pointer y1), (.iface 157 (.agg #[(.int .i64 er)])), undef, undef, (.iface 157 (.agg #[(.int .i64 er)])), undef, undef, undef, undef, undef, undef, undef, undef, undef, undef, undef, undef] H = f120_P_B y0 y1 er H R := by kernel_rfl
theorem f120_P (y0 : Option Addr) (y1 : Option Addr) (er : Int) (H : AH) (R : AH → Prop) (h : f120_P_B y0 y1 er H R) : ADef Try.prog 120 ([(.pointer y0), (.pointer y1)] : List Value) (some (.iface 157 (.agg #[.int .i64 er]))) H R :=
  adef_ofF (id := 0) (o0 := opAt (codeAt f120_c [0]) 0) (o1 := opAt (codeAt f120_c [0]) 1) (t5 := 5) (t2 := 2) mixed Try.func120 (by kernel_rfl : Try.f120.body = some f120_c) (by kernel_rfl) (by kernel_rfl) (by kernel_rfl) (by kernel_rfl) (by kernel_rfl) (by kernel_rfl) (by kernel_rfl) (by kernel_rfl) (by kernel_rfl) (show 5 < 2 + (18 - 2) by decide) [(.pointer y0), (.pointer y1), (.iface 157 (.agg #[(.int .i64 er)])), undef, undef, (.iface 157 (.agg #[(.int .i64 er)])), undef, undef, undef, undef, undef, undef, undef, undef, undef, undef, undef, undef] (by kernel_rfl) (Eq.mpr (f120_P_eq y0 y1 er H R) h)

/-! f121: switchyard/code.put[switchyard/api.Event]$1 -/
noncomputable def f121_c : Code := Try.f121.body.getD .skip
def f121_N_B (y0 : Option Addr) (y1 : Option Addr) (H : AH) (R : AH → Prop) : Prop :=
 R H
theorem f121_N_eq (y0 : Option Addr) (y1 : Option Addr) (H : AH) (R : AH → Prop) : awpF Try.prog (codeAt f121_c [1]) (C0 R) [(.pointer y0), (.pointer y1), Value.nilIface, undef, undef, Value.nilIface, undef, undef, undef, undef, undef, undef, undef, undef, undef, undef, undef, undef] H = f121_N_B y0 y1 H R := by kernel_rfl
theorem f121_N (y0 : Option Addr) (y1 : Option Addr) (H : AH) (R : AH → Prop) (h : f121_N_B y0 y1 H R) : ADef Try.prog 121 ([(.pointer y0), (.pointer y1)] : List Value) none H R :=
  adef_ofF (id := 0) (o0 := opAt (codeAt f121_c [0]) 0) (o1 := opAt (codeAt f121_c [0]) 1) (t5 := 5) (t2 := 2) mixed Try.func121 (by kernel_rfl : Try.f121.body = some f121_c) (by kernel_rfl) (by kernel_rfl) (by kernel_rfl) (by kernel_rfl) (by kernel_rfl) (by kernel_rfl) (by kernel_rfl) (by kernel_rfl) (by kernel_rfl) (show 5 < 2 + (18 - 2) by decide) [(.pointer y0), (.pointer y1), Value.nilIface, undef, undef, Value.nilIface, undef, undef, undef, undef, undef, undef, undef, undef, undef, undef, undef, undef] (by kernel_rfl) (Eq.mpr (f121_N_eq y0 y1 H R) h)
def f121_P_B (y0 : Option Addr) (y1 : Option Addr) (er : Int) (H : AH) (R : AH → Prop) : Prop :=
 wNew [(.int .i64 0)] H fun i1 H2 =>
 wSt i1 0 [(.int .i64 er)] H2 fun H3 =>
 ldI .i64 i1 0 H3 fun n4 =>
 wPt y0 fun i6 k7 =>
 wSt i6 k7 [(.string ({ data := #[] }))] H3 fun H5 =>
 wPin i1 0 [(.int .i64 n4)] H5 <|
 wPt y1 fun i9 k10 =>
 wSt i9 k10 [(.int .i64 n4)] H5 fun H8 =>
 R H8
theorem f121_P_eq (y0 : Option Addr) (y1 : Option Addr) (er : Int) (H : AH) (R : AH → Prop) : awpF Try.prog (codeAt f121_c [1]) (C0 R) [(.pointer y0), (.pointer y1), (.iface 157 (.agg #[(.int .i64 er)])), undef, undef, (.iface 157 (.agg #[(.int .i64 er)])), undef, undef, undef, undef, undef, undef, undef, undef, undef, undef, undef, undef] H = f121_P_B y0 y1 er H R := by kernel_rfl
theorem f121_P (y0 : Option Addr) (y1 : Option Addr) (er : Int) (H : AH) (R : AH → Prop) (h : f121_P_B y0 y1 er H R) : ADef Try.prog 121 ([(.pointer y0), (.pointer y1)] : List Value) (some (.iface 157 (.agg #[.int .i64 er]))) H R :=
  adef_ofF (id := 0) (o0 := opAt (codeAt f121_c [0]) 0) (o1 := opAt (codeAt f121_c [0]) 1) (t5 := 5) (t2 := 2) mixed Try.func121 (by kernel_rfl : Try.f121.body = some f121_c) (by kernel_rfl) (by kernel_rfl) (by kernel_rfl) (by kernel_rfl) (by kernel_rfl) (by kernel_rfl) (by kernel_rfl) (by kernel_rfl) (by kernel_rfl) (show 5 < 2 + (18 - 2) by decide) [(.pointer y0), (.pointer y1), (.iface 157 (.agg #[(.int .i64 er)])), undef, undef, (.iface 157 (.agg #[(.int .i64 er)])), undef, undef, undef, undef, undef, undef, undef, undef, undef, undef, undef, undef] (by kernel_rfl) (Eq.mpr (f121_P_eq y0 y1 er H R) h)

/-! f122: switchyard/code.put[switchyard/api.Sub]$1 -/
noncomputable def f122_c : Code := Try.f122.body.getD .skip
def f122_N_B (y0 : Option Addr) (y1 : Option Addr) (H : AH) (R : AH → Prop) : Prop :=
 R H
theorem f122_N_eq (y0 : Option Addr) (y1 : Option Addr) (H : AH) (R : AH → Prop) : awpF Try.prog (codeAt f122_c [1]) (C0 R) [(.pointer y0), (.pointer y1), Value.nilIface, undef, undef, Value.nilIface, undef, undef, undef, undef, undef, undef, undef, undef, undef, undef, undef, undef] H = f122_N_B y0 y1 H R := by kernel_rfl
theorem f122_N (y0 : Option Addr) (y1 : Option Addr) (H : AH) (R : AH → Prop) (h : f122_N_B y0 y1 H R) : ADef Try.prog 122 ([(.pointer y0), (.pointer y1)] : List Value) none H R :=
  adef_ofF (id := 0) (o0 := opAt (codeAt f122_c [0]) 0) (o1 := opAt (codeAt f122_c [0]) 1) (t5 := 5) (t2 := 2) mixed Try.func122 (by kernel_rfl : Try.f122.body = some f122_c) (by kernel_rfl) (by kernel_rfl) (by kernel_rfl) (by kernel_rfl) (by kernel_rfl) (by kernel_rfl) (by kernel_rfl) (by kernel_rfl) (by kernel_rfl) (show 5 < 2 + (18 - 2) by decide) [(.pointer y0), (.pointer y1), Value.nilIface, undef, undef, Value.nilIface, undef, undef, undef, undef, undef, undef, undef, undef, undef, undef, undef, undef] (by kernel_rfl) (Eq.mpr (f122_N_eq y0 y1 H R) h)
def f122_P_B (y0 : Option Addr) (y1 : Option Addr) (er : Int) (H : AH) (R : AH → Prop) : Prop :=
 wNew [(.int .i64 0)] H fun i1 H2 =>
 wSt i1 0 [(.int .i64 er)] H2 fun H3 =>
 ldI .i64 i1 0 H3 fun n4 =>
 wPt y0 fun i6 k7 =>
 wSt i6 k7 [(.string ({ data := #[] }))] H3 fun H5 =>
 wPin i1 0 [(.int .i64 n4)] H5 <|
 wPt y1 fun i9 k10 =>
 wSt i9 k10 [(.int .i64 n4)] H5 fun H8 =>
 R H8
theorem f122_P_eq (y0 : Option Addr) (y1 : Option Addr) (er : Int) (H : AH) (R : AH → Prop) : awpF Try.prog (codeAt f122_c [1]) (C0 R) [(.pointer y0), (.pointer y1), (.iface 157 (.agg #[(.int .i64 er)])), undef, undef, (.iface 157 (.agg #[(.int .i64 er)])), undef, undef, undef, undef, undef, undef, undef, undef, undef, undef, undef, undef] H = f122_P_B y0 y1 er H R := by kernel_rfl
theorem f122_P (y0 : Option Addr) (y1 : Option Addr) (er : Int) (H : AH) (R : AH → Prop) (h : f122_P_B y0 y1 er H R) : ADef Try.prog 122 ([(.pointer y0), (.pointer y1)] : List Value) (some (.iface 157 (.agg #[.int .i64 er]))) H R :=
  adef_ofF (id := 0) (o0 := opAt (codeAt f122_c [0]) 0) (o1 := opAt (codeAt f122_c [0]) 1) (t5 := 5) (t2 := 2) mixed Try.func122 (by kernel_rfl : Try.f122.body = some f122_c) (by kernel_rfl) (by kernel_rfl) (by kernel_rfl) (by kernel_rfl) (by kernel_rfl) (by kernel_rfl) (by kernel_rfl) (by kernel_rfl) (by kernel_rfl) (show 5 < 2 + (18 - 2) by decide) [(.pointer y0), (.pointer y1), (.iface 157 (.agg #[(.int .i64 er)])), undef, undef, (.iface 157 (.agg #[(.int .i64 er)])), undef, undef, undef, undef, undef, undef, undef, undef, undef, undef, undef, undef] (by kernel_rfl) (Eq.mpr (f122_P_eq y0 y1 er H R) h)

end Go.Proofs.Ytfghglacfjncmaa
