/- Bodies of functions as nested rules: printed by genw.py,a program of this claim. -/
import Derived.Test.YtjhbbbcelnlnpaaGreatDoorWNao
namespace Go.Proofs.YtjhbbbcelnlnpaaGreatDoor
open Go.RowKit
set_option maxRecDepth 100000

noncomputable def f48_c:Code:=Tryz.f48.body.getD .skip
noncomputable def f48_X0 (R:AEnd→AH→Prop):AExit→List Value→AH→Prop:=thenF (fun tm H=>hold (awpF Tryz.prog (codeAt f48_c [1,1]) (aPost Tryz.prog Tryz.f48 R) tm H)) (aPost Tryz.prog Tryz.f48 R)
def f48_J0 (R:AEnd→AH→Prop) (tm:List Value) (H:AH):Prop:=hold (awpF Tryz.prog (codeAt f48_c [1,0,1]) ((f48_X0 R)) tm H)
def f48_J1 (R:AEnd→AH→Prop) (tm:List Value) (H:AH):Prop:=hold (awpF Tryz.prog (codeAt f48_c [1,1]) ((aPost Tryz.prog Tryz.f48 R)) tm H)
def f48_J1_B (Aa:Int) (H:AH) (R:AEnd→AH→Prop):Prop :=
 R (.ret (.int .i64 (IntKind.i64.wrap (Int.tdiv (IntKind.i64.wrap ((IntKind.i64.wrap ((IntKind.i64.wrap (Aa + 21)) + 64)) - 1)) 64)))) H
theorem f48_J1_eq (Aa:Int) (Ab Ac Ad Ae Af Aj Ak Ao Ap Aq Ar As At:Value) (H:AH) (R:AEnd→AH→Prop):f48_J1 R [(.int .i64 Aa),Ab,Ac,Ad,Ae,Af,Aj,Ak,Ao,Ap,Aq,Ar,As,At] H=f48_J1_B Aa H R:=by kernel_rfl
def f48_J0_B (Aa:Int) (Ab Ac Ad Ae Af Aj Ak:Value) (Ao:Bool) (Ap Aq Ar As At:Value) (H:AH) (R:AEnd→AH→Prop):Prop :=
 wIf Ao
 (R (.ret (.int .i64 0)) H)
 (f48_J1 R [(.int .i64 Aa),Ab,Ac,Ad,Ae,Af,Aj,Ak,(.bool false),Ap,Aq,Ar,As,At] H)
theorem f48_J0_eq (Aa:Int) (Ab Ac Ad Ae Af Aj Ak:Value) (Ao:Bool) (Ap Aq Ar As At:Value) (H:AH) (R:AEnd→AH→Prop):f48_J0 R [(.int .i64 Aa),Ab,Ac,Ad,Ae,Af,Aj,Ak,(.bool Ao),Ap,Aq,Ar,As,At] H=f48_J0_B Aa Ab Ac Ad Ae Af Aj Ak Ao Ap Aq Ar As At H R:=by kernel_rfl
def f48_B (x0:Int) (H:AH) (R:AEnd→AH→Prop):Prop :=
 wIf (decide (x0<0))
 (f48_J0 R [(.int .i64 x0),undef,(.int .i64 0),(.int .i64 x0),(.bool (decide (x0<0))),(.bool true),undef,undef,(.bool true),undef,undef,undef,undef,undef] H)
 (f48_J0 R [(.int .i64 x0),undef,(.int .i64 0),(.int .i64 x0),(.bool (decide (x0<0))),(.bool false),(.int .i64 x0),(.bool (decide (x0 > 1048576))),(.bool (decide (x0 > 1048576))),undef,undef,undef,undef,undef] H)
theorem f48_eq (x0:Int) (H:AH) (R:AEnd→AH→Prop):awpF Tryz.prog f48_c (aPost Tryz.prog Tryz.f48 R) (([(.int .i64 x0)]:List Value) ++ List.replicate (Tryz.f48.ntmps - (([(.int .i64 x0)]:List Value)).length) undef) H=f48_B x0 H R:=by kernel_rfl
theorem f48_call (x0:Int) (H:AH) (R:AEnd→AH→Prop) (h:f48_B x0 H R):ACall Tryz.prog 48 ([(.int .i64 x0)]:List Value) H R :=
 acall_of mixed Tryz.func48 (by kernel_rfl:Tryz.f48.body=some f48_c) (by kernel_rfl) (by kernel_rfl) (awp_of (Eq.mpr (f48_eq x0 H R) h))

noncomputable def f49_c:Code:=Tryz.f49.body.getD .skip
def f49_J0 (R:AEnd→AH→Prop) (tm:List Value) (H:AH):Prop:=hold (awpF Tryz.prog (codeAt f49_c [1,1,1]) ((aPost Tryz.prog Tryz.f49 R)) tm H)
def f49_J0_B (Ae:ByteArray) (H:AH) (R:AEnd→AH→Prop):Prop :=
 wCall Tryz.prog 77 [(.string ({ data:=#[0] })),(.int .i64 (IntKind.i64.wrap (60 - (Ae.size:Int))))] H (fun r1 H2 =>
 opS r1 fun t5 =>
 wCat Ae t5 fun t6 =>
 wCall Tryz.prog 78 [(.string t6)] H2 (fun r7 H8 =>
 opI .u32 r7 fun n11 =>
 wCall Tryz.prog 76 [(.int .u64 (IntKind.u64.wrap n11)),(.int .i64 4)] H8 (fun r12 H13 =>
 opS r12 fun t16 =>
 wCat t16 t6 fun t17 =>
 R (.ret (.tuple #[(.string t17),(.int .i64 0)])) H13) (fun v H=>R (.panic v) H)) (fun v H=>R (.panic v) H)) (fun v H=>R (.panic v) H)
theorem f49_J0_eq (Aa Ab Ac Ad:Value) (Ae:ByteArray) (Af Aj Ak Ao Ap Aq Ar As At Au Av Aw Ax Ay Az A0 A1 A2 A3 A4 A5 A6 A7 A8 A9 AA AB AC AD AE AF AG AI AJ:Value) (H:AH) (R:AEnd→AH→Prop):f49_J0 R [Aa,Ab,Ac,Ad,(.string Ae),Af,Aj,Ak,Ao,Ap,Aq,Ar,As,At,Au,Av,Aw,Ax,Ay,Az,A0,A1,A2,A3,A4,A5,A6,A7,A8,A9,AA,AB,AC,AD,AE,AF,AG,AI,AJ] H=f49_J0_B Ae H R:=by kernel_rfl
def f49_B (x0_0 x0_1 x0_2 x0_3:Int) (H:AH) (R:AEnd→AH→Prop):Prop :=
 wNew [(.int .u32 x0_0),(.int .u32 x0_1),(.int .u32 x0_2),(.int .u64 x0_3)] H fun i18 H19 =>
 ldI .u32 i18 0 H19 fun n20 =>
 ldI .u32 i18 1 H19 fun n21 =>
 ldI .u32 i18 2 H19 fun n22 =>
 ldI .u64 i18 3 H19 fun n23 =>
 wCall Tryz.prog 75 [(.agg #[(.int .u32 n20),(.int .u32 n21),(.int .u32 n22),(.int .u64 n23)])] H19 (fun r24 H25 =>
 opB r24 fun b28 =>
 wIf (!b28)
 (R (.ret (.tuple #[(.string ({ data:=#[] })),(.int .i64 2)])) H25)
 (ldI .u32 i18 0 H25 fun n29 =>
 ldI .u32 i18 1 H25 fun n30 =>
 ldI .u32 i18 2 H25 fun n31 =>
 ldI .u64 i18 3 H25 fun n32 =>
 wCall Tryz.prog 76 [(.int .u64 (IntKind.u64.wrap n29)),(.int .i64 4)] H25 (fun r33 H34 =>
 opS r33 fun t37 =>
 wPin i18 3 [(.int .u64 n32)] H34 <|
 wPin i18 2 [(.int .u32 n31)] H34 <|
 wPin i18 1 [(.int .u32 n30)] H34 <|
 wPin i18 0 [(.int .u32 n29)] H34 <|
 wCat ({ data:=#[72] }) t37 fun t38 =>
 wCall Tryz.prog 76 [(.int .u64 (IntKind.u64.wrap n30)),(.int .i64 4)] H34 (fun r39 H40 =>
 opS r39 fun t43 =>
 wPin i18 3 [(.int .u64 n32)] H40 <|
 wPin i18 2 [(.int .u32 n31)] H40 <|
 wPin i18 1 [(.int .u32 n30)] H40 <|
 wPin i18 0 [(.int .u32 n29)] H40 <|
 wCat t38 t43 fun t44 =>
 wCall Tryz.prog 76 [(.int .u64 (IntKind.u64.wrap n31)),(.int .i64 4)] H40 (fun r45 H46 =>
 opS r45 fun t49 =>
 wPin i18 3 [(.int .u64 n32)] H46 <|
 wPin i18 2 [(.int .u32 n31)] H46 <|
 wPin i18 1 [(.int .u32 n30)] H46 <|
 wPin i18 0 [(.int .u32 n29)] H46 <|
 wCat t44 t49 fun t50 =>
 wCall Tryz.prog 76 [(.int .u64 n32),(.int .i64 8)] H46 (fun r51 H52 =>
 opS r51 fun t55 =>
 wPin i18 2 [(.int .u32 n31)] H52 <|
 wPin i18 1 [(.int .u32 n30)] H52 <|
 wPin i18 0 [(.int .u32 n29)] H52 <|
 wCat t50 t55 fun t56 =>
 f49_J0 R [(.agg #[(.int .u32 x0_0),(.int .u32 x0_1),(.int .u32 x0_2),(.int .u64 x0_3)]),(.pointer (some ⟨i18,0,none⟩)),(.string ({ data:=#[] })),(.int .i64 0),(.string t56),(.agg #[(.int .u32 n20),(.int .u32 n21),(.int .u32 n22),(.int .u64 n23)]),(.bool b28),(.bool false),(.pointer (some ⟨i18,0,none⟩)),(.int .u32 n29),(.int .u64 (IntKind.u64.wrap n29)),(.string t37),(.string t38),(.pointer (some ⟨i18,1,none⟩)),(.int .u32 n30),(.int .u64 (IntKind.u64.wrap n30)),(.string t43),(.string t44),(.pointer (some ⟨i18,2,none⟩)),(.int .u32 n31),(.int .u64 (IntKind.u64.wrap n31)),(.string t49),(.string t50),(.pointer (some ⟨i18,3,none⟩)),(.int .u64 n32),(.string t55),(.string t56),undef,undef,undef,undef,undef,undef,undef,undef,undef,undef,undef,undef] H52) (fun v H=>R (.panic v) H)) (fun v H=>R (.panic v) H)) (fun v H=>R (.panic v) H)) (fun v H=>R (.panic v) H))) (fun v H=>R (.panic v) H)
theorem f49_eq (x0_0 x0_1 x0_2 x0_3:Int) (H:AH) (R:AEnd→AH→Prop):awpF Tryz.prog f49_c (aPost Tryz.prog Tryz.f49 R) (([(.agg #[(.int .u32 x0_0),(.int .u32 x0_1),(.int .u32 x0_2),(.int .u64 x0_3)])]:List Value) ++ List.replicate (Tryz.f49.ntmps - (([(.agg #[(.int .u32 x0_0),(.int .u32 x0_1),(.int .u32 x0_2),(.int .u64 x0_3)])]:List Value)).length) undef) H=f49_B x0_0 x0_1 x0_2 x0_3 H R:=by kernel_rfl
theorem f49_call (x0_0 x0_1 x0_2 x0_3:Int) (H:AH) (R:AEnd→AH→Prop) (h:f49_B x0_0 x0_1 x0_2 x0_3 H R):ACall Tryz.prog 49 ([(.agg #[(.int .u32 x0_0),(.int .u32 x0_1),(.int .u32 x0_2),(.int .u64 x0_3)])]:List Value) H R :=
 acall_of mixed Tryz.func49 (by kernel_rfl:Tryz.f49.body=some f49_c) (by kernel_rfl) (by kernel_rfl) (awp_of (Eq.mpr (f49_eq x0_0 x0_1 x0_2 x0_3 H R) h))

noncomputable def f50_c:Code:=Tryz.f50.body.getD .skip
noncomputable def f50_X0 (R:AEnd→AH→Prop):AExit→List Value→AH→Prop:=thenF (fun tm H=>hold (awpF Tryz.prog (codeAt f50_c [1,1]) (aPost Tryz.prog Tryz.f50 R) tm H)) (aPost Tryz.prog Tryz.f50 R)
noncomputable def f50_X1 (R:AEnd→AH→Prop):AExit→List Value→AH→Prop:=inBlockF 0 (f50_X0 R)
def f50_J0 (R:AEnd→AH→Prop) (tm:List Value) (H:AH):Prop:=hold (awpF Tryz.prog (codeAt f50_c [1,0,0,1,1,1]) ((f50_X1 R)) tm H)
def f50_J1 (R:AEnd→AH→Prop) (tm:List Value) (H:AH):Prop:=hold (awpF Tryz.prog (codeAt f50_c [1,1]) ((aPost Tryz.prog Tryz.f50 R)) tm H)
def f50_J2 (R:AEnd→AH→Prop) (tm:List Value) (H:AH):Prop:=hold (awpF Tryz.prog (codeAt f50_c [1,1,1]) ((aPost Tryz.prog Tryz.f50 R)) tm H)
def f50_J2_B (Ae:ByteArray) (H:AH) (R:AEnd→AH→Prop):Prop :=
 wCall Tryz.prog 78 [(.string Ae)] H (fun r1 H2 =>
 opI .u32 r1 fun n5 =>
 wCall Tryz.prog 76 [(.int .u64 (IntKind.u64.wrap n5)),(.int .i64 4)] H2 (fun r6 H7 =>
 opS r6 fun t10 =>
 wCat t10 Ae fun t11 =>
 wCall Tryz.prog 79 [(.string t11)] H7 (fun r12 H13 =>
 opS r12 fun t16 =>
 R (.ret (.tuple #[(.string t16),(.int .i64 0)])) H13) (fun v H=>R (.panic v) H)) (fun v H=>R (.panic v) H)) (fun v H=>R (.panic v) H)
theorem f50_J2_eq (Aa Ab Ac Ad:Value) (Ae:ByteArray) (Af Aj Ak Ao Ap Aq Ar As At Au Av Aw Ax Ay Az A0 A1 A2 A3 A4 A5 A6 A7 A8 A9 AA AB AC AD AE AF AG AI AJ AK AL AM AN AO AP AQ AR AS:Value) (H:AH) (R:AEnd→AH→Prop):f50_J2 R [Aa,Ab,Ac,Ad,(.string Ae),Af,Aj,Ak,Ao,Ap,Aq,Ar,As,At,Au,Av,Aw,Ax,Ay,Az,A0,A1,A2,A3,A4,A5,A6,A7,A8,A9,AA,AB,AC,AD,AE,AF,AG,AI,AJ,AK,AL,AM,AN,AO,AP,AQ,AR,AS] H=f50_J2_B Ae H R:=by kernel_rfl
def f50_J1_B (Aa:Value) (Ab:Option Addr) (Ac Ad Af Aj Ak Ao Ap Aq Ar As At Au Av Aw Ax Ay AM AN AO AP AQ AR AS:Value) (H:AH) (R:AEnd→AH→Prop):Prop :=
 wPt Ab fun i17 k18 =>
 wPt Ab fun i19 k20 =>
 wPt Ab fun i21 k22 =>
 wPt Ab fun i23 k24 =>
 wPt Ab fun i25 k26 =>
 ldI .u32 i17 k18 H fun n27 =>
 ldI .u64 i19 (k20 + 1) H fun n28 =>
 ldI .i64 i21 (k22 + 2) H fun n29 =>
 ldS i23 (k24 + 3) H fun t30 =>
 ldS i25 (k26 + 3) H fun t31 =>
 wCall Tryz.prog 76 [(.int .u64 (IntKind.u64.wrap n27)),(.int .i64 4)] H (fun r32 H33 =>
 opS r32 fun t36 =>
 wPin i25 (k26 + 3) [(.string t31)] H33 <|
 wPin i23 (k24 + 3) [(.string t30)] H33 <|
 wPin i21 (k22 + 2) [(.int .i64 n29)] H33 <|
 wPin i19 (k20 + 1) [(.int .u64 n28)] H33 <|
 wPin i17 k18 [(.int .u32 n27)] H33 <|
 wCall Tryz.prog 76 [(.int .u64 n28),(.int .i64 8)] H33 (fun r37 H38 =>
 opS r37 fun t41 =>
 wPin i25 (k26 + 3) [(.string t31)] H38 <|
 wPin i23 (k24 + 3) [(.string t30)] H38 <|
 wPin i21 (k22 + 2) [(.int .i64 n29)] H38 <|
 wPin i17 k18 [(.int .u32 n27)] H38 <|
 wCat t36 t41 fun t42 =>
 wCall Tryz.prog 76 [(.int .u64 (IntKind.u64.wrap n29)),(.int .i64 1)] H38 (fun r43 H44 =>
 opS r43 fun t47 =>
 wPin i25 (k26 + 3) [(.string t31)] H44 <|
 wPin i23 (k24 + 3) [(.string t30)] H44 <|
 wPin i21 (k22 + 2) [(.int .i64 n29)] H44 <|
 wPin i17 k18 [(.int .u32 n27)] H44 <|
 wCat t42 t47 fun t48 =>
 wCall Tryz.prog 76 [(.int .u64 (IntKind.u64.wrap (t30.size:Int))),(.int .i64 4)] H44 (fun r49 H50 =>
 opS r49 fun t53 =>
 wPin i25 (k26 + 3) [(.string t31)] H50 <|
 wPin i23 (k24 + 3) [(.string t30)] H50 <|
 wPin i21 (k22 + 2) [(.int .i64 n29)] H50 <|
 wPin i17 k18 [(.int .u32 n27)] H50 <|
 wCat t48 t53 fun t54 =>
 wCat t54 t31 fun t55 =>
 f50_J2 R [Aa,(.pointer Ab),Ac,Ad,(.string t55),Af,Aj,Ak,Ao,Ap,Aq,Ar,As,At,Au,Av,Aw,Ax,Ay,(.pointer (some ⟨i17,k18,none⟩)),(.int .u32 n27),(.int .u64 (IntKind.u64.wrap n27)),(.string t36),(.pointer (some ⟨i19,(k20 + 1),none⟩)),(.int .u64 n28),(.string t41),(.string t42),(.pointer (some ⟨i21,(k22 + 2),none⟩)),(.int .i64 n29),(.int .u64 (IntKind.u64.wrap n29)),(.string t47),(.string t48),(.pointer (some ⟨i23,(k24 + 3),none⟩)),(.string t30),(.int .i64 (t30.size:Int)),(.int .u64 (IntKind.u64.wrap (t30.size:Int))),(.string t53),(.string t54),(.pointer (some ⟨i25,(k26 + 3),none⟩)),(.string t31),(.string t55),AM,AN,AO,AP,AQ,AR,AS] H50) (fun v H=>R (.panic v) H)) (fun v H=>R (.panic v) H)) (fun v H=>R (.panic v) H)) (fun v H=>R (.panic v) H)
theorem f50_J1_eq (Aa:Value) (Ab:Option Addr) (Ac Ad Ae Af Aj Ak Ao Ap Aq Ar As At Au Av Aw Ax Ay Az A0 A1 A2 A3 A4 A5 A6 A7 A8 A9 AA AB AC AD AE AF AG AI AJ AK AL AM AN AO AP AQ AR AS:Value) (H:AH) (R:AEnd→AH→Prop):f50_J1 R [Aa,(.pointer Ab),Ac,Ad,Ae,Af,Aj,Ak,Ao,Ap,Aq,Ar,As,At,Au,Av,Aw,Ax,Ay,Az,A0,A1,A2,A3,A4,A5,A6,A7,A8,A9,AA,AB,AC,AD,AE,AF,AG,AI,AJ,AK,AL,AM,AN,AO,AP,AQ,AR,AS] H=f50_J1_B Aa Ab Ac Ad Af Aj Ak Ao Ap Aq Ar As At Au Av Aw Ax Ay AM AN AO AP AQ AR AS H R:=by kernel_rfl
def f50_J0_B (Aa:Value) (Ab:Option Addr) (Ac Ad Ae Af Aj Ak Ao Ap:Value) (Aq:Bool) (Ar As At Au Av Aw Ax Ay Az A0 A1 A2 A3 A4 A5 A6 A7 A8 A9 AA AB AC AD AE AF AG AI AJ AK AL AM AN AO AP AQ AR AS:Value) (H:AH) (R:AEnd→AH→Prop):Prop :=
 wIf Aq
 (R (.ret (.tuple #[(.string ({ data:=#[] })),(.int .i64 2)])) H)
 (f50_J1 R [Aa,(.pointer Ab),Ac,Ad,Ae,Af,Aj,Ak,Ao,Ap,(.bool false),Ar,As,At,Au,Av,Aw,Ax,Ay,Az,A0,A1,A2,A3,A4,A5,A6,A7,A8,A9,AA,AB,AC,AD,AE,AF,AG,AI,AJ,AK,AL,AM,AN,AO,AP,AQ,AR,AS] H)
theorem f50_J0_eq (Aa:Value) (Ab:Option Addr) (Ac Ad Ae Af Aj Ak Ao Ap:Value) (Aq:Bool) (Ar As At Au Av Aw Ax Ay Az A0 A1 A2 A3 A4 A5 A6 A7 A8 A9 AA AB AC AD AE AF AG AI AJ AK AL AM AN AO AP AQ AR AS:Value) (H:AH) (R:AEnd→AH→Prop):f50_J0 R [Aa,(.pointer Ab),Ac,Ad,Ae,Af,Aj,Ak,Ao,Ap,(.bool Aq),Ar,As,At,Au,Av,Aw,Ax,Ay,Az,A0,A1,A2,A3,A4,A5,A6,A7,A8,A9,AA,AB,AC,AD,AE,AF,AG,AI,AJ,AK,AL,AM,AN,AO,AP,AQ,AR,AS] H=f50_J0_B Aa Ab Ac Ad Ae Af Aj Ak Ao Ap Aq Ar As At Au Av Aw Ax Ay Az A0 A1 A2 A3 A4 A5 A6 A7 A8 A9 AA AB AC AD AE AF AG AI AJ AK AL AM AN AO AP AQ AR AS H R:=by kernel_rfl
def f50_B (x0_0 x0_1 x0_2:Int) (x0_3:ByteArray) (H:AH) (R:AEnd→AH→Prop):Prop :=
 wNew [(.int .u32 x0_0),(.int .u64 x0_1),(.int .i64 x0_2),(.string x0_3)] H fun i56 H57 =>
 ldS i56 3 H57 fun t58 =>
 wIf (decide ((t58.size:Int) > 1048576))
 (R (.ret (.tuple #[(.string ({ data:=#[] })),(.int .i64 5)])) H57)
 (ldI .i64 i56 2 H57 fun n59 =>
 wIf (decide (n59<0))
 (f50_J0 R [(.agg #[(.int .u32 x0_0),(.int .u64 x0_1),(.int .i64 x0_2),(.string x0_3)]),(.pointer (some ⟨i56,0,none⟩)),(.string ({ data:=#[] })),(.int .i64 0),undef,(.bool false),(.pointer (some ⟨i56,3,none⟩)),(.string t58),(.int .i64 (t58.size:Int)),(.bool (decide ((t58.size:Int) > 1048576))),(.bool true),(.pointer (some ⟨i56,2,none⟩)),(.int .i64 n59),(.bool (decide (n59<0))),(.bool true),undef,undef,undef,(.bool true),undef,undef,undef,undef,undef,undef,undef,undef,undef,undef,undef,undef,undef,undef,undef,undef,undef,undef,undef,undef,undef,undef,undef,undef,undef,undef,undef,undef,undef] H57)
 (ldI .i64 i56 2 H57 fun n60 =>
 f50_J0 R [(.agg #[(.int .u32 x0_0),(.int .u64 x0_1),(.int .i64 x0_2),(.string x0_3)]),(.pointer (some ⟨i56,0,none⟩)),(.string ({ data:=#[] })),(.int .i64 0),undef,(.bool false),(.pointer (some ⟨i56,3,none⟩)),(.string t58),(.int .i64 (t58.size:Int)),(.bool (decide ((t58.size:Int) > 1048576))),(.bool (decide (n60 > 255))),(.pointer (some ⟨i56,2,none⟩)),(.int .i64 n59),(.bool (decide (n59<0))),(.bool false),(.pointer (some ⟨i56,2,none⟩)),(.int .i64 n60),(.bool (decide (n60 > 255))),(.bool (decide (n60 > 255))),undef,undef,undef,undef,undef,undef,undef,undef,undef,undef,undef,undef,undef,undef,undef,undef,undef,undef,undef,undef,undef,undef,undef,undef,undef,undef,undef,undef,undef] H57))
theorem f50_eq (x0_0 x0_1 x0_2:Int) (x0_3:ByteArray) (H:AH) (R:AEnd→AH→Prop):awpF Tryz.prog f50_c (aPost Tryz.prog Tryz.f50 R) (([(.agg #[(.int .u32 x0_0),(.int .u64 x0_1),(.int .i64 x0_2),(.string x0_3)])]:List Value) ++ List.replicate (Tryz.f50.ntmps - (([(.agg #[(.int .u32 x0_0),(.int .u64 x0_1),(.int .i64 x0_2),(.string x0_3)])]:List Value)).length) undef) H=f50_B x0_0 x0_1 x0_2 x0_3 H R:=by kernel_rfl
theorem f50_call (x0_0 x0_1 x0_2:Int) (x0_3:ByteArray) (H:AH) (R:AEnd→AH→Prop) (h:f50_B x0_0 x0_1 x0_2 x0_3 H R):ACall Tryz.prog 50 ([(.agg #[(.int .u32 x0_0),(.int .u64 x0_1),(.int .i64 x0_2),(.string x0_3)])]:List Value) H R :=
 acall_of mixed Tryz.func50 (by kernel_rfl:Tryz.f50.body=some f50_c) (by kernel_rfl) (by kernel_rfl) (awp_of (Eq.mpr (f50_eq x0_0 x0_1 x0_2 x0_3 H R) h))

noncomputable def f63_c:Code:=Tryz.f63.body.getD .skip
noncomputable def f63_X0 (R:AEnd→AH→Prop):AExit→List Value→AH→Prop:=thenF (fun tm H=>hold (awpF Tryz.prog (codeAt f63_c [1,1]) (aPost Tryz.prog Tryz.f63 R) tm H)) (aPost Tryz.prog Tryz.f63 R)
def f63_J0 (R:AEnd→AH→Prop) (tm:List Value) (H:AH):Prop:=hold (awpF Tryz.prog (codeAt f63_c [1,0,1]) ((f63_X0 R)) tm H)
def f63_J1 (R:AEnd→AH→Prop) (tm:List Value) (H:AH):Prop:=hold (awpF Tryz.prog (codeAt f63_c [1,1]) ((aPost Tryz.prog Tryz.f63 R)) tm H)
def f63_J2 (R:AEnd→AH→Prop) (tm:List Value) (H:AH):Prop:=hold (awpF Tryz.prog (codeAt f63_c [1,1,1]) ((aPost Tryz.prog Tryz.f63 R)) tm H)
def f63_J2_B (Ac Ae:Option Addr) (H:AH) (R:AEnd→AH→Prop):Prop :=
 wPt Ae fun i1 k2 =>
 ldI .u32 i1 k2 H fun n3 =>
 ldI .u32 i1 (k2 + 1) H fun n4 =>
 ldI .u32 i1 (k2 + 2) H fun n5 =>
 ldI .u64 i1 (k2 + 3) H fun n6 =>
 wCall Tryz.prog 75 [(.agg #[(.int .u32 n3),(.int .u32 n4),(.int .u32 n5),(.int .u64 n6)])] H (fun r7 H8 =>
 opB r7 fun b11 =>
 wIf (!b11)
 (wPt Ac fun i13 k14 =>
 wSt i13 k14 [(.int .u32 0),(.int .u32 0),(.int .u32 0),(.int .u64 0)] H8 fun H12 =>
 wPt Ac fun i15 k16 =>
 ldI .u32 i15 k16 H12 fun n17 =>
 ldI .u32 i15 (k16 + 1) H12 fun n18 =>
 ldI .u32 i15 (k16 + 2) H12 fun n19 =>
 ldI .u64 i15 (k16 + 3) H12 fun n20 =>
 R (.ret (.tuple #[(.agg #[(.int .u32 n17),(.int .u32 n18),(.int .u32 n19),(.int .u64 n20)]),(.bool false)])) H12)
 (wPt Ae fun i21 k22 =>
 ldI .u32 i21 k22 H8 fun n23 =>
 ldI .u32 i21 (k22 + 1) H8 fun n24 =>
 ldI .u32 i21 (k22 + 2) H8 fun n25 =>
 ldI .u64 i21 (k22 + 3) H8 fun n26 =>
 wPt Ac fun i28 k29 =>
 wSt i28 k29 [(.int .u32 n23),(.int .u32 n24),(.int .u32 n25),(.int .u64 n26)] H8 fun H27 =>
 wPt Ac fun i30 k31 =>
 ldI .u32 i30 k31 H27 fun n32 =>
 ldI .u32 i30 (k31 + 1) H27 fun n33 =>
 ldI .u32 i30 (k31 + 2) H27 fun n34 =>
 ldI .u64 i30 (k31 + 3) H27 fun n35 =>
 R (.ret (.tuple #[(.agg #[(.int .u32 n32),(.int .u32 n33),(.int .u32 n34),(.int .u64 n35)]),(.bool true)])) H27)) (fun v H=>R (.panic v) H)
theorem f63_J2_eq (Aa Ab:Value) (Ac:Option Addr) (Ad:Value) (Ae:Option Addr) (Af Aj Ak Ao Ap Aq Ar As At Au Av Aw Ax Ay Az A0 A1 A2 A3 A4 A5 A6 A7 A8 A9 AA AB AC AD AE AF AG AI AJ AK AL AM AN AO AP AQ AR AS AT AU AV:Value) (H:AH) (R:AEnd→AH→Prop):f63_J2 R [Aa,Ab,(.pointer Ac),Ad,(.pointer Ae),Af,Aj,Ak,Ao,Ap,Aq,Ar,As,At,Au,Av,Aw,Ax,Ay,Az,A0,A1,A2,A3,A4,A5,A6,A7,A8,A9,AA,AB,AC,AD,AE,AF,AG,AI,AJ,AK,AL,AM,AN,AO,AP,AQ,AR,AS,AT,AU,AV] H=f63_J2_B Ac Ae H R:=by kernel_rfl
def f63_J1_B (Aa:ByteArray) (Ab:Value) (Ac:Option Addr) (Ad Af Aj Ak Ao Ap Aq Ar As At Au Av Aw Ax Ay Az A0 A1 A2 A3 A4 A5 A6 A7 A8 A9 AR AS AT AU AV:Value) (H:AH) (R:AEnd→AH→Prop):Prop :=
 wSlS Aa 5 9 fun t36 =>
 wSlS Aa 9 13 fun t37 =>
 wSlS Aa 13 17 fun t38 =>
 wSlS Aa 17 25 fun t39 =>
 (wCall Tryz.prog 87 [(.string t36)] H (fun r40 H41 =>
 opI .u64 r40 fun n44 =>
 (wCall Tryz.prog 87 [(.string t37)] H41 (fun r45 H46 =>
 opI .u64 r45 fun n49 =>
 (wCall Tryz.prog 87 [(.string t38)] H46 (fun r50 H51 =>
 opI .u64 r50 fun n54 =>
 (wCall Tryz.prog 87 [(.string t39)] H51 (fun r55 H56 =>
 opI .u64 r55 fun n59 =>
 wNew [(.int .u32 0),(.int .u32 0),(.int .u32 0),(.int .u64 0)] H56 fun i60 H61 =>
 wSt i60 0 [(.int .u32 (IntKind.u32.wrap n44)),(.int .u32 (IntKind.u32.wrap n49)),(.int .u32 (IntKind.u32.wrap n54)),(.int .u64 n59)] H61 fun H62 =>
 f63_J2 R [(.string Aa),Ab,(.pointer Ac),Ad,(.pointer (some ⟨i60,0,none⟩)),Af,Aj,Ak,Ao,Ap,Aq,Ar,As,At,Au,Av,Aw,Ax,Ay,Az,A0,A1,A2,A3,A4,A5,A6,A7,A8,A9,(.string Aa),(.string t36),(.int .u64 n44),(.int .u32 (IntKind.u32.wrap n44)),(.string Aa),(.string t37),(.int .u64 n49),(.int .u32 (IntKind.u32.wrap n49)),(.string Aa),(.string t38),(.int .u64 n54),(.int .u32 (IntKind.u32.wrap n54)),(.string Aa),(.string t39),(.int .u64 n59),(.agg #[(.int .u32 (IntKind.u32.wrap n44)),(.int .u32 (IntKind.u32.wrap n49)),(.int .u32 (IntKind.u32.wrap n54)),(.int .u64 n59)]),AR,AS,AT,AU,AV] H62) (fun v H=>R (.panic v) H)) ∧
 (wNew [(.int .u32 0),(.int .u32 0),(.int .u32 0),(.int .u64 0)] H51 fun i63 H64 =>
 wCall Tryz.prog 87 [(.string t39)] H64 (fun r65 H66 =>
 opI .u64 r65 fun n69 =>
 wSt i63 0 [(.int .u32 (IntKind.u32.wrap n44)),(.int .u32 (IntKind.u32.wrap n49)),(.int .u32 (IntKind.u32.wrap n54)),(.int .u64 n69)] H66 fun H70 =>
 f63_J2 R [(.string Aa),Ab,(.pointer Ac),Ad,(.pointer (some ⟨i63,0,none⟩)),Af,Aj,Ak,Ao,Ap,Aq,Ar,As,At,Au,Av,Aw,Ax,Ay,Az,A0,A1,A2,A3,A4,A5,A6,A7,A8,A9,(.string Aa),(.string t36),(.int .u64 n44),(.int .u32 (IntKind.u32.wrap n44)),(.string Aa),(.string t37),(.int .u64 n49),(.int .u32 (IntKind.u32.wrap n49)),(.string Aa),(.string t38),(.int .u64 n54),(.int .u32 (IntKind.u32.wrap n54)),(.string Aa),(.string t39),(.int .u64 n69),(.agg #[(.int .u32 (IntKind.u32.wrap n44)),(.int .u32 (IntKind.u32.wrap n49)),(.int .u32 (IntKind.u32.wrap n54)),(.int .u64 n69)]),AR,AS,AT,AU,AV] H70) (fun v H=>R (.panic v) H))) (fun v H=>R (.panic v) H)) ∧
 (wNew [(.int .u32 0),(.int .u32 0),(.int .u32 0),(.int .u64 0)] H46 fun i71 H72 =>
 wCall Tryz.prog 87 [(.string t38)] H72 (fun r73 H74 =>
 opI .u64 r73 fun n77 =>
 wCall Tryz.prog 87 [(.string t39)] H74 (fun r78 H79 =>
 opI .u64 r78 fun n82 =>
 wSt i71 0 [(.int .u32 (IntKind.u32.wrap n44)),(.int .u32 (IntKind.u32.wrap n49)),(.int .u32 (IntKind.u32.wrap n77)),(.int .u64 n82)] H79 fun H83 =>
 f63_J2 R [(.string Aa),Ab,(.pointer Ac),Ad,(.pointer (some ⟨i71,0,none⟩)),Af,Aj,Ak,Ao,Ap,Aq,Ar,As,At,Au,Av,Aw,Ax,Ay,Az,A0,A1,A2,A3,A4,A5,A6,A7,A8,A9,(.string Aa),(.string t36),(.int .u64 n44),(.int .u32 (IntKind.u32.wrap n44)),(.string Aa),(.string t37),(.int .u64 n49),(.int .u32 (IntKind.u32.wrap n49)),(.string Aa),(.string t38),(.int .u64 n77),(.int .u32 (IntKind.u32.wrap n77)),(.string Aa),(.string t39),(.int .u64 n82),(.agg #[(.int .u32 (IntKind.u32.wrap n44)),(.int .u32 (IntKind.u32.wrap n49)),(.int .u32 (IntKind.u32.wrap n77)),(.int .u64 n82)]),AR,AS,AT,AU,AV] H83) (fun v H=>R (.panic v) H)) (fun v H=>R (.panic v) H))) (fun v H=>R (.panic v) H)) ∧
 (wNew [(.int .u32 0),(.int .u32 0),(.int .u32 0),(.int .u64 0)] H41 fun i84 H85 =>
 wCall Tryz.prog 87 [(.string t37)] H85 (fun r86 H87 =>
 opI .u64 r86 fun n90 =>
 wCall Tryz.prog 87 [(.string t38)] H87 (fun r91 H92 =>
 opI .u64 r91 fun n95 =>
 wCall Tryz.prog 87 [(.string t39)] H92 (fun r96 H97 =>
 opI .u64 r96 fun n100 =>
 wSt i84 0 [(.int .u32 (IntKind.u32.wrap n44)),(.int .u32 (IntKind.u32.wrap n90)),(.int .u32 (IntKind.u32.wrap n95)),(.int .u64 n100)] H97 fun H101 =>
 f63_J2 R [(.string Aa),Ab,(.pointer Ac),Ad,(.pointer (some ⟨i84,0,none⟩)),Af,Aj,Ak,Ao,Ap,Aq,Ar,As,At,Au,Av,Aw,Ax,Ay,Az,A0,A1,A2,A3,A4,A5,A6,A7,A8,A9,(.string Aa),(.string t36),(.int .u64 n44),(.int .u32 (IntKind.u32.wrap n44)),(.string Aa),(.string t37),(.int .u64 n90),(.int .u32 (IntKind.u32.wrap n90)),(.string Aa),(.string t38),(.int .u64 n95),(.int .u32 (IntKind.u32.wrap n95)),(.string Aa),(.string t39),(.int .u64 n100),(.agg #[(.int .u32 (IntKind.u32.wrap n44)),(.int .u32 (IntKind.u32.wrap n90)),(.int .u32 (IntKind.u32.wrap n95)),(.int .u64 n100)]),AR,AS,AT,AU,AV] H101) (fun v H=>R (.panic v) H)) (fun v H=>R (.panic v) H)) (fun v H=>R (.panic v) H))) (fun v H=>R (.panic v) H)) ∧
 (wNew [(.int .u32 0),(.int .u32 0),(.int .u32 0),(.int .u64 0)] H fun i102 H103 =>
 wCall Tryz.prog 87 [(.string t36)] H103 (fun r104 H105 =>
 opI .u64 r104 fun n108 =>
 wCall Tryz.prog 87 [(.string t37)] H105 (fun r109 H110 =>
 opI .u64 r109 fun n113 =>
 wCall Tryz.prog 87 [(.string t38)] H110 (fun r114 H115 =>
 opI .u64 r114 fun n118 =>
 wCall Tryz.prog 87 [(.string t39)] H115 (fun r119 H120 =>
 opI .u64 r119 fun n123 =>
 wSt i102 0 [(.int .u32 (IntKind.u32.wrap n108)),(.int .u32 (IntKind.u32.wrap n113)),(.int .u32 (IntKind.u32.wrap n118)),(.int .u64 n123)] H120 fun H124 =>
 f63_J2 R [(.string Aa),Ab,(.pointer Ac),Ad,(.pointer (some ⟨i102,0,none⟩)),Af,Aj,Ak,Ao,Ap,Aq,Ar,As,At,Au,Av,Aw,Ax,Ay,Az,A0,A1,A2,A3,A4,A5,A6,A7,A8,A9,(.string Aa),(.string t36),(.int .u64 n108),(.int .u32 (IntKind.u32.wrap n108)),(.string Aa),(.string t37),(.int .u64 n113),(.int .u32 (IntKind.u32.wrap n113)),(.string Aa),(.string t38),(.int .u64 n118),(.int .u32 (IntKind.u32.wrap n118)),(.string Aa),(.string t39),(.int .u64 n123),(.agg #[(.int .u32 (IntKind.u32.wrap n108)),(.int .u32 (IntKind.u32.wrap n113)),(.int .u32 (IntKind.u32.wrap n118)),(.int .u64 n123)]),AR,AS,AT,AU,AV] H124) (fun v H=>R (.panic v) H)) (fun v H=>R (.panic v) H)) (fun v H=>R (.panic v) H)) (fun v H=>R (.panic v) H))
theorem f63_J1_eq (Aa:ByteArray) (Ab:Value) (Ac:Option Addr) (Ad Ae Af Aj Ak Ao Ap Aq Ar As At Au Av Aw Ax Ay Az A0 A1 A2 A3 A4 A5 A6 A7 A8 A9 AA AB AC AD AE AF AG AI AJ AK AL AM AN AO AP AQ AR AS AT AU AV:Value) (H:AH) (R:AEnd→AH→Prop):f63_J1 R [(.string Aa),Ab,(.pointer Ac),Ad,Ae,Af,Aj,Ak,Ao,Ap,Aq,Ar,As,At,Au,Av,Aw,Ax,Ay,Az,A0,A1,A2,A3,A4,A5,A6,A7,A8,A9,AA,AB,AC,AD,AE,AF,AG,AI,AJ,AK,AL,AM,AN,AO,AP,AQ,AR,AS,AT,AU,AV] H=f63_J1_B Aa Ab Ac Ad Af Aj Ak Ao Ap Aq Ar As At Au Av Aw Ax Ay Az A0 A1 A2 A3 A4 A5 A6 A7 A8 A9 AR AS AT AU AV H R:=by kernel_rfl
def f63_J0_B (Aa:ByteArray) (Ab:Value) (Ac:Option Addr) (Ad Ae Af Aj Ak Ao Ap Aq Ar As At Au Av Aw Ax Ay Az A0 A1 A2 A3 A4 A5 A6 A7:Value) (A8:Bool) (A9 AA AB AC AD AE AF AG AI AJ AK AL AM AN AO AP AQ AR AS AT AU AV:Value) (H:AH) (R:AEnd→AH→Prop):Prop :=
 wIf A8
 (wPt Ac fun i126 k127 =>
 wSt i126 k127 [(.int .u32 0),(.int .u32 0),(.int .u32 0),(.int .u64 0)] H fun H125 =>
 wPt Ac fun i128 k129 =>
 ldI .u32 i128 k129 H125 fun n130 =>
 ldI .u32 i128 (k129 + 1) H125 fun n131 =>
 ldI .u32 i128 (k129 + 2) H125 fun n132 =>
 ldI .u64 i128 (k129 + 3) H125 fun n133 =>
 R (.ret (.tuple #[(.agg #[(.int .u32 n130),(.int .u32 n131),(.int .u32 n132),(.int .u64 n133)]),(.bool false)])) H125)
 (f63_J1 R [(.string Aa),Ab,(.pointer Ac),Ad,Ae,Af,Aj,Ak,Ao,Ap,Aq,Ar,As,At,Au,Av,Aw,Ax,Ay,Az,A0,A1,A2,A3,A4,A5,A6,A7,(.bool false),A9,AA,AB,AC,AD,AE,AF,AG,AI,AJ,AK,AL,AM,AN,AO,AP,AQ,AR,AS,AT,AU,AV] H)
theorem f63_J0_eq (Aa:ByteArray) (Ab:Value) (Ac:Option Addr) (Ad Ae Af Aj Ak Ao Ap Aq Ar As At Au Av Aw Ax Ay Az A0 A1 A2 A3 A4 A5 A6 A7:Value) (A8:Bool) (A9 AA AB AC AD AE AF AG AI AJ AK AL AM AN AO AP AQ AR AS AT AU AV:Value) (H:AH) (R:AEnd→AH→Prop):f63_J0 R [(.string Aa),Ab,(.pointer Ac),Ad,Ae,Af,Aj,Ak,Ao,Ap,Aq,Ar,As,At,Au,Av,Aw,Ax,Ay,Az,A0,A1,A2,A3,A4,A5,A6,A7,(.bool A8),A9,AA,AB,AC,AD,AE,AF,AG,AI,AJ,AK,AL,AM,AN,AO,AP,AQ,AR,AS,AT,AU,AV] H=f63_J0_B Aa Ab Ac Ad Ae Af Aj Ak Ao Ap Aq Ar As At Au Av Aw Ax Ay Az A0 A1 A2 A3 A4 A5 A6 A7 A8 A9 AA AB AC AD AE AF AG AI AJ AK AL AM AN AO AP AQ AR AS AT AU AV H R:=by kernel_rfl
def f63_B (x0:ByteArray) (H:AH) (R:AEnd→AH→Prop):Prop :=
 wNew [(.int .u32 0),(.int .u32 0),(.int .u32 0),(.int .u64 0)] H fun i134 H135 =>
 wIf (!decide ((x0.size:Int)=64))
 (f63_J0 R [(.string x0),undef,(.pointer (some ⟨i134,0,none⟩)),(.bool false),undef,(.string x0),(.int .i64 (x0.size:Int)),(.bool (!decide ((x0.size:Int)=64))),(.bool true),undef,undef,undef,(.bool true),(.bool true),undef,undef,undef,undef,undef,undef,undef,undef,(.bool true),(.bool true),undef,undef,undef,undef,(.bool true),undef,undef,undef,undef,undef,undef,undef,undef,undef,undef,undef,undef,undef,undef,undef,undef,undef,undef,undef,undef,undef,undef] H135)
 (wIxS x0 4 fun n136 =>
 wIf (!decide (n136=72))
 (f63_J0 R [(.string x0),undef,(.pointer (some ⟨i134,0,none⟩)),(.bool false),undef,(.string x0),(.int .i64 (x0.size:Int)),(.bool (!decide ((x0.size:Int)=64))),(.bool false),(.string x0),(.int .u8 n136),(.bool (!decide (n136=72))),(.bool (!decide (n136=72))),(.bool true),undef,undef,undef,undef,undef,undef,undef,undef,(.bool true),(.bool true),undef,undef,undef,undef,(.bool true),undef,undef,undef,undef,undef,undef,undef,undef,undef,undef,undef,undef,undef,undef,undef,undef,undef,undef,undef,undef,undef,undef] H135)
 (wSlS x0 4 x0.size fun t137 =>
 wSlS x0 0 4 fun t138 =>
 wCall Tryz.prog 78 [(.string t137)] H135 (fun r139 H140 =>
 opI .u32 r139 fun n143 =>
 wCall Tryz.prog 87 [(.string t138)] H140 (fun r144 H145 =>
 opI .u64 r144 fun n148 =>
 wIf (!decide ((IntKind.u64.wrap n143)=n148))
 (f63_J0 R [(.string x0),undef,(.pointer (some ⟨i134,0,none⟩)),(.bool false),undef,(.string x0),(.int .i64 (x0.size:Int)),(.bool (!decide ((x0.size:Int)=64))),(.bool false),(.string x0),(.int .u8 n136),(.bool (!decide (n136=72))),(.bool (!decide (n136=72))),(.bool false),(.string x0),(.string t137),(.int .u32 n143),(.int .u64 (IntKind.u64.wrap n143)),(.string x0),(.string t138),(.int .u64 n148),(.bool (!decide ((IntKind.u64.wrap n143)=n148))),(.bool (!decide ((IntKind.u64.wrap n143)=n148))),(.bool true),undef,undef,undef,undef,(.bool true),undef,undef,undef,undef,undef,undef,undef,undef,undef,undef,undef,undef,undef,undef,undef,undef,undef,undef,undef,undef,undef,undef] H145)
 (wSlS x0 25 x0.size fun t149 =>
 wCall Tryz.prog 88 [(.string t149),(.string ({ data:=#[0] }))] H145 (fun r150 H151 =>
 opS r150 fun t154 =>
 f63_J0 R [(.string x0),undef,(.pointer (some ⟨i134,0,none⟩)),(.bool false),undef,(.string x0),(.int .i64 (x0.size:Int)),(.bool (!decide ((x0.size:Int)=64))),(.bool false),(.string x0),(.int .u8 n136),(.bool (!decide (n136=72))),(.bool (!decide (n136=72))),(.bool false),(.string x0),(.string t137),(.int .u32 n143),(.int .u64 (IntKind.u64.wrap n143)),(.string x0),(.string t138),(.int .u64 n148),(.bool (!decide ((IntKind.u64.wrap n143)=n148))),(.bool (!decide ((IntKind.u64.wrap n143)=n148))),(.bool false),(.string x0),(.string t149),(.string t154),(.bool (!decide (t154=({ data:=#[] })))),(.bool (!decide (t154=({ data:=#[] })))),undef,undef,undef,undef,undef,undef,undef,undef,undef,undef,undef,undef,undef,undef,undef,undef,undef,undef,undef,undef,undef,undef] H151) (fun v H=>R (.panic v) H))) (fun v H=>R (.panic v) H)) (fun v H=>R (.panic v) H)))
theorem f63_eq (x0:ByteArray) (H:AH) (R:AEnd→AH→Prop):awpF Tryz.prog f63_c (aPost Tryz.prog Tryz.f63 R) (([(.string x0)]:List Value) ++ List.replicate (Tryz.f63.ntmps - (([(.string x0)]:List Value)).length) undef) H=f63_B x0 H R:=by kernel_rfl
theorem f63_call (x0:ByteArray) (H:AH) (R:AEnd→AH→Prop) (h:f63_B x0 H R):ACall Tryz.prog 63 ([(.string x0)]:List Value) H R :=
 acall_of mixed Tryz.func63 (by kernel_rfl:Tryz.f63.body=some f63_c) (by kernel_rfl) (by kernel_rfl) (awp_of (Eq.mpr (f63_eq x0 H R) h))

noncomputable def f75_c:Code:=Tryz.f75.body.getD .skip
def f75_B (x0_0 x0_1 x0_2 x0_3:Int) (H:AH) (R:AEnd→AH→Prop):Prop :=
 wNew [(.int .u32 x0_0),(.int .u32 x0_1),(.int .u32 x0_2),(.int .u64 x0_3)] H fun i1 H2 =>
 ldI .u32 i1 1 H2 fun n3 =>
 wIf (decide (n3 ≥ 1))
 (ldI .u32 i1 1 H2 fun n4 =>
 ldI .u32 i1 0 H2 fun n5 =>
 wIf (decide (n4≤n5))
 (ldI .u32 i1 2 H2 fun n6 =>
 ldI .u32 i1 0 H2 fun n7 =>
 R (.ret (.bool (decide (n6<n7)))) H2)
 (R (.ret (.bool false)) H2))
 (R (.ret (.bool false)) H2)
theorem f75_eq (x0_0 x0_1 x0_2 x0_3:Int) (H:AH) (R:AEnd→AH→Prop):awpF Tryz.prog f75_c (aPost Tryz.prog Tryz.f75 R) (([(.agg #[(.int .u32 x0_0),(.int .u32 x0_1),(.int .u32 x0_2),(.int .u64 x0_3)])]:List Value) ++ List.replicate (Tryz.f75.ntmps - (([(.agg #[(.int .u32 x0_0),(.int .u32 x0_1),(.int .u32 x0_2),(.int .u64 x0_3)])]:List Value)).length) undef) H=f75_B x0_0 x0_1 x0_2 x0_3 H R:=by kernel_rfl
theorem f75_call (x0_0 x0_1 x0_2 x0_3:Int) (H:AH) (R:AEnd→AH→Prop) (h:f75_B x0_0 x0_1 x0_2 x0_3 H R):ACall Tryz.prog 75 ([(.agg #[(.int .u32 x0_0),(.int .u32 x0_1),(.int .u32 x0_2),(.int .u64 x0_3)])]:List Value) H R :=
 acall_of mixed Tryz.func75 (by kernel_rfl:Tryz.f75.body=some f75_c) (by kernel_rfl) (by kernel_rfl) (awp_of (Eq.mpr (f75_eq x0_0 x0_1 x0_2 x0_3 H R) h))

noncomputable def f76_c:Code:=Tryz.f76.body.getD .skip
noncomputable def f76_X0 (R:AEnd→AH→Prop):AExit→List Value→AH→Prop:=thenF (fun tm H=>hold (awpF Tryz.prog (codeAt f76_c [1,1,1]) (aPost Tryz.prog Tryz.f76 R) tm H)) (aPost Tryz.prog Tryz.f76 R)
noncomputable def f76_X1 (R:AEnd→AH→Prop):AExit→List Value→AH→Prop:=inBlockF 0 (f76_X0 R)
noncomputable def f76_Q0 (R:AEnd→AH→Prop):AExit→List Value→AH→Prop:=(f76_X1 R)
def f76_L0 (R:AEnd→AH→Prop) (tm:List Value) (H:AH):Prop:=awpF Tryz.prog (codeAt f76_c [1,1,0,1,0]) (f76_Q0 R) tm H
def f76_J0 (R:AEnd→AH→Prop) (tm:List Value) (H:AH):Prop:=hold (awpF Tryz.prog (codeAt f76_c [1,1,1]) ((aPost Tryz.prog Tryz.f76 R)) tm H)
def f76_J0_B (Ag:Option Addr) (Ai Ah:Nat) (H:AH) (R:AEnd→AH→Prop):Prop :=
 wB2S Ag Ai Ah H fun t1 =>
 R (.ret (.string t1)) H
theorem f76_J0_eq (Aa Ab Ac Ad Ae:Value) (Ag:Option Addr) (Ai Ah:Nat) (Aj Ak Ao Ap Aq Ar As At Au Av Aw Ax Ay Az A0 A1 A2 A3 A4 A5 A6 A7:Value) (H:AH) (R:AEnd→AH→Prop):f76_J0 R [Aa,Ab,Ac,Ad,Ae,(.slice Ag Ai Ah),Aj,Ak,Ao,Ap,Aq,Ar,As,At,Au,Av,Aw,Ax,Ay,Az,A0,A1,A2,A3,A4,A5,A6,A7] H=f76_J0_B Ag Ai Ah H R:=by kernel_rfl
def f76_R0 (Aa Ab:Int) (Ac Ad Ae:Value) (Ag:Option Addr) (Ai Ah:Nat) (Aj Ak Ao Ap:Value) (Aq Ar:Int) (As At Au Av Aw Ax Ay Az A0 A1 A2 A3 A4 A5 A6 A7:Value) (H:AH) (K0:List Value→AH→Prop) (R:AEnd→AH→Prop):Prop :=
 wIf (decide (Ar<Aq))
 (wNn (IntKind.i64.wrap (8 * Ar))
 (wIx Ag Ai 1 (IntKind.i64.wrap ((IntKind.i64.wrap (Ab - 1)) - Ar)) fun i2 k3 =>
 wSt i2 k3 [(.int .u8 (IntKind.u8.wrap (Int.fdiv Aa (2 ^ (min (Int.toNat (IntKind.i64.wrap (8 * Ar))) IntKind.u64.bits)))))] H fun H4 =>
 K0 [(.int .u64 Aa),(.int .i64 Ab),Ac,Ad,Ae,(.slice Ag Ai Ah),(.int .i64 Ar),Ak,Ao,Ap,(.int .i64 Aq),(.int .i64 (IntKind.i64.wrap (Ar + 1))),(.bool true),(.int .i64 Ar),(.slice Ag Ai Ah),(.int .i64 Ab),(.int .i64 (IntKind.i64.wrap (Ab - 1))),(.int .i64 Ar),(.int .i64 (IntKind.i64.wrap ((IntKind.i64.wrap (Ab - 1)) - Ar))),(.int .u64 Aa),(.int .i64 Ar),(.int .i64 (IntKind.i64.wrap (8 * Ar))),(.int .u64 (Int.fdiv Aa (2 ^ (min (Int.toNat (IntKind.i64.wrap (8 * Ar))) IntKind.u64.bits)))),(.int .u8 (IntKind.u8.wrap (Int.fdiv Aa (2 ^ (min (Int.toNat (IntKind.i64.wrap (8 * Ar))) IntKind.u64.bits))))),(.pointer (some ⟨i2,k3,none⟩)),(.int .i64 (IntKind.i64.wrap (Ar + 1))),A6,A7] H4))
 (f76_J0 R [(.int .u64 Aa),(.int .i64 Ab),Ac,Ad,Ae,(.slice Ag Ai Ah),Aj,Ak,Ao,Ap,(.int .i64 Aq),(.int .i64 Ar),(.bool false),At,Au,Av,Aw,Ax,Ay,Az,A0,A1,A2,A3,A4,A5,A6,A7] H)
theorem f76_R0_eq (Aa Ab:Int) (Ac Ad Ae:Value) (Ag:Option Addr) (Ai Ah:Nat) (Aj Ak Ao Ap:Value) (Aq Ar:Int) (As At Au Av Aw Ax Ay Az A0 A1 A2 A3 A4 A5 A6 A7:Value) (H:AH) (K0:List Value→AH→Prop) (R:AEnd→AH→Prop):awpF Tryz.prog (codeAt f76_c [1,1,0,1,0,0]) (thenF K0 (f76_Q0 R)) [(.int .u64 Aa),(.int .i64 Ab),Ac,Ad,Ae,(.slice Ag Ai Ah),Aj,Ak,Ao,Ap,(.int .i64 Aq),(.int .i64 Ar),As,At,Au,Av,Aw,Ax,Ay,Az,A0,A1,A2,A3,A4,A5,A6,A7] H=f76_R0 Aa Ab Ac Ad Ae Ag Ai Ah Aj Ak Ao Ap Aq Ar As At Au Av Aw Ax Ay Az A0 A1 A2 A3 A4 A5 A6 A7 H K0 R:=by kernel_rfl
def f76_I0 (Aa Ab:Int) (Ac Ad Ae:Value) (Ag:Option Addr) (Ai Ah:Nat) (Ak Ao Ap:Value) (Aq:Int) (A6 A7:Value) (J:Nat→Int→AH→Prop) (n:Nat) (tm:List Value) (H:AH):Prop:=∃ (Aj:Value) (Ar:Int) (As At Au Av Aw Ax Ay Az A0 A1 A2 A3 A4 A5:Value),tm=[(.int .u64 Aa),(.int .i64 Ab),Ac,Ad,Ae,(.slice Ag Ai Ah),Aj,Ak,Ao,Ap,(.int .i64 Aq),(.int .i64 Ar),As,At,Au,Av,Aw,Ax,Ay,Az,A0,A1,A2,A3,A4,A5,A6,A7]∧J n Ar H
theorem f76_I0_mk {Aa Ab:Int} {Ac Ad Ae:Value} {Ag:Option Addr} {Ai Ah:Nat} {Aj Ak Ao Ap:Value} {Aq Ar:Int} {As At Au Av Aw Ax Ay Az A0 A1 A2 A3 A4 A5 A6 A7:Value} {J:Nat→Int→AH→Prop} {n:Nat} {H:AH} (h:J n Ar H):f76_I0 Aa Ab Ac Ad Ae Ag Ai Ah Ak Ao Ap Aq A6 A7 J n [(.int .u64 Aa),(.int .i64 Ab),Ac,Ad,Ae,(.slice Ag Ai Ah),Aj,Ak,Ao,Ap,(.int .i64 Aq),(.int .i64 Ar),As,At,Au,Av,Aw,Ax,Ay,Az,A0,A1,A2,A3,A4,A5,A6,A7] H:=⟨_,_,_,_,_,_,_,_,_,_,_,_,_,_,_,_,rfl,h⟩
theorem f76_L0_rule {Aa Ab:Int} {Ac Ad Ae:Value} {Ag:Option Addr} {Ai Ah:Nat} {Aj Ak Ao Ap:Value} {Aq Ar:Int} {As At Au Av Aw Ax Ay Az A0 A1 A2 A3 A4 A5 A6 A7:Value} {H:AH} {R:AEnd→AH→Prop} (J:Nat→Int→AH→Prop) (n:Nat) (h0:J n Ar H)
 (step:∀ (n:Nat) (Ar:Int) (H:AH),J n Ar H→∀ (Aj As At Au Av Aw Ax Ay Az A0 A1 A2 A3 A4 A5:Value),f76_R0 Aa Ab Ac Ad Ae Ag Ai Ah Aj Ak Ao Ap Aq Ar As At Au Av Aw Ax Ay Az A0 A1 A2 A3 A4 A5 A6 A7 H (fun tm H=>∃ m,m<n∧f76_I0 Aa Ab Ac Ad Ae Ag Ai Ah Ak Ao Ap Aq A6 A7 J m tm H) R):f76_L0 R [(.int .u64 Aa),(.int .i64 Ab),Ac,Ad,Ae,(.slice Ag Ai Ah),Aj,Ak,Ao,Ap,(.int .i64 Aq),(.int .i64 Ar),As,At,Au,Av,Aw,Ax,Ay,Az,A0,A1,A2,A3,A4,A5,A6,A7] H :=
 awpF_loop (f76_I0 Aa Ab Ac Ad Ae Ag Ai Ah Ak Ao Ap Aq A6 A7 J) n (f76_I0_mk h0) (by
 intro n tm H hh
 exact hh.elim fun Aj hh=>hh.elim fun Ar hh=>hh.elim fun As hh=>hh.elim fun At hh=>hh.elim fun Au hh=>hh.elim fun Av hh=>hh.elim fun Aw hh=>hh.elim fun Ax hh=>hh.elim fun Ay hh=>hh.elim fun Az hh=>hh.elim fun A0 hh=>hh.elim fun A1 hh=>hh.elim fun A2 hh=>hh.elim fun A3 hh=>hh.elim fun A4 hh=>hh.elim fun A5 hh=>And.elim (fun e h =>
 (by subst e; exact Eq.mpr (f76_R0_eq Aa Ab Ac Ad Ae Ag Ai Ah Aj Ak Ao Ap Aq Ar As At Au Av Aw Ax Ay Az A0 A1 A2 A3 A4 A5 A6 A7 H _ R) (step n Ar H h Aj As At Au Av Aw Ax Ay Az A0 A1 A2 A3 A4 A5))) hh)
def f76_B (x0 x1:Int) (H:AH) (R:AEnd→AH→Prop):Prop :=
 wMk [(.int .u8 0)] 1 1 x1 x1 H fun i5 H6 =>
 f76_L0 R [(.int .u64 x0),(.int .i64 x1),undef,undef,(.string ({ data:=#[] })),(.slice (some ⟨i5,0,none⟩) (Int.toNat x1) 0),undef,(.int .i64 x1),(.slice (some ⟨i5,0,none⟩) (Int.toNat x1) 0),(.slice (some ⟨i5,0,none⟩) (Int.toNat x1) 0),(.int .i64 ((Int.toNat x1):Int)),(.int .i64 0),undef,undef,undef,undef,undef,undef,undef,undef,undef,undef,undef,undef,undef,undef,undef,undef] H6
theorem f76_eq (x0 x1:Int) (H:AH) (R:AEnd→AH→Prop):awpF Tryz.prog f76_c (aPost Tryz.prog Tryz.f76 R) (([(.int .u64 x0),(.int .i64 x1)]:List Value) ++ List.replicate (Tryz.f76.ntmps - (([(.int .u64 x0),(.int .i64 x1)]:List Value)).length) undef) H=f76_B x0 x1 H R:=by kernel_rfl
theorem f76_call (x0 x1:Int) (H:AH) (R:AEnd→AH→Prop) (h:f76_B x0 x1 H R):ACall Tryz.prog 76 ([(.int .u64 x0),(.int .i64 x1)]:List Value) H R :=
 acall_of mixed Tryz.func76 (by kernel_rfl:Tryz.f76.body=some f76_c) (by kernel_rfl) (by kernel_rfl) (awp_of (Eq.mpr (f76_eq x0 x1 H R) h))

noncomputable def f79_c:Code:=Tryz.f79.body.getD .skip
def f79_B (x0:ByteArray) (H:AH) (R:AEnd→AH→Prop):Prop :=
 wCall Tryz.prog 77 [(.string ({ data:=#[0] })),(.int .i64 (Int.tmod (IntKind.i64.wrap (64 - (Int.tmod (x0.size:Int) 64))) 64))] H (fun r1 H2 =>
 opS r1 fun t5 =>
 wCat x0 t5 fun t6 =>
 R (.ret (.string t6)) H2) (fun v H=>R (.panic v) H)
theorem f79_eq (x0:ByteArray) (H:AH) (R:AEnd→AH→Prop):awpF Tryz.prog f79_c (aPost Tryz.prog Tryz.f79 R) (([(.string x0)]:List Value) ++ List.replicate (Tryz.f79.ntmps - (([(.string x0)]:List Value)).length) undef) H=f79_B x0 H R:=by kernel_rfl
theorem f79_call (x0:ByteArray) (H:AH) (R:AEnd→AH→Prop) (h:f79_B x0 H R):ACall Tryz.prog 79 ([(.string x0)]:List Value) H R :=
 acall_of mixed Tryz.func79 (by kernel_rfl:Tryz.f79.body=some f79_c) (by kernel_rfl) (by kernel_rfl) (awp_of (Eq.mpr (f79_eq x0 H R) h))

noncomputable def f87_c:Code:=Tryz.f87.body.getD .skip
noncomputable def f87_X0 (R:AEnd→AH→Prop):AExit→List Value→AH→Prop:=thenF (fun tm H=>hold (awpF Tryz.prog (codeAt f87_c [1,1,1]) (aPost Tryz.prog Tryz.f87 R) tm H)) (aPost Tryz.prog Tryz.f87 R)
noncomputable def f87_X1 (R:AEnd→AH→Prop):AExit→List Value→AH→Prop:=inBlockF 0 (f87_X0 R)
noncomputable def f87_Q0 (R:AEnd→AH→Prop):AExit→List Value→AH→Prop:=(f87_X1 R)
def f87_L0 (R:AEnd→AH→Prop) (tm:List Value) (H:AH):Prop:=awpF Tryz.prog (codeAt f87_c [1,1,0,1,0]) (f87_Q0 R) tm H
def f87_R0 (Aa Ab Ac:Value) (Ad:Int) (Ae Af Aj:Value) (Al:Option Addr) (An Am:Nat) (Ao Ap:Int) (Aq Ar As At Au Av Aw Ax Ay Az:Value) (H:AH) (K0:List Value→AH→Prop) (R:AEnd→AH→Prop):Prop :=
 wIf (decide (Ap<Ao))
 (wIx Al An 1 Ap fun i1 k2 =>
 ldI .u8 i1 k2 H fun n3 =>
 K0 [Aa,Ab,Ac,(.int .u64 (IntKind.u64.wrap ((BitVec.ofInt IntKind.u64.bits (IntKind.u64.wrap (Ad * (2 ^ (min (Int.toNat 8) IntKind.u64.bits))))) ||| (BitVec.ofInt IntKind.u64.bits (IntKind.u64.wrap n3))).toNat)),Ae,(.int .u8 n3),Aj,(.slice Al An Am),(.int .i64 Ao),(.int .i64 (IntKind.i64.wrap (Ap + 1))),(.bool true),(.pointer (some ⟨i1,k2,none⟩)),(.int .u8 n3),(.int .u64 Ad),(.int .u64 (IntKind.u64.wrap (Ad * (2 ^ (min (Int.toNat 8) IntKind.u64.bits))))),(.int .u8 n3),(.int .u64 (IntKind.u64.wrap n3)),(.int .u64 (IntKind.u64.wrap ((BitVec.ofInt IntKind.u64.bits (IntKind.u64.wrap (Ad * (2 ^ (min (Int.toNat 8) IntKind.u64.bits))))) ||| (BitVec.ofInt IntKind.u64.bits (IntKind.u64.wrap n3))).toNat)),(.int .i64 (IntKind.i64.wrap (Ap + 1))),Az] H)
 (R (.ret (.int .u64 Ad)) H)
theorem f87_R0_eq (Aa Ab Ac:Value) (Ad:Int) (Ae Af Aj:Value) (Al:Option Addr) (An Am:Nat) (Ao Ap:Int) (Aq Ar As At Au Av Aw Ax Ay Az:Value) (H:AH) (K0:List Value→AH→Prop) (R:AEnd→AH→Prop):awpF Tryz.prog (codeAt f87_c [1,1,0,1,0,0]) (thenF K0 (f87_Q0 R)) [Aa,Ab,Ac,(.int .u64 Ad),Ae,Af,Aj,(.slice Al An Am),(.int .i64 Ao),(.int .i64 Ap),Aq,Ar,As,At,Au,Av,Aw,Ax,Ay,Az] H=f87_R0 Aa Ab Ac Ad Ae Af Aj Al An Am Ao Ap Aq Ar As At Au Av Aw Ax Ay Az H K0 R:=by kernel_rfl
def f87_I0 (Aa Ab Ac Ae Aj:Value) (Al:Option Addr) (An Am:Nat) (Ao:Int) (Az:Value) (J:Nat→Int→Int→AH→Prop) (n:Nat) (tm:List Value) (H:AH):Prop:=∃ (Ad:Int) (Af:Value) (Ap:Int) (Aq Ar As At Au Av Aw Ax Ay:Value),tm=[Aa,Ab,Ac,(.int .u64 Ad),Ae,Af,Aj,(.slice Al An Am),(.int .i64 Ao),(.int .i64 Ap),Aq,Ar,As,At,Au,Av,Aw,Ax,Ay,Az]∧J n Ad Ap H
theorem f87_I0_mk {Aa Ab Ac:Value} {Ad:Int} {Ae Af Aj:Value} {Al:Option Addr} {An Am:Nat} {Ao Ap:Int} {Aq Ar As At Au Av Aw Ax Ay Az:Value} {J:Nat→Int→Int→AH→Prop} {n:Nat} {H:AH} (h:J n Ad Ap H):f87_I0 Aa Ab Ac Ae Aj Al An Am Ao Az J n [Aa,Ab,Ac,(.int .u64 Ad),Ae,Af,Aj,(.slice Al An Am),(.int .i64 Ao),(.int .i64 Ap),Aq,Ar,As,At,Au,Av,Aw,Ax,Ay,Az] H:=⟨_,_,_,_,_,_,_,_,_,_,_,_,rfl,h⟩
theorem f87_L0_rule {Aa Ab Ac:Value} {Ad:Int} {Ae Af Aj:Value} {Al:Option Addr} {An Am:Nat} {Ao Ap:Int} {Aq Ar As At Au Av Aw Ax Ay Az:Value} {H:AH} {R:AEnd→AH→Prop} (J:Nat→Int→Int→AH→Prop) (n:Nat) (h0:J n Ad Ap H)
 (step:∀ (n:Nat) (Ad Ap:Int) (H:AH),J n Ad Ap H→∀ (Af Aq Ar As At Au Av Aw Ax Ay:Value),f87_R0 Aa Ab Ac Ad Ae Af Aj Al An Am Ao Ap Aq Ar As At Au Av Aw Ax Ay Az H (fun tm H=>∃ m,m<n∧f87_I0 Aa Ab Ac Ae Aj Al An Am Ao Az J m tm H) R):f87_L0 R [Aa,Ab,Ac,(.int .u64 Ad),Ae,Af,Aj,(.slice Al An Am),(.int .i64 Ao),(.int .i64 Ap),Aq,Ar,As,At,Au,Av,Aw,Ax,Ay,Az] H :=
 awpF_loop (f87_I0 Aa Ab Ac Ae Aj Al An Am Ao Az J) n (f87_I0_mk h0) (by
 intro n tm H hh
 exact hh.elim fun Ad hh=>hh.elim fun Af hh=>hh.elim fun Ap hh=>hh.elim fun Aq hh=>hh.elim fun Ar hh=>hh.elim fun As hh=>hh.elim fun At hh=>hh.elim fun Au hh=>hh.elim fun Av hh=>hh.elim fun Aw hh=>hh.elim fun Ax hh=>hh.elim fun Ay hh=>And.elim (fun e h =>
 (by subst e; exact Eq.mpr (f87_R0_eq Aa Ab Ac Ad Ae Af Aj Al An Am Ao Ap Aq Ar As At Au Av Aw Ax Ay Az H _ R) (step n Ad Ap H h Af Aq Ar As At Au Av Aw Ax Ay))) hh)
def f87_B (x0:ByteArray) (H:AH) (R:AEnd→AH→Prop):Prop :=
 wS2B x0 H fun i4 H5 =>
 f87_L0 R [(.string x0),undef,(.int .u64 0),(.int .u64 0),undef,undef,(.string x0),(.slice (some ⟨i4,0,none⟩) x0.size 0),(.int .i64 (x0.size:Int)),(.int .i64 0),undef,undef,undef,undef,undef,undef,undef,undef,undef,undef] H5
theorem f87_eq (x0:ByteArray) (H:AH) (R:AEnd→AH→Prop):awpF Tryz.prog f87_c (aPost Tryz.prog Tryz.f87 R) (([(.string x0)]:List Value) ++ List.replicate (Tryz.f87.ntmps - (([(.string x0)]:List Value)).length) undef) H=f87_B x0 H R:=by kernel_rfl
theorem f87_call (x0:ByteArray) (H:AH) (R:AEnd→AH→Prop) (h:f87_B x0 H R):ACall Tryz.prog 87 ([(.string x0)]:List Value) H R :=
 acall_of mixed Tryz.func87 (by kernel_rfl:Tryz.f87.body=some f87_c) (by kernel_rfl) (by kernel_rfl) (awp_of (Eq.mpr (f87_eq x0 H R) h))

noncomputable def f100_c:Code:=Tryz.f100.body.getD .skip
noncomputable def f100_X0 (R:AEnd→AH→Prop):AExit→List Value→AH→Prop:=thenF (fun tm H=>hold (awpF Tryz.prog (codeAt f100_c [1,1,1,1,1,1]) (aPost Tryz.prog Tryz.f100 R) tm H)) (aPost Tryz.prog Tryz.f100 R)
def f100_J0 (R:AEnd→AH→Prop) (tm:List Value) (H:AH):Prop:=hold (awpF Tryz.prog (codeAt f100_c [1,1,1,1,1,0,1]) ((f100_X0 R)) tm H)
def f100_J1 (R:AEnd→AH→Prop) (tm:List Value) (H:AH):Prop:=hold (awpF Tryz.prog (codeAt f100_c [1,1,1,1,1,1]) ((aPost Tryz.prog Tryz.f100 R)) tm H)
def f100_J1_B (Aa:ByteArray) (Ac:Option Addr) (Af:Int) (H:AH) (R:AEnd→AH→Prop):Prop :=
 wSlS Aa 4 8 fun t1 =>
 wSlS Aa 8 16 fun t2 =>
 wIxS Aa 16 fun n3 =>
 wSlS Aa 21 Af fun t4 =>
 wCall Tryz.prog 87 [(.string t1)] H (fun r5 H6 =>
 opI .u64 r5 fun n9 =>
 wCall Tryz.prog 87 [(.string t2)] H6 (fun r10 H11 =>
 opI .u64 r10 fun n14 =>
 wPt Ac fun i16 k17 =>
 wSt i16 k17 [(.int .u32 (IntKind.u32.wrap n9)),(.int .u64 n14),(.int .i64 (IntKind.i64.wrap n3)),(.string t4)] H11 fun H15 =>
 wPt Ac fun i18 k19 =>
 ldI .u32 i18 k19 H15 fun n20 =>
 ldI .u64 i18 (k19 + 1) H15 fun n21 =>
 ldI .i64 i18 (k19 + 2) H15 fun n22 =>
 ldS i18 (k19 + 3) H15 fun t23 =>
 R (.ret (.tuple #[(.agg #[(.int .u32 n20),(.int .u64 n21),(.int .i64 n22),(.string t23)]),(.int .i64 0)])) H15) (fun v H=>R (.panic v) H)) (fun v H=>R (.panic v) H)
theorem f100_J1_eq (Aa:ByteArray) (Ab:Value) (Ac:Option Addr) (Ad Ae:Value) (Af:Int) (Aj Ak Ao Ap Aq Ar As At Au Av Aw Ax Ay Az A0 A1 A2 A3 A4 A5 A6 A7 A8 A9 AA AB AC AD AE AF AG AI AJ AK AL AM AN AO AP AQ AR AS AT AU AV AW AX AY AZ Ba Bb Bc Bd Be Bf Bg Bh Bi:Value) (H:AH) (R:AEnd→AH→Prop):f100_J1 R [(.string Aa),Ab,(.pointer Ac),Ad,Ae,(.int .i64 Af),Aj,Ak,Ao,Ap,Aq,Ar,As,At,Au,Av,Aw,Ax,Ay,Az,A0,A1,A2,A3,A4,A5,A6,A7,A8,A9,AA,AB,AC,AD,AE,AF,AG,AI,AJ,AK,AL,AM,AN,AO,AP,AQ,AR,AS,AT,AU,AV,AW,AX,AY,AZ,Ba,Bb,Bc,Bd,Be,Bf,Bg,Bh,Bi] H=f100_J1_B Aa Ac Af H R:=by kernel_rfl
def f100_J0_B (Aa:ByteArray) (Ab:Value) (Ac:Option Addr) (Ad Ae:Value) (Af:Int) (Aj Ak Ao Ap Aq Ar As At Au Av Aw Ax Ay Az A0 A1 A2 A3 A4 A5 A6 A7 A8 A9 AA AB AC AD AE AF AG AI AJ AK AL AM AN AO AP AQ AR AS:Value) (AT:Bool) (AU AV AW AX AY AZ Ba Bb Bc Bd Be Bf Bg Bh Bi:Value) (H:AH) (R:AEnd→AH→Prop):Prop :=
 wIf AT
 (wPt Ac fun i25 k26 =>
 wSt i25 k26 [(.int .u32 0),(.int .u64 0),(.int .i64 0),(.string ({ data:=#[] }))] H fun H24 =>
 wPt Ac fun i27 k28 =>
 ldI .u32 i27 k28 H24 fun n29 =>
 ldI .u64 i27 (k28 + 1) H24 fun n30 =>
 ldI .i64 i27 (k28 + 2) H24 fun n31 =>
 ldS i27 (k28 + 3) H24 fun t32 =>
 R (.ret (.tuple #[(.agg #[(.int .u32 n29),(.int .u64 n30),(.int .i64 n31),(.string t32)]),(.int .i64 4)])) H24)
 (f100_J1 R [(.string Aa),Ab,(.pointer Ac),Ad,Ae,(.int .i64 Af),Aj,Ak,Ao,Ap,Aq,Ar,As,At,Au,Av,Aw,Ax,Ay,Az,A0,A1,A2,A3,A4,A5,A6,A7,A8,A9,AA,AB,AC,AD,AE,AF,AG,AI,AJ,AK,AL,AM,AN,AO,AP,AQ,AR,AS,(.bool false),AU,AV,AW,AX,AY,AZ,Ba,Bb,Bc,Bd,Be,Bf,Bg,Bh,Bi] H)
theorem f100_J0_eq (Aa:ByteArray) (Ab:Value) (Ac:Option Addr) (Ad Ae:Value) (Af:Int) (Aj Ak Ao Ap Aq Ar As At Au Av Aw Ax Ay Az A0 A1 A2 A3 A4 A5 A6 A7 A8 A9 AA AB AC AD AE AF AG AI AJ AK AL AM AN AO AP AQ AR AS:Value) (AT:Bool) (AU AV AW AX AY AZ Ba Bb Bc Bd Be Bf Bg Bh Bi:Value) (H:AH) (R:AEnd→AH→Prop):f100_J0 R [(.string Aa),Ab,(.pointer Ac),Ad,Ae,(.int .i64 Af),Aj,Ak,Ao,Ap,Aq,Ar,As,At,Au,Av,Aw,Ax,Ay,Az,A0,A1,A2,A3,A4,A5,A6,A7,A8,A9,AA,AB,AC,AD,AE,AF,AG,AI,AJ,AK,AL,AM,AN,AO,AP,AQ,AR,AS,(.bool AT),AU,AV,AW,AX,AY,AZ,Ba,Bb,Bc,Bd,Be,Bf,Bg,Bh,Bi] H=f100_J0_B Aa Ab Ac Ad Ae Af Aj Ak Ao Ap Aq Ar As At Au Av Aw Ax Ay Az A0 A1 A2 A3 A4 A5 A6 A7 A8 A9 AA AB AC AD AE AF AG AI AJ AK AL AM AN AO AP AQ AR AS AT AU AV AW AX AY AZ Ba Bb Bc Bd Be Bf Bg Bh Bi H R:=by kernel_rfl
def f100_B (x0:ByteArray) (H:AH) (R:AEnd→AH→Prop):Prop :=
 wNew [(.int .u32 0),(.int .u64 0),(.int .i64 0),(.string ({ data:=#[] }))] H fun i33 H34 =>
 wIf (decide ((x0.size:Int)<21))
 (wSt i33 0 [(.int .u32 0),(.int .u64 0),(.int .i64 0),(.string ({ data:=#[] }))] H34 fun H35 =>
 wPt (some ⟨i33,0,none⟩) fun i36 k37 =>
 ldI .u32 i36 k37 H35 fun n38 =>
 ldI .u64 i36 (k37 + 1) H35 fun n39 =>
 ldI .i64 i36 (k37 + 2) H35 fun n40 =>
 ldS i36 (k37 + 3) H35 fun t41 =>
 R (.ret (.tuple #[(.agg #[(.int .u32 n38),(.int .u64 n39),(.int .i64 n40),(.string t41)]),(.int .i64 3)])) H35)
 (wSlS x0 17 21 fun t42 =>
 wCall Tryz.prog 87 [(.string t42)] H34 (fun r43 H44 =>
 opI .u64 r43 fun n47 =>
 wIf (decide (n47 > 1048576))
 (wSt i33 0 [(.int .u32 0),(.int .u64 0),(.int .i64 0),(.string ({ data:=#[] }))] H44 fun H48 =>
 wPt (some ⟨i33,0,none⟩) fun i49 k50 =>
 ldI .u32 i49 k50 H48 fun n51 =>
 ldI .u64 i49 (k50 + 1) H48 fun n52 =>
 ldI .i64 i49 (k50 + 2) H48 fun n53 =>
 ldS i49 (k50 + 3) H48 fun t54 =>
 R (.ret (.tuple #[(.agg #[(.int .u32 n51),(.int .u64 n52),(.int .i64 n53),(.string t54)]),(.int .i64 4)])) H48)
 (wCall Tryz.prog 48 [(.int .i64 (IntKind.i64.wrap n47))] H44 (fun r55 H56 =>
 opI .i64 r55 fun n59 =>
 wIf (decide ((IntKind.i64.wrap (n59 * 64)) > (x0.size:Int)))
 (wSt i33 0 [(.int .u32 0),(.int .u64 0),(.int .i64 0),(.string ({ data:=#[] }))] H56 fun H60 =>
 wPt (some ⟨i33,0,none⟩) fun i61 k62 =>
 ldI .u32 i61 k62 H60 fun n63 =>
 ldI .u64 i61 (k62 + 1) H60 fun n64 =>
 ldI .i64 i61 (k62 + 2) H60 fun n65 =>
 ldS i61 (k62 + 3) H60 fun t66 =>
 R (.ret (.tuple #[(.agg #[(.int .u32 n63),(.int .u64 n64),(.int .i64 n65),(.string t66)]),(.int .i64 3)])) H60)
 (wSlS x0 4 (IntKind.i64.wrap (21 + (IntKind.i64.wrap n47))) fun t67 =>
 wSlS x0 0 4 fun t68 =>
 wCall Tryz.prog 78 [(.string t67)] H56 (fun r69 H70 =>
 opI .u32 r69 fun n73 =>
 wCall Tryz.prog 87 [(.string t68)] H70 (fun r74 H75 =>
 opI .u64 r74 fun n78 =>
 wIf (!decide ((IntKind.u64.wrap n73)=n78))
 (f100_J0 R [(.string x0),undef,(.pointer (some ⟨i33,0,none⟩)),(.int .i64 0),(.int .u64 n47),(.int .i64 (IntKind.i64.wrap (21 + (IntKind.i64.wrap n47)))),(.string x0),(.int .i64 (x0.size:Int)),(.bool false),undef,(.string x0),(.string t42),(.int .u64 n47),(.bool false),(.int .u64 n47),(.bool (decide (n47 > 1048576))),undef,(.bool false),(.int .u64 n47),(.int .i64 (IntKind.i64.wrap n47)),(.int .i64 n59),(.int .i64 (IntKind.i64.wrap (n59 * 64))),(.string x0),(.int .i64 (x0.size:Int)),(.bool (decide ((IntKind.i64.wrap (n59 * 64)) > (x0.size:Int)))),undef,(.int .u64 n47),(.int .i64 (IntKind.i64.wrap n47)),(.int .i64 (IntKind.i64.wrap (21 + (IntKind.i64.wrap n47)))),(.string x0),(.int .i64 (IntKind.i64.wrap (21 + (IntKind.i64.wrap n47)))),(.string t67),(.int .u32 n73),(.int .u64 (IntKind.u64.wrap n73)),(.string x0),(.string t68),(.int .u64 n78),(.bool (!decide ((IntKind.u64.wrap n73)=n78))),(.bool true),undef,undef,undef,undef,undef,undef,undef,undef,undef,(.bool true),undef,undef,undef,undef,undef,undef,undef,undef,undef,undef,undef,undef,undef,undef,undef] H75)
 (wCall Tryz.prog 48 [(.int .i64 (IntKind.i64.wrap n47))] H75 (fun r79 H80 =>
 opI .i64 r79 fun n83 =>
 wSlS x0 (IntKind.i64.wrap (21 + (IntKind.i64.wrap n47))) (IntKind.i64.wrap (n83 * 64)) fun t84 =>
 wCall Tryz.prog 88 [(.string t84),(.string ({ data:=#[0] }))] H80 (fun r85 H86 =>
 opS r85 fun t89 =>
 f100_J0 R [(.string x0),undef,(.pointer (some ⟨i33,0,none⟩)),(.int .i64 0),(.int .u64 n47),(.int .i64 (IntKind.i64.wrap (21 + (IntKind.i64.wrap n47)))),(.string x0),(.int .i64 (x0.size:Int)),(.bool false),undef,(.string x0),(.string t42),(.int .u64 n47),(.bool false),(.int .u64 n47),(.bool (decide (n47 > 1048576))),undef,(.bool false),(.int .u64 n47),(.int .i64 (IntKind.i64.wrap n47)),(.int .i64 n59),(.int .i64 (IntKind.i64.wrap (n59 * 64))),(.string x0),(.int .i64 (x0.size:Int)),(.bool (decide ((IntKind.i64.wrap (n59 * 64)) > (x0.size:Int)))),undef,(.int .u64 n47),(.int .i64 (IntKind.i64.wrap n47)),(.int .i64 (IntKind.i64.wrap (21 + (IntKind.i64.wrap n47)))),(.string x0),(.int .i64 (IntKind.i64.wrap (21 + (IntKind.i64.wrap n47)))),(.string t67),(.int .u32 n73),(.int .u64 (IntKind.u64.wrap n73)),(.string x0),(.string t68),(.int .u64 n78),(.bool (!decide ((IntKind.u64.wrap n73)=n78))),(.bool false),(.string x0),(.int .i64 (IntKind.i64.wrap (21 + (IntKind.i64.wrap n47)))),(.int .u64 n47),(.int .i64 (IntKind.i64.wrap n47)),(.int .i64 n83),(.int .i64 (IntKind.i64.wrap (n83 * 64))),(.string t84),(.string t89),(.bool (!decide (t89=({ data:=#[] })))),(.bool (!decide (t89=({ data:=#[] })))),undef,undef,undef,undef,undef,undef,undef,undef,undef,undef,undef,undef,undef,undef,undef] H86) (fun v H=>R (.panic v) H)) (fun v H=>R (.panic v) H))) (fun v H=>R (.panic v) H)) (fun v H=>R (.panic v) H))) (fun v H=>R (.panic v) H))) (fun v H=>R (.panic v) H))
theorem f100_eq (x0:ByteArray) (H:AH) (R:AEnd→AH→Prop):awpF Tryz.prog f100_c (aPost Tryz.prog Tryz.f100 R) (([(.string x0)]:List Value) ++ List.replicate (Tryz.f100.ntmps - (([(.string x0)]:List Value)).length) undef) H=f100_B x0 H R:=by kernel_rfl
theorem f100_call (x0:ByteArray) (H:AH) (R:AEnd→AH→Prop) (h:f100_B x0 H R):ACall Tryz.prog 100 ([(.string x0)]:List Value) H R :=
 acall_of mixed Tryz.func100 (by kernel_rfl:Tryz.f100.body=some f100_c) (by kernel_rfl) (by kernel_rfl) (awp_of (Eq.mpr (f100_eq x0 H R) h))

noncomputable def f78_c:Code:=Tryz.f78.body.getD .skip
noncomputable def f78_X0 (R:AEnd→AH→Prop):AExit→List Value→AH→Prop:=thenF (fun tm H=>hold (awpF Tryz.prog (codeAt f78_c [1,1,1]) (aPost Tryz.prog Tryz.f78 R) tm H)) (aPost Tryz.prog Tryz.f78 R)
noncomputable def f78_X1 (R:AEnd→AH→Prop):AExit→List Value→AH→Prop:=inBlockF 0 (f78_X0 R)
noncomputable def f78_Q0 (R:AEnd→AH→Prop):AExit→List Value→AH→Prop:=(f78_X1 R)
def f78_L0 (R:AEnd→AH→Prop) (tm:List Value) (H:AH):Prop:=awpF Tryz.prog (codeAt f78_c [1,1,0,1,0]) (f78_Q0 R) tm H
noncomputable def f78_X2 (K0:List Value→AH→Prop) (R:AEnd→AH→Prop):AExit→List Value→AH→Prop:=thenF (fun tm H=>hold (awpF Tryz.prog (codeAt f78_c [1,1,0,1,0,0,1,1,1]) (thenF K0 (f78_Q0 R)) tm H)) (thenF K0 (f78_Q0 R))
noncomputable def f78_X3 (K0:List Value→AH→Prop) (R:AEnd→AH→Prop):AExit→List Value→AH→Prop:=inBlockF 1 (f78_X2 K0 R)
noncomputable def f78_X4 (K0:List Value→AH→Prop) (R:AEnd→AH→Prop):AExit→List Value→AH→Prop:=inBlockF 2 (f78_X3 K0 R)
noncomputable def f78_Q1 (K0:List Value→AH→Prop) (R:AEnd→AH→Prop):AExit→List Value→AH→Prop:=(f78_X4 K0 R)
def f78_L1 (K0:List Value→AH→Prop) (R:AEnd→AH→Prop) (tm:List Value) (H:AH):Prop:=awpF Tryz.prog (codeAt f78_c [1,1,0,1,0,0,1,1,0,0,1,1,1,0]) (f78_Q1 K0 R) tm H
def f78_J0 (R:AEnd→AH→Prop) (tm:List Value) (H:AH):Prop:=hold (awpF Tryz.prog (codeAt f78_c [1,1,1]) ((aPost Tryz.prog Tryz.f78 R)) tm H)
def f78_J0_B (Ad:Int) (H:AH) (R:AEnd→AH→Prop):Prop :=
 R (.ret (.int .u32 (IntKind.u32.wrap ((BitVec.ofInt IntKind.u32.bits (if IntKind.u32.signed then -1 else IntKind.u32.max)) ^^^ (BitVec.ofInt IntKind.u32.bits Ad)).toNat))) H
theorem f78_J0_eq (Aa Ab Ac:Value) (Ad:Int) (Ae Af Aj Ak Ao Ap Aq Ar As At Au Av Aw Ax Ay Az A0 A1 A2 A3 A4:Value) (H:AH) (R:AEnd→AH→Prop):f78_J0 R [Aa,Ab,Ac,(.int .u32 Ad),Ae,Af,Aj,Ak,Ao,Ap,Aq,Ar,As,At,Au,Av,Aw,Ax,Ay,Az,A0,A1,A2,A3,A4] H=f78_J0_B Ad H R:=by kernel_rfl
def f78_R0 (Aa Ab Ac:Value) (Ad:Int) (Ae Af Aj:Value) (Al:Option Addr) (An Am:Nat) (Ao Ap:Int) (Aq Ar As At Au Av Aw Ax Ay Az A0 A1 A2 A3 A4:Value) (H:AH) (K0:List Value→AH→Prop) (R:AEnd→AH→Prop):Prop :=
 wIf (decide (Ap<Ao))
 (wIx Al An 1 Ap fun i1 k2 =>
 ldI .u8 i1 k2 H fun n3 =>
 f78_L1 K0 R [Aa,Ab,Ac,(.int .u32 (IntKind.u32.wrap ((BitVec.ofInt IntKind.u32.bits Ad) ^^^ (BitVec.ofInt IntKind.u32.bits (IntKind.u32.wrap n3))).toNat)),Ae,(.int .u8 n3),Aj,(.slice Al An Am),(.int .i64 Ao),(.int .i64 Ap),(.bool true),(.pointer (some ⟨i1,k2,none⟩)),(.int .u8 n3),(.int .u32 Ad),(.int .u8 n3),(.int .u32 (IntKind.u32.wrap n3)),(.int .u32 (IntKind.u32.wrap ((BitVec.ofInt IntKind.u32.bits Ad) ^^^ (BitVec.ofInt IntKind.u32.bits (IntKind.u32.wrap n3))).toNat)),(.int .i64 0),Ay,Az,A0,A1,A2,A3,A4] H)
 (f78_J0 R [Aa,Ab,Ac,(.int .u32 Ad),Ae,Af,Aj,(.slice Al An Am),(.int .i64 Ao),(.int .i64 Ap),(.bool false),Ar,As,At,Au,Av,Aw,Ax,Ay,Az,A0,A1,A2,A3,A4] H)
theorem f78_R0_eq (Aa Ab Ac:Value) (Ad:Int) (Ae Af Aj:Value) (Al:Option Addr) (An Am:Nat) (Ao Ap:Int) (Aq Ar As At Au Av Aw Ax Ay Az A0 A1 A2 A3 A4:Value) (H:AH) (K0:List Value→AH→Prop) (R:AEnd→AH→Prop):awpF Tryz.prog (codeAt f78_c [1,1,0,1,0,0]) (thenF K0 (f78_Q0 R)) [Aa,Ab,Ac,(.int .u32 Ad),Ae,Af,Aj,(.slice Al An Am),(.int .i64 Ao),(.int .i64 Ap),Aq,Ar,As,At,Au,Av,Aw,Ax,Ay,Az,A0,A1,A2,A3,A4] H=f78_R0 Aa Ab Ac Ad Ae Af Aj Al An Am Ao Ap Aq Ar As At Au Av Aw Ax Ay Az A0 A1 A2 A3 A4 H K0 R:=by kernel_rfl
def f78_I0 (Aa Ab Ac Ae Aj:Value) (Al:Option Addr) (An Am:Nat) (Ao:Int) (A3 A4:Value) (J:Nat→Int→Int→AH→Prop) (n:Nat) (tm:List Value) (H:AH):Prop:=∃ (Ad:Int) (Af:Value) (Ap:Int) (Aq Ar As At Au Av Aw Ax Ay Az A0 A1 A2:Value),tm=[Aa,Ab,Ac,(.int .u32 Ad),Ae,Af,Aj,(.slice Al An Am),(.int .i64 Ao),(.int .i64 Ap),Aq,Ar,As,At,Au,Av,Aw,Ax,Ay,Az,A0,A1,A2,A3,A4]∧J n Ad Ap H
theorem f78_I0_mk {Aa Ab Ac:Value} {Ad:Int} {Ae Af Aj:Value} {Al:Option Addr} {An Am:Nat} {Ao Ap:Int} {Aq Ar As At Au Av Aw Ax Ay Az A0 A1 A2 A3 A4:Value} {J:Nat→Int→Int→AH→Prop} {n:Nat} {H:AH} (h:J n Ad Ap H):f78_I0 Aa Ab Ac Ae Aj Al An Am Ao A3 A4 J n [Aa,Ab,Ac,(.int .u32 Ad),Ae,Af,Aj,(.slice Al An Am),(.int .i64 Ao),(.int .i64 Ap),Aq,Ar,As,At,Au,Av,Aw,Ax,Ay,Az,A0,A1,A2,A3,A4] H:=⟨_,_,_,_,_,_,_,_,_,_,_,_,_,_,_,_,rfl,h⟩
theorem f78_L0_rule {Aa Ab Ac:Value} {Ad:Int} {Ae Af Aj:Value} {Al:Option Addr} {An Am:Nat} {Ao Ap:Int} {Aq Ar As At Au Av Aw Ax Ay Az A0 A1 A2 A3 A4:Value} {H:AH} {R:AEnd→AH→Prop} (J:Nat→Int→Int→AH→Prop) (n:Nat) (h0:J n Ad Ap H)
 (step:∀ (n:Nat) (Ad Ap:Int) (H:AH),J n Ad Ap H→∀ (Af Aq Ar As At Au Av Aw Ax Ay Az A0 A1 A2:Value),f78_R0 Aa Ab Ac Ad Ae Af Aj Al An Am Ao Ap Aq Ar As At Au Av Aw Ax Ay Az A0 A1 A2 A3 A4 H (fun tm H=>∃ m,m<n∧f78_I0 Aa Ab Ac Ae Aj Al An Am Ao A3 A4 J m tm H) R):f78_L0 R [Aa,Ab,Ac,(.int .u32 Ad),Ae,Af,Aj,(.slice Al An Am),(.int .i64 Ao),(.int .i64 Ap),Aq,Ar,As,At,Au,Av,Aw,Ax,Ay,Az,A0,A1,A2,A3,A4] H :=
 awpF_loop (f78_I0 Aa Ab Ac Ae Aj Al An Am Ao A3 A4 J) n (f78_I0_mk h0) (by
 intro n tm H hh
 exact hh.elim fun Ad hh=>hh.elim fun Af hh=>hh.elim fun Ap hh=>hh.elim fun Aq hh=>hh.elim fun Ar hh=>hh.elim fun As hh=>hh.elim fun At hh=>hh.elim fun Au hh=>hh.elim fun Av hh=>hh.elim fun Aw hh=>hh.elim fun Ax hh=>hh.elim fun Ay hh=>hh.elim fun Az hh=>hh.elim fun A0 hh=>hh.elim fun A1 hh=>hh.elim fun A2 hh=>And.elim (fun e h =>
 (by subst e; exact Eq.mpr (f78_R0_eq Aa Ab Ac Ad Ae Af Aj Al An Am Ao Ap Aq Ar As At Au Av Aw Ax Ay Az A0 A1 A2 A3 A4 H _ R) (step n Ad Ap H h Af Aq Ar As At Au Av Aw Ax Ay Az A0 A1 A2))) hh)
def f78_R1 (Aa Ab Ac:Value) (Ad:Int) (Ae Af Aj:Value) (Al:Option Addr) (An Am:Nat) (Ao Ap:Int) (Aq Ar As At Au Av Aw:Value) (Ax:Int) (Ay Az A0 A1 A2 A3 A4:Value) (H:AH) (K0 K1:List Value→AH→Prop) (R:AEnd→AH→Prop):Prop :=
 wIf (decide (Ax<8))
 (wCall Tryz.prog 113 [(.int .u32 Ad)] H (fun r4 H5 =>
 opI .u32 r4 fun n8 =>
 K1 [Aa,Ab,Ac,(.int .u32 n8),Ae,Af,Aj,(.slice Al An Am),(.int .i64 Ao),(.int .i64 Ap),Aq,Ar,As,At,Au,Av,Aw,(.int .i64 (IntKind.i64.wrap (Ax + 1))),(.bool true),(.int .u32 Ad),(.int .u32 n8),(.int .i64 (IntKind.i64.wrap (Ax + 1))),A2,A3,A4] H5) (fun v H=>R (.panic v) H))
 (K0 [Aa,Ab,Ac,(.int .u32 Ad),Ae,Af,Aj,(.slice Al An Am),(.int .i64 Ao),(.int .i64 (IntKind.i64.wrap (Ap + 1))),Aq,Ar,As,At,Au,Av,Aw,(.int .i64 Ax),(.bool false),Az,A0,A1,(.int .i64 (IntKind.i64.wrap (Ap + 1))),A3,A4] H)
theorem f78_R1_eq (Aa Ab Ac:Value) (Ad:Int) (Ae Af Aj:Value) (Al:Option Addr) (An Am:Nat) (Ao Ap:Int) (Aq Ar As At Au Av Aw:Value) (Ax:Int) (Ay Az A0 A1 A2 A3 A4:Value) (H:AH) (K0 K1:List Value→AH→Prop) (R:AEnd→AH→Prop):awpF Tryz.prog (codeAt f78_c [1,1,0,1,0,0,1,1,0,0,1,1,1,0,0]) (thenF K1 (f78_Q1 K0 R)) [Aa,Ab,Ac,(.int .u32 Ad),Ae,Af,Aj,(.slice Al An Am),(.int .i64 Ao),(.int .i64 Ap),Aq,Ar,As,At,Au,Av,Aw,(.int .i64 Ax),Ay,Az,A0,A1,A2,A3,A4] H=f78_R1 Aa Ab Ac Ad Ae Af Aj Al An Am Ao Ap Aq Ar As At Au Av Aw Ax Ay Az A0 A1 A2 A3 A4 H K0 K1 R:=by kernel_rfl
def f78_I1 (Aa Ab Ac Ae Af Aj:Value) (Al:Option Addr) (An Am:Nat) (Ao Ap:Int) (Aq Ar As At Au Av Aw A2 A3 A4:Value) (J:Nat→Int→Int→AH→Prop) (n:Nat) (tm:List Value) (H:AH):Prop:=∃ (Ad Ax:Int) (Ay Az A0 A1:Value),tm=[Aa,Ab,Ac,(.int .u32 Ad),Ae,Af,Aj,(.slice Al An Am),(.int .i64 Ao),(.int .i64 Ap),Aq,Ar,As,At,Au,Av,Aw,(.int .i64 Ax),Ay,Az,A0,A1,A2,A3,A4]∧J n Ad Ax H
theorem f78_I1_mk {Aa Ab Ac:Value} {Ad:Int} {Ae Af Aj:Value} {Al:Option Addr} {An Am:Nat} {Ao Ap:Int} {Aq Ar As At Au Av Aw:Value} {Ax:Int} {Ay Az A0 A1 A2 A3 A4:Value} {J:Nat→Int→Int→AH→Prop} {n:Nat} {H:AH} (h:J n Ad Ax H):f78_I1 Aa Ab Ac Ae Af Aj Al An Am Ao Ap Aq Ar As At Au Av Aw A2 A3 A4 J n [Aa,Ab,Ac,(.int .u32 Ad),Ae,Af,Aj,(.slice Al An Am),(.int .i64 Ao),(.int .i64 Ap),Aq,Ar,As,At,Au,Av,Aw,(.int .i64 Ax),Ay,Az,A0,A1,A2,A3,A4] H:=⟨_,_,_,_,_,_,rfl,h⟩
theorem f78_L1_rule {Aa Ab Ac:Value} {Ad:Int} {Ae Af Aj:Value} {Al:Option Addr} {An Am:Nat} {Ao Ap:Int} {Aq Ar As At Au Av Aw:Value} {Ax:Int} {Ay Az A0 A1 A2 A3 A4:Value} {H:AH} {K0:List Value→AH→Prop} {R:AEnd→AH→Prop} (J:Nat→Int→Int→AH→Prop) (n:Nat) (h0:J n Ad Ax H)
 (step:∀ (n:Nat) (Ad Ax:Int) (H:AH),J n Ad Ax H→∀ (Ay Az A0 A1:Value),f78_R1 Aa Ab Ac Ad Ae Af Aj Al An Am Ao Ap Aq Ar As At Au Av Aw Ax Ay Az A0 A1 A2 A3 A4 H K0 (fun tm H=>∃ m,m<n∧f78_I1 Aa Ab Ac Ae Af Aj Al An Am Ao Ap Aq Ar As At Au Av Aw A2 A3 A4 J m tm H) R):f78_L1 K0 R [Aa,Ab,Ac,(.int .u32 Ad),Ae,Af,Aj,(.slice Al An Am),(.int .i64 Ao),(.int .i64 Ap),Aq,Ar,As,At,Au,Av,Aw,(.int .i64 Ax),Ay,Az,A0,A1,A2,A3,A4] H :=
 awpF_loop (f78_I1 Aa Ab Ac Ae Af Aj Al An Am Ao Ap Aq Ar As At Au Av Aw A2 A3 A4 J) n (f78_I1_mk h0) (by
 intro n tm H hh
 exact hh.elim fun Ad hh=>hh.elim fun Ax hh=>hh.elim fun Ay hh=>hh.elim fun Az hh=>hh.elim fun A0 hh=>hh.elim fun A1 hh=>And.elim (fun e h =>
 (by subst e; exact Eq.mpr (f78_R1_eq Aa Ab Ac Ad Ae Af Aj Al An Am Ao Ap Aq Ar As At Au Av Aw Ax Ay Az A0 A1 A2 A3 A4 H K0 _ R) (step n Ad Ax H h Ay Az A0 A1))) hh)
def f78_B (x0:ByteArray) (H:AH) (R:AEnd→AH→Prop):Prop :=
 wS2B x0 H fun i9 H10 =>
 f78_L0 R [(.string x0),undef,(.int .u32 0),(.int .u32 4294967295),undef,undef,(.string x0),(.slice (some ⟨i9,0,none⟩) x0.size 0),(.int .i64 (x0.size:Int)),(.int .i64 0),undef,undef,undef,undef,undef,undef,undef,undef,undef,undef,undef,undef,undef,undef,undef] H10
theorem f78_eq (x0:ByteArray) (H:AH) (R:AEnd→AH→Prop):awpF Tryz.prog f78_c (aPost Tryz.prog Tryz.f78 R) (([(.string x0)]:List Value) ++ List.replicate (Tryz.f78.ntmps - (([(.string x0)]:List Value)).length) undef) H=f78_B x0 H R:=by kernel_rfl
theorem f78_call (x0:ByteArray) (H:AH) (R:AEnd→AH→Prop) (h:f78_B x0 H R):ACall Tryz.prog 78 ([(.string x0)]:List Value) H R :=
 acall_of mixed Tryz.func78 (by kernel_rfl:Tryz.f78.body=some f78_c) (by kernel_rfl) (by kernel_rfl) (awp_of (Eq.mpr (f78_eq x0 H R) h))

noncomputable def f113_c:Code:=Tryz.f113.body.getD .skip
def f113_B (x0:Int) (H:AH) (R:AEnd→AH→Prop):Prop :=
 R (.ret (.int .u32 (IntKind.u32.wrap ((BitVec.ofInt IntKind.u32.bits (Int.fdiv x0 (2 ^ (min (Int.toNat 1) IntKind.u32.bits)))) ^^^ (BitVec.ofInt IntKind.u32.bits (IntKind.u32.wrap ((BitVec.ofInt IntKind.u32.bits 2197175160) &&& (BitVec.ofInt IntKind.u32.bits (IntKind.u32.wrap (0 - (IntKind.u32.wrap ((BitVec.ofInt IntKind.u32.bits x0) &&& (BitVec.ofInt IntKind.u32.bits 1)).toNat))))).toNat))).toNat))) H
theorem f113_eq (x0:Int) (H:AH) (R:AEnd→AH→Prop):awpF Tryz.prog f113_c (aPost Tryz.prog Tryz.f113 R) (([(.int .u32 x0)]:List Value) ++ List.replicate (Tryz.f113.ntmps - (([(.int .u32 x0)]:List Value)).length) undef) H=f113_B x0 H R:=by kernel_rfl
theorem f113_call (x0:Int) (H:AH) (R:AEnd→AH→Prop) (h:f113_B x0 H R):ACall Tryz.prog 113 ([(.int .u32 x0)]:List Value) H R :=
 acall_of mixed Tryz.func113 (by kernel_rfl:Tryz.f113.body=some f113_c) (by kernel_rfl) (by kernel_rfl) (awp_of (Eq.mpr (f113_eq x0 H R) h))

end Go.Proofs.YtjhbbbcelnlnpaaGreatDoor
