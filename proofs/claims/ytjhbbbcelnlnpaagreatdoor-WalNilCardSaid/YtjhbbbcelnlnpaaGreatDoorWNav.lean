/- Bodies of functions as nested rules: printed by genw.py,a program of this claim. -/
import Derived.Test.YtjhbbbcelnlnpaaGreatDoorWNao
namespace Go.Proofs.YtjhbbbcelnlnpaaGreatDoor
open Go.RowKit
set_option maxRecDepth 100000

noncomputable def f9_c:Code:=Tryz.f9.body.getD .skip
def f9_B (x0:Int) (H:AH) (R:AEnd→AH→Prop):Prop :=
 wMk [(.string ({ data:=#[] }))] 1 16 (if 0<(if 4096<x0 then 4096 else x0) then (if 4096<x0 then 4096 else x0) else 0) (if 0<(if 4096<x0 then 4096 else x0) then (if 4096<x0 then 4096 else x0) else 0) H fun i1 H2 =>
 wNew [(.slice (some ⟨i1,0,none⟩) (Int.toNat (if 0<(if 4096<x0 then 4096 else x0) then (if 4096<x0 then 4096 else x0) else 0)) 0),(.slice none 0 0),(.bool false),(.int .i64 0),(.int .u64 0),(.int .i64 0),(.int .i64 0)] H2 fun i3 H4 =>
 wCall Tryz.prog 27 [(.pointer (some ⟨i3,0,none⟩)),(.string ({ data:=#[] }))] H4 (fun r5 H6 =>
 R (.ret (.pointer (some ⟨i3,0,none⟩))) H6) (fun v H=>R (.panic v) H)
theorem f9_eq (x0:Int) (H:AH) (R:AEnd→AH→Prop):awpF Tryz.prog f9_c (aPost Tryz.prog Tryz.f9 R) (([(.int .i64 x0)]:List Value) ++ List.replicate (Tryz.f9.ntmps - (([(.int .i64 x0)]:List Value)).length) undef) H=f9_B x0 H R:=by kernel_rfl
theorem f9_call (x0:Int) (H:AH) (R:AEnd→AH→Prop) (h:f9_B x0 H R):ACall Tryz.prog 9 ([(.int .i64 x0)]:List Value) H R :=
 acall_of mixed Tryz.func9 (by kernel_rfl:Tryz.f9.body=some f9_c) (by kernel_rfl) (by kernel_rfl) (awp_of (Eq.mpr (f9_eq x0 H R) h))

noncomputable def f20_c:Code:=Tryz.f20.body.getD .skip
def f20_B (x0:Option Addr) (H:AH) (R:AEnd→AH→Prop):Prop :=
 wIf (!x0.isNone)
 (wPt x0 fun i1 k2 =>
 wSt i1 (k2 + 2) [(.bool false)] H fun H3 =>
 wPt x0 fun i4 k5 =>
 wSt i4 (k5 + 3) [(.int .i64 0)] H3 fun H6 =>
 R (.ret (.tuple #[])) H6)
 (R (.ret (.tuple #[])) H)
theorem f20_eq (x0:Option Addr) (H:AH) (R:AEnd→AH→Prop):awpF Tryz.prog f20_c (aPost Tryz.prog Tryz.f20 R) (([(.pointer x0)]:List Value) ++ List.replicate (Tryz.f20.ntmps - (([(.pointer x0)]:List Value)).length) undef) H=f20_B x0 H R:=by kernel_rfl
theorem f20_call (x0:Option Addr) (H:AH) (R:AEnd→AH→Prop) (h:f20_B x0 H R):ACall Tryz.prog 20 ([(.pointer x0)]:List Value) H R :=
 acall_of mixed Tryz.func20 (by kernel_rfl:Tryz.f20.body=some f20_c) (by kernel_rfl) (by kernel_rfl) (awp_of (Eq.mpr (f20_eq x0 H R) h))

noncomputable def f25_c:Code:=Tryz.f25.body.getD .skip
def f25_B (x0:Option Addr) (x1_0 x1_1 x1_2:Int) (H:AH) (R:AEnd→AH→Prop):Prop :=
 wNew [(.int .u64 x1_0),(.int .i64 x1_1),(.int .i64 x1_2)] H fun i1 H2 =>
 wIf x0.isNone
 (R (.ret (.tuple #[])) H2)
 (wPt x0 fun i3 k4 =>
 ldB i3 (k4 + 2) H2 fun b5 =>
 wIf (!b5)
 (ldI .u64 i1 0 H2 fun n6 =>
 ldI .i64 i1 1 H2 fun n7 =>
 ldI .i64 i1 2 H2 fun n8 =>
 wCall Tryz.prog 60 [(.pointer x0),(.agg #[(.int .u64 n6),(.int .i64 n7),(.int .i64 n8)])] H2 (fun r9 H10 =>
 wCall Tryz.prog 20 [(.pointer x0)] H10 (fun r13 H14 =>
 R (.ret (.tuple #[])) H14) (fun v H=>R (.panic v) H)) (fun v H=>R (.panic v) H))
 (wCall Tryz.prog 20 [(.pointer x0)] H2 (fun r17 H18 =>
 R (.ret (.tuple #[])) H18) (fun v H=>R (.panic v) H)))
theorem f25_eq (x0:Option Addr) (x1_0 x1_1 x1_2:Int) (H:AH) (R:AEnd→AH→Prop):awpF Tryz.prog f25_c (aPost Tryz.prog Tryz.f25 R) (([(.pointer x0),(.agg #[(.int .u64 x1_0),(.int .i64 x1_1),(.int .i64 x1_2)])]:List Value) ++ List.replicate (Tryz.f25.ntmps - (([(.pointer x0),(.agg #[(.int .u64 x1_0),(.int .i64 x1_1),(.int .i64 x1_2)])]:List Value)).length) undef) H=f25_B x0 x1_0 x1_1 x1_2 H R:=by kernel_rfl
theorem f25_call (x0:Option Addr) (x1_0 x1_1 x1_2:Int) (H:AH) (R:AEnd→AH→Prop) (h:f25_B x0 x1_0 x1_1 x1_2 H R):ACall Tryz.prog 25 ([(.pointer x0),(.agg #[(.int .u64 x1_0),(.int .i64 x1_1),(.int .i64 x1_2)])]:List Value) H R :=
 acall_of mixed Tryz.func25 (by kernel_rfl:Tryz.f25.body=some f25_c) (by kernel_rfl) (by kernel_rfl) (awp_of (Eq.mpr (f25_eq x0 x1_0 x1_1 x1_2 H R) h))

noncomputable def f27_c:Code:=Tryz.f27.body.getD .skip
noncomputable def f27_X0 (R:AEnd→AH→Prop):AExit→List Value→AH→Prop:=thenF (fun tm H=>hold (awpF Tryz.prog (codeAt f27_c [1,1]) (aPost Tryz.prog Tryz.f27 R) tm H)) (aPost Tryz.prog Tryz.f27 R)
noncomputable def f27_X1 (R:AEnd→AH→Prop):AExit→List Value→AH→Prop:=inBlockF 0 (f27_X0 R)
noncomputable def f27_Q0 (R:AEnd→AH→Prop):AExit→List Value→AH→Prop:=(f27_X1 R)
def f27_L0 (R:AEnd→AH→Prop) (tm:List Value) (H:AH):Prop:=awpF Tryz.prog (codeAt f27_c [1,0,1,0]) (f27_Q0 R) tm H
def f27_J0 (R:AEnd→AH→Prop) (tm:List Value) (H:AH):Prop:=hold (awpF Tryz.prog (codeAt f27_c [1,1]) ((aPost Tryz.prog Tryz.f27 R)) tm H)
def f27_J0_B (Aa:Option Addr) (H:AH) (R:AEnd→AH→Prop):Prop :=
 wPt Aa fun i1 k2 =>
 wSt i1 (k2 + 1) [(.slice none 0 0)] H fun H3 =>
 R (.ret (.tuple #[])) H3
theorem f27_J0_eq (Aa:Option Addr) (Ab Ac Ad Ae Af Ag Ah Ai Aj Ak Ao Ap Aq Ar As At Ax Ay Az A0 A1 A2 A3 A4 A5 A6 A7 A8 A9 AA AB AC AD:Value) (H:AH) (R:AEnd→AH→Prop):f27_J0 R [(.pointer Aa),Ab,Ac,Ad,Ae,Af,Ag,Ah,Ai,Aj,Ak,Ao,Ap,Aq,Ar,As,At,Ax,Ay,Az,A0,A1,A2,A3,A4,A5,A6,A7,A8,A9,AA,AB,AC,AD] H=f27_J0_B Aa H R:=by kernel_rfl
def f27_R0 (Aa:Option Addr) (Ab:ByteArray) (Ac Ad Ae Af Ag Ah Ai Aj Ak Ao:Value) (Ap Aq:Int) (Ar As At Ax Ay Az A0 A1 A2 A3 A4 A5 A6 A7 A8 A9 AA AB AC AD:Value) (H:AH) (K0:List Value→AH→Prop) (R:AEnd→AH→Prop):Prop :=
 wIf (decide (Aq<Ap))
 (wMk [(.int .u8 0)] 1 1 64 64 H fun i4 H5 =>
 wCpS (some ⟨i4,0,none⟩) (Int.toNat 64) 0 Ab H5 fun n6 H7 =>
 wSlS Ab n6 Ab.size fun t8 =>
 wPt Aa fun i9 k10 =>
 (ldL i9 k10 H7 fun z11b z11l z11c =>
 wB2S (some ⟨i4,0,none⟩) (Int.toNat 64) 0 H7 fun t12 =>
 wIx z11b z11l 1 Aq fun i13 k14 =>
 wSt i13 k14 [(.string t12)] H7 fun H15 =>
 K0 [(.pointer Aa),(.string t8),Ac,Ad,(.int .i64 Aq),(.slice (some ⟨i4,0,none⟩) (Int.toNat 64) 0),Ag,Ah,Ai,Aj,Ak,Ao,(.int .i64 Ap),(.int .i64 (IntKind.i64.wrap (Aq + 1))),(.bool true),(.int .i64 Aq),(.slice (some ⟨i4,0,none⟩) (Int.toNat 64) 0),(.string Ab),(.slice (some ⟨i4,0,none⟩) (Int.toNat 64) 0),(.string Ab),(.int .i64 n6),(.string t8),(.pointer Aa),(.pointer (some ⟨i9,k10,none⟩)),(.pointer (some ⟨i9,k10,none⟩)),(.slice z11b z11l z11c),(.int .i64 Aq),(.slice (some ⟨i4,0,none⟩) (Int.toNat 64) 0),(.string t12),(.pointer (some ⟨i13,k14,none⟩)),(.int .i64 (IntKind.i64.wrap (Aq + 1))),AB,AC,AD] H15) ∧
 (wB2S (some ⟨i4,0,none⟩) (Int.toNat 64) 0 H7 fun t16 =>
 ldL i9 k10 H7 fun z17b z17l z17c =>
 wIx z17b z17l 1 Aq fun i18 k19 =>
 wSt i18 k19 [(.string t16)] H7 fun H20 =>
 K0 [(.pointer Aa),(.string t8),Ac,Ad,(.int .i64 Aq),(.slice (some ⟨i4,0,none⟩) (Int.toNat 64) 0),Ag,Ah,Ai,Aj,Ak,Ao,(.int .i64 Ap),(.int .i64 (IntKind.i64.wrap (Aq + 1))),(.bool true),(.int .i64 Aq),(.slice (some ⟨i4,0,none⟩) (Int.toNat 64) 0),(.string Ab),(.slice (some ⟨i4,0,none⟩) (Int.toNat 64) 0),(.string Ab),(.int .i64 n6),(.string t8),(.pointer Aa),(.pointer (some ⟨i9,k10,none⟩)),(.pointer (some ⟨i9,k10,none⟩)),(.slice z17b z17l z17c),(.int .i64 Aq),(.slice (some ⟨i4,0,none⟩) (Int.toNat 64) 0),(.string t16),(.pointer (some ⟨i18,k19,none⟩)),(.int .i64 (IntKind.i64.wrap (Aq + 1))),AB,AC,AD] H20))
 (f27_J0 R [(.pointer Aa),(.string Ab),Ac,Ad,Ae,Af,Ag,Ah,Ai,Aj,Ak,Ao,(.int .i64 Ap),(.int .i64 Aq),(.bool false),As,At,Ax,Ay,Az,A0,A1,A2,A3,A4,A5,A6,A7,A8,A9,AA,AB,AC,AD] H)
theorem f27_R0_eq (Aa:Option Addr) (Ab:ByteArray) (Ac Ad Ae Af Ag Ah Ai Aj Ak Ao:Value) (Ap Aq:Int) (Ar As At Ax Ay Az A0 A1 A2 A3 A4 A5 A6 A7 A8 A9 AA AB AC AD:Value) (H:AH) (K0:List Value→AH→Prop) (R:AEnd→AH→Prop):awpF Tryz.prog (codeAt f27_c [1,0,1,0,0]) (thenF K0 (f27_Q0 R)) [(.pointer Aa),(.string Ab),Ac,Ad,Ae,Af,Ag,Ah,Ai,Aj,Ak,Ao,(.int .i64 Ap),(.int .i64 Aq),Ar,As,At,Ax,Ay,Az,A0,A1,A2,A3,A4,A5,A6,A7,A8,A9,AA,AB,AC,AD] H=f27_R0 Aa Ab Ac Ad Ae Af Ag Ah Ai Aj Ak Ao Ap Aq Ar As At Ax Ay Az A0 A1 A2 A3 A4 A5 A6 A7 A8 A9 AA AB AC AD H K0 R:=by kernel_rfl
def f27_I0 (Aa:Option Addr) (Ac Ad Ag Ah Ai Aj Ak Ao:Value) (Ap:Int) (AB AC AD:Value) (J:Nat→ByteArray→Int→AH→Prop) (n:Nat) (tm:List Value) (H:AH):Prop:=∃ (Ab:ByteArray) (Ae Af:Value) (Aq:Int) (Ar As At Ax Ay Az A0 A1 A2 A3 A4 A5 A6 A7 A8 A9 AA:Value),tm=[(.pointer Aa),(.string Ab),Ac,Ad,Ae,Af,Ag,Ah,Ai,Aj,Ak,Ao,(.int .i64 Ap),(.int .i64 Aq),Ar,As,At,Ax,Ay,Az,A0,A1,A2,A3,A4,A5,A6,A7,A8,A9,AA,AB,AC,AD]∧J n Ab Aq H
theorem f27_I0_mk {Aa:Option Addr} {Ab:ByteArray} {Ac Ad Ae Af Ag Ah Ai Aj Ak Ao:Value} {Ap Aq:Int} {Ar As At Ax Ay Az A0 A1 A2 A3 A4 A5 A6 A7 A8 A9 AA AB AC AD:Value} {J:Nat→ByteArray→Int→AH→Prop} {n:Nat} {H:AH} (h:J n Ab Aq H):f27_I0 Aa Ac Ad Ag Ah Ai Aj Ak Ao Ap AB AC AD J n [(.pointer Aa),(.string Ab),Ac,Ad,Ae,Af,Ag,Ah,Ai,Aj,Ak,Ao,(.int .i64 Ap),(.int .i64 Aq),Ar,As,At,Ax,Ay,Az,A0,A1,A2,A3,A4,A5,A6,A7,A8,A9,AA,AB,AC,AD] H:=⟨_,_,_,_,_,_,_,_,_,_,_,_,_,_,_,_,_,_,_,_,_,rfl,h⟩
theorem f27_L0_rule {Aa:Option Addr} {Ab:ByteArray} {Ac Ad Ae Af Ag Ah Ai Aj Ak Ao:Value} {Ap Aq:Int} {Ar As At Ax Ay Az A0 A1 A2 A3 A4 A5 A6 A7 A8 A9 AA AB AC AD:Value} {H:AH} {R:AEnd→AH→Prop} (J:Nat→ByteArray→Int→AH→Prop) (n:Nat) (h0:J n Ab Aq H)
 (step:∀ (n:Nat) (Ab:ByteArray) (Aq:Int) (H:AH),J n Ab Aq H→∀ (Ae Af Ar As At Ax Ay Az A0 A1 A2 A3 A4 A5 A6 A7 A8 A9 AA:Value),f27_R0 Aa Ab Ac Ad Ae Af Ag Ah Ai Aj Ak Ao Ap Aq Ar As At Ax Ay Az A0 A1 A2 A3 A4 A5 A6 A7 A8 A9 AA AB AC AD H (fun tm H=>∃ m,m<n∧f27_I0 Aa Ac Ad Ag Ah Ai Aj Ak Ao Ap AB AC AD J m tm H) R):f27_L0 R [(.pointer Aa),(.string Ab),Ac,Ad,Ae,Af,Ag,Ah,Ai,Aj,Ak,Ao,(.int .i64 Ap),(.int .i64 Aq),Ar,As,At,Ax,Ay,Az,A0,A1,A2,A3,A4,A5,A6,A7,A8,A9,AA,AB,AC,AD] H :=
 awpF_loop (f27_I0 Aa Ac Ad Ag Ah Ai Aj Ak Ao Ap AB AC AD J) n (f27_I0_mk h0) (by
 intro n tm H hh
 exact hh.elim fun Ab hh=>hh.elim fun Ae hh=>hh.elim fun Af hh=>hh.elim fun Aq hh=>hh.elim fun Ar hh=>hh.elim fun As hh=>hh.elim fun At hh=>hh.elim fun Ax hh=>hh.elim fun Ay hh=>hh.elim fun Az hh=>hh.elim fun A0 hh=>hh.elim fun A1 hh=>hh.elim fun A2 hh=>hh.elim fun A3 hh=>hh.elim fun A4 hh=>hh.elim fun A5 hh=>hh.elim fun A6 hh=>hh.elim fun A7 hh=>hh.elim fun A8 hh=>hh.elim fun A9 hh=>hh.elim fun AA hh=>And.elim (fun e h =>
 (by subst e; exact Eq.mpr (f27_R0_eq Aa Ab Ac Ad Ae Af Ag Ah Ai Aj Ak Ao Ap Aq Ar As At Ax Ay Az A0 A1 A2 A3 A4 A5 A6 A7 A8 A9 AA AB AC AD H _ R) (step n Ab Aq H h Ae Af Ar As At Ax Ay Az A0 A1 A2 A3 A4 A5 A6 A7 A8 A9 AA))) hh)
def f27_B (x0:Option Addr) (x1:ByteArray) (H:AH) (R:AEnd→AH→Prop):Prop :=
 wIf x0.isNone
 (R (.ret (.tuple #[])) H)
 (wPt x0 fun i21 k22 =>
 ldL i21 k22 H fun z23b z23l z23c =>
 f27_L0 R [(.pointer x0),(.string x1),undef,undef,undef,undef,(.pointer x0),(.bool false),(.pointer x0),(.pointer (some ⟨i21,k22,none⟩)),(.pointer (some ⟨i21,k22,none⟩)),(.slice z23b z23l z23c),(.int .i64 (z23l:Int)),(.int .i64 0),undef,undef,undef,undef,undef,undef,undef,undef,undef,undef,undef,undef,undef,undef,undef,undef,undef,undef,undef,undef] H)
theorem f27_eq (x0:Option Addr) (x1:ByteArray) (H:AH) (R:AEnd→AH→Prop):awpF Tryz.prog f27_c (aPost Tryz.prog Tryz.f27 R) (([(.pointer x0),(.string x1)]:List Value) ++ List.replicate (Tryz.f27.ntmps - (([(.pointer x0),(.string x1)]:List Value)).length) undef) H=f27_B x0 x1 H R:=by kernel_rfl
theorem f27_call (x0:Option Addr) (x1:ByteArray) (H:AH) (R:AEnd→AH→Prop) (h:f27_B x0 x1 H R):ACall Tryz.prog 27 ([(.pointer x0),(.string x1)]:List Value) H R :=
 acall_of mixed Tryz.func27 (by kernel_rfl:Tryz.f27.body=some f27_c) (by kernel_rfl) (by kernel_rfl) (awp_of (Eq.mpr (f27_eq x0 x1 H R) h))

noncomputable def f32_c:Code:=Tryz.f32.body.getD .skip
def f32_B (x0:Option Addr) (H:AH) (R:AEnd→AH→Prop):Prop :=
 wIf x0.isNone
 (R (.ret (.int .i64 0)) H)
 (wPt x0 fun i1 k2 =>
 ldL i1 k2 H fun z3b z3l z3c =>
 R (.ret (.int .i64 (z3l:Int))) H)
theorem f32_eq (x0:Option Addr) (H:AH) (R:AEnd→AH→Prop):awpF Tryz.prog f32_c (aPost Tryz.prog Tryz.f32 R) (([(.pointer x0)]:List Value) ++ List.replicate (Tryz.f32.ntmps - (([(.pointer x0)]:List Value)).length) undef) H=f32_B x0 H R:=by kernel_rfl
theorem f32_call (x0:Option Addr) (H:AH) (R:AEnd→AH→Prop) (h:f32_B x0 H R):ACall Tryz.prog 32 ([(.pointer x0)]:List Value) H R :=
 acall_of mixed Tryz.func32 (by kernel_rfl:Tryz.f32.body=some f32_c) (by kernel_rfl) (by kernel_rfl) (awp_of (Eq.mpr (f32_eq x0 H R) h))

noncomputable def f60_c:Code:=Tryz.f60.body.getD .skip
noncomputable def f60_X0 (R:AEnd→AH→Prop):AExit→List Value→AH→Prop:=thenF (fun tm H=>hold (awpF Tryz.prog (codeAt f60_c [1,1]) (aPost Tryz.prog Tryz.f60 R) tm H)) (aPost Tryz.prog Tryz.f60 R)
noncomputable def f60_X1 (R:AEnd→AH→Prop):AExit→List Value→AH→Prop:=inBlockF 0 (f60_X0 R)
noncomputable def f60_Q0 (R:AEnd→AH→Prop):AExit→List Value→AH→Prop:=(f60_X1 R)
def f60_L0 (R:AEnd→AH→Prop) (tm:List Value) (H:AH):Prop:=awpF Tryz.prog (codeAt f60_c [1,0,1,0]) (f60_Q0 R) tm H
def f60_J0 (R:AEnd→AH→Prop) (tm:List Value) (H:AH):Prop:=hold (awpF Tryz.prog (codeAt f60_c [1,1]) ((aPost Tryz.prog Tryz.f60 R)) tm H)
def f60_J0_B (Aa:Option Addr) (H:AH) (R:AEnd→AH→Prop):Prop :=
 wPt Aa fun i1 k2 =>
 wSt i1 (k2 + 1) [(.slice none 0 0)] H fun H3 =>
 R (.ret (.tuple #[])) H3
theorem f60_J0_eq (Aa:Option Addr) (Ab Ac Ad Ae Af Ag Ah Ai Aj Ak Ao Ap Aq Ar As At Ax Ay Az A0 A1 A2 A3 A4 A5 A6 A7 A8 A9 AA AB AC AD AE AF AG AI AJ AK AL AM AN AO AP AQ AR AS AT AU AV AW AX AY AZ Ba Bb Bc Bd Be Bf Bg Bh Bi Bj Bk Bl Bm Bn:Value) (H:AH) (R:AEnd→AH→Prop):f60_J0 R [(.pointer Aa),Ab,Ac,Ad,Ae,Af,Ag,Ah,Ai,Aj,Ak,Ao,Ap,Aq,Ar,As,At,Ax,Ay,Az,A0,A1,A2,A3,A4,A5,A6,A7,A8,A9,AA,AB,AC,AD,AE,AF,AG,AI,AJ,AK,AL,AM,AN,AO,AP,AQ,AR,AS,AT,AU,AV,AW,AX,AY,AZ,Ba,Bb,Bc,Bd,Be,Bf,Bg,Bh,Bi,Bj,Bk,Bl,Bm,Bn] H=f60_J0_B Aa H R:=by kernel_rfl
def f60_R0 (Aa:Option Addr) (Ab Ac:Value) (Ad:Option Addr) (Ae Af Ag Ah Ai Aj:Value) (Al:Option Addr) (An Am:Nat) (Ao Ap:Int) (Aq Ar As At Ax Ay Az A0 A1 A2 A3 A4 A5 A6 A7 A8 A9 AA AB AC AD AE AF AG AI AJ AK AL AM AN AO AP AQ AR AS AT AU AV AW AX AY AZ Ba Bb Bc Bd Be Bf Bg Bh Bi Bj Bk Bl Bm Bn:Value) (H:AH) (K0:List Value→AH→Prop) (R:AEnd→AH→Prop):Prop :=
 wIf (decide (Ap<Ao))
 (wIx Al An 2 Ap fun i4 k5 =>
 ldI .i64 i4 k5 H fun n6 =>
 ldS i4 (k5 + 1) H fun t7 =>
 wNew [(.int .i64 0),(.string ({ data:=#[] }))] H fun i8 H9 =>
 wSt i8 0 [(.int .i64 n6),(.string t7)] H9 fun H10 =>
 wPt Ad fun i11 k12 =>
 ldI .i64 i11 (k12 + 1) H10 fun n13 =>
 wIf (decide (Ap=n13))
 (wPt Ad fun i14 k15 =>
 ldI .i64 i14 (k15 + 2) H10 fun n16 =>
 wPt Aa fun i17 k18 =>
 wPt Aa fun i19 k20 =>
 ldL i17 k18 H10 fun z21b z21l z21c =>
 ldI .i64 i8 0 H10 fun n22 =>
 ldS i8 1 H10 fun t23 =>
 wSlS t23 0 (Int.tmod (if 0<n16 then n16 else 0) 65) fun t24 =>
 ldL i19 k20 H10 fun z25b z25l z25c =>
 ldI .i64 i8 0 H10 fun n26 =>
 wIx z25b z25l 1 n26 fun i27 k28 =>
 ldS i27 k28 H10 fun t29 =>
 wSlS t29 (Int.tmod (if 0<n16 then n16 else 0) 65) t29.size fun t30 =>
 wCat t24 t30 fun t31 =>
 wIx z21b z21l 1 n22 fun i32 k33 =>
 wSt i32 k33 [(.string t31)] H10 fun H34 =>
 K0 [(.pointer Aa),Ab,Ac,(.pointer Ad),(.int .i64 Ap),(.pointer (some ⟨i8,0,none⟩)),(.int .i64 (Int.tmod (if 0<n16 then n16 else 0) 65)),Ah,Ai,Aj,(.slice Al An Am),(.int .i64 Ao),(.int .i64 (IntKind.i64.wrap (Ap + 1))),(.bool true),(.int .i64 Ap),(.pointer (some ⟨i4,k5,none⟩)),(.agg #[(.int .i64 n6),(.string t7)]),(.bool true),(.int .i64 Ap),(.pointer (some ⟨i11,(k12 + 1),none⟩)),(.int .i64 n13),(.bool (decide (Ap=n13))),(.pointer (some ⟨i14,(k15 + 2),none⟩)),(.int .i64 n16),(.int .i64 (if 0<n16 then n16 else 0)),(.int .i64 (Int.tmod (if 0<n16 then n16 else 0) 65)),(.pointer Aa),(.pointer (some ⟨i17,k18,none⟩)),(.pointer (some ⟨i17,k18,none⟩)),(.slice z21b z21l z21c),(.pointer (some ⟨i8,0,none⟩)),(.int .i64 n22),(.pointer (some ⟨i8,1,none⟩)),(.string t23),(.int .i64 (Int.tmod (if 0<n16 then n16 else 0) 65)),(.string t24),(.pointer Aa),(.pointer (some ⟨i19,k20,none⟩)),(.pointer (some ⟨i19,k20,none⟩)),(.slice z25b z25l z25c),(.pointer (some ⟨i8,0,none⟩)),(.int .i64 n26),(.pointer (some ⟨i27,k28,none⟩)),(.string t29),(.int .i64 (Int.tmod (if 0<n16 then n16 else 0) 65)),(.string t30),(.string t31),(.pointer (some ⟨i32,k33,none⟩)),AT,AU,AV,AW,AX,AY,AZ,Ba,Bb,Bc,Bd,Be,Bf,Bg,Bh,Bi,Bj,(.int .i64 (IntKind.i64.wrap (Ap + 1))),Bl,Bm,Bn] H34)
 (wPt Ad fun i35 k36 =>
 ldI .u64 i35 k36 H10 fun n37 =>
 wNn (Int.tmod Ap 64)
 (wIf (decide ((IntKind.u64.wrap ((BitVec.ofInt IntKind.u64.bits (Int.fdiv n37 (2 ^ (min (Int.toNat (Int.tmod Ap 64)) IntKind.u64.bits)))) &&& (BitVec.ofInt IntKind.u64.bits 1)).toNat)=1))
 (wPt Aa fun i38 k39 =>
 ldL i38 k39 H10 fun z40b z40l z40c =>
 ldI .i64 i8 0 H10 fun n41 =>
 ldS i8 1 H10 fun t42 =>
 wIx z40b z40l 1 n41 fun i43 k44 =>
 wSt i43 k44 [(.string t42)] H10 fun H45 =>
 K0 [(.pointer Aa),Ab,Ac,(.pointer Ad),(.int .i64 Ap),(.pointer (some ⟨i8,0,none⟩)),Ag,Ah,Ai,Aj,(.slice Al An Am),(.int .i64 Ao),(.int .i64 (IntKind.i64.wrap (Ap + 1))),(.bool true),(.int .i64 Ap),(.pointer (some ⟨i4,k5,none⟩)),(.agg #[(.int .i64 n6),(.string t7)]),(.bool false),(.int .i64 Ap),(.pointer (some ⟨i11,(k12 + 1),none⟩)),(.int .i64 n13),(.bool (decide (Ap=n13))),A2,A3,A4,A5,A6,A7,A8,A9,AA,AB,AC,AD,AE,AF,AG,AI,AJ,AK,AL,AM,AN,AO,AP,AQ,AR,AS,(.bool true),(.pointer (some ⟨i35,k36,none⟩)),(.int .u64 n37),(.int .i64 Ap),(.int .i64 (Int.tmod Ap 64)),(.int .u64 (Int.fdiv n37 (2 ^ (min (Int.toNat (Int.tmod Ap 64)) IntKind.u64.bits)))),(.int .u64 (IntKind.u64.wrap ((BitVec.ofInt IntKind.u64.bits (Int.fdiv n37 (2 ^ (min (Int.toNat (Int.tmod Ap 64)) IntKind.u64.bits)))) &&& (BitVec.ofInt IntKind.u64.bits 1)).toNat)),(.bool (decide ((IntKind.u64.wrap ((BitVec.ofInt IntKind.u64.bits (Int.fdiv n37 (2 ^ (min (Int.toNat (Int.tmod Ap 64)) IntKind.u64.bits)))) &&& (BitVec.ofInt IntKind.u64.bits 1)).toNat)=1))),(.pointer Aa),(.pointer (some ⟨i38,k39,none⟩)),(.pointer (some ⟨i38,k39,none⟩)),(.slice z40b z40l z40c),(.pointer (some ⟨i8,0,none⟩)),(.int .i64 n41),(.pointer (some ⟨i8,1,none⟩)),(.string t42),(.pointer (some ⟨i43,k44,none⟩)),(.int .i64 (IntKind.i64.wrap (Ap + 1))),Bl,Bm,Bn] H45)
 (K0 [(.pointer Aa),Ab,Ac,(.pointer Ad),(.int .i64 Ap),(.pointer (some ⟨i8,0,none⟩)),Ag,Ah,Ai,Aj,(.slice Al An Am),(.int .i64 Ao),(.int .i64 (IntKind.i64.wrap (Ap + 1))),(.bool true),(.int .i64 Ap),(.pointer (some ⟨i4,k5,none⟩)),(.agg #[(.int .i64 n6),(.string t7)]),(.bool false),(.int .i64 Ap),(.pointer (some ⟨i11,(k12 + 1),none⟩)),(.int .i64 n13),(.bool (decide (Ap=n13))),A2,A3,A4,A5,A6,A7,A8,A9,AA,AB,AC,AD,AE,AF,AG,AI,AJ,AK,AL,AM,AN,AO,AP,AQ,AR,AS,(.bool false),(.pointer (some ⟨i35,k36,none⟩)),(.int .u64 n37),(.int .i64 Ap),(.int .i64 (Int.tmod Ap 64)),(.int .u64 (Int.fdiv n37 (2 ^ (min (Int.toNat (Int.tmod Ap 64)) IntKind.u64.bits)))),(.int .u64 (IntKind.u64.wrap ((BitVec.ofInt IntKind.u64.bits (Int.fdiv n37 (2 ^ (min (Int.toNat (Int.tmod Ap 64)) IntKind.u64.bits)))) &&& (BitVec.ofInt IntKind.u64.bits 1)).toNat)),(.bool (decide ((IntKind.u64.wrap ((BitVec.ofInt IntKind.u64.bits (Int.fdiv n37 (2 ^ (min (Int.toNat (Int.tmod Ap 64)) IntKind.u64.bits)))) &&& (BitVec.ofInt IntKind.u64.bits 1)).toNat)=1))),Bb,Bc,Bd,Be,Bf,Bg,Bh,Bi,Bj,(.int .i64 (IntKind.i64.wrap (Ap + 1))),Bl,Bm,Bn] H10))))
 (f60_J0 R [(.pointer Aa),Ab,Ac,(.pointer Ad),Ae,Af,Ag,Ah,Ai,Aj,(.slice Al An Am),(.int .i64 Ao),(.int .i64 Ap),(.bool false),Ar,As,At,Ax,Ay,Az,A0,A1,A2,A3,A4,A5,A6,A7,A8,A9,AA,AB,AC,AD,AE,AF,AG,AI,AJ,AK,AL,AM,AN,AO,AP,AQ,AR,AS,AT,AU,AV,AW,AX,AY,AZ,Ba,Bb,Bc,Bd,Be,Bf,Bg,Bh,Bi,Bj,Bk,Bl,Bm,Bn] H)
theorem f60_R0_eq (Aa:Option Addr) (Ab Ac:Value) (Ad:Option Addr) (Ae Af Ag Ah Ai Aj:Value) (Al:Option Addr) (An Am:Nat) (Ao Ap:Int) (Aq Ar As At Ax Ay Az A0 A1 A2 A3 A4 A5 A6 A7 A8 A9 AA AB AC AD AE AF AG AI AJ AK AL AM AN AO AP AQ AR AS AT AU AV AW AX AY AZ Ba Bb Bc Bd Be Bf Bg Bh Bi Bj Bk Bl Bm Bn:Value) (H:AH) (K0:List Value→AH→Prop) (R:AEnd→AH→Prop):awpF Tryz.prog (codeAt f60_c [1,0,1,0,0]) (thenF K0 (f60_Q0 R)) [(.pointer Aa),Ab,Ac,(.pointer Ad),Ae,Af,Ag,Ah,Ai,Aj,(.slice Al An Am),(.int .i64 Ao),(.int .i64 Ap),Aq,Ar,As,At,Ax,Ay,Az,A0,A1,A2,A3,A4,A5,A6,A7,A8,A9,AA,AB,AC,AD,AE,AF,AG,AI,AJ,AK,AL,AM,AN,AO,AP,AQ,AR,AS,AT,AU,AV,AW,AX,AY,AZ,Ba,Bb,Bc,Bd,Be,Bf,Bg,Bh,Bi,Bj,Bk,Bl,Bm,Bn] H=f60_R0 Aa Ab Ac Ad Ae Af Ag Ah Ai Aj Al An Am Ao Ap Aq Ar As At Ax Ay Az A0 A1 A2 A3 A4 A5 A6 A7 A8 A9 AA AB AC AD AE AF AG AI AJ AK AL AM AN AO AP AQ AR AS AT AU AV AW AX AY AZ Ba Bb Bc Bd Be Bf Bg Bh Bi Bj Bk Bl Bm Bn H K0 R:=by kernel_rfl
def f60_I0 (Aa:Option Addr) (Ab Ac:Value) (Ad:Option Addr) (Ah Ai Aj:Value) (Al:Option Addr) (An Am:Nat) (Ao:Int) (Bl Bm Bn:Value) (J:Nat→Int→AH→Prop) (n:Nat) (tm:List Value) (H:AH):Prop:=∃ (Ae Af Ag:Value) (Ap:Int) (Aq Ar As At Ax Ay Az A0 A1 A2 A3 A4 A5 A6 A7 A8 A9 AA AB AC AD AE AF AG AI AJ AK AL AM AN AO AP AQ AR AS AT AU AV AW AX AY AZ Ba Bb Bc Bd Be Bf Bg Bh Bi Bj Bk:Value),tm=[(.pointer Aa),Ab,Ac,(.pointer Ad),Ae,Af,Ag,Ah,Ai,Aj,(.slice Al An Am),(.int .i64 Ao),(.int .i64 Ap),Aq,Ar,As,At,Ax,Ay,Az,A0,A1,A2,A3,A4,A5,A6,A7,A8,A9,AA,AB,AC,AD,AE,AF,AG,AI,AJ,AK,AL,AM,AN,AO,AP,AQ,AR,AS,AT,AU,AV,AW,AX,AY,AZ,Ba,Bb,Bc,Bd,Be,Bf,Bg,Bh,Bi,Bj,Bk,Bl,Bm,Bn]∧J n Ap H
theorem f60_I0_mk {Aa:Option Addr} {Ab Ac:Value} {Ad:Option Addr} {Ae Af Ag Ah Ai Aj:Value} {Al:Option Addr} {An Am:Nat} {Ao Ap:Int} {Aq Ar As At Ax Ay Az A0 A1 A2 A3 A4 A5 A6 A7 A8 A9 AA AB AC AD AE AF AG AI AJ AK AL AM AN AO AP AQ AR AS AT AU AV AW AX AY AZ Ba Bb Bc Bd Be Bf Bg Bh Bi Bj Bk Bl Bm Bn:Value} {J:Nat→Int→AH→Prop} {n:Nat} {H:AH} (h:J n Ap H):f60_I0 Aa Ab Ac Ad Ah Ai Aj Al An Am Ao Bl Bm Bn J n [(.pointer Aa),Ab,Ac,(.pointer Ad),Ae,Af,Ag,Ah,Ai,Aj,(.slice Al An Am),(.int .i64 Ao),(.int .i64 Ap),Aq,Ar,As,At,Ax,Ay,Az,A0,A1,A2,A3,A4,A5,A6,A7,A8,A9,AA,AB,AC,AD,AE,AF,AG,AI,AJ,AK,AL,AM,AN,AO,AP,AQ,AR,AS,AT,AU,AV,AW,AX,AY,AZ,Ba,Bb,Bc,Bd,Be,Bf,Bg,Bh,Bi,Bj,Bk,Bl,Bm,Bn] H:=⟨_,_,_,_,_,_,_,_,_,_,_,_,_,_,_,_,_,_,_,_,_,_,_,_,_,_,_,_,_,_,_,_,_,_,_,_,_,_,_,_,_,_,_,_,_,_,_,_,_,_,_,_,_,_,_,_,_,rfl,h⟩
theorem f60_L0_rule {Aa:Option Addr} {Ab Ac:Value} {Ad:Option Addr} {Ae Af Ag Ah Ai Aj:Value} {Al:Option Addr} {An Am:Nat} {Ao Ap:Int} {Aq Ar As At Ax Ay Az A0 A1 A2 A3 A4 A5 A6 A7 A8 A9 AA AB AC AD AE AF AG AI AJ AK AL AM AN AO AP AQ AR AS AT AU AV AW AX AY AZ Ba Bb Bc Bd Be Bf Bg Bh Bi Bj Bk Bl Bm Bn:Value} {H:AH} {R:AEnd→AH→Prop} (J:Nat→Int→AH→Prop) (n:Nat) (h0:J n Ap H)
 (step:∀ (n:Nat) (Ap:Int) (H:AH),J n Ap H→∀ (Ae Af Ag Aq Ar As At Ax Ay Az A0 A1 A2 A3 A4 A5 A6 A7 A8 A9 AA AB AC AD AE AF AG AI AJ AK AL AM AN AO AP AQ AR AS AT AU AV AW AX AY AZ Ba Bb Bc Bd Be Bf Bg Bh Bi Bj Bk:Value),f60_R0 Aa Ab Ac Ad Ae Af Ag Ah Ai Aj Al An Am Ao Ap Aq Ar As At Ax Ay Az A0 A1 A2 A3 A4 A5 A6 A7 A8 A9 AA AB AC AD AE AF AG AI AJ AK AL AM AN AO AP AQ AR AS AT AU AV AW AX AY AZ Ba Bb Bc Bd Be Bf Bg Bh Bi Bj Bk Bl Bm Bn H (fun tm H=>∃ m,m<n∧f60_I0 Aa Ab Ac Ad Ah Ai Aj Al An Am Ao Bl Bm Bn J m tm H) R):f60_L0 R [(.pointer Aa),Ab,Ac,(.pointer Ad),Ae,Af,Ag,Ah,Ai,Aj,(.slice Al An Am),(.int .i64 Ao),(.int .i64 Ap),Aq,Ar,As,At,Ax,Ay,Az,A0,A1,A2,A3,A4,A5,A6,A7,A8,A9,AA,AB,AC,AD,AE,AF,AG,AI,AJ,AK,AL,AM,AN,AO,AP,AQ,AR,AS,AT,AU,AV,AW,AX,AY,AZ,Ba,Bb,Bc,Bd,Be,Bf,Bg,Bh,Bi,Bj,Bk,Bl,Bm,Bn] H :=
 awpF_loop (f60_I0 Aa Ab Ac Ad Ah Ai Aj Al An Am Ao Bl Bm Bn J) n (f60_I0_mk h0) (by
 intro n tm H hh
 exact hh.elim fun Ae hh=>hh.elim fun Af hh=>hh.elim fun Ag hh=>hh.elim fun Ap hh=>hh.elim fun Aq hh=>hh.elim fun Ar hh=>hh.elim fun As hh=>hh.elim fun At hh=>hh.elim fun Ax hh=>hh.elim fun Ay hh=>hh.elim fun Az hh=>hh.elim fun A0 hh=>hh.elim fun A1 hh=>hh.elim fun A2 hh=>hh.elim fun A3 hh=>hh.elim fun A4 hh=>hh.elim fun A5 hh=>hh.elim fun A6 hh=>hh.elim fun A7 hh=>hh.elim fun A8 hh=>hh.elim fun A9 hh=>hh.elim fun AA hh=>hh.elim fun AB hh=>hh.elim fun AC hh=>hh.elim fun AD hh=>hh.elim fun AE hh=>hh.elim fun AF hh=>hh.elim fun AG hh=>hh.elim fun AI hh=>hh.elim fun AJ hh=>hh.elim fun AK hh=>hh.elim fun AL hh=>hh.elim fun AM hh=>hh.elim fun AN hh=>hh.elim fun AO hh=>hh.elim fun AP hh=>hh.elim fun AQ hh=>hh.elim fun AR hh=>hh.elim fun AS hh=>hh.elim fun AT hh=>hh.elim fun AU hh=>hh.elim fun AV hh=>hh.elim fun AW hh=>hh.elim fun AX hh=>hh.elim fun AY hh=>hh.elim fun AZ hh=>hh.elim fun Ba hh=>hh.elim fun Bb hh=>hh.elim fun Bc hh=>hh.elim fun Bd hh=>hh.elim fun Be hh=>hh.elim fun Bf hh=>hh.elim fun Bg hh=>hh.elim fun Bh hh=>hh.elim fun Bi hh=>hh.elim fun Bj hh=>hh.elim fun Bk hh=>And.elim (fun e h =>
 (by subst e; exact Eq.mpr (f60_R0_eq Aa Ab Ac Ad Ae Af Ag Ah Ai Aj Al An Am Ao Ap Aq Ar As At Ax Ay Az A0 A1 A2 A3 A4 A5 A6 A7 A8 A9 AA AB AC AD AE AF AG AI AJ AK AL AM AN AO AP AQ AR AS AT AU AV AW AX AY AZ Ba Bb Bc Bd Be Bf Bg Bh Bi Bj Bk Bl Bm Bn H _ R) (step n Ap H h Ae Af Ag Aq Ar As At Ax Ay Az A0 A1 A2 A3 A4 A5 A6 A7 A8 A9 AA AB AC AD AE AF AG AI AJ AK AL AM AN AO AP AQ AR AS AT AU AV AW AX AY AZ Ba Bb Bc Bd Be Bf Bg Bh Bi Bj Bk))) hh)
def f60_B (x0:Option Addr) (x1_0 x1_1 x1_2:Int) (H:AH) (R:AEnd→AH→Prop):Prop :=
 wNew [(.int .u64 x1_0),(.int .i64 x1_1),(.int .i64 x1_2)] H fun i46 H47 =>
 wPt x0 fun i48 k49 =>
 ldL i48 (k49 + 1) H47 fun z50b z50l z50c =>
 f60_L0 R [(.pointer x0),(.agg #[(.int .u64 x1_0),(.int .i64 x1_1),(.int .i64 x1_2)]),undef,(.pointer (some ⟨i46,0,none⟩)),undef,undef,undef,(.pointer x0),(.pointer (some ⟨i48,k49,none⟩)),(.pointer (some ⟨i48,(k49 + 1),none⟩)),(.slice z50b z50l z50c),(.int .i64 (z50l:Int)),(.int .i64 0),undef,undef,undef,undef,undef,undef,undef,undef,undef,undef,undef,undef,undef,undef,undef,undef,undef,undef,undef,undef,undef,undef,undef,undef,undef,undef,undef,undef,undef,undef,undef,undef,undef,undef,undef,undef,undef,undef,undef,undef,undef,undef,undef,undef,undef,undef,undef,undef,undef,undef,undef,undef,undef,undef,undef,undef] H47
theorem f60_eq (x0:Option Addr) (x1_0 x1_1 x1_2:Int) (H:AH) (R:AEnd→AH→Prop):awpF Tryz.prog f60_c (aPost Tryz.prog Tryz.f60 R) (([(.pointer x0),(.agg #[(.int .u64 x1_0),(.int .i64 x1_1),(.int .i64 x1_2)])]:List Value) ++ List.replicate (Tryz.f60.ntmps - (([(.pointer x0),(.agg #[(.int .u64 x1_0),(.int .i64 x1_1),(.int .i64 x1_2)])]:List Value)).length) undef) H=f60_B x0 x1_0 x1_1 x1_2 H R:=by kernel_rfl
theorem f60_call (x0:Option Addr) (x1_0 x1_1 x1_2:Int) (H:AH) (R:AEnd→AH→Prop) (h:f60_B x0 x1_0 x1_1 x1_2 H R):ACall Tryz.prog 60 ([(.pointer x0),(.agg #[(.int .u64 x1_0),(.int .i64 x1_1),(.int .i64 x1_2)])]:List Value) H R :=
 acall_of mixed Tryz.func60 (by kernel_rfl:Tryz.f60.body=some f60_c) (by kernel_rfl) (by kernel_rfl) (awp_of (Eq.mpr (f60_eq x0 x1_0 x1_1 x1_2 H R) h))

noncomputable def f62_c:Code:=Tryz.f62.body.getD .skip
noncomputable def f62_X0 (R:AEnd→AH→Prop):AExit→List Value→AH→Prop:=thenF (fun tm H=>hold (awpF Tryz.prog (codeAt f62_c [1,1,1,1]) (aPost Tryz.prog Tryz.f62 R) tm H)) (aPost Tryz.prog Tryz.f62 R)
noncomputable def f62_X1 (R:AEnd→AH→Prop):AExit→List Value→AH→Prop:=inBlockF 0 (f62_X0 R)
noncomputable def f62_Q0 (R:AEnd→AH→Prop):AExit→List Value→AH→Prop:=(f62_X1 R)
def f62_L0 (R:AEnd→AH→Prop) (tm:List Value) (H:AH):Prop:=awpF Tryz.prog (codeAt f62_c [1,1,1,0,1,0]) (f62_Q0 R) tm H
noncomputable def f62_X2 (R:AEnd→AH→Prop):AExit→List Value→AH→Prop:=thenF (fun tm H=>hold (awpF Tryz.prog (codeAt f62_c [1,1,1]) (aPost Tryz.prog Tryz.f62 R) tm H)) (aPost Tryz.prog Tryz.f62 R)
def f62_J0 (R:AEnd→AH→Prop) (tm:List Value) (H:AH):Prop:=hold (awpF Tryz.prog (codeAt f62_c [1,1,0,1]) ((f62_X2 R)) tm H)
def f62_J1 (R:AEnd→AH→Prop) (tm:List Value) (H:AH):Prop:=hold (awpF Tryz.prog (codeAt f62_c [1,1,1]) ((aPost Tryz.prog Tryz.f62 R)) tm H)
def f62_J2 (R:AEnd→AH→Prop) (tm:List Value) (H:AH):Prop:=hold (awpF Tryz.prog (codeAt f62_c [1,1,1,1]) ((aPost Tryz.prog Tryz.f62 R)) tm H)
def f62_J2_B (Aa:Option Addr) (Ab:Int) (H:AH) (R:AEnd→AH→Prop):Prop :=
 wPt Aa fun i1 k2 =>
 ldL i1 k2 H fun z3b z3l z3c =>
 wIx z3b z3l 1 Ab fun i4 k5 =>
 ldS i4 k5 H fun t6 =>
 R (.ret (.tuple #[(.string t6),(.int .i64 0)])) H
theorem f62_J2_eq (Aa:Option Addr) (Ab:Int) (Ac Ad Ae Af Ag Ah Ai Aj Ak Ao Ap Aq Ar As At Ax Ay Az A0 A1 A2 A3 A4 A5 A6 A7 A8 A9 AA AB AC AD AE AF AG AI AJ AK AL AM AN AO AP AQ AR AS AT AU AV AW AX AY AZ Ba Bb Bc Bd:Value) (H:AH) (R:AEnd→AH→Prop):f62_J2 R [(.pointer Aa),(.int .i64 Ab),Ac,Ad,Ae,Af,Ag,Ah,Ai,Aj,Ak,Ao,Ap,Aq,Ar,As,At,Ax,Ay,Az,A0,A1,A2,A3,A4,A5,A6,A7,A8,A9,AA,AB,AC,AD,AE,AF,AG,AI,AJ,AK,AL,AM,AN,AO,AP,AQ,AR,AS,AT,AU,AV,AW,AX,AY,AZ,Ba,Bb,Bc,Bd] H=f62_J2_B Aa Ab H R:=by kernel_rfl
def f62_J1_B (Aa:Option Addr) (Ab:Int) (Ac Ad Ae Af Ag Ai Aj Ak Ao Ap Aq Ar As At Ax Ay Az A0 A1 A2 A3 AA AB AC AD AE AF AG AI AJ AK AL AM AN AO AP AQ AR AS AT AU AV AW AX AY AZ Ba Bb Bc Bd:Value) (H:AH) (R:AEnd→AH→Prop):Prop :=
 wPt Aa fun i7 k8 =>
 ldL i7 (k8 + 1) H fun z9b z9l z9c =>
 f62_L0 R [(.pointer Aa),(.int .i64 Ab),Ac,Ad,Ae,Af,Ag,(.int .i64 (IntKind.i64.wrap ((z9l:Int) - 1))),Ai,Aj,Ak,Ao,Ap,Aq,Ar,As,At,Ax,Ay,Az,A0,A1,A2,A3,(.pointer Aa),(.pointer (some ⟨i7,k8,none⟩)),(.pointer (some ⟨i7,(k8 + 1),none⟩)),(.slice z9b z9l z9c),(.int .i64 (z9l:Int)),(.int .i64 (IntKind.i64.wrap ((z9l:Int) - 1))),AA,AB,AC,AD,AE,AF,AG,AI,AJ,AK,AL,AM,AN,AO,AP,AQ,AR,AS,AT,AU,AV,AW,AX,AY,AZ,Ba,Bb,Bc,Bd] H
theorem f62_J1_eq (Aa:Option Addr) (Ab:Int) (Ac Ad Ae Af Ag Ah Ai Aj Ak Ao Ap Aq Ar As At Ax Ay Az A0 A1 A2 A3 A4 A5 A6 A7 A8 A9 AA AB AC AD AE AF AG AI AJ AK AL AM AN AO AP AQ AR AS AT AU AV AW AX AY AZ Ba Bb Bc Bd:Value) (H:AH) (R:AEnd→AH→Prop):f62_J1 R [(.pointer Aa),(.int .i64 Ab),Ac,Ad,Ae,Af,Ag,Ah,Ai,Aj,Ak,Ao,Ap,Aq,Ar,As,At,Ax,Ay,Az,A0,A1,A2,A3,A4,A5,A6,A7,A8,A9,AA,AB,AC,AD,AE,AF,AG,AI,AJ,AK,AL,AM,AN,AO,AP,AQ,AR,AS,AT,AU,AV,AW,AX,AY,AZ,Ba,Bb,Bc,Bd] H=f62_J1_B Aa Ab Ac Ad Ae Af Ag Ai Aj Ak Ao Ap Aq Ar As At Ax Ay Az A0 A1 A2 A3 AA AB AC AD AE AF AG AI AJ AK AL AM AN AO AP AQ AR AS AT AU AV AW AX AY AZ Ba Bb Bc Bd H R:=by kernel_rfl
def f62_J0_B (Aa:Option Addr) (Ab:Int) (Ac Ad Ae Af Ag Ah Ai Aj Ak Ao Ap Aq Ar As At Ax Ay Az A0 A1 A2:Value) (A3:Bool) (A4 A5 A6 A7 A8 A9 AA AB AC AD AE AF AG AI AJ AK AL AM AN AO AP AQ AR AS AT AU AV AW AX AY AZ Ba Bb Bc Bd:Value) (H:AH) (R:AEnd→AH→Prop):Prop :=
 wIf A3
 (R (.ret (.tuple #[(.string ({ data:=#[] })),(.int .i64 2)])) H)
 (f62_J1 R [(.pointer Aa),(.int .i64 Ab),Ac,Ad,Ae,Af,Ag,Ah,Ai,Aj,Ak,Ao,Ap,Aq,Ar,As,At,Ax,Ay,Az,A0,A1,A2,(.bool false),A4,A5,A6,A7,A8,A9,AA,AB,AC,AD,AE,AF,AG,AI,AJ,AK,AL,AM,AN,AO,AP,AQ,AR,AS,AT,AU,AV,AW,AX,AY,AZ,Ba,Bb,Bc,Bd] H)
theorem f62_J0_eq (Aa:Option Addr) (Ab:Int) (Ac Ad Ae Af Ag Ah Ai Aj Ak Ao Ap Aq Ar As At Ax Ay Az A0 A1 A2:Value) (A3:Bool) (A4 A5 A6 A7 A8 A9 AA AB AC AD AE AF AG AI AJ AK AL AM AN AO AP AQ AR AS AT AU AV AW AX AY AZ Ba Bb Bc Bd:Value) (H:AH) (R:AEnd→AH→Prop):f62_J0 R [(.pointer Aa),(.int .i64 Ab),Ac,Ad,Ae,Af,Ag,Ah,Ai,Aj,Ak,Ao,Ap,Aq,Ar,As,At,Ax,Ay,Az,A0,A1,A2,(.bool A3),A4,A5,A6,A7,A8,A9,AA,AB,AC,AD,AE,AF,AG,AI,AJ,AK,AL,AM,AN,AO,AP,AQ,AR,AS,AT,AU,AV,AW,AX,AY,AZ,Ba,Bb,Bc,Bd] H=f62_J0_B Aa Ab Ac Ad Ae Af Ag Ah Ai Aj Ak Ao Ap Aq Ar As At Ax Ay Az A0 A1 A2 A3 A4 A5 A6 A7 A8 A9 AA AB AC AD AE AF AG AI AJ AK AL AM AN AO AP AQ AR AS AT AU AV AW AX AY AZ Ba Bb Bc Bd H R:=by kernel_rfl
def f62_R0 (Aa:Option Addr) (Ab:Int) (Ac Ad Ae Af Ag:Value) (Ah:Int) (Ai Aj Ak Ao Ap Aq Ar As At Ax Ay Az A0 A1 A2 A3 A4 A5 A6 A7 A8 A9 AA AB AC AD AE AF AG AI AJ AK AL AM AN AO AP AQ AR AS AT AU AV AW AX AY AZ Ba Bb Bc Bd:Value) (H:AH) (K0:List Value→AH→Prop) (R:AEnd→AH→Prop):Prop :=
 wIf (decide (Ah ≥ 0))
 (wPt Aa fun i10 k11 =>
 ldL i10 (k11 + 1) H fun z12b z12l z12c =>
 wIx z12b z12l 2 Ah fun i13 k14 =>
 ldI .i64 i13 k14 H fun n15 =>
 wIf (decide (n15=Ab))
 (wPt Aa fun i16 k17 =>
 ldL i16 (k17 + 1) H fun z18b z18l z18c =>
 wIx z18b z18l 2 Ah fun i19 k20 =>
 ldS i19 (k20 + 1) H fun t21 =>
 R (.ret (.tuple #[(.string t21),(.int .i64 0)])) H)
 (K0 [(.pointer Aa),(.int .i64 Ab),Ac,Ad,Ae,Af,Ag,(.int .i64 (IntKind.i64.wrap (Ah - 1))),Ai,Aj,Ak,Ao,Ap,Aq,Ar,As,At,Ax,Ay,Az,A0,A1,A2,A3,A4,A5,A6,A7,A8,A9,(.int .i64 Ah),(.bool true),(.int .i64 Ah),(.int .i64 (IntKind.i64.wrap (Ah - 1))),(.pointer Aa),(.pointer (some ⟨i10,k11,none⟩)),(.pointer (some ⟨i10,(k11 + 1),none⟩)),(.slice z12b z12l z12c),(.int .i64 Ah),(.pointer (some ⟨i13,k14,none⟩)),(.pointer (some ⟨i13,k14,none⟩)),(.int .i64 n15),(.int .i64 Ab),(.bool false),AP,AQ,AR,AS,AT,AU,AV,AW,AX,AY,AZ,Ba,Bb,Bc,Bd] H))
 (f62_J2 R [(.pointer Aa),(.int .i64 Ab),Ac,Ad,Ae,Af,Ag,(.int .i64 Ah),Ai,Aj,Ak,Ao,Ap,Aq,Ar,As,At,Ax,Ay,Az,A0,A1,A2,A3,A4,A5,A6,A7,A8,A9,(.int .i64 Ah),(.bool false),AC,AD,AE,AF,AG,AI,AJ,AK,AL,AM,AN,AO,AP,AQ,AR,AS,AT,AU,AV,AW,AX,AY,AZ,Ba,Bb,Bc,Bd] H)
theorem f62_R0_eq (Aa:Option Addr) (Ab:Int) (Ac Ad Ae Af Ag:Value) (Ah:Int) (Ai Aj Ak Ao Ap Aq Ar As At Ax Ay Az A0 A1 A2 A3 A4 A5 A6 A7 A8 A9 AA AB AC AD AE AF AG AI AJ AK AL AM AN AO AP AQ AR AS AT AU AV AW AX AY AZ Ba Bb Bc Bd:Value) (H:AH) (K0:List Value→AH→Prop) (R:AEnd→AH→Prop):awpF Tryz.prog (codeAt f62_c [1,1,1,0,1,0,0]) (thenF K0 (f62_Q0 R)) [(.pointer Aa),(.int .i64 Ab),Ac,Ad,Ae,Af,Ag,(.int .i64 Ah),Ai,Aj,Ak,Ao,Ap,Aq,Ar,As,At,Ax,Ay,Az,A0,A1,A2,A3,A4,A5,A6,A7,A8,A9,AA,AB,AC,AD,AE,AF,AG,AI,AJ,AK,AL,AM,AN,AO,AP,AQ,AR,AS,AT,AU,AV,AW,AX,AY,AZ,Ba,Bb,Bc,Bd] H=f62_R0 Aa Ab Ac Ad Ae Af Ag Ah Ai Aj Ak Ao Ap Aq Ar As At Ax Ay Az A0 A1 A2 A3 A4 A5 A6 A7 A8 A9 AA AB AC AD AE AF AG AI AJ AK AL AM AN AO AP AQ AR AS AT AU AV AW AX AY AZ Ba Bb Bc Bd H K0 R:=by kernel_rfl
def f62_I0 (Aa:Option Addr) (Ab:Int) (Ac Ad Ag Ai Aj Ak Ao Ap Aq Ar As At Ax Ay Az A0 A1 A2 A3 A4 A5 A6 A7 A8 A9 AX AY AZ Ba Bb Bc Bd:Value) (J:Nat→Int→AH→Prop) (n:Nat) (tm:List Value) (H:AH):Prop:=∃ (Ae Af:Value) (Ah:Int) (AA AB AC AD AE AF AG AI AJ AK AL AM AN AO AP AQ AR AS AT AU AV AW:Value),tm=[(.pointer Aa),(.int .i64 Ab),Ac,Ad,Ae,Af,Ag,(.int .i64 Ah),Ai,Aj,Ak,Ao,Ap,Aq,Ar,As,At,Ax,Ay,Az,A0,A1,A2,A3,A4,A5,A6,A7,A8,A9,AA,AB,AC,AD,AE,AF,AG,AI,AJ,AK,AL,AM,AN,AO,AP,AQ,AR,AS,AT,AU,AV,AW,AX,AY,AZ,Ba,Bb,Bc,Bd]∧J n Ah H
theorem f62_I0_mk {Aa:Option Addr} {Ab:Int} {Ac Ad Ae Af Ag:Value} {Ah:Int} {Ai Aj Ak Ao Ap Aq Ar As At Ax Ay Az A0 A1 A2 A3 A4 A5 A6 A7 A8 A9 AA AB AC AD AE AF AG AI AJ AK AL AM AN AO AP AQ AR AS AT AU AV AW AX AY AZ Ba Bb Bc Bd:Value} {J:Nat→Int→AH→Prop} {n:Nat} {H:AH} (h:J n Ah H):f62_I0 Aa Ab Ac Ad Ag Ai Aj Ak Ao Ap Aq Ar As At Ax Ay Az A0 A1 A2 A3 A4 A5 A6 A7 A8 A9 AX AY AZ Ba Bb Bc Bd J n [(.pointer Aa),(.int .i64 Ab),Ac,Ad,Ae,Af,Ag,(.int .i64 Ah),Ai,Aj,Ak,Ao,Ap,Aq,Ar,As,At,Ax,Ay,Az,A0,A1,A2,A3,A4,A5,A6,A7,A8,A9,AA,AB,AC,AD,AE,AF,AG,AI,AJ,AK,AL,AM,AN,AO,AP,AQ,AR,AS,AT,AU,AV,AW,AX,AY,AZ,Ba,Bb,Bc,Bd] H:=⟨_,_,_,_,_,_,_,_,_,_,_,_,_,_,_,_,_,_,_,_,_,_,_,_,_,rfl,h⟩
theorem f62_L0_rule {Aa:Option Addr} {Ab:Int} {Ac Ad Ae Af Ag:Value} {Ah:Int} {Ai Aj Ak Ao Ap Aq Ar As At Ax Ay Az A0 A1 A2 A3 A4 A5 A6 A7 A8 A9 AA AB AC AD AE AF AG AI AJ AK AL AM AN AO AP AQ AR AS AT AU AV AW AX AY AZ Ba Bb Bc Bd:Value} {H:AH} {R:AEnd→AH→Prop} (J:Nat→Int→AH→Prop) (n:Nat) (h0:J n Ah H)
 (step:∀ (n:Nat) (Ah:Int) (H:AH),J n Ah H→∀ (Ae Af AA AB AC AD AE AF AG AI AJ AK AL AM AN AO AP AQ AR AS AT AU AV AW:Value),f62_R0 Aa Ab Ac Ad Ae Af Ag Ah Ai Aj Ak Ao Ap Aq Ar As At Ax Ay Az A0 A1 A2 A3 A4 A5 A6 A7 A8 A9 AA AB AC AD AE AF AG AI AJ AK AL AM AN AO AP AQ AR AS AT AU AV AW AX AY AZ Ba Bb Bc Bd H (fun tm H=>∃ m,m<n∧f62_I0 Aa Ab Ac Ad Ag Ai Aj Ak Ao Ap Aq Ar As At Ax Ay Az A0 A1 A2 A3 A4 A5 A6 A7 A8 A9 AX AY AZ Ba Bb Bc Bd J m tm H) R):f62_L0 R [(.pointer Aa),(.int .i64 Ab),Ac,Ad,Ae,Af,Ag,(.int .i64 Ah),Ai,Aj,Ak,Ao,Ap,Aq,Ar,As,At,Ax,Ay,Az,A0,A1,A2,A3,A4,A5,A6,A7,A8,A9,AA,AB,AC,AD,AE,AF,AG,AI,AJ,AK,AL,AM,AN,AO,AP,AQ,AR,AS,AT,AU,AV,AW,AX,AY,AZ,Ba,Bb,Bc,Bd] H :=
 awpF_loop (f62_I0 Aa Ab Ac Ad Ag Ai Aj Ak Ao Ap Aq Ar As At Ax Ay Az A0 A1 A2 A3 A4 A5 A6 A7 A8 A9 AX AY AZ Ba Bb Bc Bd J) n (f62_I0_mk h0) (by
 intro n tm H hh
 exact hh.elim fun Ae hh=>hh.elim fun Af hh=>hh.elim fun Ah hh=>hh.elim fun AA hh=>hh.elim fun AB hh=>hh.elim fun AC hh=>hh.elim fun AD hh=>hh.elim fun AE hh=>hh.elim fun AF hh=>hh.elim fun AG hh=>hh.elim fun AI hh=>hh.elim fun AJ hh=>hh.elim fun AK hh=>hh.elim fun AL hh=>hh.elim fun AM hh=>hh.elim fun AN hh=>hh.elim fun AO hh=>hh.elim fun AP hh=>hh.elim fun AQ hh=>hh.elim fun AR hh=>hh.elim fun AS hh=>hh.elim fun AT hh=>hh.elim fun AU hh=>hh.elim fun AV hh=>hh.elim fun AW hh=>And.elim (fun e h =>
 (by subst e; exact Eq.mpr (f62_R0_eq Aa Ab Ac Ad Ae Af Ag Ah Ai Aj Ak Ao Ap Aq Ar As At Ax Ay Az A0 A1 A2 A3 A4 A5 A6 A7 A8 A9 AA AB AC AD AE AF AG AI AJ AK AL AM AN AO AP AQ AR AS AT AU AV AW AX AY AZ Ba Bb Bc Bd H _ R) (step n Ah H h Ae Af AA AB AC AD AE AF AG AI AJ AK AL AM AN AO AP AQ AR AS AT AU AV AW))) hh)
def f62_B (x0:Option Addr) (x1:Int) (H:AH) (R:AEnd→AH→Prop):Prop :=
 wCall Tryz.prog 86 [(.pointer x0)] H (fun r22 H23 =>
 opI .i64 r22 fun n26 =>
 wIf (!decide (n26=0))
 (R (.ret (.tuple #[(.string ({ data:=#[] })),(.int .i64 n26)])) H23)
 (wIf (decide (x1<0))
 (f62_J0 R [(.pointer x0),(.int .i64 x1),undef,undef,(.string ({ data:=#[] })),(.int .i64 0),(.int .i64 n26),undef,(.pointer x0),(.int .i64 n26),(.int .i64 n26),(.bool false),undef,(.int .i64 x1),(.bool (decide (x1<0))),(.bool true),undef,undef,undef,undef,undef,undef,undef,(.bool true),undef,undef,undef,undef,undef,undef,undef,undef,undef,undef,undef,undef,undef,undef,undef,undef,undef,undef,undef,undef,undef,undef,undef,undef,undef,undef,undef,undef,undef,undef,undef,undef,undef,undef,undef] H23)
 (wPt x0 fun i27 k28 =>
 ldL i27 k28 H23 fun z29b z29l z29c =>
 f62_J0 R [(.pointer x0),(.int .i64 x1),undef,undef,(.string ({ data:=#[] })),(.int .i64 0),(.int .i64 n26),undef,(.pointer x0),(.int .i64 n26),(.int .i64 n26),(.bool false),undef,(.int .i64 x1),(.bool (decide (x1<0))),(.bool false),(.int .i64 x1),(.pointer x0),(.pointer (some ⟨i27,k28,none⟩)),(.pointer (some ⟨i27,k28,none⟩)),(.slice z29b z29l z29c),(.int .i64 (z29l:Int)),(.bool (decide (x1 ≥ (z29l:Int)))),(.bool (decide (x1 ≥ (z29l:Int)))),undef,undef,undef,undef,undef,undef,undef,undef,undef,undef,undef,undef,undef,undef,undef,undef,undef,undef,undef,undef,undef,undef,undef,undef,undef,undef,undef,undef,undef,undef,undef,undef,undef,undef,undef] H23))) (fun v H=>R (.panic v) H)
theorem f62_eq (x0:Option Addr) (x1:Int) (H:AH) (R:AEnd→AH→Prop):awpF Tryz.prog f62_c (aPost Tryz.prog Tryz.f62 R) (([(.pointer x0),(.int .i64 x1)]:List Value) ++ List.replicate (Tryz.f62.ntmps - (([(.pointer x0),(.int .i64 x1)]:List Value)).length) undef) H=f62_B x0 x1 H R:=by kernel_rfl
theorem f62_call (x0:Option Addr) (x1:Int) (H:AH) (R:AEnd→AH→Prop) (h:f62_B x0 x1 H R):ACall Tryz.prog 62 ([(.pointer x0),(.int .i64 x1)]:List Value) H R :=
 acall_of mixed Tryz.func62 (by kernel_rfl:Tryz.f62.body=some f62_c) (by kernel_rfl) (by kernel_rfl) (awp_of (Eq.mpr (f62_eq x0 x1 H R) h))

noncomputable def f86_c:Code:=Tryz.f86.body.getD .skip
def f86_B (x0:Option Addr) (H:AH) (R:AEnd→AH→Prop):Prop :=
 wIf x0.isNone
 (R (.ret (.int .i64 1)) H)
 (wPt x0 fun i1 k2 =>
 ldB i1 (k2 + 2) H fun b3 =>
 wIf b3
 (R (.ret (.int .i64 10)) H)
 (R (.ret (.int .i64 0)) H))
theorem f86_eq (x0:Option Addr) (H:AH) (R:AEnd→AH→Prop):awpF Tryz.prog f86_c (aPost Tryz.prog Tryz.f86 R) (([(.pointer x0)]:List Value) ++ List.replicate (Tryz.f86.ntmps - (([(.pointer x0)]:List Value)).length) undef) H=f86_B x0 H R:=by kernel_rfl
theorem f86_call (x0:Option Addr) (H:AH) (R:AEnd→AH→Prop) (h:f86_B x0 H R):ACall Tryz.prog 86 ([(.pointer x0)]:List Value) H R :=
 acall_of mixed Tryz.func86 (by kernel_rfl:Tryz.f86.body=some f86_c) (by kernel_rfl) (by kernel_rfl) (awp_of (Eq.mpr (f86_eq x0 H R) h))

noncomputable def f114_c:Code:=Tryz.f114.body.getD .skip
noncomputable def f114_X0 (R:AEnd→AH→Prop):AExit→List Value→AH→Prop:=thenF (fun tm H=>hold (awpF Tryz.prog (codeAt f114_c [1,1,1]) (aPost Tryz.prog Tryz.f114 R) tm H)) (aPost Tryz.prog Tryz.f114 R)
def f114_J0 (R:AEnd→AH→Prop) (tm:List Value) (H:AH):Prop:=hold (awpF Tryz.prog (codeAt f114_c [1,1,0,1]) ((f114_X0 R)) tm H)
def f114_J1 (R:AEnd→AH→Prop) (tm:List Value) (H:AH):Prop:=hold (awpF Tryz.prog (codeAt f114_c [1,1,1]) ((aPost Tryz.prog Tryz.f114 R)) tm H)
def f114_J1_B (Aa:Option Addr) (Ab:Int) (Ac:ByteArray) (H:AH) (R:AEnd→AH→Prop):Prop :=
 wPt Aa fun i1 k2 =>
 ldL i1 (k2 + 1) H fun z3b z3l z3c =>
 wBs [(.int .i64 Ab),(.string Ac)] 2 H fun i4 H5 =>
 wAppL 143 2 24 z3b z3l z3c (some ⟨i4,0,none⟩) 1 0 H5 fun z6b z6l z6c H7 =>
 wPt Aa fun i8 k9 =>
 wSt i8 (k9 + 1) [(.slice z6b z6l z6c)] H7 fun H10 =>
 wCall Tryz.prog 136 [(.pointer Aa)] H10 (fun r11 H12 =>
 opB r11 fun b15 =>
 wIf b15
 (R (.ret (.int .i64 10)) H12)
 (R (.ret (.int .i64 0)) H12)) (fun v H=>R (.panic v) H)
theorem f114_J1_eq (Aa:Option Addr) (Ab:Int) (Ac:ByteArray) (Ad Ae Af Ag Ah Ai Aj Ak Ao Ap Aq Ar As At Ax Ay Az A0 A1 A2 A3 A4 A5 A6 A7 A8 A9 AA AB AC AD AE AF AG AI AJ AK AL AM AN:Value) (H:AH) (R:AEnd→AH→Prop):f114_J1 R [(.pointer Aa),(.int .i64 Ab),(.string Ac),Ad,Ae,Af,Ag,Ah,Ai,Aj,Ak,Ao,Ap,Aq,Ar,As,At,Ax,Ay,Az,A0,A1,A2,A3,A4,A5,A6,A7,A8,A9,AA,AB,AC,AD,AE,AF,AG,AI,AJ,AK,AL,AM,AN] H=f114_J1_B Aa Ab Ac H R:=by kernel_rfl
def f114_J0_B (Aa:Option Addr) (Ab:Int) (Ac:ByteArray) (Ad Ae Af Ag Ah Ai Aj Ak Ao Ap Aq Ar As At Ax Ay Az A0 A1 A2 A3 A4 A5 A6 A7:Value) (A8:Bool) (A9 AA AB AC AD AE AF AG AI AJ AK AL AM AN:Value) (H:AH) (R:AEnd→AH→Prop):Prop :=
 wIf A8
 (R (.ret (.int .i64 2)) H)
 (f114_J1 R [(.pointer Aa),(.int .i64 Ab),(.string Ac),Ad,Ae,Af,Ag,Ah,Ai,Aj,Ak,Ao,Ap,Aq,Ar,As,At,Ax,Ay,Az,A0,A1,A2,A3,A4,A5,A6,A7,(.bool false),A9,AA,AB,AC,AD,AE,AF,AG,AI,AJ,AK,AL,AM,AN] H)
theorem f114_J0_eq (Aa:Option Addr) (Ab:Int) (Ac:ByteArray) (Ad Ae Af Ag Ah Ai Aj Ak Ao Ap Aq Ar As At Ax Ay Az A0 A1 A2 A3 A4 A5 A6 A7:Value) (A8:Bool) (A9 AA AB AC AD AE AF AG AI AJ AK AL AM AN:Value) (H:AH) (R:AEnd→AH→Prop):f114_J0 R [(.pointer Aa),(.int .i64 Ab),(.string Ac),Ad,Ae,Af,Ag,Ah,Ai,Aj,Ak,Ao,Ap,Aq,Ar,As,At,Ax,Ay,Az,A0,A1,A2,A3,A4,A5,A6,A7,(.bool A8),A9,AA,AB,AC,AD,AE,AF,AG,AI,AJ,AK,AL,AM,AN] H=f114_J0_B Aa Ab Ac Ad Ae Af Ag Ah Ai Aj Ak Ao Ap Aq Ar As At Ax Ay Az A0 A1 A2 A3 A4 A5 A6 A7 A8 A9 AA AB AC AD AE AF AG AI AJ AK AL AM AN H R:=by kernel_rfl
def f114_B (x0:Option Addr) (x1:Int) (x2:ByteArray) (H:AH) (R:AEnd→AH→Prop):Prop :=
 wCall Tryz.prog 86 [(.pointer x0)] H (fun r16 H17 =>
 opI .i64 r16 fun n20 =>
 wIf (!decide (n20=0))
 (R (.ret (.int .i64 n20)) H17)
 (wIf (decide (x1<0))
 (f114_J0 R [(.pointer x0),(.int .i64 x1),(.string x2),undef,undef,undef,(.int .i64 0),(.int .i64 n20),(.pointer x0),(.int .i64 n20),(.int .i64 n20),(.bool false),undef,(.int .i64 x1),(.bool (decide (x1<0))),(.bool true),undef,undef,undef,undef,undef,undef,undef,(.bool true),(.bool true),undef,undef,undef,(.bool true),undef,undef,undef,undef,undef,undef,undef,undef,undef,undef,undef,undef,undef,undef] H17)
 (wPt x0 fun i21 k22 =>
 ldL i21 k22 H17 fun z23b z23l z23c =>
 wIf (decide (x1 ≥ (z23l:Int)))
 (f114_J0 R [(.pointer x0),(.int .i64 x1),(.string x2),undef,undef,undef,(.int .i64 0),(.int .i64 n20),(.pointer x0),(.int .i64 n20),(.int .i64 n20),(.bool false),undef,(.int .i64 x1),(.bool (decide (x1<0))),(.bool false),(.int .i64 x1),(.pointer x0),(.pointer (some ⟨i21,k22,none⟩)),(.pointer (some ⟨i21,k22,none⟩)),(.slice z23b z23l z23c),(.int .i64 (z23l:Int)),(.bool (decide (x1 ≥ (z23l:Int)))),(.bool (decide (x1 ≥ (z23l:Int)))),(.bool true),undef,undef,undef,(.bool true),undef,undef,undef,undef,undef,undef,undef,undef,undef,undef,undef,undef,undef,undef] H17)
 (f114_J0 R [(.pointer x0),(.int .i64 x1),(.string x2),undef,undef,undef,(.int .i64 0),(.int .i64 n20),(.pointer x0),(.int .i64 n20),(.int .i64 n20),(.bool false),undef,(.int .i64 x1),(.bool (decide (x1<0))),(.bool false),(.int .i64 x1),(.pointer x0),(.pointer (some ⟨i21,k22,none⟩)),(.pointer (some ⟨i21,k22,none⟩)),(.slice z23b z23l z23c),(.int .i64 (z23l:Int)),(.bool (decide (x1 ≥ (z23l:Int)))),(.bool (decide (x1 ≥ (z23l:Int)))),(.bool false),(.string x2),(.int .i64 (x2.size:Int)),(.bool (!decide ((x2.size:Int)=64))),(.bool (!decide ((x2.size:Int)=64))),undef,undef,undef,undef,undef,undef,undef,undef,undef,undef,undef,undef,undef,undef] H17)))) (fun v H=>R (.panic v) H)
theorem f114_eq (x0:Option Addr) (x1:Int) (x2:ByteArray) (H:AH) (R:AEnd→AH→Prop):awpF Tryz.prog f114_c (aPost Tryz.prog Tryz.f114 R) (([(.pointer x0),(.int .i64 x1),(.string x2)]:List Value) ++ List.replicate (Tryz.f114.ntmps - (([(.pointer x0),(.int .i64 x1),(.string x2)]:List Value)).length) undef) H=f114_B x0 x1 x2 H R:=by kernel_rfl
theorem f114_call (x0:Option Addr) (x1:Int) (x2:ByteArray) (H:AH) (R:AEnd→AH→Prop) (h:f114_B x0 x1 x2 H R):ACall Tryz.prog 114 ([(.pointer x0),(.int .i64 x1),(.string x2)]:List Value) H R :=
 acall_of mixed Tryz.func114 (by kernel_rfl:Tryz.f114.body=some f114_c) (by kernel_rfl) (by kernel_rfl) (awp_of (Eq.mpr (f114_eq x0 x1 x2 H R) h))

noncomputable def f115_c:Code:=Tryz.f115.body.getD .skip
noncomputable def f115_X0 (R:AEnd→AH→Prop):AExit→List Value→AH→Prop:=thenF (fun tm H=>hold (awpF Tryz.prog (codeAt f115_c [1,1,1,1]) (aPost Tryz.prog Tryz.f115 R) tm H)) (aPost Tryz.prog Tryz.f115 R)
noncomputable def f115_X1 (R:AEnd→AH→Prop):AExit→List Value→AH→Prop:=inBlockF 0 (f115_X0 R)
noncomputable def f115_Q0 (R:AEnd→AH→Prop):AExit→List Value→AH→Prop:=(f115_X1 R)
def f115_L0 (R:AEnd→AH→Prop) (tm:List Value) (H:AH):Prop:=awpF Tryz.prog (codeAt f115_c [1,1,1,0,1,0]) (f115_Q0 R) tm H
def f115_J0 (R:AEnd→AH→Prop) (tm:List Value) (H:AH):Prop:=hold (awpF Tryz.prog (codeAt f115_c [1,1,1,1]) ((aPost Tryz.prog Tryz.f115 R)) tm H)
def f115_J0_B (Aa:Option Addr) (H:AH) (R:AEnd→AH→Prop):Prop :=
 wPt Aa fun i1 k2 =>
 wSt i1 (k2 + 1) [(.slice none 0 0)] H fun H3 =>
 R (.ret (.int .i64 0)) H3
theorem f115_J0_eq (Aa:Option Addr) (Ab Ac Ad Ae Af Ag Ah Ai Aj Ak Ao Ap Aq Ar As At Ax Ay Az A0 A1 A2 A3 A4 A5 A6 A7 A8 A9 AA AB AC AD AE:Value) (H:AH) (R:AEnd→AH→Prop):f115_J0 R [(.pointer Aa),Ab,Ac,Ad,Ae,Af,Ag,Ah,Ai,Aj,Ak,Ao,Ap,Aq,Ar,As,At,Ax,Ay,Az,A0,A1,A2,A3,A4,A5,A6,A7,A8,A9,AA,AB,AC,AD,AE] H=f115_J0_B Aa H R:=by kernel_rfl
def f115_R0 (Aa:Option Addr) (Ab Ac Ad Ae Af Ag Ah Ai Aj Ak Ao Ap Aq Ar As:Value) (Au:Option Addr) (Aw Av:Nat) (Ax Ay:Int) (Az A0 A1 A2 A3 A4 A5 A6 A7 A8 A9 AA AB AC AD AE:Value) (H:AH) (K0:List Value→AH→Prop) (R:AEnd→AH→Prop):Prop :=
 wIf (decide (Ay<Ax))
 (wIx Au Aw 2 Ay fun i4 k5 =>
 ldI .i64 i4 k5 H fun n6 =>
 ldS i4 (k5 + 1) H fun t7 =>
 wNew [(.int .i64 0),(.string ({ data:=#[] }))] H fun i8 H9 =>
 wSt i8 0 [(.int .i64 n6),(.string t7)] H9 fun H10 =>
 wPt Aa fun i11 k12 =>
 ldL i11 k12 H10 fun z13b z13l z13c =>
 ldI .i64 i8 0 H10 fun n14 =>
 ldS i8 1 H10 fun t15 =>
 wIx z13b z13l 1 n14 fun i16 k17 =>
 wSt i16 k17 [(.string t15)] H10 fun H18 =>
 K0 [(.pointer Aa),Ab,Ac,Ad,Ae,(.pointer (some ⟨i8,0,none⟩)),Ag,Ah,Ai,Aj,Ak,Ao,Ap,Aq,Ar,As,(.slice Au Aw Av),(.int .i64 Ax),(.int .i64 (IntKind.i64.wrap (Ay + 1))),(.bool true),(.pointer (some ⟨i4,k5,none⟩)),(.agg #[(.int .i64 n6),(.string t7)]),(.pointer Aa),(.pointer (some ⟨i11,k12,none⟩)),(.pointer (some ⟨i11,k12,none⟩)),(.slice z13b z13l z13c),(.pointer (some ⟨i8,0,none⟩)),(.int .i64 n14),(.pointer (some ⟨i8,1,none⟩)),(.string t15),(.pointer (some ⟨i16,k17,none⟩)),(.int .i64 (IntKind.i64.wrap (Ay + 1))),AC,AD,AE] H18)
 (f115_J0 R [(.pointer Aa),Ab,Ac,Ad,Ae,Af,Ag,Ah,Ai,Aj,Ak,Ao,Ap,Aq,Ar,As,(.slice Au Aw Av),(.int .i64 Ax),(.int .i64 Ay),(.bool false),A0,A1,A2,A3,A4,A5,A6,A7,A8,A9,AA,AB,AC,AD,AE] H)
theorem f115_R0_eq (Aa:Option Addr) (Ab Ac Ad Ae Af Ag Ah Ai Aj Ak Ao Ap Aq Ar As:Value) (Au:Option Addr) (Aw Av:Nat) (Ax Ay:Int) (Az A0 A1 A2 A3 A4 A5 A6 A7 A8 A9 AA AB AC AD AE:Value) (H:AH) (K0:List Value→AH→Prop) (R:AEnd→AH→Prop):awpF Tryz.prog (codeAt f115_c [1,1,1,0,1,0,0]) (thenF K0 (f115_Q0 R)) [(.pointer Aa),Ab,Ac,Ad,Ae,Af,Ag,Ah,Ai,Aj,Ak,Ao,Ap,Aq,Ar,As,(.slice Au Aw Av),(.int .i64 Ax),(.int .i64 Ay),Az,A0,A1,A2,A3,A4,A5,A6,A7,A8,A9,AA,AB,AC,AD,AE] H=f115_R0 Aa Ab Ac Ad Ae Af Ag Ah Ai Aj Ak Ao Ap Aq Ar As Au Aw Av Ax Ay Az A0 A1 A2 A3 A4 A5 A6 A7 A8 A9 AA AB AC AD AE H K0 R:=by kernel_rfl
def f115_I0 (Aa:Option Addr) (Ab Ac Ad Ae Ag Ah Ai Aj Ak Ao Ap Aq Ar As:Value) (Au:Option Addr) (Aw Av:Nat) (Ax:Int) (AC AD AE:Value) (J:Nat→Int→AH→Prop) (n:Nat) (tm:List Value) (H:AH):Prop:=∃ (Af:Value) (Ay:Int) (Az A0 A1 A2 A3 A4 A5 A6 A7 A8 A9 AA AB:Value),tm=[(.pointer Aa),Ab,Ac,Ad,Ae,Af,Ag,Ah,Ai,Aj,Ak,Ao,Ap,Aq,Ar,As,(.slice Au Aw Av),(.int .i64 Ax),(.int .i64 Ay),Az,A0,A1,A2,A3,A4,A5,A6,A7,A8,A9,AA,AB,AC,AD,AE]∧J n Ay H
theorem f115_I0_mk {Aa:Option Addr} {Ab Ac Ad Ae Af Ag Ah Ai Aj Ak Ao Ap Aq Ar As:Value} {Au:Option Addr} {Aw Av:Nat} {Ax Ay:Int} {Az A0 A1 A2 A3 A4 A5 A6 A7 A8 A9 AA AB AC AD AE:Value} {J:Nat→Int→AH→Prop} {n:Nat} {H:AH} (h:J n Ay H):f115_I0 Aa Ab Ac Ad Ae Ag Ah Ai Aj Ak Ao Ap Aq Ar As Au Aw Av Ax AC AD AE J n [(.pointer Aa),Ab,Ac,Ad,Ae,Af,Ag,Ah,Ai,Aj,Ak,Ao,Ap,Aq,Ar,As,(.slice Au Aw Av),(.int .i64 Ax),(.int .i64 Ay),Az,A0,A1,A2,A3,A4,A5,A6,A7,A8,A9,AA,AB,AC,AD,AE] H:=⟨_,_,_,_,_,_,_,_,_,_,_,_,_,_,_,rfl,h⟩
theorem f115_L0_rule {Aa:Option Addr} {Ab Ac Ad Ae Af Ag Ah Ai Aj Ak Ao Ap Aq Ar As:Value} {Au:Option Addr} {Aw Av:Nat} {Ax Ay:Int} {Az A0 A1 A2 A3 A4 A5 A6 A7 A8 A9 AA AB AC AD AE:Value} {H:AH} {R:AEnd→AH→Prop} (J:Nat→Int→AH→Prop) (n:Nat) (h0:J n Ay H)
 (step:∀ (n:Nat) (Ay:Int) (H:AH),J n Ay H→∀ (Af Az A0 A1 A2 A3 A4 A5 A6 A7 A8 A9 AA AB:Value),f115_R0 Aa Ab Ac Ad Ae Af Ag Ah Ai Aj Ak Ao Ap Aq Ar As Au Aw Av Ax Ay Az A0 A1 A2 A3 A4 A5 A6 A7 A8 A9 AA AB AC AD AE H (fun tm H=>∃ m,m<n∧f115_I0 Aa Ab Ac Ad Ae Ag Ah Ai Aj Ak Ao Ap Aq Ar As Au Aw Av Ax AC AD AE J m tm H) R):f115_L0 R [(.pointer Aa),Ab,Ac,Ad,Ae,Af,Ag,Ah,Ai,Aj,Ak,Ao,Ap,Aq,Ar,As,(.slice Au Aw Av),(.int .i64 Ax),(.int .i64 Ay),Az,A0,A1,A2,A3,A4,A5,A6,A7,A8,A9,AA,AB,AC,AD,AE] H :=
 awpF_loop (f115_I0 Aa Ab Ac Ad Ae Ag Ah Ai Aj Ak Ao Ap Aq Ar As Au Aw Av Ax AC AD AE J) n (f115_I0_mk h0) (by
 intro n tm H hh
 exact hh.elim fun Af hh=>hh.elim fun Ay hh=>hh.elim fun Az hh=>hh.elim fun A0 hh=>hh.elim fun A1 hh=>hh.elim fun A2 hh=>hh.elim fun A3 hh=>hh.elim fun A4 hh=>hh.elim fun A5 hh=>hh.elim fun A6 hh=>hh.elim fun A7 hh=>hh.elim fun A8 hh=>hh.elim fun A9 hh=>hh.elim fun AA hh=>hh.elim fun AB hh=>And.elim (fun e h =>
 (by subst e; exact Eq.mpr (f115_R0_eq Aa Ab Ac Ad Ae Af Ag Ah Ai Aj Ak Ao Ap Aq Ar As Au Aw Av Ax Ay Az A0 A1 A2 A3 A4 A5 A6 A7 A8 A9 AA AB AC AD AE H _ R) (step n Ay H h Af Az A0 A1 A2 A3 A4 A5 A6 A7 A8 A9 AA AB))) hh)
def f115_B (x0:Option Addr) (H:AH) (R:AEnd→AH→Prop):Prop :=
 wCall Tryz.prog 86 [(.pointer x0)] H (fun r19 H20 =>
 opI .i64 r19 fun n23 =>
 wIf (!decide (n23=0))
 (R (.ret (.int .i64 n23)) H20)
 (wCall Tryz.prog 136 [(.pointer x0)] H20 (fun r24 H25 =>
 opB r24 fun b28 =>
 wIf b28
 (R (.ret (.int .i64 10)) H25)
 (wPt x0 fun i29 k30 =>
 ldL i29 (k30 + 1) H25 fun z31b z31l z31c =>
 f115_L0 R [(.pointer x0),undef,(.int .i64 0),(.int .i64 n23),undef,undef,(.pointer x0),(.int .i64 n23),(.int .i64 n23),(.bool false),undef,(.pointer x0),(.bool false),(.pointer x0),(.pointer (some ⟨i29,k30,none⟩)),(.pointer (some ⟨i29,(k30 + 1),none⟩)),(.slice z31b z31l z31c),(.int .i64 (z31l:Int)),(.int .i64 0),undef,undef,undef,undef,undef,undef,undef,undef,undef,undef,undef,undef,undef,undef,undef,undef] H25)) (fun v H=>R (.panic v) H))) (fun v H=>R (.panic v) H)
theorem f115_eq (x0:Option Addr) (H:AH) (R:AEnd→AH→Prop):awpF Tryz.prog f115_c (aPost Tryz.prog Tryz.f115 R) (([(.pointer x0)]:List Value) ++ List.replicate (Tryz.f115.ntmps - (([(.pointer x0)]:List Value)).length) undef) H=f115_B x0 H R:=by kernel_rfl
theorem f115_call (x0:Option Addr) (H:AH) (R:AEnd→AH→Prop) (h:f115_B x0 H R):ACall Tryz.prog 115 ([(.pointer x0)]:List Value) H R :=
 acall_of mixed Tryz.func115 (by kernel_rfl:Tryz.f115.body=some f115_c) (by kernel_rfl) (by kernel_rfl) (awp_of (Eq.mpr (f115_eq x0 H R) h))

noncomputable def f136_c:Code:=Tryz.f136.body.getD .skip
def f136_B (x0:Option Addr) (H:AH) (R:AEnd→AH→Prop):Prop :=
 wPt x0 fun i1 k2 =>
 ldI .i64 i1 (k2 + 3) H fun n3 =>
 wIf (decide (n3=0))
 (R (.ret (.bool false)) H)
 (wPt x0 fun i4 k5 =>
 ldI .i64 i4 (k5 + 3) H fun n6 =>
 wPt x0 fun i7 k8 =>
 wSt i7 (k8 + 3) [(.int .i64 (IntKind.i64.wrap (n6 - 1)))] H fun H9 =>
 wPt x0 fun i10 k11 =>
 ldI .i64 i10 (k11 + 3) H9 fun n12 =>
 wIf (decide (n12 > 0))
 (R (.ret (.bool false)) H9)
 (wPt x0 fun i13 k14 =>
 ldI .u64 i13 (k14 + 4) H9 fun n15 =>
 ldI .i64 i13 (k14 + 5) H9 fun n16 =>
 ldI .i64 i13 (k14 + 6) H9 fun n17 =>
 wCall Tryz.prog 60 [(.pointer x0),(.agg #[(.int .u64 n15),(.int .i64 n16),(.int .i64 n17)])] H9 (fun r18 H19 =>
 wPt x0 fun i22 k23 =>
 wSt i22 (k23 + 2) [(.bool true)] H19 fun H24 =>
 R (.ret (.bool true)) H24) (fun v H=>R (.panic v) H)))
theorem f136_eq (x0:Option Addr) (H:AH) (R:AEnd→AH→Prop):awpF Tryz.prog f136_c (aPost Tryz.prog Tryz.f136 R) (([(.pointer x0)]:List Value) ++ List.replicate (Tryz.f136.ntmps - (([(.pointer x0)]:List Value)).length) undef) H=f136_B x0 H R:=by kernel_rfl
theorem f136_call (x0:Option Addr) (H:AH) (R:AEnd→AH→Prop) (h:f136_B x0 H R):ACall Tryz.prog 136 ([(.pointer x0)]:List Value) H R :=
 acall_of mixed Tryz.func136 (by kernel_rfl:Tryz.f136.body=some f136_c) (by kernel_rfl) (by kernel_rfl) (awp_of (Eq.mpr (f136_eq x0 H R) h))

end Go.Proofs.YtjhbbbcelnlnpaaGreatDoor
