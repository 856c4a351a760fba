/- Bodies of functions as nested rules: printed by genw.py,a program of this claim. -/
import Derived.Test.YtjhbbbcelnlnpaaGreatDoorWNao
import Derived.Test.YtjhbbbcelnlnpaaGreatDoorWNay
namespace Go.Proofs.YtjhbbbcelnlnpaaGreatDoor
open Go.RowKit
set_option maxRecDepth 100000

noncomputable def f35_c:Code:=Tryz.f35.body.getD .skip
def f35_B (x0b:Option Addr) (x0l x0c:Nat) (H:AH) (R:AEnd→AH→Prop):Prop :=
 wNew [(.slice x0b x0l x0c)] H fun i1 H2 =>
 R (.ret (.func (.func 66) #[] #[(.pointer (some ⟨i1,0,none⟩))])) H2
theorem f35_eq (x0b:Option Addr) (x0l x0c:Nat) (H:AH) (R:AEnd→AH→Prop):awpF Tryz.prog f35_c (aPost Tryz.prog Tryz.f35 R) (([(.slice x0b x0l x0c)]:List Value) ++ List.replicate (Tryz.f35.ntmps - (([(.slice x0b x0l x0c)]:List Value)).length) undef) H=f35_B x0b x0l x0c H R:=by kernel_rfl
theorem f35_call (x0b:Option Addr) (x0l x0c:Nat) (H:AH) (R:AEnd→AH→Prop) (h:f35_B x0b x0l x0c H R):ACall Tryz.prog 35 ([(.slice x0b x0l x0c)]:List Value) H R :=
 acall_of mixed Tryz.func35 (by kernel_rfl:Tryz.f35.body=some f35_c) (by kernel_rfl) (by kernel_rfl) (awp_of (Eq.mpr (f35_eq x0b x0l x0c H R) h))

noncomputable def f46_c:Code:=Tryz.f46.body.getD .skip
def f46_B (x0b:Option Addr) (x0l x0c:Nat) (H:AH) (R:AEnd→AH→Prop):Prop :=
 wIf x0b.isNone
 (R (.ret (.slice none 0 0)) H)
 (wBs [] 1 H fun i1 H2 =>
 wAppL 3 1 8 (some ⟨i1,0,none⟩) 0 0 x0b x0l x0c H2 fun z3b z3l z3c H4 =>
 R (.ret (.slice z3b z3l z3c)) H4)
theorem f46_eq (x0b:Option Addr) (x0l x0c:Nat) (H:AH) (R:AEnd→AH→Prop):awpF Tryz.prog f46_c (aPost Tryz.prog Tryz.f46 R) (([(.slice x0b x0l x0c)]:List Value) ++ List.replicate (Tryz.f46.ntmps - (([(.slice x0b x0l x0c)]:List Value)).length) undef) H=f46_B x0b x0l x0c H R:=by kernel_rfl
theorem f46_call (x0b:Option Addr) (x0l x0c:Nat) (H:AH) (R:AEnd→AH→Prop) (h:f46_B x0b x0l x0c H R):ACall Tryz.prog 46 ([(.slice x0b x0l x0c)]:List Value) H R :=
 acall_of mixed Tryz.func46 (by kernel_rfl:Tryz.f46.body=some f46_c) (by kernel_rfl) (by kernel_rfl) (awp_of (Eq.mpr (f46_eq x0b x0l x0c H R) h))

noncomputable def f67_c:Code:=Tryz.f67.body.getD .skip
noncomputable def f67_X0 (R:AEnd→AH→Prop):AExit→List Value→AH→Prop:=inBlockF 0 (aPost Tryz.prog Tryz.f67 R)
noncomputable def f67_Q0 (R:AEnd→AH→Prop):AExit→List Value→AH→Prop:=(f67_X0 R)
def f67_L0 (R:AEnd→AH→Prop) (tm:List Value) (H:AH):Prop:=awpF Tryz.prog (codeAt f67_c [1,0]) (f67_Q0 R) tm H
def f67_J0 (K0:List Value→AH→Prop) (R:AEnd→AH→Prop) (tm:List Value) (H:AH):Prop:=hold (awpF Tryz.prog (codeAt f67_c [1,0,0,1,1]) ((thenF K0 (f67_Q0 R))) tm H)
def f67_J0_B (Aa:Option Addr) (Ac Ab:Nat) (Ad:Value) (Ae Af:Int) (Ag Ah Ai Aj Ak Al Aq Ar As At Au Av Aw Ax Ay Az A0 A1 A2 A3:Value) (H:AH) (K0:List Value→AH→Prop) (R:AEnd→AH→Prop):Prop :=
 K0 [(.slice Aa Ac Ab),Ad,(.int .i64 (IntKind.i64.wrap (Ae + 1))),(.int .i64 (IntKind.i64.wrap (Af - 1))),Ag,Ah,Ai,Aj,Ak,Al,(.int .i64 Ae),(.int .i64 (IntKind.i64.wrap (Ae + 1))),(.int .i64 Af),(.int .i64 (IntKind.i64.wrap (Af - 1))),Aq,Ar,As,At,Au,Av,Aw,Ax,Ay,Az,A0,A1,A2,A3] H
theorem f67_J0_eq (Aa:Option Addr) (Ac Ab:Nat) (Ad:Value) (Ae Af:Int) (Ag Ah Ai Aj Ak Al Am An Ao Ap Aq Ar As At Au Av Aw Ax Ay Az A0 A1 A2 A3:Value) (H:AH) (K0:List Value→AH→Prop) (R:AEnd→AH→Prop):f67_J0 K0 R [(.slice Aa Ac Ab),Ad,(.int .i64 Ae),(.int .i64 Af),Ag,Ah,Ai,Aj,Ak,Al,Am,An,Ao,Ap,Aq,Ar,As,At,Au,Av,Aw,Ax,Ay,Az,A0,A1,A2,A3] H=f67_J0_B Aa Ac Ab Ad Ae Af Ag Ah Ai Aj Ak Al Aq Ar As At Au Av Aw Ax Ay Az A0 A1 A2 A3 H K0 R:=by kernel_rfl
def f67_R0 (Aa:Option Addr) (Ac Ab:Nat) (Ad:Value) (Ae Af:Int) (Ag Ah Ai Aj Ak Al Am An Ao Ap Aq Ar As At Au Av Aw Ax Ay Az A0 A1 A2 A3:Value) (H:AH) (K0:List Value→AH→Prop) (R:AEnd→AH→Prop):Prop :=
 wIf (decide (Ae<Af))
 (wIx Aa Ac 1 Af fun i1 k2 =>
 wIx Aa Ac 1 Ae fun i3 k4 =>
 ldI .u32 i1 k2 H fun n5 =>
 ldI .u32 i3 k4 H fun n6 =>
 wIx Aa Ac 1 Ae fun i7 k8 =>
 wSt i7 k8 [(.int .u32 n5)] H fun H9 =>
 wIx Aa Ac 1 Af fun i10 k11 =>
 wSt i10 k11 [(.int .u32 n6)] H9 fun H12 =>
 f67_J0 K0 R [(.slice Aa Ac Ab),Ad,(.int .i64 Ae),(.int .i64 Af),Ag,Ah,Ai,(.int .i64 Ae),(.int .i64 Af),(.bool true),Am,An,Ao,Ap,(.slice Aa Ac Ab),(.int .i64 Ae),(.slice Aa Ac Ab),(.int .i64 Af),(.slice Aa Ac Ab),(.int .i64 Af),(.pointer (some ⟨i1,k2,none⟩)),(.int .u32 n5),(.slice Aa Ac Ab),(.int .i64 Ae),(.pointer (some ⟨i3,k4,none⟩)),(.int .u32 n6),(.pointer (some ⟨i7,k8,none⟩)),(.pointer (some ⟨i10,k11,none⟩))] H12)
 (R (.ret (.tuple #[])) H)
theorem f67_R0_eq (Aa:Option Addr) (Ac Ab:Nat) (Ad:Value) (Ae Af:Int) (Ag Ah Ai Aj Ak Al Am An Ao Ap Aq Ar As At Au Av Aw Ax Ay Az A0 A1 A2 A3:Value) (H:AH) (K0:List Value→AH→Prop) (R:AEnd→AH→Prop):awpF Tryz.prog (codeAt f67_c [1,0,0]) (thenF K0 (f67_Q0 R)) [(.slice Aa Ac Ab),Ad,(.int .i64 Ae),(.int .i64 Af),Ag,Ah,Ai,Aj,Ak,Al,Am,An,Ao,Ap,Aq,Ar,As,At,Au,Av,Aw,Ax,Ay,Az,A0,A1,A2,A3] H=f67_R0 Aa Ac Ab Ad Ae Af Ag Ah Ai Aj Ak Al Am An Ao Ap Aq Ar As At Au Av Aw Ax Ay Az A0 A1 A2 A3 H K0 R:=by kernel_rfl
def f67_I0 (Aa:Option Addr) (Ac Ab:Nat) (Ad Ag Ah Ai:Value) (J:Nat→Int→Int→AH→Prop) (n:Nat) (tm:List Value) (H:AH):Prop:=∃ (Ae Af:Int) (Aj Ak Al Am An Ao Ap Aq Ar As At Au Av Aw Ax Ay Az A0 A1 A2 A3:Value),tm=[(.slice Aa Ac Ab),Ad,(.int .i64 Ae),(.int .i64 Af),Ag,Ah,Ai,Aj,Ak,Al,Am,An,Ao,Ap,Aq,Ar,As,At,Au,Av,Aw,Ax,Ay,Az,A0,A1,A2,A3]∧J n Ae Af H
theorem f67_I0_mk {Aa:Option Addr} {Ac Ab:Nat} {Ad:Value} {Ae Af:Int} {Ag Ah Ai Aj Ak Al Am An Ao Ap Aq Ar As At Au Av Aw Ax Ay Az A0 A1 A2 A3:Value} {J:Nat→Int→Int→AH→Prop} {n:Nat} {H:AH} (h:J n Ae Af H):f67_I0 Aa Ac Ab Ad Ag Ah Ai J n [(.slice Aa Ac Ab),Ad,(.int .i64 Ae),(.int .i64 Af),Ag,Ah,Ai,Aj,Ak,Al,Am,An,Ao,Ap,Aq,Ar,As,At,Au,Av,Aw,Ax,Ay,Az,A0,A1,A2,A3] H:=⟨_,_,_,_,_,_,_,_,_,_,_,_,_,_,_,_,_,_,_,_,_,_,_,rfl,h⟩
theorem f67_L0_rule {Aa:Option Addr} {Ac Ab:Nat} {Ad:Value} {Ae Af:Int} {Ag Ah Ai Aj Ak Al Am An Ao Ap Aq Ar As At Au Av Aw Ax Ay Az A0 A1 A2 A3:Value} {H:AH} {R:AEnd→AH→Prop} (J:Nat→Int→Int→AH→Prop) (n:Nat) (h0:J n Ae Af H)
 (step:∀ (n:Nat) (Ae Af:Int) (H:AH),J n Ae Af H→∀ (Aj Ak Al Am An Ao Ap Aq Ar As At Au Av Aw Ax Ay Az A0 A1 A2 A3:Value),f67_R0 Aa Ac Ab Ad Ae Af Ag Ah Ai Aj Ak Al Am An Ao Ap Aq Ar As At Au Av Aw Ax Ay Az A0 A1 A2 A3 H (fun tm H=>∃ m,m<n∧f67_I0 Aa Ac Ab Ad Ag Ah Ai J m tm H) R):f67_L0 R [(.slice Aa Ac Ab),Ad,(.int .i64 Ae),(.int .i64 Af),Ag,Ah,Ai,Aj,Ak,Al,Am,An,Ao,Ap,Aq,Ar,As,At,Au,Av,Aw,Ax,Ay,Az,A0,A1,A2,A3] H :=
 awpF_loop (f67_I0 Aa Ac Ab Ad Ag Ah Ai J) n (f67_I0_mk h0) (by
 intro n tm H hh
 exact hh.elim fun Ae hh=>hh.elim fun Af hh=>hh.elim fun Aj hh=>hh.elim fun Ak hh=>hh.elim fun Al hh=>hh.elim fun Am hh=>hh.elim fun An hh=>hh.elim fun Ao hh=>hh.elim fun Ap hh=>hh.elim fun Aq hh=>hh.elim fun Ar hh=>hh.elim fun As hh=>hh.elim fun At hh=>hh.elim fun Au hh=>hh.elim fun Av hh=>hh.elim fun Aw hh=>hh.elim fun Ax hh=>hh.elim fun Ay hh=>hh.elim fun Az hh=>hh.elim fun A0 hh=>hh.elim fun A1 hh=>hh.elim fun A2 hh=>hh.elim fun A3 hh=>And.elim (fun e h =>
 (by subst e; exact Eq.mpr (f67_R0_eq Aa Ac Ab Ad Ae Af Ag Ah Ai Aj Ak Al Am An Ao Ap Aq Ar As At Au Av Aw Ax Ay Az A0 A1 A2 A3 H _ R) (step n Ae Af H h Aj Ak Al Am An Ao Ap Aq Ar As At Au Av Aw Ax Ay Az A0 A1 A2 A3))) hh)
def f67_B (x0b:Option Addr) (x0l x0c:Nat) (H:AH) (R:AEnd→AH→Prop):Prop :=
 f67_L0 R [(.slice x0b x0l x0c),undef,(.int .i64 0),(.int .i64 (IntKind.i64.wrap ((x0l:Int) - 1))),(.slice x0b x0l x0c),(.int .i64 (x0l:Int)),(.int .i64 (IntKind.i64.wrap ((x0l:Int) - 1))),undef,undef,undef,undef,undef,undef,undef,undef,undef,undef,undef,undef,undef,undef,undef,undef,undef,undef,undef,undef,undef] H
theorem f67_eq (x0b:Option Addr) (x0l x0c:Nat) (H:AH) (R:AEnd→AH→Prop):awpF Tryz.prog f67_c (aPost Tryz.prog Tryz.f67 R) (([(.slice x0b x0l x0c)]:List Value) ++ List.replicate (Tryz.f67.ntmps - (([(.slice x0b x0l x0c)]:List Value)).length) undef) H=f67_B x0b x0l x0c H R:=by kernel_rfl
theorem f67_call (x0b:Option Addr) (x0l x0c:Nat) (H:AH) (R:AEnd→AH→Prop) (h:f67_B x0b x0l x0c H R):ACall Tryz.prog 67 ([(.slice x0b x0l x0c)]:List Value) H R :=
 acall_of mixed Tryz.func67 (by kernel_rfl:Tryz.f67.body=some f67_c) (by kernel_rfl) (by kernel_rfl) (awp_of (Eq.mpr (f67_eq x0b x0l x0c H R) h))

noncomputable def f74_c:Code:=Tryz.f74.body.getD .skip
def f74_B (x0b:Option Addr) (x0l x0c:Nat) (x1:Int) (H:AH) (R:AEnd→AH→Prop):Prop :=
 wCall Tryz.prog 106 [(.slice x0b x0l x0c),(.int .i64 x1)] H (fun r1 H2 =>
 opI .i64 r1 fun n5 =>
 R (.ret (.bool (decide (n5 ≥ 0)))) H2) (fun v H=>R (.panic v) H)
theorem f74_eq (x0b:Option Addr) (x0l x0c:Nat) (x1:Int) (H:AH) (R:AEnd→AH→Prop):awpF Tryz.prog f74_c (aPost Tryz.prog Tryz.f74 R) (([(.slice x0b x0l x0c),(.int .i64 x1)]:List Value) ++ List.replicate (Tryz.f74.ntmps - (([(.slice x0b x0l x0c),(.int .i64 x1)]:List Value)).length) undef) H=f74_B x0b x0l x0c x1 H R:=by kernel_rfl
theorem f74_call (x0b:Option Addr) (x0l x0c:Nat) (x1:Int) (H:AH) (R:AEnd→AH→Prop) (h:f74_B x0b x0l x0c x1 H R):ACall Tryz.prog 74 ([(.slice x0b x0l x0c),(.int .i64 x1)]:List Value) H R :=
 acall_of mixed Tryz.func74 (by kernel_rfl:Tryz.f74.body=some f74_c) (by kernel_rfl) (by kernel_rfl) (awp_of (Eq.mpr (f74_eq x0b x0l x0c x1 H R) h))

noncomputable def f106_c:Code:=Tryz.f106.body.getD .skip
noncomputable def f106_X0 (R:AEnd→AH→Prop):AExit→List Value→AH→Prop:=thenF (fun tm H=>hold (awpF Tryz.prog (codeAt f106_c [1,1]) (aPost Tryz.prog Tryz.f106 R) tm H)) (aPost Tryz.prog Tryz.f106 R)
noncomputable def f106_X1 (R:AEnd→AH→Prop):AExit→List Value→AH→Prop:=inBlockF 0 (f106_X0 R)
noncomputable def f106_Q0 (R:AEnd→AH→Prop):AExit→List Value→AH→Prop:=(f106_X1 R)
def f106_L0 (R:AEnd→AH→Prop) (tm:List Value) (H:AH):Prop:=awpF Tryz.prog (codeAt f106_c [1,0,1,0]) (f106_Q0 R) tm H
def f106_R0 (Aa:Option Addr) (Ac Ab:Nat) (Ad:Int) (Ae Af Ag Ah Ai:Value) (Aj Ak:Int) (Al Am An Ao Ap Aq Ar As At Au:Value) (H:AH) (K0:List Value→AH→Prop) (R:AEnd→AH→Prop):Prop :=
 wIf (decide (Ak<Aj))
 (wIx Aa Ac 1 Ak fun i1 k2 =>
 ldI .i64 i1 k2 H fun n3 =>
 wIf (decide (Ad=n3))
 (R (.ret (.int .i64 Ak)) H)
 (K0 [(.slice Aa Ac Ab),(.int .i64 Ad),Ae,Af,Ag,(.int .i64 Ak),Ai,(.int .i64 Aj),(.int .i64 (IntKind.i64.wrap (Ak + 1))),(.bool true),(.int .i64 Ak),(.int .i64 Ad),(.slice Aa Ac Ab),(.int .i64 Ak),(.pointer (some ⟨i1,k2,none⟩)),(.int .i64 n3),(.bool false),At,(.int .i64 (IntKind.i64.wrap (Ak + 1)))] H))
 (R (.ret (.int .i64 (-1))) H)
theorem f106_R0_eq (Aa:Option Addr) (Ac Ab:Nat) (Ad:Int) (Ae Af Ag Ah Ai:Value) (Aj Ak:Int) (Al Am An Ao Ap Aq Ar As At Au:Value) (H:AH) (K0:List Value→AH→Prop) (R:AEnd→AH→Prop):awpF Tryz.prog (codeAt f106_c [1,0,1,0,0]) (thenF K0 (f106_Q0 R)) [(.slice Aa Ac Ab),(.int .i64 Ad),Ae,Af,Ag,Ah,Ai,(.int .i64 Aj),(.int .i64 Ak),Al,Am,An,Ao,Ap,Aq,Ar,As,At,Au] H=f106_R0 Aa Ac Ab Ad Ae Af Ag Ah Ai Aj Ak Al Am An Ao Ap Aq Ar As At Au H K0 R:=by kernel_rfl
def f106_I0 (Aa:Option Addr) (Ac Ab:Nat) (Ad:Int) (Ae Af Ai:Value) (Aj:Int) (J:Nat→Int→AH→Prop) (n:Nat) (tm:List Value) (H:AH):Prop:=∃ (Ag Ah:Value) (Ak:Int) (Al Am An Ao Ap Aq Ar As At Au:Value),tm=[(.slice Aa Ac Ab),(.int .i64 Ad),Ae,Af,Ag,Ah,Ai,(.int .i64 Aj),(.int .i64 Ak),Al,Am,An,Ao,Ap,Aq,Ar,As,At,Au]∧J n Ak H
theorem f106_I0_mk {Aa:Option Addr} {Ac Ab:Nat} {Ad:Int} {Ae Af Ag Ah Ai:Value} {Aj Ak:Int} {Al Am An Ao Ap Aq Ar As At Au:Value} {J:Nat→Int→AH→Prop} {n:Nat} {H:AH} (h:J n Ak H):f106_I0 Aa Ac Ab Ad Ae Af Ai Aj J n [(.slice Aa Ac Ab),(.int .i64 Ad),Ae,Af,Ag,Ah,Ai,(.int .i64 Aj),(.int .i64 Ak),Al,Am,An,Ao,Ap,Aq,Ar,As,At,Au] H:=⟨_,_,_,_,_,_,_,_,_,_,_,_,_,rfl,h⟩
theorem f106_L0_rule {Aa:Option Addr} {Ac Ab:Nat} {Ad:Int} {Ae Af Ag Ah Ai:Value} {Aj Ak:Int} {Al Am An Ao Ap Aq Ar As At Au:Value} {H:AH} {R:AEnd→AH→Prop} (J:Nat→Int→AH→Prop) (n:Nat) (h0:J n Ak H)
 (step:∀ (n:Nat) (Ak:Int) (H:AH),J n Ak H→∀ (Ag Ah Al Am An Ao Ap Aq Ar As At Au:Value),f106_R0 Aa Ac Ab Ad Ae Af Ag Ah Ai Aj Ak Al Am An Ao Ap Aq Ar As At Au H (fun tm H=>∃ m,m<n∧f106_I0 Aa Ac Ab Ad Ae Af Ai Aj J m tm H) R):f106_L0 R [(.slice Aa Ac Ab),(.int .i64 Ad),Ae,Af,Ag,Ah,Ai,(.int .i64 Aj),(.int .i64 Ak),Al,Am,An,Ao,Ap,Aq,Ar,As,At,Au] H :=
 awpF_loop (f106_I0 Aa Ac Ab Ad Ae Af Ai Aj J) n (f106_I0_mk h0) (by
 intro n tm H hh
 exact hh.elim fun Ag hh=>hh.elim fun Ah hh=>hh.elim fun Ak hh=>hh.elim fun Al hh=>hh.elim fun Am hh=>hh.elim fun An hh=>hh.elim fun Ao hh=>hh.elim fun Ap hh=>hh.elim fun Aq hh=>hh.elim fun Ar hh=>hh.elim fun As hh=>hh.elim fun At hh=>hh.elim fun Au hh=>And.elim (fun e h =>
 (by subst e; exact Eq.mpr (f106_R0_eq Aa Ac Ab Ad Ae Af Ag Ah Ai Aj Ak Al Am An Ao Ap Aq Ar As At Au H _ R) (step n Ak H h Ag Ah Al Am An Ao Ap Aq Ar As At Au))) hh)
def f106_B (x0b:Option Addr) (x0l x0c:Nat) (x1:Int) (H:AH) (R:AEnd→AH→Prop):Prop :=
 f106_L0 R [(.slice x0b x0l x0c),(.int .i64 x1),undef,undef,(.int .i64 0),undef,(.slice x0b x0l x0c),(.int .i64 (x0l:Int)),(.int .i64 0),undef,undef,undef,undef,undef,undef,undef,undef,undef,undef] H
theorem f106_eq (x0b:Option Addr) (x0l x0c:Nat) (x1:Int) (H:AH) (R:AEnd→AH→Prop):awpF Tryz.prog f106_c (aPost Tryz.prog Tryz.f106 R) (([(.slice x0b x0l x0c),(.int .i64 x1)]:List Value) ++ List.replicate (Tryz.f106.ntmps - (([(.slice x0b x0l x0c),(.int .i64 x1)]:List Value)).length) undef) H=f106_B x0b x0l x0c x1 H R:=by kernel_rfl
theorem f106_call (x0b:Option Addr) (x0l x0c:Nat) (x1:Int) (H:AH) (R:AEnd→AH→Prop) (h:f106_B x0b x0l x0c x1 H R):ACall Tryz.prog 106 ([(.slice x0b x0l x0c),(.int .i64 x1)]:List Value) H R :=
 acall_of mixed Tryz.func106 (by kernel_rfl:Tryz.f106.body=some f106_c) (by kernel_rfl) (by kernel_rfl) (awp_of (Eq.mpr (f106_eq x0b x0l x0c x1 H R) h))

noncomputable def f34_c:Code:=Tryz.f34.body.getD .skip
def f34_B (x0b:Option Addr) (x0l x0c:Nat) (H:AH) (R:AEnd→AH→Prop):Prop :=
 wCall Tryz.prog 65 [(.int .u64 (IntKind.u64.wrap (x0l:Int)))] H (fun r1 H2 =>
 opI .i64 r1 fun n5 =>
 wCall Tryz.prog 64 [(.slice x0b x0l x0c),(.int .i64 0),(.int .i64 (x0l:Int)),(.int .i64 n5)] H2 (fun r6 H7 =>
 R (.ret (.tuple #[])) H7) (fun v H=>R (.panic v) H)) (fun v H=>R (.panic v) H)
theorem f34_eq (x0b:Option Addr) (x0l x0c:Nat) (H:AH) (R:AEnd→AH→Prop):awpF Tryz.prog f34_c (aPost Tryz.prog Tryz.f34 R) (([(.slice x0b x0l x0c)]:List Value) ++ List.replicate (Tryz.f34.ntmps - (([(.slice x0b x0l x0c)]:List Value)).length) undef) H=f34_B x0b x0l x0c H R:=by kernel_rfl
theorem f34_call (x0b:Option Addr) (x0l x0c:Nat) (H:AH) (R:AEnd→AH→Prop) (h:f34_B x0b x0l x0c H R):ACall Tryz.prog 34 ([(.slice x0b x0l x0c)]:List Value) H R :=
 acall_of mixed Tryz.func34 (by kernel_rfl:Tryz.f34.body=some f34_c) (by kernel_rfl) (by kernel_rfl) (awp_of (Eq.mpr (f34_eq x0b x0l x0c H R) h))

noncomputable def f89_c:Code:=Tryz.f89.body.getD .skip
noncomputable def f89_X0 (R:AEnd→AH→Prop):AExit→List Value→AH→Prop:=inBlockF 0 (aPost Tryz.prog Tryz.f89 R)
noncomputable def f89_Q0 (R:AEnd→AH→Prop):AExit→List Value→AH→Prop:=(f89_X0 R)
def f89_L0 (R:AEnd→AH→Prop) (tm:List Value) (H:AH):Prop:=awpF Tryz.prog (codeAt f89_c [1,0]) (f89_Q0 R) tm H
noncomputable def f89_X1 (K0:List Value→AH→Prop) (R:AEnd→AH→Prop):AExit→List Value→AH→Prop:=thenF (fun tm H=>hold (awpF Tryz.prog (codeAt f89_c [1,0,0,1,1]) (thenF K0 (f89_Q0 R)) tm H)) (thenF K0 (f89_Q0 R))
noncomputable def f89_X2 (K0:List Value→AH→Prop) (R:AEnd→AH→Prop):AExit→List Value→AH→Prop:=inBlockF 1 (f89_X1 K0 R)
noncomputable def f89_X3 (K0:List Value→AH→Prop) (R:AEnd→AH→Prop):AExit→List Value→AH→Prop:=inBlockF 2 (f89_X2 K0 R)
noncomputable def f89_Q1 (K0:List Value→AH→Prop) (R:AEnd→AH→Prop):AExit→List Value→AH→Prop:=(f89_X3 K0 R)
def f89_L1 (K0:List Value→AH→Prop) (R:AEnd→AH→Prop) (tm:List Value) (H:AH):Prop:=awpF Tryz.prog (codeAt f89_c [1,0,0,1,0,0,1,0]) (f89_Q1 K0 R) tm H
noncomputable def f89_X4 (K0 K1:List Value→AH→Prop) (R:AEnd→AH→Prop):AExit→List Value→AH→Prop:=thenF (fun tm H=>hold (awpF Tryz.prog (codeAt f89_c [1,0,0,1,0,0,1,0,0,1]) (thenF K1 (f89_Q1 K0 R)) tm H)) (thenF K1 (f89_Q1 K0 R))
def f89_J0 (K0 K1:List Value→AH→Prop) (R:AEnd→AH→Prop) (tm:List Value) (H:AH):Prop:=hold (awpF Tryz.prog (codeAt f89_c [1,0,0,1,0,0,1,0,0,0,1]) ((f89_X4 K0 K1 R)) tm H)
def f89_J1 (K0 K1:List Value→AH→Prop) (R:AEnd→AH→Prop) (tm:List Value) (H:AH):Prop:=hold (awpF Tryz.prog (codeAt f89_c [1,0,0,1,0,0,1,0,0,1]) ((thenF K1 (f89_Q1 K0 R))) tm H)
def f89_J2 (K0 K1:List Value→AH→Prop) (R:AEnd→AH→Prop) (tm:List Value) (H:AH):Prop:=hold (awpF Tryz.prog (codeAt f89_c [1,0,0,1,0,0,1,0,0,1,1]) ((thenF K1 (f89_Q1 K0 R))) tm H)
def f89_J3 (K0:List Value→AH→Prop) (R:AEnd→AH→Prop) (tm:List Value) (H:AH):Prop:=hold (awpF Tryz.prog (codeAt f89_c [1,0,0,1,1]) ((thenF K0 (f89_Q0 R))) tm H)
def f89_J3_B (Aa:Option Addr) (Ac Ab:Nat) (Ad Ae:Int) (Af Ag Ah:Value) (Ai:Int) (Aj Ak Al Am An Ao Ar As At Au Av Aw Ax Ay Az A0 A1 A2 A3 A4 A5 A6 A7 A8 A9 AA AB AC AD AE AF AG AI AJ AK AL AM AN AO AP:Value) (H:AH) (K0:List Value→AH→Prop) (R:AEnd→AH→Prop):Prop :=
 K0 [(.slice Aa Ac Ab),(.int .i64 Ad),(.int .i64 Ae),Af,Ag,Ah,(.int .i64 (IntKind.i64.wrap (Ai + 1))),Aj,Ak,Al,Am,An,Ao,(.int .i64 Ai),(.int .i64 (IntKind.i64.wrap (Ai + 1))),Ar,As,At,Au,Av,Aw,Ax,Ay,Az,A0,A1,A2,A3,A4,A5,A6,A7,A8,A9,AA,AB,AC,AD,AE,AF,AG,AI,AJ,AK,AL,AM,AN,AO,AP] H
theorem f89_J3_eq (Aa:Option Addr) (Ac Ab:Nat) (Ad Ae:Int) (Af Ag Ah:Value) (Ai:Int) (Aj Ak Al Am An Ao Ap Aq Ar As At Au Av Aw Ax Ay Az A0 A1 A2 A3 A4 A5 A6 A7 A8 A9 AA AB AC AD AE AF AG AI AJ AK AL AM AN AO AP:Value) (H:AH) (K0:List Value→AH→Prop) (R:AEnd→AH→Prop):f89_J3 K0 R [(.slice Aa Ac Ab),(.int .i64 Ad),(.int .i64 Ae),Af,Ag,Ah,(.int .i64 Ai),Aj,Ak,Al,Am,An,Ao,Ap,Aq,Ar,As,At,Au,Av,Aw,Ax,Ay,Az,A0,A1,A2,A3,A4,A5,A6,A7,A8,A9,AA,AB,AC,AD,AE,AF,AG,AI,AJ,AK,AL,AM,AN,AO,AP] H=f89_J3_B Aa Ac Ab Ad Ae Af Ag Ah Ai Aj Ak Al Am An Ao Ar As At Au Av Aw Ax Ay Az A0 A1 A2 A3 A4 A5 A6 A7 A8 A9 AA AB AC AD AE AF AG AI AJ AK AL AM AN AO AP H K0 R:=by kernel_rfl
def f89_J2_B (Aa:Option Addr) (Ac Ab:Nat) (Ad Ae:Int) (Af Ag Ah:Value) (Ai Aj:Int) (Ak Al Am An Ao Ap Aq Ar As At Au Av Aw Ax Ay Az A0 A1 A2 A3 A4 A5 A6 A9 AA AB AC AD AE AF AG AI AJ AK AL AM AN AO AP:Value) (H:AH) (K0 K1:List Value→AH→Prop) (R:AEnd→AH→Prop):Prop :=
 K1 [(.slice Aa Ac Ab),(.int .i64 Ad),(.int .i64 Ae),Af,Ag,Ah,(.int .i64 Ai),(.int .i64 (IntKind.i64.wrap (Aj - 1))),Ak,Al,Am,An,Ao,Ap,Aq,Ar,As,At,Au,Av,Aw,Ax,Ay,Az,A0,A1,A2,A3,A4,A5,A6,(.int .i64 Aj),(.int .i64 (IntKind.i64.wrap (Aj - 1))),A9,AA,AB,AC,AD,AE,AF,AG,AI,AJ,AK,AL,AM,AN,AO,AP] H
theorem f89_J2_eq (Aa:Option Addr) (Ac Ab:Nat) (Ad Ae:Int) (Af Ag Ah:Value) (Ai Aj:Int) (Ak Al Am An Ao Ap Aq Ar As At Au Av Aw Ax Ay Az A0 A1 A2 A3 A4 A5 A6 A7 A8 A9 AA AB AC AD AE AF AG AI AJ AK AL AM AN AO AP:Value) (H:AH) (K0 K1:List Value→AH→Prop) (R:AEnd→AH→Prop):f89_J2 K0 K1 R [(.slice Aa Ac Ab),(.int .i64 Ad),(.int .i64 Ae),Af,Ag,Ah,(.int .i64 Ai),(.int .i64 Aj),Ak,Al,Am,An,Ao,Ap,Aq,Ar,As,At,Au,Av,Aw,Ax,Ay,Az,A0,A1,A2,A3,A4,A5,A6,A7,A8,A9,AA,AB,AC,AD,AE,AF,AG,AI,AJ,AK,AL,AM,AN,AO,AP] H=f89_J2_B Aa Ac Ab Ad Ae Af Ag Ah Ai Aj Ak Al Am An Ao Ap Aq Ar As At Au Av Aw Ax Ay Az A0 A1 A2 A3 A4 A5 A6 A9 AA AB AC AD AE AF AG AI AJ AK AL AM AN AO AP H K0 K1 R:=by kernel_rfl
def f89_J1_B (Aa:Option Addr) (Ac Ab:Nat) (Ad Ae:Int) (Af Ag Ah:Value) (Ai Aj:Int) (Ak Al Am An Ao Ap Aq Ar As At Au Av Aw Ax Ay Az A0 A1 A2 A3 A4 A5 A6 A7 A8:Value) (H:AH) (K0 K1:List Value→AH→Prop) (R:AEnd→AH→Prop):Prop :=
 wIx Aa Ac 1 (IntKind.i64.wrap (Aj - 1)) fun i1 k2 =>
 wIx Aa Ac 1 Aj fun i3 k4 =>
 ldI .u32 i1 k2 H fun n5 =>
 ldI .u32 i3 k4 H fun n6 =>
 wIx Aa Ac 1 Aj fun i7 k8 =>
 wSt i7 k8 [(.int .u32 n5)] H fun H9 =>
 wIx Aa Ac 1 (IntKind.i64.wrap (Aj - 1)) fun i10 k11 =>
 wSt i10 k11 [(.int .u32 n6)] H9 fun H12 =>
 f89_J2 K0 K1 R [(.slice Aa Ac Ab),(.int .i64 Ad),(.int .i64 Ae),Af,Ag,Ah,(.int .i64 Ai),(.int .i64 Aj),Ak,Al,Am,An,Ao,Ap,Aq,Ar,As,At,Au,Av,Aw,Ax,Ay,Az,A0,A1,A2,A3,A4,A5,A6,A7,A8,(.slice Aa Ac Ab),(.int .i64 Aj),(.slice Aa Ac Ab),(.int .i64 Aj),(.int .i64 (IntKind.i64.wrap (Aj - 1))),(.slice Aa Ac Ab),(.int .i64 Aj),(.int .i64 (IntKind.i64.wrap (Aj - 1))),(.pointer (some ⟨i1,k2,none⟩)),(.int .u32 n5),(.slice Aa Ac Ab),(.int .i64 Aj),(.pointer (some ⟨i3,k4,none⟩)),(.int .u32 n6),(.pointer (some ⟨i7,k8,none⟩)),(.pointer (some ⟨i10,k11,none⟩))] H12
theorem f89_J1_eq (Aa:Option Addr) (Ac Ab:Nat) (Ad Ae:Int) (Af Ag Ah:Value) (Ai Aj:Int) (Ak Al Am An Ao Ap Aq Ar As At Au Av Aw Ax Ay Az A0 A1 A2 A3 A4 A5 A6 A7 A8 A9 AA AB AC AD AE AF AG AI AJ AK AL AM AN AO AP:Value) (H:AH) (K0 K1:List Value→AH→Prop) (R:AEnd→AH→Prop):f89_J1 K0 K1 R [(.slice Aa Ac Ab),(.int .i64 Ad),(.int .i64 Ae),Af,Ag,Ah,(.int .i64 Ai),(.int .i64 Aj),Ak,Al,Am,An,Ao,Ap,Aq,Ar,As,At,Au,Av,Aw,Ax,Ay,Az,A0,A1,A2,A3,A4,A5,A6,A7,A8,A9,AA,AB,AC,AD,AE,AF,AG,AI,AJ,AK,AL,AM,AN,AO,AP] H=f89_J1_B Aa Ac Ab Ad Ae Af Ag Ah Ai Aj Ak Al Am An Ao Ap Aq Ar As At Au Av Aw Ax Ay Az A0 A1 A2 A3 A4 A5 A6 A7 A8 H K0 K1 R:=by kernel_rfl
def f89_J0_B (Aa:Option Addr) (Ac Ab:Nat) (Ad Ae:Int) (Af Ag Ah:Value) (Ai Aj:Int) (Ak Al Am An Ao Ap Aq Ar As At Au Av Aw Ax Ay Az A0 A1 A2 A3 A4 A5:Value) (A6:Bool) (A7 A8 A9 AA AB AC AD AE AF AG AI AJ AK AL AM AN AO AP:Value) (H:AH) (K0 K1:List Value→AH→Prop) (R:AEnd→AH→Prop):Prop :=
 wIf A6
 (f89_J1 K0 K1 R [(.slice Aa Ac Ab),(.int .i64 Ad),(.int .i64 Ae),Af,Ag,Ah,(.int .i64 Ai),(.int .i64 Aj),Ak,Al,Am,An,Ao,Ap,Aq,Ar,As,At,Au,Av,Aw,Ax,Ay,Az,A0,A1,A2,A3,A4,A5,(.bool true),A7,A8,A9,AA,AB,AC,AD,AE,AF,AG,AI,AJ,AK,AL,AM,AN,AO,AP] H)
 (f89_J3 K0 R [(.slice Aa Ac Ab),(.int .i64 Ad),(.int .i64 Ae),Af,Ag,Ah,(.int .i64 Ai),(.int .i64 Aj),Ak,Al,Am,An,Ao,Ap,Aq,Ar,As,At,Au,Av,Aw,Ax,Ay,Az,A0,A1,A2,A3,A4,A5,(.bool false),A7,A8,A9,AA,AB,AC,AD,AE,AF,AG,AI,AJ,AK,AL,AM,AN,AO,AP] H)
theorem f89_J0_eq (Aa:Option Addr) (Ac Ab:Nat) (Ad Ae:Int) (Af Ag Ah:Value) (Ai Aj:Int) (Ak Al Am An Ao Ap Aq Ar As At Au Av Aw Ax Ay Az A0 A1 A2 A3 A4 A5:Value) (A6:Bool) (A7 A8 A9 AA AB AC AD AE AF AG AI AJ AK AL AM AN AO AP:Value) (H:AH) (K0 K1:List Value→AH→Prop) (R:AEnd→AH→Prop):f89_J0 K0 K1 R [(.slice Aa Ac Ab),(.int .i64 Ad),(.int .i64 Ae),Af,Ag,Ah,(.int .i64 Ai),(.int .i64 Aj),Ak,Al,Am,An,Ao,Ap,Aq,Ar,As,At,Au,Av,Aw,Ax,Ay,Az,A0,A1,A2,A3,A4,A5,(.bool A6),A7,A8,A9,AA,AB,AC,AD,AE,AF,AG,AI,AJ,AK,AL,AM,AN,AO,AP] H=f89_J0_B Aa Ac Ab Ad Ae Af Ag Ah Ai Aj Ak Al Am An Ao Ap Aq Ar As At Au Av Aw Ax Ay Az A0 A1 A2 A3 A4 A5 A6 A7 A8 A9 AA AB AC AD AE AF AG AI AJ AK AL AM AN AO AP H K0 K1 R:=by kernel_rfl
def f89_R0 (Aa:Option Addr) (Ac Ab:Nat) (Ad Ae:Int) (Af Ag Ah:Value) (Ai:Int) (Aj Ak Al Am An Ao Ap Aq Ar As At Au Av Aw Ax Ay Az A0 A1 A2 A3 A4 A5 A6 A7 A8 A9 AA AB AC AD AE AF AG AI AJ AK AL AM AN AO AP:Value) (H:AH) (K0:List Value→AH→Prop) (R:AEnd→AH→Prop):Prop :=
 wIf (decide (Ai<Ae))
 (f89_L1 K0 R [(.slice Aa Ac Ab),(.int .i64 Ad),(.int .i64 Ae),Af,Ag,Ah,(.int .i64 Ai),(.int .i64 Ai),Ak,Al,(.int .i64 Ai),(.int .i64 Ae),(.bool true),Ap,Aq,(.int .i64 Ai),As,At,Au,Av,Aw,Ax,Ay,Az,A0,A1,A2,A3,A4,A5,A6,A7,A8,A9,AA,AB,AC,AD,AE,AF,AG,AI,AJ,AK,AL,AM,AN,AO,AP] H)
 (R (.ret (.tuple #[])) H)
theorem f89_R0_eq (Aa:Option Addr) (Ac Ab:Nat) (Ad Ae:Int) (Af Ag Ah:Value) (Ai:Int) (Aj Ak Al Am An Ao Ap Aq Ar As At Au Av Aw Ax Ay Az A0 A1 A2 A3 A4 A5 A6 A7 A8 A9 AA AB AC AD AE AF AG AI AJ AK AL AM AN AO AP:Value) (H:AH) (K0:List Value→AH→Prop) (R:AEnd→AH→Prop):awpF Tryz.prog (codeAt f89_c [1,0,0]) (thenF K0 (f89_Q0 R)) [(.slice Aa Ac Ab),(.int .i64 Ad),(.int .i64 Ae),Af,Ag,Ah,(.int .i64 Ai),Aj,Ak,Al,Am,An,Ao,Ap,Aq,Ar,As,At,Au,Av,Aw,Ax,Ay,Az,A0,A1,A2,A3,A4,A5,A6,A7,A8,A9,AA,AB,AC,AD,AE,AF,AG,AI,AJ,AK,AL,AM,AN,AO,AP] H=f89_R0 Aa Ac Ab Ad Ae Af Ag Ah Ai Aj Ak Al Am An Ao Ap Aq Ar As At Au Av Aw Ax Ay Az A0 A1 A2 A3 A4 A5 A6 A7 A8 A9 AA AB AC AD AE AF AG AI AJ AK AL AM AN AO AP H K0 R:=by kernel_rfl
def f89_I0 (Aa:Option Addr) (Ac Ab:Nat) (Ad Ae:Int) (Af Ag Ah Ak Al:Value) (J:Nat→Int→AH→Prop) (n:Nat) (tm:List Value) (H:AH):Prop:=∃ (Ai:Int) (Aj Am An Ao Ap Aq Ar As At Au Av Aw Ax Ay Az A0 A1 A2 A3 A4 A5 A6 A7 A8 A9 AA AB AC AD AE AF AG AI AJ AK AL AM AN AO AP:Value),tm=[(.slice Aa Ac Ab),(.int .i64 Ad),(.int .i64 Ae),Af,Ag,Ah,(.int .i64 Ai),Aj,Ak,Al,Am,An,Ao,Ap,Aq,Ar,As,At,Au,Av,Aw,Ax,Ay,Az,A0,A1,A2,A3,A4,A5,A6,A7,A8,A9,AA,AB,AC,AD,AE,AF,AG,AI,AJ,AK,AL,AM,AN,AO,AP]∧J n Ai H
theorem f89_I0_mk {Aa:Option Addr} {Ac Ab:Nat} {Ad Ae:Int} {Af Ag Ah:Value} {Ai:Int} {Aj Ak Al Am An Ao Ap Aq Ar As At Au Av Aw Ax Ay Az A0 A1 A2 A3 A4 A5 A6 A7 A8 A9 AA AB AC AD AE AF AG AI AJ AK AL AM AN AO AP:Value} {J:Nat→Int→AH→Prop} {n:Nat} {H:AH} (h:J n Ai H):f89_I0 Aa Ac Ab Ad Ae Af Ag Ah Ak Al J n [(.slice Aa Ac Ab),(.int .i64 Ad),(.int .i64 Ae),Af,Ag,Ah,(.int .i64 Ai),Aj,Ak,Al,Am,An,Ao,Ap,Aq,Ar,As,At,Au,Av,Aw,Ax,Ay,Az,A0,A1,A2,A3,A4,A5,A6,A7,A8,A9,AA,AB,AC,AD,AE,AF,AG,AI,AJ,AK,AL,AM,AN,AO,AP] H:=⟨_,_,_,_,_,_,_,_,_,_,_,_,_,_,_,_,_,_,_,_,_,_,_,_,_,_,_,_,_,_,_,_,_,_,_,_,_,_,_,_,_,rfl,h⟩
theorem f89_L0_rule {Aa:Option Addr} {Ac Ab:Nat} {Ad Ae:Int} {Af Ag Ah:Value} {Ai:Int} {Aj Ak Al Am An Ao Ap Aq Ar As At Au Av Aw Ax Ay Az A0 A1 A2 A3 A4 A5 A6 A7 A8 A9 AA AB AC AD AE AF AG AI AJ AK AL AM AN AO AP:Value} {H:AH} {R:AEnd→AH→Prop} (J:Nat→Int→AH→Prop) (n:Nat) (h0:J n Ai H)
 (step:∀ (n:Nat) (Ai:Int) (H:AH),J n Ai H→∀ (Aj Am An Ao Ap Aq Ar As At Au Av Aw Ax Ay Az A0 A1 A2 A3 A4 A5 A6 A7 A8 A9 AA AB AC AD AE AF AG AI AJ AK AL AM AN AO AP:Value),f89_R0 Aa Ac Ab Ad Ae Af Ag Ah Ai Aj Ak Al Am An Ao Ap Aq Ar As At Au Av Aw Ax Ay Az A0 A1 A2 A3 A4 A5 A6 A7 A8 A9 AA AB AC AD AE AF AG AI AJ AK AL AM AN AO AP H (fun tm H=>∃ m,m<n∧f89_I0 Aa Ac Ab Ad Ae Af Ag Ah Ak Al J m tm H) R):f89_L0 R [(.slice Aa Ac Ab),(.int .i64 Ad),(.int .i64 Ae),Af,Ag,Ah,(.int .i64 Ai),Aj,Ak,Al,Am,An,Ao,Ap,Aq,Ar,As,At,Au,Av,Aw,Ax,Ay,Az,A0,A1,A2,A3,A4,A5,A6,A7,A8,A9,AA,AB,AC,AD,AE,AF,AG,AI,AJ,AK,AL,AM,AN,AO,AP] H :=
 awpF_loop (f89_I0 Aa Ac Ab Ad Ae Af Ag Ah Ak Al J) n (f89_I0_mk h0) (by
 intro n tm H hh
 exact hh.elim fun Ai hh=>hh.elim fun Aj hh=>hh.elim fun Am hh=>hh.elim fun An hh=>hh.elim fun Ao hh=>hh.elim fun Ap hh=>hh.elim fun Aq hh=>hh.elim fun Ar hh=>hh.elim fun As hh=>hh.elim fun At hh=>hh.elim fun Au hh=>hh.elim fun Av hh=>hh.elim fun Aw hh=>hh.elim fun Ax hh=>hh.elim fun Ay hh=>hh.elim fun Az hh=>hh.elim fun A0 hh=>hh.elim fun A1 hh=>hh.elim fun A2 hh=>hh.elim fun A3 hh=>hh.elim fun A4 hh=>hh.elim fun A5 hh=>hh.elim fun A6 hh=>hh.elim fun A7 hh=>hh.elim fun A8 hh=>hh.elim fun A9 hh=>hh.elim fun AA hh=>hh.elim fun AB hh=>hh.elim fun AC hh=>hh.elim fun AD hh=>hh.elim fun AE hh=>hh.elim fun AF hh=>hh.elim fun AG hh=>hh.elim fun AI hh=>hh.elim fun AJ hh=>hh.elim fun AK hh=>hh.elim fun AL hh=>hh.elim fun AM hh=>hh.elim fun AN hh=>hh.elim fun AO hh=>hh.elim fun AP hh=>And.elim (fun e h =>
 (by subst e; exact Eq.mpr (f89_R0_eq Aa Ac Ab Ad Ae Af Ag Ah Ai Aj Ak Al Am An Ao Ap Aq Ar As At Au Av Aw Ax Ay Az A0 A1 A2 A3 A4 A5 A6 A7 A8 A9 AA AB AC AD AE AF AG AI AJ AK AL AM AN AO AP H _ R) (step n Ai H h Aj Am An Ao Ap Aq Ar As At Au Av Aw Ax Ay Az A0 A1 A2 A3 A4 A5 A6 A7 A8 A9 AA AB AC AD AE AF AG AI AJ AK AL AM AN AO AP))) hh)
def f89_R1 (Aa:Option Addr) (Ac Ab:Nat) (Ad Ae:Int) (Af Ag Ah:Value) (Ai Aj:Int) (Ak Al Am An Ao Ap Aq Ar As At Au Av Aw Ax Ay Az A0 A1 A2 A3 A4 A5 A6 A7 A8 A9 AA AB AC AD AE AF AG AI AJ AK AL AM AN AO AP:Value) (H:AH) (K0 K1:List Value→AH→Prop) (R:AEnd→AH→Prop):Prop :=
 wIf (decide (Aj > Ad))
 (wIx Aa Ac 1 Aj fun i13 k14 =>
 wIx Aa Ac 1 (IntKind.i64.wrap (Aj - 1)) fun i15 k16 =>
 (ldI .u32 i13 k14 H fun n17 =>
 ldI .u32 i15 k16 H fun n18 =>
 wCall Tryz.prog 95 [(.int .u32 n17),(.int .u32 n18)] H (fun r19 H20 =>
 opB r19 fun b23 =>
 f89_J0 K0 K1 R [(.slice Aa Ac Ab),(.int .i64 Ad),(.int .i64 Ae),Af,Ag,Ah,(.int .i64 Ai),(.int .i64 Aj),Ak,Al,Am,An,Ao,Ap,Aq,Ar,(.int .i64 Aj),(.int .i64 Ad),(.bool (decide (Aj > Ad))),(.bool true),(.slice Aa Ac Ab),(.int .i64 Aj),(.pointer (some ⟨i13,k14,none⟩)),(.int .u32 n17),(.slice Aa Ac Ab),(.int .i64 Aj),(.int .i64 (IntKind.i64.wrap (Aj - 1))),(.pointer (some ⟨i15,k16,none⟩)),(.int .u32 n18),(.bool b23),(.bool b23),A7,A8,A9,AA,AB,AC,AD,AE,AF,AG,AI,AJ,AK,AL,AM,AN,AO,AP] H20) (fun v H=>R (.panic v) H)) ∧
 (ldI .u32 i15 k16 H fun n24 =>
 ldI .u32 i13 k14 H fun n25 =>
 wCall Tryz.prog 95 [(.int .u32 n25),(.int .u32 n24)] H (fun r26 H27 =>
 opB r26 fun b30 =>
 f89_J0 K0 K1 R [(.slice Aa Ac Ab),(.int .i64 Ad),(.int .i64 Ae),Af,Ag,Ah,(.int .i64 Ai),(.int .i64 Aj),Ak,Al,Am,An,Ao,Ap,Aq,Ar,(.int .i64 Aj),(.int .i64 Ad),(.bool (decide (Aj > Ad))),(.bool true),(.slice Aa Ac Ab),(.int .i64 Aj),(.pointer (some ⟨i13,k14,none⟩)),(.int .u32 n25),(.slice Aa Ac Ab),(.int .i64 Aj),(.int .i64 (IntKind.i64.wrap (Aj - 1))),(.pointer (some ⟨i15,k16,none⟩)),(.int .u32 n24),(.bool b30),(.bool b30),A7,A8,A9,AA,AB,AC,AD,AE,AF,AG,AI,AJ,AK,AL,AM,AN,AO,AP] H27) (fun v H=>R (.panic v) H)))
 ((f89_J0 K0 K1 R [(.slice Aa Ac Ab),(.int .i64 Ad),(.int .i64 Ae),Af,Ag,Ah,(.int .i64 Ai),(.int .i64 Aj),Ak,Al,Am,An,Ao,Ap,Aq,Ar,(.int .i64 Aj),(.int .i64 Ad),(.bool (decide (Aj > Ad))),(.bool false),undef,undef,undef,undef,undef,undef,undef,undef,undef,undef,(.bool false),A7,A8,A9,AA,AB,AC,AD,AE,AF,AG,AI,AJ,AK,AL,AM,AN,AO,AP] H) ∧
 (f89_J0 K0 K1 R [(.slice Aa Ac Ab),(.int .i64 Ad),(.int .i64 Ae),Af,Ag,Ah,(.int .i64 Ai),(.int .i64 Aj),Ak,Al,Am,An,Ao,Ap,Aq,Ar,(.int .i64 Aj),(.int .i64 Ad),(.bool (decide (Aj > Ad))),(.bool false),undef,undef,undef,undef,undef,undef,undef,undef,undef,undef,(.bool false),A7,A8,A9,AA,AB,AC,AD,AE,AF,AG,AI,AJ,AK,AL,AM,AN,AO,AP] H))
theorem f89_R1_eq (Aa:Option Addr) (Ac Ab:Nat) (Ad Ae:Int) (Af Ag Ah:Value) (Ai Aj:Int) (Ak Al Am An Ao Ap Aq Ar As At Au Av Aw Ax Ay Az A0 A1 A2 A3 A4 A5 A6 A7 A8 A9 AA AB AC AD AE AF AG AI AJ AK AL AM AN AO AP:Value) (H:AH) (K0 K1:List Value→AH→Prop) (R:AEnd→AH→Prop):awpF Tryz.prog (codeAt f89_c [1,0,0,1,0,0,1,0,0]) (thenF K1 (f89_Q1 K0 R)) [(.slice Aa Ac Ab),(.int .i64 Ad),(.int .i64 Ae),Af,Ag,Ah,(.int .i64 Ai),(.int .i64 Aj),Ak,Al,Am,An,Ao,Ap,Aq,Ar,As,At,Au,Av,Aw,Ax,Ay,Az,A0,A1,A2,A3,A4,A5,A6,A7,A8,A9,AA,AB,AC,AD,AE,AF,AG,AI,AJ,AK,AL,AM,AN,AO,AP] H=f89_R1 Aa Ac Ab Ad Ae Af Ag Ah Ai Aj Ak Al Am An Ao Ap Aq Ar As At Au Av Aw Ax Ay Az A0 A1 A2 A3 A4 A5 A6 A7 A8 A9 AA AB AC AD AE AF AG AI AJ AK AL AM AN AO AP H K0 K1 R:=by kernel_rfl
def f89_I1 (Aa:Option Addr) (Ac Ab:Nat) (Ad Ae:Int) (Af Ag Ah:Value) (Ai:Int) (Ak Al Am An Ao Ap Aq Ar:Value) (J:Nat→Int→AH→Prop) (n:Nat) (tm:List Value) (H:AH):Prop:=∃ (Aj:Int) (As At Au Av Aw Ax Ay Az A0 A1 A2 A3 A4 A5 A6 A7 A8 A9 AA AB AC AD AE AF AG AI AJ AK AL AM AN AO AP:Value),tm=[(.slice Aa Ac Ab),(.int .i64 Ad),(.int .i64 Ae),Af,Ag,Ah,(.int .i64 Ai),(.int .i64 Aj),Ak,Al,Am,An,Ao,Ap,Aq,Ar,As,At,Au,Av,Aw,Ax,Ay,Az,A0,A1,A2,A3,A4,A5,A6,A7,A8,A9,AA,AB,AC,AD,AE,AF,AG,AI,AJ,AK,AL,AM,AN,AO,AP]∧J n Aj H
theorem f89_I1_mk {Aa:Option Addr} {Ac Ab:Nat} {Ad Ae:Int} {Af Ag Ah:Value} {Ai Aj:Int} {Ak Al Am An Ao Ap Aq Ar As At Au Av Aw Ax Ay Az A0 A1 A2 A3 A4 A5 A6 A7 A8 A9 AA AB AC AD AE AF AG AI AJ AK AL AM AN AO AP:Value} {J:Nat→Int→AH→Prop} {n:Nat} {H:AH} (h:J n Aj H):f89_I1 Aa Ac Ab Ad Ae Af Ag Ah Ai Ak Al Am An Ao Ap Aq Ar J n [(.slice Aa Ac Ab),(.int .i64 Ad),(.int .i64 Ae),Af,Ag,Ah,(.int .i64 Ai),(.int .i64 Aj),Ak,Al,Am,An,Ao,Ap,Aq,Ar,As,At,Au,Av,Aw,Ax,Ay,Az,A0,A1,A2,A3,A4,A5,A6,A7,A8,A9,AA,AB,AC,AD,AE,AF,AG,AI,AJ,AK,AL,AM,AN,AO,AP] H:=⟨_,_,_,_,_,_,_,_,_,_,_,_,_,_,_,_,_,_,_,_,_,_,_,_,_,_,_,_,_,_,_,_,_,_,rfl,h⟩
theorem f89_L1_rule {Aa:Option Addr} {Ac Ab:Nat} {Ad Ae:Int} {Af Ag Ah:Value} {Ai Aj:Int} {Ak Al Am An Ao Ap Aq Ar As At Au Av Aw Ax Ay Az A0 A1 A2 A3 A4 A5 A6 A7 A8 A9 AA AB AC AD AE AF AG AI AJ AK AL AM AN AO AP:Value} {H:AH} {K0:List Value→AH→Prop} {R:AEnd→AH→Prop} (J:Nat→Int→AH→Prop) (n:Nat) (h0:J n Aj H)
 (step:∀ (n:Nat) (Aj:Int) (H:AH),J n Aj H→∀ (As At Au Av Aw Ax Ay Az A0 A1 A2 A3 A4 A5 A6 A7 A8 A9 AA AB AC AD AE AF AG AI AJ AK AL AM AN AO AP:Value),f89_R1 Aa Ac Ab Ad Ae Af Ag Ah Ai Aj Ak Al Am An Ao Ap Aq Ar As At Au Av Aw Ax Ay Az A0 A1 A2 A3 A4 A5 A6 A7 A8 A9 AA AB AC AD AE AF AG AI AJ AK AL AM AN AO AP H K0 (fun tm H=>∃ m,m<n∧f89_I1 Aa Ac Ab Ad Ae Af Ag Ah Ai Ak Al Am An Ao Ap Aq Ar J m tm H) R):f89_L1 K0 R [(.slice Aa Ac Ab),(.int .i64 Ad),(.int .i64 Ae),Af,Ag,Ah,(.int .i64 Ai),(.int .i64 Aj),Ak,Al,Am,An,Ao,Ap,Aq,Ar,As,At,Au,Av,Aw,Ax,Ay,Az,A0,A1,A2,A3,A4,A5,A6,A7,A8,A9,AA,AB,AC,AD,AE,AF,AG,AI,AJ,AK,AL,AM,AN,AO,AP] H :=
 awpF_loop (f89_I1 Aa Ac Ab Ad Ae Af Ag Ah Ai Ak Al Am An Ao Ap Aq Ar J) n (f89_I1_mk h0) (by
 intro n tm H hh
 exact hh.elim fun Aj hh=>hh.elim fun As hh=>hh.elim fun At hh=>hh.elim fun Au hh=>hh.elim fun Av hh=>hh.elim fun Aw hh=>hh.elim fun Ax hh=>hh.elim fun Ay hh=>hh.elim fun Az hh=>hh.elim fun A0 hh=>hh.elim fun A1 hh=>hh.elim fun A2 hh=>hh.elim fun A3 hh=>hh.elim fun A4 hh=>hh.elim fun A5 hh=>hh.elim fun A6 hh=>hh.elim fun A7 hh=>hh.elim fun A8 hh=>hh.elim fun A9 hh=>hh.elim fun AA hh=>hh.elim fun AB hh=>hh.elim fun AC hh=>hh.elim fun AD hh=>hh.elim fun AE hh=>hh.elim fun AF hh=>hh.elim fun AG hh=>hh.elim fun AI hh=>hh.elim fun AJ hh=>hh.elim fun AK hh=>hh.elim fun AL hh=>hh.elim fun AM hh=>hh.elim fun AN hh=>hh.elim fun AO hh=>hh.elim fun AP hh=>And.elim (fun e h =>
 (by subst e; exact Eq.mpr (f89_R1_eq Aa Ac Ab Ad Ae Af Ag Ah Ai Aj Ak Al Am An Ao Ap Aq Ar As At Au Av Aw Ax Ay Az A0 A1 A2 A3 A4 A5 A6 A7 A8 A9 AA AB AC AD AE AF AG AI AJ AK AL AM AN AO AP H K0 _ R) (step n Aj H h As At Au Av Aw Ax Ay Az A0 A1 A2 A3 A4 A5 A6 A7 A8 A9 AA AB AC AD AE AF AG AI AJ AK AL AM AN AO AP))) hh)
def f89_B (x0b:Option Addr) (x0l x0c:Nat) (x1 x2:Int) (H:AH) (R:AEnd→AH→Prop):Prop :=
 f89_L0 R [(.slice x0b x0l x0c),(.int .i64 x1),(.int .i64 x2),undef,undef,undef,(.int .i64 (IntKind.i64.wrap (x1 + 1))),undef,(.int .i64 x1),(.int .i64 (IntKind.i64.wrap (x1 + 1))),undef,undef,undef,undef,undef,undef,undef,undef,undef,undef,undef,undef,undef,undef,undef,undef,undef,undef,undef,undef,undef,undef,undef,undef,undef,undef,undef,undef,undef,undef,undef,undef,undef,undef,undef,undef,undef,undef,undef] H
theorem f89_eq (x0b:Option Addr) (x0l x0c:Nat) (x1 x2:Int) (H:AH) (R:AEnd→AH→Prop):awpF Tryz.prog f89_c (aPost Tryz.prog Tryz.f89 R) (([(.slice x0b x0l x0c),(.int .i64 x1),(.int .i64 x2)]:List Value) ++ List.replicate (Tryz.f89.ntmps - (([(.slice x0b x0l x0c),(.int .i64 x1),(.int .i64 x2)]:List Value)).length) undef) H=f89_B x0b x0l x0c x1 x2 H R:=by kernel_rfl
theorem f89_call (x0b:Option Addr) (x0l x0c:Nat) (x1 x2:Int) (H:AH) (R:AEnd→AH→Prop) (h:f89_B x0b x0l x0c x1 x2 H R):ACall Tryz.prog 89 ([(.slice x0b x0l x0c),(.int .i64 x1),(.int .i64 x2)]:List Value) H R :=
 acall_of mixed Tryz.func89 (by kernel_rfl:Tryz.f89.body=some f89_c) (by kernel_rfl) (by kernel_rfl) (awp_of (Eq.mpr (f89_eq x0b x0l x0c x1 x2 H R) h))

noncomputable def f95_c:Code:=Tryz.f95.body.getD .skip
def f95_B (x0 x1:Int) (H:AH) (R:AEnd→AH→Prop):Prop :=
 wCall Tryz.prog 130 [(.int .u32 x0)] H (fun r1 H2 =>
 opB r1 fun b5 =>
 wIf b5
 (wCall Tryz.prog 130 [(.int .u32 x1)] H2 (fun r6 H7 =>
 opB r6 fun b10 =>
 wIf (!b10)
 (R (.ret (.bool true)) H7)
 (R (.ret (.bool (decide (x0<x1)))) H7)) (fun v H=>R (.panic v) H))
 (R (.ret (.bool (decide (x0<x1)))) H2)) (fun v H=>R (.panic v) H)
theorem f95_eq (x0 x1:Int) (H:AH) (R:AEnd→AH→Prop):awpF Tryz.prog f95_c (aPost Tryz.prog Tryz.f95 R) (([(.int .u32 x0),(.int .u32 x1)]:List Value) ++ List.replicate (Tryz.f95.ntmps - (([(.int .u32 x0),(.int .u32 x1)]:List Value)).length) undef) H=f95_B x0 x1 H R:=by kernel_rfl
theorem f95_call (x0 x1:Int) (H:AH) (R:AEnd→AH→Prop) (h:f95_B x0 x1 H R):ACall Tryz.prog 95 ([(.int .u32 x0),(.int .u32 x1)]:List Value) H R :=
 acall_of mixed Tryz.func95 (by kernel_rfl:Tryz.f95.body=some f95_c) (by kernel_rfl) (by kernel_rfl) (awp_of (Eq.mpr (f95_eq x0 x1 H R) h))

noncomputable def f130_c:Code:=Tryz.f130.body.getD .skip
def f130_B (x0:Int) (H:AH) (R:AEnd→AH→Prop):Prop :=
 R (.ret (.bool (!decide (x0=x0)))) H
theorem f130_eq (x0:Int) (H:AH) (R:AEnd→AH→Prop):awpF Tryz.prog f130_c (aPost Tryz.prog Tryz.f130 R) (([(.int .u32 x0)]:List Value) ++ List.replicate (Tryz.f130.ntmps - (([(.int .u32 x0)]:List Value)).length) undef) H=f130_B x0 H R:=by kernel_rfl
theorem f130_call (x0:Int) (H:AH) (R:AEnd→AH→Prop) (h:f130_B x0 H R):ACall Tryz.prog 130 ([(.int .u32 x0)]:List Value) H R :=
 acall_of mixed Tryz.func130 (by kernel_rfl:Tryz.f130.body=some f130_c) (by kernel_rfl) (by kernel_rfl) (awp_of (Eq.mpr (f130_eq x0 H R) h))

end Go.Proofs.YtjhbbbcelnlnpaaGreatDoor
