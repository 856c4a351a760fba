/- Bodies of functions as nested rules: printed by genw.py,a program of this claim. -/
import Derived.Test.YtjhbbbcelnlnpaaGreatDoorWNao
import Derived.Test.YtjhbbbcelnlnpaaGreatDoorWNay
namespace Go.Proofs.YtjhbbbcelnlnpaaGreatDoor
open Go.RowKit
set_option maxRecDepth 100000

noncomputable def f8_c:Code:=Tryz.f8.body.getD .skip
noncomputable def f8_X0 (R:AEnd→AH→Prop):AExit→List Value→AH→Prop:=thenF (fun tm H=>hold (awpF Tryz.prog (codeAt f8_c [1,1,1,1]) (aPost Tryz.prog Tryz.f8 R) tm H)) (aPost Tryz.prog Tryz.f8 R)
def f8_J0 (R:AEnd→AH→Prop) (tm:List Value) (H:AH):Prop:=hold (awpF Tryz.prog (codeAt f8_c [1,1,1,0,1]) ((f8_X0 R)) tm H)
def f8_J1 (R:AEnd→AH→Prop) (tm:List Value) (H:AH):Prop:=hold (awpF Tryz.prog (codeAt f8_c [1,1,1,1]) ((aPost Tryz.prog Tryz.f8 R)) tm H)
def f8_J1_B (Ab Ac:Option Addr) (H:AH) (R:AEnd→AH→Prop):Prop :=
 wBs [(.string ({ data:=#[97] }))] 1 H fun i1 H2 =>
 wCall Tryz.prog 18 [(.pointer Ac),(.slice (some ⟨i1,0,none⟩) 1 0)] H2 (fun r3 H4 =>
 opI .i64 r3 fun n7 =>
 wBs [(.string ({ data:=#[98] }))] 1 H4 fun i8 H9 =>
 wCall Tryz.prog 18 [(.pointer Ac),(.slice (some ⟨i8,0,none⟩) 1 0)] H9 (fun r10 H11 =>
 opI .i64 r10 fun n14 =>
 wBs [(.string ({ data:=#[99] }))] 1 H11 fun i15 H16 =>
 wCall Tryz.prog 18 [(.pointer Ac),(.slice (some ⟨i15,0,none⟩) 1 0)] H16 (fun r17 H18 =>
 opI .i64 r17 fun n21 =>
 wBs [(.string ({ data:=#[100] }))] 1 H18 fun i22 H23 =>
 wCall Tryz.prog 18 [(.pointer Ac),(.slice (some ⟨i22,0,none⟩) 1 0)] H23 (fun r24 H25 =>
 opI .i64 r24 fun n28 =>
 wCall Tryz.prog 25 [(.pointer Ab),(.agg #[(.int .u64 0),(.int .i64 (-1)),(.int .i64 0)])] H25 (fun r29 H30 =>
 wCall Tryz.prog 13 [(.pointer Ab),(.int .i64 3)] H30 (fun r33 H34 =>
 opT 3 r33 fun l37 =>
 opP (l37.headD undef) fun a38 =>
 opL (l37.tail.headD undef) fun z39b z39l z39c =>
 opI .i64 (l37.tail.tail.headD undef) fun n40 =>
 wIf (decide (n7=0))
 (wIf (decide (n14=0))
 (wIf (decide (n21=0))
 (wIf (decide (n28=11))
 (wIf (decide (n40=0))
 (wIf (decide ((z39l:Int)=4))
 (wIx z39b z39l 1 3 fun i41 k42 =>
 ldS i41 k42 H34 fun t43 =>
 R (.ret (.bool (decide (t43=({ data:=#[99] }))))) H34)
 (R (.ret (.bool false)) H34))
 (R (.ret (.bool false)) H34))
 (R (.ret (.bool false)) H34))
 (R (.ret (.bool false)) H34))
 (R (.ret (.bool false)) H34))
 (R (.ret (.bool false)) H34)) (fun v H=>R (.panic v) H)) (fun v H=>R (.panic v) H)) (fun v H=>R (.panic v) H)) (fun v H=>R (.panic v) H)) (fun v H=>R (.panic v) H)) (fun v H=>R (.panic v) H)
theorem f8_J1_eq (Aa:Value) (Ab Ac:Option Addr) (Ad Ae Af Ag Ah Ai Aj Ak Al Am An Ao Ap Aq Ar As At Au Av Aw Ax Ay Az A0 A1 A2 A3 A4 A5 A6 A7 A8 A9 AA AB AC AD AE AF AG AI AJ AK AL AM AN AO AP AQ AR AS AT AU AV AW AX AY AZ Ba Bb Bc Bd Be Bf Bg Bh Bi Bj Bk Bl Bm Bn Bo Bp Bq Br Bs Bt Bu Bv Bw Bx By Bz B0:Value) (H:AH) (R:AEnd→AH→Prop):f8_J1 R [Aa,(.pointer Ab),(.pointer Ac),Ad,Ae,Af,Ag,Ah,Ai,Aj,Ak,Al,Am,An,Ao,Ap,Aq,Ar,As,At,Au,Av,Aw,Ax,Ay,Az,A0,A1,A2,A3,A4,A5,A6,A7,A8,A9,AA,AB,AC,AD,AE,AF,AG,AI,AJ,AK,AL,AM,AN,AO,AP,AQ,AR,AS,AT,AU,AV,AW,AX,AY,AZ,Ba,Bb,Bc,Bd,Be,Bf,Bg,Bh,Bi,Bj,Bk,Bl,Bm,Bn,Bo,Bp,Bq,Br,Bs,Bt,Bu,Bv,Bw,Bx,By,Bz,B0] H=f8_J1_B Ab Ac H R:=by kernel_rfl
def f8_J0_B (Aa:Value) (Ab Ac:Option Addr) (Ad Ae Af Ag Ah Ai Aj Ak Al Am An Ao Ap Aq Ar As At Au Av Aw Ax Ay Az A0 A1 A2 A3 A4 A5 A6 A7 A8 A9 AA:Value) (AB:Bool) (AC AD AE AF AG AI AJ AK AL AM AN AO AP AQ AR AS AT AU AV AW AX AY AZ Ba Bb Bc Bd Be Bf Bg Bh Bi Bj Bk Bl Bm Bn Bo Bp Bq Br Bs Bt Bu Bv Bw Bx By Bz B0:Value) (H:AH) (R:AEnd→AH→Prop):Prop :=
 wIf AB
 (R (.ret (.bool false)) H)
 (f8_J1 R [Aa,(.pointer Ab),(.pointer Ac),Ad,Ae,Af,Ag,Ah,Ai,Aj,Ak,Al,Am,An,Ao,Ap,Aq,Ar,As,At,Au,Av,Aw,Ax,Ay,Az,A0,A1,A2,A3,A4,A5,A6,A7,A8,A9,AA,(.bool false),AC,AD,AE,AF,AG,AI,AJ,AK,AL,AM,AN,AO,AP,AQ,AR,AS,AT,AU,AV,AW,AX,AY,AZ,Ba,Bb,Bc,Bd,Be,Bf,Bg,Bh,Bi,Bj,Bk,Bl,Bm,Bn,Bo,Bp,Bq,Br,Bs,Bt,Bu,Bv,Bw,Bx,By,Bz,B0] H)
theorem f8_J0_eq (Aa:Value) (Ab Ac:Option Addr) (Ad Ae Af Ag Ah Ai Aj Ak Al Am An Ao Ap Aq Ar As At Au Av Aw Ax Ay Az A0 A1 A2 A3 A4 A5 A6 A7 A8 A9 AA:Value) (AB:Bool) (AC AD AE AF AG AI AJ AK AL AM AN AO AP AQ AR AS AT AU AV AW AX AY AZ Ba Bb Bc Bd Be Bf Bg Bh Bi Bj Bk Bl Bm Bn Bo Bp Bq Br Bs Bt Bu Bv Bw Bx By Bz B0:Value) (H:AH) (R:AEnd→AH→Prop):f8_J0 R [Aa,(.pointer Ab),(.pointer Ac),Ad,Ae,Af,Ag,Ah,Ai,Aj,Ak,Al,Am,An,Ao,Ap,Aq,Ar,As,At,Au,Av,Aw,Ax,Ay,Az,A0,A1,A2,A3,A4,A5,A6,A7,A8,A9,AA,(.bool AB),AC,AD,AE,AF,AG,AI,AJ,AK,AL,AM,AN,AO,AP,AQ,AR,AS,AT,AU,AV,AW,AX,AY,AZ,Ba,Bb,Bc,Bd,Be,Bf,Bg,Bh,Bi,Bj,Bk,Bl,Bm,Bn,Bo,Bp,Bq,Br,Bs,Bt,Bu,Bv,Bw,Bx,By,Bz,B0] H=f8_J0_B Aa Ab Ac Ad Ae Af Ag Ah Ai Aj Ak Al Am An Ao Ap Aq Ar As At Au Av Aw Ax Ay Az A0 A1 A2 A3 A4 A5 A6 A7 A8 A9 AA AB AC AD AE AF AG AI AJ AK AL AM AN AO AP AQ AR AS AT AU AV AW AX AY AZ Ba Bb Bc Bd Be Bf Bg Bh Bi Bj Bk Bl Bm Bn Bo Bp Bq Br Bs Bt Bu Bv Bw Bx By Bz B0 H R:=by kernel_rfl
def f8_B (H:AH) (R:AEnd→AH→Prop):Prop :=
 wCall Tryz.prog 9 [(.int .i64 9)] H (fun r44 H45 =>
 opP r44 fun a48 =>
 wCall Tryz.prog 13 [(.pointer a48),(.int .i64 3)] H45 (fun r49 H50 =>
 opT 3 r49 fun l53 =>
 opP (l53.headD undef) fun a54 =>
 opL (l53.tail.headD undef) fun z55b z55l z55c =>
 opI .i64 (l53.tail.tail.headD undef) fun n56 =>
 wIf (!decide (n56=0))
 (f8_J0 R [(.bool false),(.pointer a48),(.pointer a54),(.slice z55b z55l z55c),(.int .i64 n56),undef,undef,undef,undef,(.pointer a48),(.tuple #[(.pointer a54),(.slice z55b z55l z55c),(.int .i64 n56)]),(.pointer a48),(.tuple #[(.pointer a54),(.slice z55b z55l z55c),(.int .i64 n56)]),(.pointer a54),(.slice z55b z55l z55c),(.int .i64 n56),(.int .i64 n56),(.bool (!decide (n56=0))),(.bool true),undef,undef,(.bool true),(.bool true),undef,undef,undef,(.bool true),(.bool true),undef,undef,undef,undef,(.bool true),(.bool true),undef,undef,undef,(.bool true),undef,undef,undef,undef,undef,undef,undef,undef,undef,undef,undef,undef,undef,undef,undef,undef,undef,undef,undef,undef,undef,undef,undef,undef,undef,undef,undef,undef,undef,undef,undef,undef,undef,undef,undef,undef,undef,undef,undef,undef,undef,undef,undef,undef,undef,undef,undef,undef,undef,undef] H50)
 (wIf a54.isNone
 (f8_J0 R [(.bool false),(.pointer a48),(.pointer a54),(.slice z55b z55l z55c),(.int .i64 n56),undef,undef,undef,undef,(.pointer a48),(.tuple #[(.pointer a54),(.slice z55b z55l z55c),(.int .i64 n56)]),(.pointer a48),(.tuple #[(.pointer a54),(.slice z55b z55l z55c),(.int .i64 n56)]),(.pointer a54),(.slice z55b z55l z55c),(.int .i64 n56),(.int .i64 n56),(.bool (!decide (n56=0))),(.bool false),(.pointer a54),(.bool a54.isNone),(.bool a54.isNone),(.bool true),undef,undef,undef,(.bool true),(.bool true),undef,undef,undef,undef,(.bool true),(.bool true),undef,undef,undef,(.bool true),undef,undef,undef,undef,undef,undef,undef,undef,undef,undef,undef,undef,undef,undef,undef,undef,undef,undef,undef,undef,undef,undef,undef,undef,undef,undef,undef,undef,undef,undef,undef,undef,undef,undef,undef,undef,undef,undef,undef,undef,undef,undef,undef,undef,undef,undef,undef,undef,undef,undef] H50)
 (wIf (!decide ((z55l:Int)=1))
 (f8_J0 R [(.bool false),(.pointer a48),(.pointer a54),(.slice z55b z55l z55c),(.int .i64 n56),undef,undef,undef,undef,(.pointer a48),(.tuple #[(.pointer a54),(.slice z55b z55l z55c),(.int .i64 n56)]),(.pointer a48),(.tuple #[(.pointer a54),(.slice z55b z55l z55c),(.int .i64 n56)]),(.pointer a54),(.slice z55b z55l z55c),(.int .i64 n56),(.int .i64 n56),(.bool (!decide (n56=0))),(.bool false),(.pointer a54),(.bool a54.isNone),(.bool a54.isNone),(.bool false),(.slice z55b z55l z55c),(.int .i64 (z55l:Int)),(.bool (!decide ((z55l:Int)=1))),(.bool (!decide ((z55l:Int)=1))),(.bool true),undef,undef,undef,undef,(.bool true),(.bool true),undef,undef,undef,(.bool true),undef,undef,undef,undef,undef,undef,undef,undef,undef,undef,undef,undef,undef,undef,undef,undef,undef,undef,undef,undef,undef,undef,undef,undef,undef,undef,undef,undef,undef,undef,undef,undef,undef,undef,undef,undef,undef,undef,undef,undef,undef,undef,undef,undef,undef,undef,undef,undef,undef,undef] H50)
 (wIx z55b z55l 1 0 fun i57 k58 =>
 ldS i57 k58 H50 fun t59 =>
 wIf (!decide (t59=({ data:=#[] })))
 (f8_J0 R [(.bool false),(.pointer a48),(.pointer a54),(.slice z55b z55l z55c),(.int .i64 n56),undef,undef,undef,undef,(.pointer a48),(.tuple #[(.pointer a54),(.slice z55b z55l z55c),(.int .i64 n56)]),(.pointer a48),(.tuple #[(.pointer a54),(.slice z55b z55l z55c),(.int .i64 n56)]),(.pointer a54),(.slice z55b z55l z55c),(.int .i64 n56),(.int .i64 n56),(.bool (!decide (n56=0))),(.bool false),(.pointer a54),(.bool a54.isNone),(.bool a54.isNone),(.bool false),(.slice z55b z55l z55c),(.int .i64 (z55l:Int)),(.bool (!decide ((z55l:Int)=1))),(.bool (!decide ((z55l:Int)=1))),(.bool false),(.slice z55b z55l z55c),(.pointer (some ⟨i57,k58,none⟩)),(.string t59),(.bool (!decide (t59=({ data:=#[] })))),(.bool (!decide (t59=({ data:=#[] })))),(.bool true),undef,undef,undef,(.bool true),undef,undef,undef,undef,undef,undef,undef,undef,undef,undef,undef,undef,undef,undef,undef,undef,undef,undef,undef,undef,undef,undef,undef,undef,undef,undef,undef,undef,undef,undef,undef,undef,undef,undef,undef,undef,undef,undef,undef,undef,undef,undef,undef,undef,undef,undef,undef,undef,undef,undef] H50)
 (wCall Tryz.prog 30 [(.pointer a54)] H50 (fun r60 H61 =>
 opI .i64 r60 fun n64 =>
 f8_J0 R [(.bool false),(.pointer a48),(.pointer a54),(.slice z55b z55l z55c),(.int .i64 n56),undef,undef,undef,undef,(.pointer a48),(.tuple #[(.pointer a54),(.slice z55b z55l z55c),(.int .i64 n56)]),(.pointer a48),(.tuple #[(.pointer a54),(.slice z55b z55l z55c),(.int .i64 n56)]),(.pointer a54),(.slice z55b z55l z55c),(.int .i64 n56),(.int .i64 n56),(.bool (!decide (n56=0))),(.bool false),(.pointer a54),(.bool a54.isNone),(.bool a54.isNone),(.bool false),(.slice z55b z55l z55c),(.int .i64 (z55l:Int)),(.bool (!decide ((z55l:Int)=1))),(.bool (!decide ((z55l:Int)=1))),(.bool false),(.slice z55b z55l z55c),(.pointer (some ⟨i57,k58,none⟩)),(.string t59),(.bool (!decide (t59=({ data:=#[] })))),(.bool (!decide (t59=({ data:=#[] })))),(.bool false),(.pointer a54),(.int .i64 n64),(.bool (!decide (n64=2))),(.bool (!decide (n64=2))),undef,undef,undef,undef,undef,undef,undef,undef,undef,undef,undef,undef,undef,undef,undef,undef,undef,undef,undef,undef,undef,undef,undef,undef,undef,undef,undef,undef,undef,undef,undef,undef,undef,undef,undef,undef,undef,undef,undef,undef,undef,undef,undef,undef,undef,undef,undef,undef,undef,undef] H61) (fun v H=>R (.panic v) H)))))) (fun v H=>R (.panic v) H)) (fun v H=>R (.panic v) H)
theorem f8_eq (H:AH) (R:AEnd→AH→Prop):awpF Tryz.prog f8_c (aPost Tryz.prog Tryz.f8 R) (([]:List Value) ++ List.replicate (Tryz.f8.ntmps - (([]:List Value)).length) undef) H=f8_B H R:=by kernel_rfl
theorem f8_call (H:AH) (R:AEnd→AH→Prop) (h:f8_B H R):ACall Tryz.prog 8 ([]:List Value) H R :=
 acall_of mixed Tryz.func8 (by kernel_rfl:Tryz.f8.body=some f8_c) (by kernel_rfl) (by kernel_rfl) (awp_of (Eq.mpr (f8_eq H R) h))

noncomputable def f6_c:Code:=Tryz.f6.body.getD .skip
def f6_B (H:AH) (R:AEnd→AH→Prop):Prop :=
 wCall Tryz.prog 8 [] H (fun r1 H2 =>
 opB r1 fun b5 =>
 wIf (!b5)
 (R (.ret (.bool false)) H2)
 (wCall Tryz.prog 13 [(.pointer none),(.int .i64 3)] H2 (fun r6 H7 =>
 opT 3 r6 fun l10 =>
 opP (l10.headD undef) fun a11 =>
 opL (l10.tail.headD undef) fun z12b z12l z12c =>
 opI .i64 (l10.tail.tail.headD undef) fun n13 =>
 wCall Tryz.prog 9 [(.int .i64 8)] H7 (fun r14 H15 =>
 opP r14 fun a18 =>
 wCall Tryz.prog 13 [(.pointer a18),(.int .i64 3)] H15 (fun r19 H20 =>
 opT 3 r19 fun l23 =>
 opP (l23.headD undef) fun a24 =>
 opL (l23.tail.headD undef) fun z25b z25l z25c =>
 opI .i64 (l23.tail.tail.headD undef) fun n26 =>
 wCall Tryz.prog 9 [(.int .i64 8)] H20 (fun r27 H28 =>
 opP r27 fun a31 =>
 wCall Tryz.prog 13 [(.pointer a31),(.int .i64 1)] H28 (fun r32 H33 =>
 opT 3 r32 fun l36 =>
 opP (l36.headD undef) fun a37 =>
 opL (l36.tail.headD undef) fun z38b z38l z38c =>
 opI .i64 (l36.tail.tail.headD undef) fun n39 =>
 wCall Tryz.prog 8 [] H33 (fun r40 H41 =>
 opB r40 fun b44 =>
 wIf b44
 (wIf (decide (n13=1))
 (wIf (decide (n26=2))
 (wIf (decide (n39=2))
 (wBs [(.string ({ data:=#[97] }))] 1 H41 fun i45 H46 =>
 wCall Tryz.prog 18 [(.pointer none),(.slice (some ⟨i45,0,none⟩) 1 0)] H46 (fun r47 H48 =>
 opI .i64 r47 fun n51 =>
 wIf (decide (n51=1))
 (wCall Tryz.prog 23 [(.pointer none),(.string ({ data:=#[] }))] H48 (fun r52 H53 =>
 opI .i64 r52 fun n56 =>
 wIf (decide (n56=1))
 (wCall Tryz.prog 30 [(.pointer none)] H53 (fun r57 H58 =>
 opI .i64 r57 fun n61 =>
 wIf (decide (n61=0))
 (wCall Tryz.prog 28 [(.pointer none)] H58 (fun r62 H63 =>
 opI .u64 r62 fun n66 =>
 wIf (decide (n66=0))
 (wCall Tryz.prog 29 [(.pointer none)] H63 (fun r67 H68 =>
 opI .i64 r67 fun n71 =>
 R (.ret (.bool (decide (n71=0)))) H68) (fun v H=>R (.panic v) H))
 (R (.ret (.bool false)) H63)) (fun v H=>R (.panic v) H))
 (R (.ret (.bool false)) H58)) (fun v H=>R (.panic v) H))
 (R (.ret (.bool false)) H53)) (fun v H=>R (.panic v) H))
 (R (.ret (.bool false)) H48)) (fun v H=>R (.panic v) H))
 (R (.ret (.bool false)) H41))
 (R (.ret (.bool false)) H41))
 (R (.ret (.bool false)) H41))
 (R (.ret (.bool false)) H41)) (fun v H=>R (.panic v) H)) (fun v H=>R (.panic v) H)) (fun v H=>R (.panic v) H)) (fun v H=>R (.panic v) H)) (fun v H=>R (.panic v) H)) (fun v H=>R (.panic v) H))) (fun v H=>R (.panic v) H)
theorem f6_eq (H:AH) (R:AEnd→AH→Prop):awpF Tryz.prog f6_c (aPost Tryz.prog Tryz.f6 R) (([]:List Value) ++ List.replicate (Tryz.f6.ntmps - (([]:List Value)).length) undef) H=f6_B H R:=by kernel_rfl
theorem f6_call (H:AH) (R:AEnd→AH→Prop) (h:f6_B H R):ACall Tryz.prog 6 ([]:List Value) H R :=
 acall_of mixed Tryz.func6 (by kernel_rfl:Tryz.f6.body=some f6_c) (by kernel_rfl) (by kernel_rfl) (awp_of (Eq.mpr (f6_eq H R) h))

end Go.Proofs.YtjhbbbcelnlnpaaGreatDoor
