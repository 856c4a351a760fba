/- Bodies of functions as nested rules: printed by genw.py, a program of this claim. -/
import Derived.Test.YtfghglacfjncmaaWTy
namespace Go.Proofs.Ytfghglacfjncmaa
open Go.RowKit
set_option linter.unusedVariables false
set_option maxRecDepth 100000

/-! f8: switchyard/switchyardlaw13.CodeBack -/
noncomputable def f8_c : Code := Try.f8.body.getD .skip
noncomputable def f8_X0 (R : AEnd → AH → Prop) : AExit → List Value → AH → Prop := thenF (fun tm H => hold (awpF Try.prog (codeAt f8_c [1, 1, 1]) (aPost Try.prog Try.f8 R) tm H)) (aPost Try.prog Try.f8 R)
def f8_J0 (R : AEnd → AH → Prop) (tm : List Value) (H : AH) : Prop := hold (awpF Try.prog (codeAt f8_c [1, 1, 0, 1]) ((f8_X0 R)) tm H)
def f8_J1 (R : AEnd → AH → Prop) (tm : List Value) (H : AH) : Prop := hold (awpF Try.prog (codeAt f8_c [1, 1, 1]) ((aPost Try.prog Try.f8 R)) tm H)
-- join 1: live 3:C, 4:o, 5:d
def f8_J1_B (s3 : Option Addr) (s4 : Option Addr) (s5 : Option Addr) (H : AH) (R : AEnd → AH → Prop) : Prop :=
 wPt s3 fun i1 k2 =>
 ldI .i64 i1 k2 H fun n3 =>
 ldI .i64 i1 (k2 + 1) H fun n4 =>
 ldS i1 (k2 + 2) H fun t5 =>
 ldL i1 (k2 + 3) H fun z6b z6l z6c =>
 wCall Try.prog 12 [(.agg #[(.int .i64 n3), (.int .i64 n4), (.string t5), (.slice z6b z6l z6c)])] H (fun r7 H8 =>
 opT 2 r7 fun l11 =>
 opS (l11.headD undef) fun t12 =>
 opI .i64 (l11.tail.headD undef) fun n13 =>
 wPt s4 fun i14 k15 =>
 ldI .i64 i14 k15 H8 fun n16 =>
 ldS i14 (k15 + 1) H8 fun t17 =>
 ldS i14 (k15 + 2) H8 fun t18 =>
 ldI .i64 i14 (k15 + 3) H8 fun n19 =>
 ldL i14 (k15 + 4) H8 fun z20b z20l z20c =>
 ldL i14 (k15 + 5) H8 fun z21b z21l z21c =>
 ldL i14 (k15 + 6) H8 fun z22b z22l z22c =>
 wCall Try.prog 24 [(.agg #[(.int .i64 n16), (.string t17), (.string t18), (.int .i64 n19), (.slice z20b z20l z20c), (.slice z21b z21l z21c), (.slice z22b z22l z22c)])] H8 (fun r23 H24 =>
 opT 2 r23 fun l27 =>
 opS (l27.headD undef) fun t28 =>
 opI .i64 (l27.tail.headD undef) fun n29 =>
 wPt s5 fun i30 k31 =>
 ldI .i64 i30 k31 H24 fun n32 =>
 ldI .i64 i30 (k31 + 1) H24 fun n33 =>
 ldS i30 (k31 + 2) H24 fun t34 =>
 ldL i30 (k31 + 3) H24 fun z35b z35l z35c =>
 ldL i30 (k31 + 4) H24 fun z36b z36l z36c =>
 ldI .i64 i30 (k31 + 5) H24 fun n37 =>
 wCall Try.prog 32 [(.agg #[(.int .i64 n32), (.int .i64 n33), (.string t34), (.slice z35b z35l z35c), (.slice z36b z36l z36c), (.int .i64 n37)])] H24 (fun r38 H39 =>
 opT 2 r38 fun l42 =>
 opS (l42.headD undef) fun t43 =>
 opI .i64 (l42.tail.headD undef) fun n44 =>
 wCall Try.prog 17 [(.string t12)] H39 (fun r45 H46 =>
 opT 2 r45 fun l49 =>
 opA 4 (l49.headD undef) fun l50 =>
 opI .i64 (l50.headD undef) fun n51 =>
 opI .i64 (l50.tail.headD undef) fun n52 =>
 opS (l50.tail.tail.headD undef) fun t53 =>
 opL (l50.tail.tail.tail.headD undef) fun z54b z54l z54c =>
 opI .i64 (l49.tail.headD undef) fun n55 =>
 wNew [(.int .i64 0), (.int .i64 0), (.string ({ data := #[] })), (.slice none 0 0)] H46 fun i56 H57 =>
 wSt i56 0 [(.int .i64 n51), (.int .i64 n52), (.string t53), (.slice z54b z54l z54c)] H57 fun H58 =>
 wCall Try.prog 21 [(.string t28)] H58 (fun r59 H60 =>
 opT 2 r59 fun l63 =>
 opA 7 (l63.headD undef) fun l64 =>
 opI .i64 (l64.headD undef) fun n65 =>
 opS (l64.tail.headD undef) fun t66 =>
 opS (l64.tail.tail.headD undef) fun t67 =>
 opI .i64 (l64.tail.tail.tail.headD undef) fun n68 =>
 opL (l64.tail.tail.tail.tail.headD undef) fun z69b z69l z69c =>
 opL (l64.tail.tail.tail.tail.tail.headD undef) fun z70b z70l z70c =>
 opL (l64.tail.tail.tail.tail.tail.tail.headD undef) fun z71b z71l z71c =>
 opI .i64 (l63.tail.headD undef) fun n72 =>
 wNew [(.int .i64 0), (.string ({ data := #[] })), (.string ({ data := #[] })), (.int .i64 0), (.slice none 0 0), (.slice none 0 0), (.slice none 0 0)] H60 fun i73 H74 =>
 wSt i73 0 [(.int .i64 n65), (.string t66), (.string t67), (.int .i64 n68), (.slice z69b z69l z69c), (.slice z70b z70l z70c), (.slice z71b z71l z71c)] H74 fun H75 =>
 wCall Try.prog 41 [(.string t43)] H75 (fun r76 H77 =>
 opT 2 r76 fun l80 =>
 opA 6 (l80.headD undef) fun l81 =>
 opI .i64 (l81.headD undef) fun n82 =>
 opI .i64 (l81.tail.headD undef) fun n83 =>
 opS (l81.tail.tail.headD undef) fun t84 =>
 opL (l81.tail.tail.tail.headD undef) fun z85b z85l z85c =>
 opL (l81.tail.tail.tail.tail.headD undef) fun z86b z86l z86c =>
 opI .i64 (l81.tail.tail.tail.tail.tail.headD undef) fun n87 =>
 opI .i64 (l80.tail.headD undef) fun n88 =>
 wNew [(.int .i64 0), (.int .i64 0), (.string ({ data := #[] })), (.slice none 0 0), (.slice none 0 0), (.int .i64 0)] H77 fun i89 H90 =>
 wSt i89 0 [(.int .i64 n82), (.int .i64 n83), (.string t84), (.slice z85b z85l z85c), (.slice z86b z86l z86c), (.int .i64 n87)] H90 fun H91 =>
 wCall Try.prog 10 [] H91 (fun r92 H93 =>
 opB r92 fun b96 =>
 wIf b96
 (wIf (!decide (n13 = 0))
 (wIf (!decide (n29 = 0))
 (wIf (!decide (n44 = 0))
 (R (.ret (.bool true)) H93)
 (wIf (decide (n88 = 0))
 (wPt s5 fun i97 k98 =>
 ldI .i64 i97 k98 H93 fun n99 =>
 ldI .i64 i97 (k98 + 1) H93 fun n100 =>
 ldS i97 (k98 + 2) H93 fun t101 =>
 ldL i97 (k98 + 3) H93 fun z102b z102l z102c =>
 ldL i97 (k98 + 4) H93 fun z103b z103l z103c =>
 ldI .i64 i97 (k98 + 5) H93 fun n104 =>
 ldI .i64 i89 0 H93 fun n105 =>
 ldI .i64 i89 1 H93 fun n106 =>
 ldS i89 2 H93 fun t107 =>
 ldL i89 3 H93 fun z108b z108l z108c =>
 ldL i89 4 H93 fun z109b z109l z109c =>
 ldI .i64 i89 5 H93 fun n110 =>
 wCall Try.prog 47 [(.agg #[(.int .i64 n99), (.int .i64 n100), (.string t101), (.slice z102b z102l z102c), (.slice z103b z103l z103c), (.int .i64 n104)]), (.agg #[(.int .i64 n105), (.int .i64 n106), (.string t107), (.slice z108b z108l z108c), (.slice z109b z109l z109c), (.int .i64 n110)])] H93 (fun r111 H112 =>
 opB r111 fun b115 =>
 R (.ret (.bool b115)) H112) (fun v114 H113 => R (.panic v114) H113))
 (R (.ret (.bool false)) H93)))
 (wIf (decide (n72 = 0))
 (wPt s4 fun i116 k117 =>
 ldI .i64 i116 k117 H93 fun n118 =>
 ldS i116 (k117 + 1) H93 fun t119 =>
 ldS i116 (k117 + 2) H93 fun t120 =>
 ldI .i64 i116 (k117 + 3) H93 fun n121 =>
 ldL i116 (k117 + 4) H93 fun z122b z122l z122c =>
 ldL i116 (k117 + 5) H93 fun z123b z123l z123c =>
 ldL i116 (k117 + 6) H93 fun z124b z124l z124c =>
 ldI .i64 i73 0 H93 fun n125 =>
 ldS i73 1 H93 fun t126 =>
 ldS i73 2 H93 fun t127 =>
 ldI .i64 i73 3 H93 fun n128 =>
 ldL i73 4 H93 fun z129b z129l z129c =>
 ldL i73 5 H93 fun z130b z130l z130c =>
 ldL i73 6 H93 fun z131b z131l z131c =>
 wCall Try.prog 23 [(.agg #[(.int .i64 n118), (.string t119), (.string t120), (.int .i64 n121), (.slice z122b z122l z122c), (.slice z123b z123l z123c), (.slice z124b z124l z124c)]), (.agg #[(.int .i64 n125), (.string t126), (.string t127), (.int .i64 n128), (.slice z129b z129l z129c), (.slice z130b z130l z130c), (.slice z131b z131l z131c)])] H93 (fun r132 H133 =>
 opB r132 fun b136 =>
 wIf b136
 (wIf (!decide (n44 = 0))
 (R (.ret (.bool true)) H133)
 (wIf (decide (n88 = 0))
 (wPt s5 fun i137 k138 =>
 ldI .i64 i137 k138 H133 fun n139 =>
 ldI .i64 i137 (k138 + 1) H133 fun n140 =>
 ldS i137 (k138 + 2) H133 fun t141 =>
 ldL i137 (k138 + 3) H133 fun z142b z142l z142c =>
 ldL i137 (k138 + 4) H133 fun z143b z143l z143c =>
 ldI .i64 i137 (k138 + 5) H133 fun n144 =>
 ldI .i64 i89 0 H133 fun n145 =>
 ldI .i64 i89 1 H133 fun n146 =>
 ldS i89 2 H133 fun t147 =>
 ldL i89 3 H133 fun z148b z148l z148c =>
 ldL i89 4 H133 fun z149b z149l z149c =>
 ldI .i64 i89 5 H133 fun n150 =>
 wCall Try.prog 47 [(.agg #[(.int .i64 n139), (.int .i64 n140), (.string t141), (.slice z142b z142l z142c), (.slice z143b z143l z143c), (.int .i64 n144)]), (.agg #[(.int .i64 n145), (.int .i64 n146), (.string t147), (.slice z148b z148l z148c), (.slice z149b z149l z149c), (.int .i64 n150)])] H133 (fun r151 H152 =>
 opB r151 fun b155 =>
 R (.ret (.bool b155)) H152) (fun v154 H153 => R (.panic v154) H153))
 (R (.ret (.bool false)) H133)))
 (R (.ret (.bool false)) H133)) (fun v135 H134 => R (.panic v135) H134))
 (R (.ret (.bool false)) H93)))
 (wIf (decide (n55 = 0))
 (wPt s3 fun i156 k157 =>
 ldI .i64 i156 k157 H93 fun n158 =>
 ldI .i64 i156 (k157 + 1) H93 fun n159 =>
 ldS i156 (k157 + 2) H93 fun t160 =>
 ldL i156 (k157 + 3) H93 fun z161b z161l z161c =>
 ldI .i64 i56 0 H93 fun n162 =>
 ldI .i64 i56 1 H93 fun n163 =>
 ldS i56 2 H93 fun t164 =>
 ldL i56 3 H93 fun z165b z165l z165c =>
 wCall Try.prog 14 [(.agg #[(.int .i64 n158), (.int .i64 n159), (.string t160), (.slice z161b z161l z161c)]), (.agg #[(.int .i64 n162), (.int .i64 n163), (.string t164), (.slice z165b z165l z165c)])] H93 (fun r166 H167 =>
 opB r166 fun b170 =>
 wIf b170
 (wIf (!decide (n29 = 0))
 (wIf (!decide (n44 = 0))
 (R (.ret (.bool true)) H167)
 (wIf (decide (n88 = 0))
 (wPt s5 fun i171 k172 =>
 ldI .i64 i171 k172 H167 fun n173 =>
 ldI .i64 i171 (k172 + 1) H167 fun n174 =>
 ldS i171 (k172 + 2) H167 fun t175 =>
 ldL i171 (k172 + 3) H167 fun z176b z176l z176c =>
 ldL i171 (k172 + 4) H167 fun z177b z177l z177c =>
 ldI .i64 i171 (k172 + 5) H167 fun n178 =>
 ldI .i64 i89 0 H167 fun n179 =>
 ldI .i64 i89 1 H167 fun n180 =>
 ldS i89 2 H167 fun t181 =>
 ldL i89 3 H167 fun z182b z182l z182c =>
 ldL i89 4 H167 fun z183b z183l z183c =>
 ldI .i64 i89 5 H167 fun n184 =>
 wCall Try.prog 47 [(.agg #[(.int .i64 n173), (.int .i64 n174), (.string t175), (.slice z176b z176l z176c), (.slice z177b z177l z177c), (.int .i64 n178)]), (.agg #[(.int .i64 n179), (.int .i64 n180), (.string t181), (.slice z182b z182l z182c), (.slice z183b z183l z183c), (.int .i64 n184)])] H167 (fun r185 H186 =>
 opB r185 fun b189 =>
 R (.ret (.bool b189)) H186) (fun v188 H187 => R (.panic v188) H187))
 (R (.ret (.bool false)) H167)))
 (wIf (decide (n72 = 0))
 (wPt s4 fun i190 k191 =>
 ldI .i64 i190 k191 H167 fun n192 =>
 ldS i190 (k191 + 1) H167 fun t193 =>
 ldS i190 (k191 + 2) H167 fun t194 =>
 ldI .i64 i190 (k191 + 3) H167 fun n195 =>
 ldL i190 (k191 + 4) H167 fun z196b z196l z196c =>
 ldL i190 (k191 + 5) H167 fun z197b z197l z197c =>
 ldL i190 (k191 + 6) H167 fun z198b z198l z198c =>
 ldI .i64 i73 0 H167 fun n199 =>
 ldS i73 1 H167 fun t200 =>
 ldS i73 2 H167 fun t201 =>
 ldI .i64 i73 3 H167 fun n202 =>
 ldL i73 4 H167 fun z203b z203l z203c =>
 ldL i73 5 H167 fun z204b z204l z204c =>
 ldL i73 6 H167 fun z205b z205l z205c =>
 wCall Try.prog 23 [(.agg #[(.int .i64 n192), (.string t193), (.string t194), (.int .i64 n195), (.slice z196b z196l z196c), (.slice z197b z197l z197c), (.slice z198b z198l z198c)]), (.agg #[(.int .i64 n199), (.string t200), (.string t201), (.int .i64 n202), (.slice z203b z203l z203c), (.slice z204b z204l z204c), (.slice z205b z205l z205c)])] H167 (fun r206 H207 =>
 opB r206 fun b210 =>
 wIf b210
 (wIf (!decide (n44 = 0))
 (R (.ret (.bool true)) H207)
 (wIf (decide (n88 = 0))
 (wPt s5 fun i211 k212 =>
 ldI .i64 i211 k212 H207 fun n213 =>
 ldI .i64 i211 (k212 + 1) H207 fun n214 =>
 ldS i211 (k212 + 2) H207 fun t215 =>
 ldL i211 (k212 + 3) H207 fun z216b z216l z216c =>
 ldL i211 (k212 + 4) H207 fun z217b z217l z217c =>
 ldI .i64 i211 (k212 + 5) H207 fun n218 =>
 ldI .i64 i89 0 H207 fun n219 =>
 ldI .i64 i89 1 H207 fun n220 =>
 ldS i89 2 H207 fun t221 =>
 ldL i89 3 H207 fun z222b z222l z222c =>
 ldL i89 4 H207 fun z223b z223l z223c =>
 ldI .i64 i89 5 H207 fun n224 =>
 wCall Try.prog 47 [(.agg #[(.int .i64 n213), (.int .i64 n214), (.string t215), (.slice z216b z216l z216c), (.slice z217b z217l z217c), (.int .i64 n218)]), (.agg #[(.int .i64 n219), (.int .i64 n220), (.string t221), (.slice z222b z222l z222c), (.slice z223b z223l z223c), (.int .i64 n224)])] H207 (fun r225 H226 =>
 opB r225 fun b229 =>
 R (.ret (.bool b229)) H226) (fun v228 H227 => R (.panic v228) H227))
 (R (.ret (.bool false)) H207)))
 (R (.ret (.bool false)) H207)) (fun v209 H208 => R (.panic v209) H208))
 (R (.ret (.bool false)) H167)))
 (R (.ret (.bool false)) H167)) (fun v169 H168 => R (.panic v169) H168))
 (R (.ret (.bool false)) H93)))
 (R (.ret (.bool false)) H93)) (fun v95 H94 => R (.panic v95) H94)) (fun v79 H78 => R (.panic v79) H78)) (fun v62 H61 => R (.panic v62) H61)) (fun v48 H47 => R (.panic v48) H47)) (fun v41 H40 => R (.panic v41) H40)) (fun v26 H25 => R (.panic v26) H25)) (fun v10 H9 => R (.panic v10) H9)
theorem f8_J1_eq (s0 : Value) (s1 : Value) (s2 : Value) (s3 : Option Addr) (s4 : Option Addr) (s5 : Option Addr) (s6 : Value) (s7 : Value) (s8 : Value) (s9 : Value) (s10 : Value) (s11 : Value) (s12 : Value) (s13 : Value) (s14 : Value) (s15 : Value) (s16 : Value) (s17 : Value) (s18 : Value) (s19 : Value) (s20 : Value) (s21 : Value) (s22 : Value) (s23 : Value) (s24 : Value) (s25 : Value) (s26 : Value) (s27 : Value) (s28 : Value) (s29 : Value) (s30 : Value) (s31 : Value) (s32 : Value) (s33 : Value) (s34 : Value) (s35 : Value) (s36 : Value) (s37 : Value) (s38 : Value) (s39 : Value) (s40 : Value) (s41 : Value) (s42 : Value) (s43 : Value) (s44 : Value) (s45 : Value) (s46 : Value) (s47 : Value) (s48 : Value) (s49 : Value) (s50 : Value) (s51 : Value) (s52 : Value) (s53 : Value) (s54 : Value) (s55 : Value) (s56 : Value) (s57 : Value) (s58 : Value) (s59 : Value) (s60 : Value) (s61 : Value) (s62 : Value) (s63 : Value) (s64 : Value) (s65 : Value) (s66 : Value) (s67 : Value) (s68 : Value) (s69 : Value) (s70 : Value) (s71 : Value) (s72 : Value) (s73 : Value) (s74 : Value) (s75 : Value) (s76 : Value) (s77 : Value) (s78 : Value) (s79 : Value) (s80 : Value) (s81 : Value) (s82 : Value) (s83 : Value) (s84 : Value) (s85 : Value) (s86 : Value) (s87 : Value) (s88 : Value) (s89 : Value) (s90 : Value) (s91 : Value) (s92 : Value) (s93 : Value) (s94 : Value) (s95 : Value) (s96 : Value) (s97 : Value) (s98 : Value) (s99 : Value) (s100 : Value) (s101 : Value) (s102 : Value) (s103 : Value) (s104 : Value) (s105 : Value) (s106 : Value) (s107 : Value) (s108 : Value) (s109 : Value) (s110 : Value) (s111 : Value) (s112 : Value) (s113 : Value) (s114 : Value) (H : AH) (R : AEnd → AH → Prop) : f8_J1 R [s0, s1, s2, (.pointer s3), (.pointer s4), (.pointer s5), s6, s7, s8, s9, s10, s11, s12, s13, s14, s15, s16, s17, s18, s19, s20, s21, s22, s23, s24, s25, s26, s27, s28, s29, s30, s31, s32, s33, s34, s35, s36, s37, s38, s39, s40, s41, s42, s43, s44, s45, s46, s47, s48, s49, s50, s51, s52, s53, s54, s55, s56, s57, s58, s59, s60, s61, s62, s63, s64, s65, s66, s67, s68, s69, s70, s71, s72, s73, s74, s75, s76, s77, s78, s79, s80, s81, s82, s83, s84, s85, s86, s87, s88, s89, s90, s91, s92, s93, s94, s95, s96, s97, s98, s99, s100, s101, s102, s103, s104, s105, s106, s107, s108, s109, s110, s111, s112, s113, s114] H = f8_J1_B s3 s4 s5 H R := by kernel_rfl
-- join 0: live 3:C, 4:o, 5:d, 43:?
def f8_J0_B (s0 : Value) (s1 : Value) (s2 : Value) (s3 : Option Addr) (s4 : Option Addr) (s5 : Option Addr) (s6 : Value) (s7 : Value) (s8 : Value) (s9 : Value) (s10 : Value) (s11 : Value) (s12 : Value) (s13 : Value) (s14 : Value) (s15 : Value) (s16 : Value) (s17 : Value) (s18 : Value) (s19 : Value) (s20 : Value) (s21 : Value) (s22 : Value) (s23 : Value) (s24 : Value) (s25 : Value) (s26 : Value) (s27 : Value) (s28 : Value) (s29 : Value) (s30 : Value) (s31 : Value) (s32 : Value) (s33 : Value) (s34 : Value) (s35 : Value) (s36 : Value) (s37 : Value) (s38 : Value) (s39 : Value) (s40 : Value) (s41 : Value) (s42 : Value) (s43 : Bool) (s44 : Value) (s45 : Value) (s46 : Value) (s47 : Value) (s48 : Value) (s49 : Value) (s50 : Value) (s51 : Value) (s52 : Value) (s53 : Value) (s54 : Value) (s55 : Value) (s56 : Value) (s57 : Value) (s58 : Value) (s59 : Value) (s60 : Value) (s61 : Value) (s62 : Value) (s63 : Value) (s64 : Value) (s65 : Value) (s66 : Value) (s67 : Value) (s68 : Value) (s69 : Value) (s70 : Value) (s71 : Value) (s72 : Value) (s73 : Value) (s74 : Value) (s75 : Value) (s76 : Value) (s77 : Value) (s78 : Value) (s79 : Value) (s80 : Value) (s81 : Value) (s82 : Value) (s83 : Value) (s84 : Value) (s85 : Value) (s86 : Value) (s87 : Value) (s88 : Value) (s89 : Value) (s90 : Value) (s91 : Value) (s92 : Value) (s93 : Value) (s94 : Value) (s95 : Value) (s96 : Value) (s97 : Value) (s98 : Value) (s99 : Value) (s100 : Value) (s101 : Value) (s102 : Value) (s103 : Value) (s104 : Value) (s105 : Value) (s106 : Value) (s107 : Value) (s108 : Value) (s109 : Value) (s110 : Value) (s111 : Value) (s112 : Value) (s113 : Value) (s114 : Value) (H : AH) (R : AEnd → AH → Prop) : Prop :=
 wIf s43
 (wCall Try.prog 10 [] H (fun r230 H231 =>
 opB r230 fun b234 =>
 R (.ret (.bool b234)) H231) (fun v233 H232 => R (.panic v233) H232))
 (f8_J1 R [s0, s1, s2, (.pointer s3), (.pointer s4), (.pointer s5), s6, s7, s8, s9, s10, s11, s12, s13, s14, s15, s16, s17, s18, s19, s20, s21, s22, s23, s24, s25, s26, s27, s28, s29, s30, s31, s32, s33, s34, s35, s36, s37, s38, s39, s40, s41, s42, (.bool false), s44, s45, s46, s47, s48, s49, s50, s51, s52, s53, s54, s55, s56, s57, s58, s59, s60, s61, s62, s63, s64, s65, s66, s67, s68, s69, s70, s71, s72, s73, s74, s75, s76, s77, s78, s79, s80, s81, s82, s83, s84, s85, s86, s87, s88, s89, s90, s91, s92, s93, s94, s95, s96, s97, s98, s99, s100, s101, s102, s103, s104, s105, s106, s107, s108, s109, s110, s111, s112, s113, s114] H)
theorem f8_J0_eq (s0 : Value) (s1 : Value) (s2 : Value) (s3 : Option Addr) (s4 : Option Addr) (s5 : Option Addr) (s6 : Value) (s7 : Value) (s8 : Value) (s9 : Value) (s10 : Value) (s11 : Value) (s12 : Value) (s13 : Value) (s14 : Value) (s15 : Value) (s16 : Value) (s17 : Value) (s18 : Value) (s19 : Value) (s20 : Value) (s21 : Value) (s22 : Value) (s23 : Value) (s24 : Value) (s25 : Value) (s26 : Value) (s27 : Value) (s28 : Value) (s29 : Value) (s30 : Value) (s31 : Value) (s32 : Value) (s33 : Value) (s34 : Value) (s35 : Value) (s36 : Value) (s37 : Value) (s38 : Value) (s39 : Value) (s40 : Value) (s41 : Value) (s42 : Value) (s43 : Bool) (s44 : Value) (s45 : Value) (s46 : Value) (s47 : Value) (s48 : Value) (s49 : Value) (s50 : Value) (s51 : Value) (s52 : Value) (s53 : Value) (s54 : Value) (s55 : Value) (s56 : Value) (s57 : Value) (s58 : Value) (s59 : Value) (s60 : Value) (s61 : Value) (s62 : Value) (s63 : Value) (s64 : Value) (s65 : Value) (s66 : Value) (s67 : Value) (s68 : Value) (s69 : Value) (s70 : Value) (s71 : Value) (s72 : Value) (s73 : Value) (s74 : Value) (s75 : Value) (s76 : Value) (s77 : Value) (s78 : Value) (s79 : Value) (s80 : Value) (s81 : Value) (s82 : Value) (s83 : Value) (s84 : Value) (s85 : Value) (s86 : Value) (s87 : Value) (s88 : Value) (s89 : Value) (s90 : Value) (s91 : Value) (s92 : Value) (s93 : Value) (s94 : Value) (s95 : Value) (s96 : Value) (s97 : Value) (s98 : Value) (s99 : Value) (s100 : Value) (s101 : Value) (s102 : Value) (s103 : Value) (s104 : Value) (s105 : Value) (s106 : Value) (s107 : Value) (s108 : Value) (s109 : Value) (s110 : Value) (s111 : Value) (s112 : Value) (s113 : Value) (s114 : Value) (H : AH) (R : AEnd → AH → Prop) : f8_J0 R [s0, s1, s2, (.pointer s3), (.pointer s4), (.pointer s5), s6, s7, s8, s9, s10, s11, s12, s13, s14, s15, s16, s17, s18, s19, s20, s21, s22, s23, s24, s25, s26, s27, s28, s29, s30, s31, s32, s33, s34, s35, s36, s37, s38, s39, s40, s41, s42, (.bool s43), s44, s45, s46, s47, s48, s49, s50, s51, s52, s53, s54, s55, s56, s57, s58, s59, s60, s61, s62, s63, s64, s65, s66, s67, s68, s69, s70, s71, s72, s73, s74, s75, s76, s77, s78, s79, s80, s81, s82, s83, s84, s85, s86, s87, s88, s89, s90, s91, s92, s93, s94, s95, s96, s97, s98, s99, s100, s101, s102, s103, s104, s105, s106, s107, s108, s109, s110, s111, s112, s113, s114] H = f8_J0_B s0 s1 s2 s3 s4 s5 s6 s7 s8 s9 s10 s11 s12 s13 s14 s15 s16 s17 s18 s19 s20 s21 s22 s23 s24 s25 s26 s27 s28 s29 s30 s31 s32 s33 s34 s35 s36 s37 s38 s39 s40 s41 s42 s43 s44 s45 s46 s47 s48 s49 s50 s51 s52 s53 s54 s55 s56 s57 s58 s59 s60 s61 s62 s63 s64 s65 s66 s67 s68 s69 s70 s71 s72 s73 s74 s75 s76 s77 s78 s79 s80 s81 s82 s83 s84 s85 s86 s87 s88 s89 s90 s91 s92 s93 s94 s95 s96 s97 s98 s99 s100 s101 s102 s103 s104 s105 s106 s107 s108 s109 s110 s111 s112 s113 s114 H R := by kernel_rfl
def f8_B (x0_0 : Int) (x0_1 : Int) (x0_2 : ByteArray) (x0_3b : Option Addr) (x0_3l : Nat) (x0_3c : Nat) (x1_0 : Int) (x1_1 : ByteArray) (x1_2 : ByteArray) (x1_3 : Int) (x1_4b : Option Addr) (x1_4l : Nat) (x1_4c : Nat) (x1_5b : Option Addr) (x1_5l : Nat) (x1_5c : Nat) (x1_6b : Option Addr) (x1_6l : Nat) (x1_6c : Nat) (x2_0 : Int) (x2_1 : Int) (x2_2 : ByteArray) (x2_3b : Option Addr) (x2_3l : Nat) (x2_3c : Nat) (x2_4b : Option Addr) (x2_4l : Nat) (x2_4c : Nat) (x2_5 : Int) (H : AH) (R : AEnd → AH → Prop) : Prop :=
 wNew [(.int .i64 x0_0), (.int .i64 x0_1), (.string x0_2), (.slice x0_3b x0_3l x0_3c)] H fun i235 H236 =>
 wNew [(.int .i64 x1_0), (.string x1_1), (.string x1_2), (.int .i64 x1_3), (.slice x1_4b x1_4l x1_4c), (.slice x1_5b x1_5l x1_5c), (.slice x1_6b x1_6l x1_6c)] H236 fun i237 H238 =>
 wNew [(.int .i64 x2_0), (.int .i64 x2_1), (.string x2_2), (.slice x2_3b x2_3l x2_3c), (.slice x2_4b x2_4l x2_4c), (.int .i64 x2_5)] H238 fun i239 H240 =>
 wCall Try.prog 10 [] H240 (fun r241 H242 =>
 opB r241 fun b245 =>
 wIf (!b245)
 (R (.ret (.bool false)) H242)
 (ldI .i64 i239 1 H242 fun n246 =>
 ldS i239 2 H242 fun t247 =>
 ldL i239 3 H242 fun z248b z248l z248c =>
 ldL i239 4 H242 fun z249b z249l z249c =>
 wBs [(.int .i64 n246), (.string t247), (.slice z248b z248l z248c), (.slice z249b z249l z249c)] 4 H242 fun i250 H251 =>
 wCall Try.prog 11 [(.slice (some ⟨i250, 0, none⟩) 1 0)] H251 (fun r252 H253 =>
 opB r252 fun b256 =>
 wIf (!b256)
 (f8_J0 R [(.agg #[(.int .i64 x0_0), (.int .i64 x0_1), (.string x0_2), (.slice x0_3b x0_3l x0_3c)]), (.agg #[(.int .i64 x1_0), (.string x1_1), (.string x1_2), (.int .i64 x1_3), (.slice x1_4b x1_4l x1_4c), (.slice x1_5b x1_5l x1_5c), (.slice x1_6b x1_6l x1_6c)]), (.agg #[(.int .i64 x2_0), (.int .i64 x2_1), (.string x2_2), (.slice x2_3b x2_3l x2_3c), (.slice x2_4b x2_4l x2_4c), (.int .i64 x2_5)]), (.pointer (some ⟨i235, 0, none⟩)), (.pointer (some ⟨i237, 0, none⟩)), (.pointer (some ⟨i239, 0, none⟩)), (.bool false), undef, undef, undef, undef, undef, undef, undef, undef, undef, undef, undef, undef, (.bool b245), (.bool false), (.pointer (some ⟨i239, 1, none⟩)), (.agg #[(.int .i64 n246), (.string t247), (.slice z248b z248l z248c), (.slice z249b z249l z249c)]), (.slice (some ⟨i250, 0, none⟩) 1 0), (.bool b256), (.bool (!b256)), (.bool true), undef, undef, undef, undef, (.bool true), (.bool true), undef, undef, undef, undef, (.bool true), (.bool true), undef, undef, undef, undef, (.bool true), undef, undef, undef, undef, undef, undef, undef, undef, undef, undef, undef, undef, undef, undef, undef, undef, undef, undef, undef, undef, undef, undef, undef, undef, undef, undef, undef, undef, undef, undef, undef, undef, undef, undef, undef, undef, undef, undef, undef, undef, undef, undef, undef, undef, undef, undef, undef, undef, undef, undef, undef, undef, undef, undef, undef, undef, undef, undef, undef, undef, undef, undef, undef, undef, undef, undef, undef, undef, undef, undef, undef] H253)
 (ldL i237 6 H253 fun z257b z257l z257c =>
 wCall Try.prog 11 [(.slice z257b z257l z257c)] H253 (fun r258 H259 =>
 opB r258 fun b262 =>
 wIf (!b262)
 (f8_J0 R [(.agg #[(.int .i64 x0_0), (.int .i64 x0_1), (.string x0_2), (.slice x0_3b x0_3l x0_3c)]), (.agg #[(.int .i64 x1_0), (.string x1_1), (.string x1_2), (.int .i64 x1_3), (.slice x1_4b x1_4l x1_4c), (.slice x1_5b x1_5l x1_5c), (.slice x1_6b x1_6l x1_6c)]), (.agg #[(.int .i64 x2_0), (.int .i64 x2_1), (.string x2_2), (.slice x2_3b x2_3l x2_3c), (.slice x2_4b x2_4l x2_4c), (.int .i64 x2_5)]), (.pointer (some ⟨i235, 0, none⟩)), (.pointer (some ⟨i237, 0, none⟩)), (.pointer (some ⟨i239, 0, none⟩)), (.bool false), undef, undef, undef, undef, undef, undef, undef, undef, undef, undef, undef, undef, (.bool b245), (.bool false), (.pointer (some ⟨i239, 1, none⟩)), (.agg #[(.int .i64 n246), (.string t247), (.slice z248b z248l z248c), (.slice z249b z249l z249c)]), (.slice (some ⟨i250, 0, none⟩) 1 0), (.bool b256), (.bool (!b256)), (.bool false), (.pointer (some ⟨i237, 6, none⟩)), (.slice z257b z257l z257c), (.bool b262), (.bool (!b262)), (.bool (!b262)), (.bool true), undef, undef, undef, undef, (.bool true), (.bool true), undef, undef, undef, undef, (.bool true), undef, undef, undef, undef, undef, undef, undef, undef, undef, undef, undef, undef, undef, undef, undef, undef, undef, undef, undef, undef, undef, undef, undef, undef, undef, undef, undef, undef, undef, undef, undef, undef, undef, undef, undef, undef, undef, undef, undef, undef, undef, undef, undef, undef, undef, undef, undef, undef, undef, undef, undef, undef, undef, undef, undef, undef, undef, undef, undef, undef, undef, undef, undef, undef, undef, undef, undef, undef, undef, undef, undef] H259)
 (ldL i237 4 H259 fun z263b z263l z263c =>
 wIf (decide ((z263l : Int) > 40))
 (f8_J0 R [(.agg #[(.int .i64 x0_0), (.int .i64 x0_1), (.string x0_2), (.slice x0_3b x0_3l x0_3c)]), (.agg #[(.int .i64 x1_0), (.string x1_1), (.string x1_2), (.int .i64 x1_3), (.slice x1_4b x1_4l x1_4c), (.slice x1_5b x1_5l x1_5c), (.slice x1_6b x1_6l x1_6c)]), (.agg #[(.int .i64 x2_0), (.int .i64 x2_1), (.string x2_2), (.slice x2_3b x2_3l x2_3c), (.slice x2_4b x2_4l x2_4c), (.int .i64 x2_5)]), (.pointer (some ⟨i235, 0, none⟩)), (.pointer (some ⟨i237, 0, none⟩)), (.pointer (some ⟨i239, 0, none⟩)), (.bool false), undef, undef, undef, undef, undef, undef, undef, undef, undef, undef, undef, undef, (.bool b245), (.bool false), (.pointer (some ⟨i239, 1, none⟩)), (.agg #[(.int .i64 n246), (.string t247), (.slice z248b z248l z248c), (.slice z249b z249l z249c)]), (.slice (some ⟨i250, 0, none⟩) 1 0), (.bool b256), (.bool (!b256)), (.bool false), (.pointer (some ⟨i237, 6, none⟩)), (.slice z257b z257l z257c), (.bool b262), (.bool (!b262)), (.bool (!b262)), (.bool false), (.pointer (some ⟨i237, 4, none⟩)), (.slice z263b z263l z263c), (.int .i64 (z263l : Int)), (.bool (decide ((z263l : Int) > 40))), (.bool (decide ((z263l : Int) > 40))), (.bool true), undef, undef, undef, undef, (.bool true), undef, undef, undef, undef, undef, undef, undef, undef, undef, undef, undef, undef, undef, undef, undef, undef, undef, undef, undef, undef, undef, undef, undef, undef, undef, undef, undef, undef, undef, undef, undef, undef, undef, undef, undef, undef, undef, undef, undef, undef, undef, undef, undef, undef, undef, undef, undef, undef, undef, undef, undef, undef, undef, undef, undef, undef, undef, undef, undef, undef, undef, undef, undef, undef, undef, undef, undef, undef, undef, undef, undef] H259)
 (ldL i237 5 H259 fun z264b z264l z264c =>
 f8_J0 R [(.agg #[(.int .i64 x0_0), (.int .i64 x0_1), (.string x0_2), (.slice x0_3b x0_3l x0_3c)]), (.agg #[(.int .i64 x1_0), (.string x1_1), (.string x1_2), (.int .i64 x1_3), (.slice x1_4b x1_4l x1_4c), (.slice x1_5b x1_5l x1_5c), (.slice x1_6b x1_6l x1_6c)]), (.agg #[(.int .i64 x2_0), (.int .i64 x2_1), (.string x2_2), (.slice x2_3b x2_3l x2_3c), (.slice x2_4b x2_4l x2_4c), (.int .i64 x2_5)]), (.pointer (some ⟨i235, 0, none⟩)), (.pointer (some ⟨i237, 0, none⟩)), (.pointer (some ⟨i239, 0, none⟩)), (.bool false), undef, undef, undef, undef, undef, undef, undef, undef, undef, undef, undef, undef, (.bool b245), (.bool false), (.pointer (some ⟨i239, 1, none⟩)), (.agg #[(.int .i64 n246), (.string t247), (.slice z248b z248l z248c), (.slice z249b z249l z249c)]), (.slice (some ⟨i250, 0, none⟩) 1 0), (.bool b256), (.bool (!b256)), (.bool false), (.pointer (some ⟨i237, 6, none⟩)), (.slice z257b z257l z257c), (.bool b262), (.bool (!b262)), (.bool (!b262)), (.bool false), (.pointer (some ⟨i237, 4, none⟩)), (.slice z263b z263l z263c), (.int .i64 (z263l : Int)), (.bool (decide ((z263l : Int) > 40))), (.bool (decide ((z263l : Int) > 40))), (.bool false), (.pointer (some ⟨i237, 5, none⟩)), (.slice z264b z264l z264c), (.int .i64 (z264l : Int)), (.bool (decide ((z264l : Int) > 40))), (.bool (decide ((z264l : Int) > 40))), undef, undef, undef, undef, undef, undef, undef, undef, undef, undef, undef, undef, undef, undef, undef, undef, undef, undef, undef, undef, undef, undef, undef, undef, undef, undef, undef, undef, undef, undef, undef, undef, undef, undef, undef, undef, undef, undef, undef, undef, undef, undef, undef, undef, undef, undef, undef, undef, undef, undef, undef, undef, undef, undef, undef, undef, undef, undef, undef, undef, undef, undef, undef, undef, undef, undef, undef, undef, undef, undef, undef] H259))) (fun v261 H260 => R (.panic v261) H260))) (fun v255 H254 => R (.panic v255) H254))) (fun v244 H243 => R (.panic v244) H243)
theorem f8_eq (x0_0 : Int) (x0_1 : Int) (x0_2 : ByteArray) (x0_3b : Option Addr) (x0_3l : Nat) (x0_3c : Nat) (x1_0 : Int) (x1_1 : ByteArray) (x1_2 : ByteArray) (x1_3 : Int) (x1_4b : Option Addr) (x1_4l : Nat) (x1_4c : Nat) (x1_5b : Option Addr) (x1_5l : Nat) (x1_5c : Nat) (x1_6b : Option Addr) (x1_6l : Nat) (x1_6c : Nat) (x2_0 : Int) (x2_1 : Int) (x2_2 : ByteArray) (x2_3b : Option Addr) (x2_3l : Nat) (x2_3c : Nat) (x2_4b : Option Addr) (x2_4l : Nat) (x2_4c : Nat) (x2_5 : Int) (H : AH) (R : AEnd → AH → Prop) : awpF Try.prog f8_c (aPost Try.prog Try.f8 R) (([(.agg #[(.int .i64 x0_0), (.int .i64 x0_1), (.string x0_2), (.slice x0_3b x0_3l x0_3c)]), (.agg #[(.int .i64 x1_0), (.string x1_1), (.string x1_2), (.int .i64 x1_3), (.slice x1_4b x1_4l x1_4c), (.slice x1_5b x1_5l x1_5c), (.slice x1_6b x1_6l x1_6c)]), (.agg #[(.int .i64 x2_0), (.int .i64 x2_1), (.string x2_2), (.slice x2_3b x2_3l x2_3c), (.slice x2_4b x2_4l x2_4c), (.int .i64 x2_5)])] : List Value) ++ List.replicate (Try.f8.ntmps - (([(.agg #[(.int .i64 x0_0), (.int .i64 x0_1), (.string x0_2), (.slice x0_3b x0_3l x0_3c)]), (.agg #[(.int .i64 x1_0), (.string x1_1), (.string x1_2), (.int .i64 x1_3), (.slice x1_4b x1_4l x1_4c), (.slice x1_5b x1_5l x1_5c), (.slice x1_6b x1_6l x1_6c)]), (.agg #[(.int .i64 x2_0), (.int .i64 x2_1), (.string x2_2), (.slice x2_3b x2_3l x2_3c), (.slice x2_4b x2_4l x2_4c), (.int .i64 x2_5)])] : List Value)).length) undef) H = f8_B x0_0 x0_1 x0_2 x0_3b x0_3l x0_3c x1_0 x1_1 x1_2 x1_3 x1_4b x1_4l x1_4c x1_5b x1_5l x1_5c x1_6b x1_6l x1_6c x2_0 x2_1 x2_2 x2_3b x2_3l x2_3c x2_4b x2_4l x2_4c x2_5 H R := by kernel_rfl
theorem f8_call (x0_0 : Int) (x0_1 : Int) (x0_2 : ByteArray) (x0_3b : Option Addr) (x0_3l : Nat) (x0_3c : Nat) (x1_0 : Int) (x1_1 : ByteArray) (x1_2 : ByteArray) (x1_3 : Int) (x1_4b : Option Addr) (x1_4l : Nat) (x1_4c : Nat) (x1_5b : Option Addr) (x1_5l : Nat) (x1_5c : Nat) (x1_6b : Option Addr) (x1_6l : Nat) (x1_6c : Nat) (x2_0 : Int) (x2_1 : Int) (x2_2 : ByteArray) (x2_3b : Option Addr) (x2_3l : Nat) (x2_3c : Nat) (x2_4b : Option Addr) (x2_4l : Nat) (x2_4c : Nat) (x2_5 : Int) (H : AH) (R : AEnd → AH → Prop) (h : f8_B x0_0 x0_1 x0_2 x0_3b x0_3l x0_3c x1_0 x1_1 x1_2 x1_3 x1_4b x1_4l x1_4c x1_5b x1_5l x1_5c x1_6b x1_6l x1_6c x2_0 x2_1 x2_2 x2_3b x2_3l x2_3c x2_4b x2_4l x2_4c x2_5 H R) : ACall Try.prog 8 ([(.agg #[(.int .i64 x0_0), (.int .i64 x0_1), (.string x0_2), (.slice x0_3b x0_3l x0_3c)]), (.agg #[(.int .i64 x1_0), (.string x1_1), (.string x1_2), (.int .i64 x1_3), (.slice x1_4b x1_4l x1_4c), (.slice x1_5b x1_5l x1_5c), (.slice x1_6b x1_6l x1_6c)]), (.agg #[(.int .i64 x2_0), (.int .i64 x2_1), (.string x2_2), (.slice x2_3b x2_3l x2_3c), (.slice x2_4b x2_4l x2_4c), (.int .i64 x2_5)])] : List Value) H R :=
  acall_of mixed Try.func8 (by kernel_rfl : Try.f8.body = some f8_c) (by kernel_rfl) (by kernel_rfl) (awp_of (Eq.mpr (f8_eq x0_0 x0_1 x0_2 x0_3b x0_3l x0_3c x1_0 x1_1 x1_2 x1_3 x1_4b x1_4l x1_4c x1_5b x1_5l x1_5c x1_6b x1_6l x1_6c x2_0 x2_1 x2_2 x2_3b x2_3l x2_3c x2_4b x2_4l x2_4c x2_5 H R) h))

end Go.Proofs.Ytfghglacfjncmaa
