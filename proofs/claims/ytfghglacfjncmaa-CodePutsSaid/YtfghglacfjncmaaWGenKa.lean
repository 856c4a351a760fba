/- Bodies of functions as nested rules: printed by genw.py, a program of this claim. -/
import Derived.Test.YtfghglacfjncmaaWTy
namespace Go.Proofs.Ytfghglacfjncmaa
open Go.RowKit
set_option linter.unusedVariables false
set_option maxRecDepth 100000

/-! f5: switchyard/switchyardlaw13.CodePuts -/
noncomputable def f5_c : Code := Try.f5.body.getD .skip
noncomputable def f5_X0 (R : AEnd → AH → Prop) : AExit → List Value → AH → Prop := thenF (fun tm H => hold (awpF Try.prog (codeAt f5_c [1, 1, 1]) (aPost Try.prog Try.f5 R) tm H)) (aPost Try.prog Try.f5 R)
def f5_J0 (R : AEnd → AH → Prop) (tm : List Value) (H : AH) : Prop := hold (awpF Try.prog (codeAt f5_c [1, 1, 0, 1]) ((f5_X0 R)) tm H)
def f5_J1 (R : AEnd → AH → Prop) (tm : List Value) (H : AH) : Prop := hold (awpF Try.prog (codeAt f5_c [1, 1, 1]) ((aPost Try.prog Try.f5 R)) tm H)
-- join 1: live 3:C, 4:o, 5:d
def f5_J1_B (s3 : Option Addr) (s4 : Option Addr) (s5 : Option Addr) (H : AH) (R : AEnd → AH → Prop) : Prop :=
 wPt s3 fun i1 k2 =>
 ldI .i64 i1 k2 H fun n3 =>
 ldI .i64 i1 (k2 + 1) H fun n4 =>
 ldS i1 (k2 + 2) H fun t5 =>
 ldL i1 (k2 + 3) H fun z6b z6l z6c =>
 wCall Try.prog 12 [(.agg #[(.int .i64 n3), (.int .i64 n4), (.string t5), (.slice z6b z6l z6c)])] H (fun r7 H8 =>
 opT 2 r7 fun l11 =>
 opS (l11.headD undef) fun t12 =>
 opI .i64 (l11.tail.headD undef) fun n13 =>
 wPt s4 fun i14 k15 =>
 ldI .i64 i14 k15 H8 fun n16 =>
 ldS i14 (k15 + 1) H8 fun t17 =>
 ldL i14 (k15 + 2) H8 fun z18b z18l z18c =>
 ldL i14 (k15 + 3) H8 fun z19b z19l z19c =>
 wCall Try.prog 13 [(.agg #[(.int .i64 n16), (.string t17), (.slice z18b z18l z18c), (.slice z19b z19l z19c)])] H8 (fun r20 H21 =>
 opT 2 r20 fun l24 =>
 opS (l24.headD undef) fun t25 =>
 opI .i64 (l24.tail.headD undef) fun n26 =>
 wPt s5 fun i27 k28 =>
 ldI .i64 i27 k28 H21 fun n29 =>
 ldS i27 (k28 + 1) H21 fun t30 =>
 ldS i27 (k28 + 2) H21 fun t31 =>
 ldI .i64 i27 (k28 + 3) H21 fun n32 =>
 ldL i27 (k28 + 4) H21 fun z33b z33l z33c =>
 ldL i27 (k28 + 5) H21 fun z34b z34l z34c =>
 ldL i27 (k28 + 6) H21 fun z35b z35l z35c =>
 wCall Try.prog 24 [(.agg #[(.int .i64 n29), (.string t30), (.string t31), (.int .i64 n32), (.slice z33b z33l z33c), (.slice z34b z34l z34c), (.slice z35b z35l z35c)])] H21 (fun r36 H37 =>
 opT 2 r36 fun l40 =>
 opS (l40.headD undef) fun t41 =>
 opI .i64 (l40.tail.headD undef) fun n42 =>
 wCall Try.prog 10 [] H37 (fun r43 H44 =>
 opB r43 fun b47 =>
 wIf b47
 ((wPt s3 fun i48 k49 =>
 ldI .i64 i48 k49 H44 fun n50 =>
 ldI .i64 i48 (k49 + 1) H44 fun n51 =>
 ldS i48 (k49 + 2) H44 fun t52 =>
 ldL i48 (k49 + 3) H44 fun z53b z53l z53c =>
 (wCall Try.prog 26 [(.agg #[(.int .i64 n50), (.int .i64 n51), (.string t52), (.slice z53b z53l z53c)])] H44 (fun r54 H55 =>
 opS r54 fun t58 =>
 wPt s3 fun i59 k60 =>
 ldI .i64 i59 k60 H55 fun n61 =>
 ldI .i64 i59 (k60 + 1) H55 fun n62 =>
 ldS i59 (k60 + 2) H55 fun t63 =>
 ldL i59 (k60 + 3) H55 fun z64b z64l z64c =>
 wCall Try.prog 27 [(.agg #[(.int .i64 n61), (.int .i64 n62), (.string t63), (.slice z64b z64l z64c)])] H55 (fun r65 H66 =>
 opB r65 fun b69 =>
 wCall Try.prog 25 [(.string t12), (.int .i64 n13), (.string t58), (.bool b69)] H66 (fun r70 H71 =>
 opB r70 fun b74 =>
 wIf b74
 ((wPt s4 fun i75 k76 =>
 ldI .i64 i75 k76 H71 fun n77 =>
 ldS i75 (k76 + 1) H71 fun t78 =>
 ldL i75 (k76 + 2) H71 fun z79b z79l z79c =>
 ldL i75 (k76 + 3) H71 fun z80b z80l z80c =>
 (wCall Try.prog 28 [(.agg #[(.int .i64 n77), (.string t78), (.slice z79b z79l z79c), (.slice z80b z80l z80c)])] H71 (fun r81 H82 =>
 opS r81 fun t85 =>
 wPt s4 fun i86 k87 =>
 ldI .i64 i86 k87 H82 fun n88 =>
 ldS i86 (k87 + 1) H82 fun t89 =>
 ldL i86 (k87 + 2) H82 fun z90b z90l z90c =>
 ldL i86 (k87 + 3) H82 fun z91b z91l z91c =>
 wCall Try.prog 29 [(.agg #[(.int .i64 n88), (.string t89), (.slice z90b z90l z90c), (.slice z91b z91l z91c)])] H82 (fun r92 H93 =>
 opB r92 fun b96 =>
 wCall Try.prog 25 [(.string t25), (.int .i64 n26), (.string t85), (.bool b96)] H93 (fun r97 H98 =>
 opB r97 fun b101 =>
 wIf b101
 (wPt s5 fun i102 k103 =>
 ldL i102 (k103 + 6) H98 fun z104b z104l z104c =>
 wIf (decide ((z104l : Int) > 4096))
 (wIf (decide (n42 = 4))
 (((R (.ret (.bool true)) H98) ∧
 (R (.ret (.bool true)) H98)) ∧
 (R (.ret (.bool true)) H98))
 ((wPt s5 fun i105 k106 =>
 ldI .i64 i105 k106 H98 fun n107 =>
 ldS i105 (k106 + 1) H98 fun t108 =>
 ldS i105 (k106 + 2) H98 fun t109 =>
 ldI .i64 i105 (k106 + 3) H98 fun n110 =>
 ldL i105 (k106 + 4) H98 fun z111b z111l z111c =>
 ldL i105 (k106 + 5) H98 fun z112b z112l z112c =>
 ldL i105 (k106 + 6) H98 fun z113b z113l z113c =>
 (wCall Try.prog 30 [(.agg #[(.int .i64 n107), (.string t108), (.string t109), (.int .i64 n110), (.slice z111b z111l z111c), (.slice z112b z112l z112c), (.slice z113b z113l z113c)])] H98 (fun r114 H115 =>
 opS r114 fun t118 =>
 wPt s5 fun i119 k120 =>
 ldI .i64 i119 k120 H115 fun n121 =>
 ldS i119 (k120 + 1) H115 fun t122 =>
 ldS i119 (k120 + 2) H115 fun t123 =>
 ldI .i64 i119 (k120 + 3) H115 fun n124 =>
 ldL i119 (k120 + 4) H115 fun z125b z125l z125c =>
 ldL i119 (k120 + 5) H115 fun z126b z126l z126c =>
 ldL i119 (k120 + 6) H115 fun z127b z127l z127c =>
 wCall Try.prog 31 [(.agg #[(.int .i64 n121), (.string t122), (.string t123), (.int .i64 n124), (.slice z125b z125l z125c), (.slice z126b z126l z126c), (.slice z127b z127l z127c)])] H115 (fun r128 H129 =>
 opB r128 fun b132 =>
 wCall Try.prog 25 [(.string t41), (.int .i64 n42), (.string t118), (.bool b132)] H129 (fun r133 H134 =>
 opB r133 fun b137 =>
 R (.ret (.bool b137)) H134) (fun v136 H135 => R (.panic v136) H135)) (fun v131 H130 => R (.panic v131) H130)) (fun v117 H116 => R (.panic v117) H116)) ∧
 (wPt s5 fun i138 k139 =>
 ldI .i64 i138 k139 H98 fun n140 =>
 ldS i138 (k139 + 1) H98 fun t141 =>
 ldS i138 (k139 + 2) H98 fun t142 =>
 ldI .i64 i138 (k139 + 3) H98 fun n143 =>
 ldL i138 (k139 + 4) H98 fun z144b z144l z144c =>
 ldL i138 (k139 + 5) H98 fun z145b z145l z145c =>
 ldL i138 (k139 + 6) H98 fun z146b z146l z146c =>
 wCall Try.prog 30 [(.agg #[(.int .i64 n107), (.string t108), (.string t109), (.int .i64 n110), (.slice z111b z111l z111c), (.slice z112b z112l z112c), (.slice z113b z113l z113c)])] H98 (fun r147 H148 =>
 opS r147 fun t151 =>
 wCall Try.prog 31 [(.agg #[(.int .i64 n140), (.string t141), (.string t142), (.int .i64 n143), (.slice z144b z144l z144c), (.slice z145b z145l z145c), (.slice z146b z146l z146c)])] H148 (fun r152 H153 =>
 opB r152 fun b156 =>
 wCall Try.prog 25 [(.string t41), (.int .i64 n42), (.string t151), (.bool b156)] H153 (fun r157 H158 =>
 opB r157 fun b161 =>
 R (.ret (.bool b161)) H158) (fun v160 H159 => R (.panic v160) H159)) (fun v155 H154 => R (.panic v155) H154)) (fun v150 H149 => R (.panic v150) H149))) ∧
 (wPt s5 fun i162 k163 =>
 ldI .i64 i162 k163 H98 fun n164 =>
 ldS i162 (k163 + 1) H98 fun t165 =>
 ldS i162 (k163 + 2) H98 fun t166 =>
 ldI .i64 i162 (k163 + 3) H98 fun n167 =>
 ldL i162 (k163 + 4) H98 fun z168b z168l z168c =>
 ldL i162 (k163 + 5) H98 fun z169b z169l z169c =>
 ldL i162 (k163 + 6) H98 fun z170b z170l z170c =>
 wPt s5 fun i171 k172 =>
 ldI .i64 i171 k172 H98 fun n173 =>
 ldS i171 (k172 + 1) H98 fun t174 =>
 ldS i171 (k172 + 2) H98 fun t175 =>
 ldI .i64 i171 (k172 + 3) H98 fun n176 =>
 ldL i171 (k172 + 4) H98 fun z177b z177l z177c =>
 ldL i171 (k172 + 5) H98 fun z178b z178l z178c =>
 ldL i171 (k172 + 6) H98 fun z179b z179l z179c =>
 wCall Try.prog 30 [(.agg #[(.int .i64 n173), (.string t174), (.string t175), (.int .i64 n176), (.slice z177b z177l z177c), (.slice z178b z178l z178c), (.slice z179b z179l z179c)])] H98 (fun r180 H181 =>
 opS r180 fun t184 =>
 wCall Try.prog 31 [(.agg #[(.int .i64 n164), (.string t165), (.string t166), (.int .i64 n167), (.slice z168b z168l z168c), (.slice z169b z169l z169c), (.slice z170b z170l z170c)])] H181 (fun r185 H186 =>
 opB r185 fun b189 =>
 wCall Try.prog 25 [(.string t41), (.int .i64 n42), (.string t184), (.bool b189)] H186 (fun r190 H191 =>
 opB r190 fun b194 =>
 R (.ret (.bool b194)) H191) (fun v193 H192 => R (.panic v193) H192)) (fun v188 H187 => R (.panic v188) H187)) (fun v183 H182 => R (.panic v183) H182))))
 ((wPt s5 fun i195 k196 =>
 ldI .i64 i195 k196 H98 fun n197 =>
 ldS i195 (k196 + 1) H98 fun t198 =>
 ldS i195 (k196 + 2) H98 fun t199 =>
 ldI .i64 i195 (k196 + 3) H98 fun n200 =>
 ldL i195 (k196 + 4) H98 fun z201b z201l z201c =>
 ldL i195 (k196 + 5) H98 fun z202b z202l z202c =>
 ldL i195 (k196 + 6) H98 fun z203b z203l z203c =>
 (wCall Try.prog 30 [(.agg #[(.int .i64 n197), (.string t198), (.string t199), (.int .i64 n200), (.slice z201b z201l z201c), (.slice z202b z202l z202c), (.slice z203b z203l z203c)])] H98 (fun r204 H205 =>
 opS r204 fun t208 =>
 wPt s5 fun i209 k210 =>
 ldI .i64 i209 k210 H205 fun n211 =>
 ldS i209 (k210 + 1) H205 fun t212 =>
 ldS i209 (k210 + 2) H205 fun t213 =>
 ldI .i64 i209 (k210 + 3) H205 fun n214 =>
 ldL i209 (k210 + 4) H205 fun z215b z215l z215c =>
 ldL i209 (k210 + 5) H205 fun z216b z216l z216c =>
 ldL i209 (k210 + 6) H205 fun z217b z217l z217c =>
 wCall Try.prog 31 [(.agg #[(.int .i64 n211), (.string t212), (.string t213), (.int .i64 n214), (.slice z215b z215l z215c), (.slice z216b z216l z216c), (.slice z217b z217l z217c)])] H205 (fun r218 H219 =>
 opB r218 fun b222 =>
 wCall Try.prog 25 [(.string t41), (.int .i64 n42), (.string t208), (.bool b222)] H219 (fun r223 H224 =>
 opB r223 fun b227 =>
 R (.ret (.bool b227)) H224) (fun v226 H225 => R (.panic v226) H225)) (fun v221 H220 => R (.panic v221) H220)) (fun v207 H206 => R (.panic v207) H206)) ∧
 (wPt s5 fun i228 k229 =>
 ldI .i64 i228 k229 H98 fun n230 =>
 ldS i228 (k229 + 1) H98 fun t231 =>
 ldS i228 (k229 + 2) H98 fun t232 =>
 ldI .i64 i228 (k229 + 3) H98 fun n233 =>
 ldL i228 (k229 + 4) H98 fun z234b z234l z234c =>
 ldL i228 (k229 + 5) H98 fun z235b z235l z235c =>
 ldL i228 (k229 + 6) H98 fun z236b z236l z236c =>
 wCall Try.prog 30 [(.agg #[(.int .i64 n197), (.string t198), (.string t199), (.int .i64 n200), (.slice z201b z201l z201c), (.slice z202b z202l z202c), (.slice z203b z203l z203c)])] H98 (fun r237 H238 =>
 opS r237 fun t241 =>
 wCall Try.prog 31 [(.agg #[(.int .i64 n230), (.string t231), (.string t232), (.int .i64 n233), (.slice z234b z234l z234c), (.slice z235b z235l z235c), (.slice z236b z236l z236c)])] H238 (fun r242 H243 =>
 opB r242 fun b246 =>
 wCall Try.prog 25 [(.string t41), (.int .i64 n42), (.string t241), (.bool b246)] H243 (fun r247 H248 =>
 opB r247 fun b251 =>
 R (.ret (.bool b251)) H248) (fun v250 H249 => R (.panic v250) H249)) (fun v245 H244 => R (.panic v245) H244)) (fun v240 H239 => R (.panic v240) H239))) ∧
 (wPt s5 fun i252 k253 =>
 ldI .i64 i252 k253 H98 fun n254 =>
 ldS i252 (k253 + 1) H98 fun t255 =>
 ldS i252 (k253 + 2) H98 fun t256 =>
 ldI .i64 i252 (k253 + 3) H98 fun n257 =>
 ldL i252 (k253 + 4) H98 fun z258b z258l z258c =>
 ldL i252 (k253 + 5) H98 fun z259b z259l z259c =>
 ldL i252 (k253 + 6) H98 fun z260b z260l z260c =>
 wPt s5 fun i261 k262 =>
 ldI .i64 i261 k262 H98 fun n263 =>
 ldS i261 (k262 + 1) H98 fun t264 =>
 ldS i261 (k262 + 2) H98 fun t265 =>
 ldI .i64 i261 (k262 + 3) H98 fun n266 =>
 ldL i261 (k262 + 4) H98 fun z267b z267l z267c =>
 ldL i261 (k262 + 5) H98 fun z268b z268l z268c =>
 ldL i261 (k262 + 6) H98 fun z269b z269l z269c =>
 wCall Try.prog 30 [(.agg #[(.int .i64 n263), (.string t264), (.string t265), (.int .i64 n266), (.slice z267b z267l z267c), (.slice z268b z268l z268c), (.slice z269b z269l z269c)])] H98 (fun r270 H271 =>
 opS r270 fun t274 =>
 wCall Try.prog 31 [(.agg #[(.int .i64 n254), (.string t255), (.string t256), (.int .i64 n257), (.slice z258b z258l z258c), (.slice z259b z259l z259c), (.slice z260b z260l z260c)])] H271 (fun r275 H276 =>
 opB r275 fun b279 =>
 wCall Try.prog 25 [(.string t41), (.int .i64 n42), (.string t274), (.bool b279)] H276 (fun r280 H281 =>
 opB r280 fun b284 =>
 R (.ret (.bool b284)) H281) (fun v283 H282 => R (.panic v283) H282)) (fun v278 H277 => R (.panic v278) H277)) (fun v273 H272 => R (.panic v273) H272))))
 (((R (.ret (.bool false)) H98) ∧
 (R (.ret (.bool false)) H98)) ∧
 (R (.ret (.bool false)) H98))) (fun v100 H99 => R (.panic v100) H99)) (fun v95 H94 => R (.panic v95) H94)) (fun v84 H83 => R (.panic v84) H83)) ∧
 (wPt s4 fun i285 k286 =>
 ldI .i64 i285 k286 H71 fun n287 =>
 ldS i285 (k286 + 1) H71 fun t288 =>
 ldL i285 (k286 + 2) H71 fun z289b z289l z289c =>
 ldL i285 (k286 + 3) H71 fun z290b z290l z290c =>
 wCall Try.prog 28 [(.agg #[(.int .i64 n77), (.string t78), (.slice z79b z79l z79c), (.slice z80b z80l z80c)])] H71 (fun r291 H292 =>
 opS r291 fun t295 =>
 wCall Try.prog 29 [(.agg #[(.int .i64 n287), (.string t288), (.slice z289b z289l z289c), (.slice z290b z290l z290c)])] H292 (fun r296 H297 =>
 opB r296 fun b300 =>
 wCall Try.prog 25 [(.string t25), (.int .i64 n26), (.string t295), (.bool b300)] H297 (fun r301 H302 =>
 opB r301 fun b305 =>
 wIf b305
 (wPt s5 fun i306 k307 =>
 ldL i306 (k307 + 6) H302 fun z308b z308l z308c =>
 wIf (decide ((z308l : Int) > 4096))
 (wIf (decide (n42 = 4))
 (((R (.ret (.bool true)) H302) ∧
 (R (.ret (.bool true)) H302)) ∧
 (R (.ret (.bool true)) H302))
 ((wPt s5 fun i309 k310 =>
 ldI .i64 i309 k310 H302 fun n311 =>
 ldS i309 (k310 + 1) H302 fun t312 =>
 ldS i309 (k310 + 2) H302 fun t313 =>
 ldI .i64 i309 (k310 + 3) H302 fun n314 =>
 ldL i309 (k310 + 4) H302 fun z315b z315l z315c =>
 ldL i309 (k310 + 5) H302 fun z316b z316l z316c =>
 ldL i309 (k310 + 6) H302 fun z317b z317l z317c =>
 (wCall Try.prog 30 [(.agg #[(.int .i64 n311), (.string t312), (.string t313), (.int .i64 n314), (.slice z315b z315l z315c), (.slice z316b z316l z316c), (.slice z317b z317l z317c)])] H302 (fun r318 H319 =>
 opS r318 fun t322 =>
 wPt s5 fun i323 k324 =>
 ldI .i64 i323 k324 H319 fun n325 =>
 ldS i323 (k324 + 1) H319 fun t326 =>
 ldS i323 (k324 + 2) H319 fun t327 =>
 ldI .i64 i323 (k324 + 3) H319 fun n328 =>
 ldL i323 (k324 + 4) H319 fun z329b z329l z329c =>
 ldL i323 (k324 + 5) H319 fun z330b z330l z330c =>
 ldL i323 (k324 + 6) H319 fun z331b z331l z331c =>
 wCall Try.prog 31 [(.agg #[(.int .i64 n325), (.string t326), (.string t327), (.int .i64 n328), (.slice z329b z329l z329c), (.slice z330b z330l z330c), (.slice z331b z331l z331c)])] H319 (fun r332 H333 =>
 opB r332 fun b336 =>
 wCall Try.prog 25 [(.string t41), (.int .i64 n42), (.string t322), (.bool b336)] H333 (fun r337 H338 =>
 opB r337 fun b341 =>
 R (.ret (.bool b341)) H338) (fun v340 H339 => R (.panic v340) H339)) (fun v335 H334 => R (.panic v335) H334)) (fun v321 H320 => R (.panic v321) H320)) ∧
 (wPt s5 fun i342 k343 =>
 ldI .i64 i342 k343 H302 fun n344 =>
 ldS i342 (k343 + 1) H302 fun t345 =>
 ldS i342 (k343 + 2) H302 fun t346 =>
 ldI .i64 i342 (k343 + 3) H302 fun n347 =>
 ldL i342 (k343 + 4) H302 fun z348b z348l z348c =>
 ldL i342 (k343 + 5) H302 fun z349b z349l z349c =>
 ldL i342 (k343 + 6) H302 fun z350b z350l z350c =>
 wCall Try.prog 30 [(.agg #[(.int .i64 n311), (.string t312), (.string t313), (.int .i64 n314), (.slice z315b z315l z315c), (.slice z316b z316l z316c), (.slice z317b z317l z317c)])] H302 (fun r351 H352 =>
 opS r351 fun t355 =>
 wCall Try.prog 31 [(.agg #[(.int .i64 n344), (.string t345), (.string t346), (.int .i64 n347), (.slice z348b z348l z348c), (.slice z349b z349l z349c), (.slice z350b z350l z350c)])] H352 (fun r356 H357 =>
 opB r356 fun b360 =>
 wCall Try.prog 25 [(.string t41), (.int .i64 n42), (.string t355), (.bool b360)] H357 (fun r361 H362 =>
 opB r361 fun b365 =>
 R (.ret (.bool b365)) H362) (fun v364 H363 => R (.panic v364) H363)) (fun v359 H358 => R (.panic v359) H358)) (fun v354 H353 => R (.panic v354) H353))) ∧
 (wPt s5 fun i366 k367 =>
 ldI .i64 i366 k367 H302 fun n368 =>
 ldS i366 (k367 + 1) H302 fun t369 =>
 ldS i366 (k367 + 2) H302 fun t370 =>
 ldI .i64 i366 (k367 + 3) H302 fun n371 =>
 ldL i366 (k367 + 4) H302 fun z372b z372l z372c =>
 ldL i366 (k367 + 5) H302 fun z373b z373l z373c =>
 ldL i366 (k367 + 6) H302 fun z374b z374l z374c =>
 wPt s5 fun i375 k376 =>
 ldI .i64 i375 k376 H302 fun n377 =>
 ldS i375 (k376 + 1) H302 fun t378 =>
 ldS i375 (k376 + 2) H302 fun t379 =>
 ldI .i64 i375 (k376 + 3) H302 fun n380 =>
 ldL i375 (k376 + 4) H302 fun z381b z381l z381c =>
 ldL i375 (k376 + 5) H302 fun z382b z382l z382c =>
 ldL i375 (k376 + 6) H302 fun z383b z383l z383c =>
 wCall Try.prog 30 [(.agg #[(.int .i64 n377), (.string t378), (.string t379), (.int .i64 n380), (.slice z381b z381l z381c), (.slice z382b z382l z382c), (.slice z383b z383l z383c)])] H302 (fun r384 H385 =>
 opS r384 fun t388 =>
 wCall Try.prog 31 [(.agg #[(.int .i64 n368), (.string t369), (.string t370), (.int .i64 n371), (.slice z372b z372l z372c), (.slice z373b z373l z373c), (.slice z374b z374l z374c)])] H385 (fun r389 H390 =>
 opB r389 fun b393 =>
 wCall Try.prog 25 [(.string t41), (.int .i64 n42), (.string t388), (.bool b393)] H390 (fun r394 H395 =>
 opB r394 fun b398 =>
 R (.ret (.bool b398)) H395) (fun v397 H396 => R (.panic v397) H396)) (fun v392 H391 => R (.panic v392) H391)) (fun v387 H386 => R (.panic v387) H386))))
 ((wPt s5 fun i399 k400 =>
 ldI .i64 i399 k400 H302 fun n401 =>
 ldS i399 (k400 + 1) H302 fun t402 =>
 ldS i399 (k400 + 2) H302 fun t403 =>
 ldI .i64 i399 (k400 + 3) H302 fun n404 =>
 ldL i399 (k400 + 4) H302 fun z405b z405l z405c =>
 ldL i399 (k400 + 5) H302 fun z406b z406l z406c =>
 ldL i399 (k400 + 6) H302 fun z407b z407l z407c =>
 (wCall Try.prog 30 [(.agg #[(.int .i64 n401), (.string t402), (.string t403), (.int .i64 n404), (.slice z405b z405l z405c), (.slice z406b z406l z406c), (.slice z407b z407l z407c)])] H302 (fun r408 H409 =>
 opS r408 fun t412 =>
 wPt s5 fun i413 k414 =>
 ldI .i64 i413 k414 H409 fun n415 =>
 ldS i413 (k414 + 1) H409 fun t416 =>
 ldS i413 (k414 + 2) H409 fun t417 =>
 ldI .i64 i413 (k414 + 3) H409 fun n418 =>
 ldL i413 (k414 + 4) H409 fun z419b z419l z419c =>
 ldL i413 (k414 + 5) H409 fun z420b z420l z420c =>
 ldL i413 (k414 + 6) H409 fun z421b z421l z421c =>
 wCall Try.prog 31 [(.agg #[(.int .i64 n415), (.string t416), (.string t417), (.int .i64 n418), (.slice z419b z419l z419c), (.slice z420b z420l z420c), (.slice z421b z421l z421c)])] H409 (fun r422 H423 =>
 opB r422 fun b426 =>
 wCall Try.prog 25 [(.string t41), (.int .i64 n42), (.string t412), (.bool b426)] H423 (fun r427 H428 =>
 opB r427 fun b431 =>
 R (.ret (.bool b431)) H428) (fun v430 H429 => R (.panic v430) H429)) (fun v425 H424 => R (.panic v425) H424)) (fun v411 H410 => R (.panic v411) H410)) ∧
 (wPt s5 fun i432 k433 =>
 ldI .i64 i432 k433 H302 fun n434 =>
 ldS i432 (k433 + 1) H302 fun t435 =>
 ldS i432 (k433 + 2) H302 fun t436 =>
 ldI .i64 i432 (k433 + 3) H302 fun n437 =>
 ldL i432 (k433 + 4) H302 fun z438b z438l z438c =>
 ldL i432 (k433 + 5) H302 fun z439b z439l z439c =>
 ldL i432 (k433 + 6) H302 fun z440b z440l z440c =>
 wCall Try.prog 30 [(.agg #[(.int .i64 n401), (.string t402), (.string t403), (.int .i64 n404), (.slice z405b z405l z405c), (.slice z406b z406l z406c), (.slice z407b z407l z407c)])] H302 (fun r441 H442 =>
 opS r441 fun t445 =>
 wCall Try.prog 31 [(.agg #[(.int .i64 n434), (.string t435), (.string t436), (.int .i64 n437), (.slice z438b z438l z438c), (.slice z439b z439l z439c), (.slice z440b z440l z440c)])] H442 (fun r446 H447 =>
 opB r446 fun b450 =>
 wCall Try.prog 25 [(.string t41), (.int .i64 n42), (.string t445), (.bool b450)] H447 (fun r451 H452 =>
 opB r451 fun b455 =>
 R (.ret (.bool b455)) H452) (fun v454 H453 => R (.panic v454) H453)) (fun v449 H448 => R (.panic v449) H448)) (fun v444 H443 => R (.panic v444) H443))) ∧
 (wPt s5 fun i456 k457 =>
 ldI .i64 i456 k457 H302 fun n458 =>
 ldS i456 (k457 + 1) H302 fun t459 =>
 ldS i456 (k457 + 2) H302 fun t460 =>
 ldI .i64 i456 (k457 + 3) H302 fun n461 =>
 ldL i456 (k457 + 4) H302 fun z462b z462l z462c =>
 ldL i456 (k457 + 5) H302 fun z463b z463l z463c =>
 ldL i456 (k457 + 6) H302 fun z464b z464l z464c =>
 wPt s5 fun i465 k466 =>
 ldI .i64 i465 k466 H302 fun n467 =>
 ldS i465 (k466 + 1) H302 fun t468 =>
 ldS i465 (k466 + 2) H302 fun t469 =>
 ldI .i64 i465 (k466 + 3) H302 fun n470 =>
 ldL i465 (k466 + 4) H302 fun z471b z471l z471c =>
 ldL i465 (k466 + 5) H302 fun z472b z472l z472c =>
 ldL i465 (k466 + 6) H302 fun z473b z473l z473c =>
 wCall Try.prog 30 [(.agg #[(.int .i64 n467), (.string t468), (.string t469), (.int .i64 n470), (.slice z471b z471l z471c), (.slice z472b z472l z472c), (.slice z473b z473l z473c)])] H302 (fun r474 H475 =>
 opS r474 fun t478 =>
 wCall Try.prog 31 [(.agg #[(.int .i64 n458), (.string t459), (.string t460), (.int .i64 n461), (.slice z462b z462l z462c), (.slice z463b z463l z463c), (.slice z464b z464l z464c)])] H475 (fun r479 H480 =>
 opB r479 fun b483 =>
 wCall Try.prog 25 [(.string t41), (.int .i64 n42), (.string t478), (.bool b483)] H480 (fun r484 H485 =>
 opB r484 fun b488 =>
 R (.ret (.bool b488)) H485) (fun v487 H486 => R (.panic v487) H486)) (fun v482 H481 => R (.panic v482) H481)) (fun v477 H476 => R (.panic v477) H476))))
 (((R (.ret (.bool false)) H302) ∧
 (R (.ret (.bool false)) H302)) ∧
 (R (.ret (.bool false)) H302))) (fun v304 H303 => R (.panic v304) H303)) (fun v299 H298 => R (.panic v299) H298)) (fun v294 H293 => R (.panic v294) H293))) ∧
 (wPt s4 fun i489 k490 =>
 ldI .i64 i489 k490 H71 fun n491 =>
 ldS i489 (k490 + 1) H71 fun t492 =>
 ldL i489 (k490 + 2) H71 fun z493b z493l z493c =>
 ldL i489 (k490 + 3) H71 fun z494b z494l z494c =>
 wPt s4 fun i495 k496 =>
 ldI .i64 i495 k496 H71 fun n497 =>
 ldS i495 (k496 + 1) H71 fun t498 =>
 ldL i495 (k496 + 2) H71 fun z499b z499l z499c =>
 ldL i495 (k496 + 3) H71 fun z500b z500l z500c =>
 wCall Try.prog 28 [(.agg #[(.int .i64 n497), (.string t498), (.slice z499b z499l z499c), (.slice z500b z500l z500c)])] H71 (fun r501 H502 =>
 opS r501 fun t505 =>
 wCall Try.prog 29 [(.agg #[(.int .i64 n491), (.string t492), (.slice z493b z493l z493c), (.slice z494b z494l z494c)])] H502 (fun r506 H507 =>
 opB r506 fun b510 =>
 wCall Try.prog 25 [(.string t25), (.int .i64 n26), (.string t505), (.bool b510)] H507 (fun r511 H512 =>
 opB r511 fun b515 =>
 wIf b515
 (wPt s5 fun i516 k517 =>
 ldL i516 (k517 + 6) H512 fun z518b z518l z518c =>
 wIf (decide ((z518l : Int) > 4096))
 (wIf (decide (n42 = 4))
 (((R (.ret (.bool true)) H512) ∧
 (R (.ret (.bool true)) H512)) ∧
 (R (.ret (.bool true)) H512))
 ((wPt s5 fun i519 k520 =>
 ldI .i64 i519 k520 H512 fun n521 =>
 ldS i519 (k520 + 1) H512 fun t522 =>
 ldS i519 (k520 + 2) H512 fun t523 =>
 ldI .i64 i519 (k520 + 3) H512 fun n524 =>
 ldL i519 (k520 + 4) H512 fun z525b z525l z525c =>
 ldL i519 (k520 + 5) H512 fun z526b z526l z526c =>
 ldL i519 (k520 + 6) H512 fun z527b z527l z527c =>
 (wCall Try.prog 30 [(.agg #[(.int .i64 n521), (.string t522), (.string t523), (.int .i64 n524), (.slice z525b z525l z525c), (.slice z526b z526l z526c), (.slice z527b z527l z527c)])] H512 (fun r528 H529 =>
 opS r528 fun t532 =>
 wPt s5 fun i533 k534 =>
 ldI .i64 i533 k534 H529 fun n535 =>
 ldS i533 (k534 + 1) H529 fun t536 =>
 ldS i533 (k534 + 2) H529 fun t537 =>
 ldI .i64 i533 (k534 + 3) H529 fun n538 =>
 ldL i533 (k534 + 4) H529 fun z539b z539l z539c =>
 ldL i533 (k534 + 5) H529 fun z540b z540l z540c =>
 ldL i533 (k534 + 6) H529 fun z541b z541l z541c =>
 wCall Try.prog 31 [(.agg #[(.int .i64 n535), (.string t536), (.string t537), (.int .i64 n538), (.slice z539b z539l z539c), (.slice z540b z540l z540c), (.slice z541b z541l z541c)])] H529 (fun r542 H543 =>
 opB r542 fun b546 =>
 wCall Try.prog 25 [(.string t41), (.int .i64 n42), (.string t532), (.bool b546)] H543 (fun r547 H548 =>
 opB r547 fun b551 =>
 R (.ret (.bool b551)) H548) (fun v550 H549 => R (.panic v550) H549)) (fun v545 H544 => R (.panic v545) H544)) (fun v531 H530 => R (.panic v531) H530)) ∧
 (wPt s5 fun i552 k553 =>
 ldI .i64 i552 k553 H512 fun n554 =>
 ldS i552 (k553 + 1) H512 fun t555 =>
 ldS i552 (k553 + 2) H512 fun t556 =>
 ldI .i64 i552 (k553 + 3) H512 fun n557 =>
 ldL i552 (k553 + 4) H512 fun z558b z558l z558c =>
 ldL i552 (k553 + 5) H512 fun z559b z559l z559c =>
 ldL i552 (k553 + 6) H512 fun z560b z560l z560c =>
 wCall Try.prog 30 [(.agg #[(.int .i64 n521), (.string t522), (.string t523), (.int .i64 n524), (.slice z525b z525l z525c), (.slice z526b z526l z526c), (.slice z527b z527l z527c)])] H512 (fun r561 H562 =>
 opS r561 fun t565 =>
 wCall Try.prog 31 [(.agg #[(.int .i64 n554), (.string t555), (.string t556), (.int .i64 n557), (.slice z558b z558l z558c), (.slice z559b z559l z559c), (.slice z560b z560l z560c)])] H562 (fun r566 H567 =>
 opB r566 fun b570 =>
 wCall Try.prog 25 [(.string t41), (.int .i64 n42), (.string t565), (.bool b570)] H567 (fun r571 H572 =>
 opB r571 fun b575 =>
 R (.ret (.bool b575)) H572) (fun v574 H573 => R (.panic v574) H573)) (fun v569 H568 => R (.panic v569) H568)) (fun v564 H563 => R (.panic v564) H563))) ∧
 (wPt s5 fun i576 k577 =>
 ldI .i64 i576 k577 H512 fun n578 =>
 ldS i576 (k577 + 1) H512 fun t579 =>
 ldS i576 (k577 + 2) H512 fun t580 =>
 ldI .i64 i576 (k577 + 3) H512 fun n581 =>
 ldL i576 (k577 + 4) H512 fun z582b z582l z582c =>
 ldL i576 (k577 + 5) H512 fun z583b z583l z583c =>
 ldL i576 (k577 + 6) H512 fun z584b z584l z584c =>
 wPt s5 fun i585 k586 =>
 ldI .i64 i585 k586 H512 fun n587 =>
 ldS i585 (k586 + 1) H512 fun t588 =>
 ldS i585 (k586 + 2) H512 fun t589 =>
 ldI .i64 i585 (k586 + 3) H512 fun n590 =>
 ldL i585 (k586 + 4) H512 fun z591b z591l z591c =>
 ldL i585 (k586 + 5) H512 fun z592b z592l z592c =>
 ldL i585 (k586 + 6) H512 fun z593b z593l z593c =>
 wCall Try.prog 30 [(.agg #[(.int .i64 n587), (.string t588), (.string t589), (.int .i64 n590), (.slice z591b z591l z591c), (.slice z592b z592l z592c), (.slice z593b z593l z593c)])] H512 (fun r594 H595 =>
 opS r594 fun t598 =>
 wCall Try.prog 31 [(.agg #[(.int .i64 n578), (.string t579), (.string t580), (.int .i64 n581), (.slice z582b z582l z582c), (.slice z583b z583l z583c), (.slice z584b z584l z584c)])] H595 (fun r599 H600 =>
 opB r599 fun b603 =>
 wCall Try.prog 25 [(.string t41), (.int .i64 n42), (.string t598), (.bool b603)] H600 (fun r604 H605 =>
 opB r604 fun b608 =>
 R (.ret (.bool b608)) H605) (fun v607 H606 => R (.panic v607) H606)) (fun v602 H601 => R (.panic v602) H601)) (fun v597 H596 => R (.panic v597) H596))))
 ((wPt s5 fun i609 k610 =>
 ldI .i64 i609 k610 H512 fun n611 =>
 ldS i609 (k610 + 1) H512 fun t612 =>
 ldS i609 (k610 + 2) H512 fun t613 =>
 ldI .i64 i609 (k610 + 3) H512 fun n614 =>
 ldL i609 (k610 + 4) H512 fun z615b z615l z615c =>
 ldL i609 (k610 + 5) H512 fun z616b z616l z616c =>
 ldL i609 (k610 + 6) H512 fun z617b z617l z617c =>
 (wCall Try.prog 30 [(.agg #[(.int .i64 n611), (.string t612), (.string t613), (.int .i64 n614), (.slice z615b z615l z615c), (.slice z616b z616l z616c), (.slice z617b z617l z617c)])] H512 (fun r618 H619 =>
 opS r618 fun t622 =>
 wPt s5 fun i623 k624 =>
 ldI .i64 i623 k624 H619 fun n625 =>
 ldS i623 (k624 + 1) H619 fun t626 =>
 ldS i623 (k624 + 2) H619 fun t627 =>
 ldI .i64 i623 (k624 + 3) H619 fun n628 =>
 ldL i623 (k624 + 4) H619 fun z629b z629l z629c =>
 ldL i623 (k624 + 5) H619 fun z630b z630l z630c =>
 ldL i623 (k624 + 6) H619 fun z631b z631l z631c =>
 wCall Try.prog 31 [(.agg #[(.int .i64 n625), (.string t626), (.string t627), (.int .i64 n628), (.slice z629b z629l z629c), (.slice z630b z630l z630c), (.slice z631b z631l z631c)])] H619 (fun r632 H633 =>
 opB r632 fun b636 =>
 wCall Try.prog 25 [(.string t41), (.int .i64 n42), (.string t622), (.bool b636)] H633 (fun r637 H638 =>
 opB r637 fun b641 =>
 R (.ret (.bool b641)) H638) (fun v640 H639 => R (.panic v640) H639)) (fun v635 H634 => R (.panic v635) H634)) (fun v621 H620 => R (.panic v621) H620)) ∧
 (wPt s5 fun i642 k643 =>
 ldI .i64 i642 k643 H512 fun n644 =>
 ldS i642 (k643 + 1) H512 fun t645 =>
 ldS i642 (k643 + 2) H512 fun t646 =>
 ldI .i64 i642 (k643 + 3) H512 fun n647 =>
 ldL i642 (k643 + 4) H512 fun z648b z648l z648c =>
 ldL i642 (k643 + 5) H512 fun z649b z649l z649c =>
 ldL i642 (k643 + 6) H512 fun z650b z650l z650c =>
 wCall Try.prog 30 [(.agg #[(.int .i64 n611), (.string t612), (.string t613), (.int .i64 n614), (.slice z615b z615l z615c), (.slice z616b z616l z616c), (.slice z617b z617l z617c)])] H512 (fun r651 H652 =>
 opS r651 fun t655 =>
 wCall Try.prog 31 [(.agg #[(.int .i64 n644), (.string t645), (.string t646), (.int .i64 n647), (.slice z648b z648l z648c), (.slice z649b z649l z649c), (.slice z650b z650l z650c)])] H652 (fun r656 H657 =>
 opB r656 fun b660 =>
 wCall Try.prog 25 [(.string t41), (.int .i64 n42), (.string t655), (.bool b660)] H657 (fun r661 H662 =>
 opB r661 fun b665 =>
 R (.ret (.bool b665)) H662) (fun v664 H663 => R (.panic v664) H663)) (fun v659 H658 => R (.panic v659) H658)) (fun v654 H653 => R (.panic v654) H653))) ∧
 (wPt s5 fun i666 k667 =>
 ldI .i64 i666 k667 H512 fun n668 =>
 ldS i666 (k667 + 1) H512 fun t669 =>
 ldS i666 (k667 + 2) H512 fun t670 =>
 ldI .i64 i666 (k667 + 3) H512 fun n671 =>
 ldL i666 (k667 + 4) H512 fun z672b z672l z672c =>
 ldL i666 (k667 + 5) H512 fun z673b z673l z673c =>
 ldL i666 (k667 + 6) H512 fun z674b z674l z674c =>
 wPt s5 fun i675 k676 =>
 ldI .i64 i675 k676 H512 fun n677 =>
 ldS i675 (k676 + 1) H512 fun t678 =>
 ldS i675 (k676 + 2) H512 fun t679 =>
 ldI .i64 i675 (k676 + 3) H512 fun n680 =>
 ldL i675 (k676 + 4) H512 fun z681b z681l z681c =>
 ldL i675 (k676 + 5) H512 fun z682b z682l z682c =>
 ldL i675 (k676 + 6) H512 fun z683b z683l z683c =>
 wCall Try.prog 30 [(.agg #[(.int .i64 n677), (.string t678), (.string t679), (.int .i64 n680), (.slice z681b z681l z681c), (.slice z682b z682l z682c), (.slice z683b z683l z683c)])] H512 (fun r684 H685 =>
 opS r684 fun t688 =>
 wCall Try.prog 31 [(.agg #[(.int .i64 n668), (.string t669), (.string t670), (.int .i64 n671), (.slice z672b z672l z672c), (.slice z673b z673l z673c), (.slice z674b z674l z674c)])] H685 (fun r689 H690 =>
 opB r689 fun b693 =>
 wCall Try.prog 25 [(.string t41), (.int .i64 n42), (.string t688), (.bool b693)] H690 (fun r694 H695 =>
 opB r694 fun b698 =>
 R (.ret (.bool b698)) H695) (fun v697 H696 => R (.panic v697) H696)) (fun v692 H691 => R (.panic v692) H691)) (fun v687 H686 => R (.panic v687) H686))))
 (((R (.ret (.bool false)) H512) ∧
 (R (.ret (.bool false)) H512)) ∧
 (R (.ret (.bool false)) H512))) (fun v514 H513 => R (.panic v514) H513)) (fun v509 H508 => R (.panic v509) H508)) (fun v504 H503 => R (.panic v504) H503)))
 (((((R (.ret (.bool false)) H71) ∧
 (R (.ret (.bool false)) H71)) ∧
 (R (.ret (.bool false)) H71)) ∧
 (((R (.ret (.bool false)) H71) ∧
 (R (.ret (.bool false)) H71)) ∧
 (R (.ret (.bool false)) H71))) ∧
 (((R (.ret (.bool false)) H71) ∧
 (R (.ret (.bool false)) H71)) ∧
 (R (.ret (.bool false)) H71)))) (fun v73 H72 => R (.panic v73) H72)) (fun v68 H67 => R (.panic v68) H67)) (fun v57 H56 => R (.panic v57) H56)) ∧
 (wPt s3 fun i699 k700 =>
 ldI .i64 i699 k700 H44 fun n701 =>
 ldI .i64 i699 (k700 + 1) H44 fun n702 =>
 ldS i699 (k700 + 2) H44 fun t703 =>
 ldL i699 (k700 + 3) H44 fun z704b z704l z704c =>
 wCall Try.prog 26 [(.agg #[(.int .i64 n50), (.int .i64 n51), (.string t52), (.slice z53b z53l z53c)])] H44 (fun r705 H706 =>
 opS r705 fun t709 =>
 wCall Try.prog 27 [(.agg #[(.int .i64 n701), (.int .i64 n702), (.string t703), (.slice z704b z704l z704c)])] H706 (fun r710 H711 =>
 opB r710 fun b714 =>
 wCall Try.prog 25 [(.string t12), (.int .i64 n13), (.string t709), (.bool b714)] H711 (fun r715 H716 =>
 opB r715 fun b719 =>
 wIf b719
 ((wPt s4 fun i720 k721 =>
 ldI .i64 i720 k721 H716 fun n722 =>
 ldS i720 (k721 + 1) H716 fun t723 =>
 ldL i720 (k721 + 2) H716 fun z724b z724l z724c =>
 ldL i720 (k721 + 3) H716 fun z725b z725l z725c =>
 (wCall Try.prog 28 [(.agg #[(.int .i64 n722), (.string t723), (.slice z724b z724l z724c), (.slice z725b z725l z725c)])] H716 (fun r726 H727 =>
 opS r726 fun t730 =>
 wPt s4 fun i731 k732 =>
 ldI .i64 i731 k732 H727 fun n733 =>
 ldS i731 (k732 + 1) H727 fun t734 =>
 ldL i731 (k732 + 2) H727 fun z735b z735l z735c =>
 ldL i731 (k732 + 3) H727 fun z736b z736l z736c =>
 wCall Try.prog 29 [(.agg #[(.int .i64 n733), (.string t734), (.slice z735b z735l z735c), (.slice z736b z736l z736c)])] H727 (fun r737 H738 =>
 opB r737 fun b741 =>
 wCall Try.prog 25 [(.string t25), (.int .i64 n26), (.string t730), (.bool b741)] H738 (fun r742 H743 =>
 opB r742 fun b746 =>
 wIf b746
 (wPt s5 fun i747 k748 =>
 ldL i747 (k748 + 6) H743 fun z749b z749l z749c =>
 wIf (decide ((z749l : Int) > 4096))
 (wIf (decide (n42 = 4))
 (((R (.ret (.bool true)) H743) ∧
 (R (.ret (.bool true)) H743)) ∧
 (R (.ret (.bool true)) H743))
 ((wPt s5 fun i750 k751 =>
 ldI .i64 i750 k751 H743 fun n752 =>
 ldS i750 (k751 + 1) H743 fun t753 =>
 ldS i750 (k751 + 2) H743 fun t754 =>
 ldI .i64 i750 (k751 + 3) H743 fun n755 =>
 ldL i750 (k751 + 4) H743 fun z756b z756l z756c =>
 ldL i750 (k751 + 5) H743 fun z757b z757l z757c =>
 ldL i750 (k751 + 6) H743 fun z758b z758l z758c =>
 (wCall Try.prog 30 [(.agg #[(.int .i64 n752), (.string t753), (.string t754), (.int .i64 n755), (.slice z756b z756l z756c), (.slice z757b z757l z757c), (.slice z758b z758l z758c)])] H743 (fun r759 H760 =>
 opS r759 fun t763 =>
 wPt s5 fun i764 k765 =>
 ldI .i64 i764 k765 H760 fun n766 =>
 ldS i764 (k765 + 1) H760 fun t767 =>
 ldS i764 (k765 + 2) H760 fun t768 =>
 ldI .i64 i764 (k765 + 3) H760 fun n769 =>
 ldL i764 (k765 + 4) H760 fun z770b z770l z770c =>
 ldL i764 (k765 + 5) H760 fun z771b z771l z771c =>
 ldL i764 (k765 + 6) H760 fun z772b z772l z772c =>
 wCall Try.prog 31 [(.agg #[(.int .i64 n766), (.string t767), (.string t768), (.int .i64 n769), (.slice z770b z770l z770c), (.slice z771b z771l z771c), (.slice z772b z772l z772c)])] H760 (fun r773 H774 =>
 opB r773 fun b777 =>
 wCall Try.prog 25 [(.string t41), (.int .i64 n42), (.string t763), (.bool b777)] H774 (fun r778 H779 =>
 opB r778 fun b782 =>
 R (.ret (.bool b782)) H779) (fun v781 H780 => R (.panic v781) H780)) (fun v776 H775 => R (.panic v776) H775)) (fun v762 H761 => R (.panic v762) H761)) ∧
 (wPt s5 fun i783 k784 =>
 ldI .i64 i783 k784 H743 fun n785 =>
 ldS i783 (k784 + 1) H743 fun t786 =>
 ldS i783 (k784 + 2) H743 fun t787 =>
 ldI .i64 i783 (k784 + 3) H743 fun n788 =>
 ldL i783 (k784 + 4) H743 fun z789b z789l z789c =>
 ldL i783 (k784 + 5) H743 fun z790b z790l z790c =>
 ldL i783 (k784 + 6) H743 fun z791b z791l z791c =>
 wCall Try.prog 30 [(.agg #[(.int .i64 n752), (.string t753), (.string t754), (.int .i64 n755), (.slice z756b z756l z756c), (.slice z757b z757l z757c), (.slice z758b z758l z758c)])] H743 (fun r792 H793 =>
 opS r792 fun t796 =>
 wCall Try.prog 31 [(.agg #[(.int .i64 n785), (.string t786), (.string t787), (.int .i64 n788), (.slice z789b z789l z789c), (.slice z790b z790l z790c), (.slice z791b z791l z791c)])] H793 (fun r797 H798 =>
 opB r797 fun b801 =>
 wCall Try.prog 25 [(.string t41), (.int .i64 n42), (.string t796), (.bool b801)] H798 (fun r802 H803 =>
 opB r802 fun b806 =>
 R (.ret (.bool b806)) H803) (fun v805 H804 => R (.panic v805) H804)) (fun v800 H799 => R (.panic v800) H799)) (fun v795 H794 => R (.panic v795) H794))) ∧
 (wPt s5 fun i807 k808 =>
 ldI .i64 i807 k808 H743 fun n809 =>
 ldS i807 (k808 + 1) H743 fun t810 =>
 ldS i807 (k808 + 2) H743 fun t811 =>
 ldI .i64 i807 (k808 + 3) H743 fun n812 =>
 ldL i807 (k808 + 4) H743 fun z813b z813l z813c =>
 ldL i807 (k808 + 5) H743 fun z814b z814l z814c =>
 ldL i807 (k808 + 6) H743 fun z815b z815l z815c =>
 wPt s5 fun i816 k817 =>
 ldI .i64 i816 k817 H743 fun n818 =>
 ldS i816 (k817 + 1) H743 fun t819 =>
 ldS i816 (k817 + 2) H743 fun t820 =>
 ldI .i64 i816 (k817 + 3) H743 fun n821 =>
 ldL i816 (k817 + 4) H743 fun z822b z822l z822c =>
 ldL i816 (k817 + 5) H743 fun z823b z823l z823c =>
 ldL i816 (k817 + 6) H743 fun z824b z824l z824c =>
 wCall Try.prog 30 [(.agg #[(.int .i64 n818), (.string t819), (.string t820), (.int .i64 n821), (.slice z822b z822l z822c), (.slice z823b z823l z823c), (.slice z824b z824l z824c)])] H743 (fun r825 H826 =>
 opS r825 fun t829 =>
 wCall Try.prog 31 [(.agg #[(.int .i64 n809), (.string t810), (.string t811), (.int .i64 n812), (.slice z813b z813l z813c), (.slice z814b z814l z814c), (.slice z815b z815l z815c)])] H826 (fun r830 H831 =>
 opB r830 fun b834 =>
 wCall Try.prog 25 [(.string t41), (.int .i64 n42), (.string t829), (.bool b834)] H831 (fun r835 H836 =>
 opB r835 fun b839 =>
 R (.ret (.bool b839)) H836) (fun v838 H837 => R (.panic v838) H837)) (fun v833 H832 => R (.panic v833) H832)) (fun v828 H827 => R (.panic v828) H827))))
 ((wPt s5 fun i840 k841 =>
 ldI .i64 i840 k841 H743 fun n842 =>
 ldS i840 (k841 + 1) H743 fun t843 =>
 ldS i840 (k841 + 2) H743 fun t844 =>
 ldI .i64 i840 (k841 + 3) H743 fun n845 =>
 ldL i840 (k841 + 4) H743 fun z846b z846l z846c =>
 ldL i840 (k841 + 5) H743 fun z847b z847l z847c =>
 ldL i840 (k841 + 6) H743 fun z848b z848l z848c =>
 (wCall Try.prog 30 [(.agg #[(.int .i64 n842), (.string t843), (.string t844), (.int .i64 n845), (.slice z846b z846l z846c), (.slice z847b z847l z847c), (.slice z848b z848l z848c)])] H743 (fun r849 H850 =>
 opS r849 fun t853 =>
 wPt s5 fun i854 k855 =>
 ldI .i64 i854 k855 H850 fun n856 =>
 ldS i854 (k855 + 1) H850 fun t857 =>
 ldS i854 (k855 + 2) H850 fun t858 =>
 ldI .i64 i854 (k855 + 3) H850 fun n859 =>
 ldL i854 (k855 + 4) H850 fun z860b z860l z860c =>
 ldL i854 (k855 + 5) H850 fun z861b z861l z861c =>
 ldL i854 (k855 + 6) H850 fun z862b z862l z862c =>
 wCall Try.prog 31 [(.agg #[(.int .i64 n856), (.string t857), (.string t858), (.int .i64 n859), (.slice z860b z860l z860c), (.slice z861b z861l z861c), (.slice z862b z862l z862c)])] H850 (fun r863 H864 =>
 opB r863 fun b867 =>
 wCall Try.prog 25 [(.string t41), (.int .i64 n42), (.string t853), (.bool b867)] H864 (fun r868 H869 =>
 opB r868 fun b872 =>
 R (.ret (.bool b872)) H869) (fun v871 H870 => R (.panic v871) H870)) (fun v866 H865 => R (.panic v866) H865)) (fun v852 H851 => R (.panic v852) H851)) ∧
 (wPt s5 fun i873 k874 =>
 ldI .i64 i873 k874 H743 fun n875 =>
 ldS i873 (k874 + 1) H743 fun t876 =>
 ldS i873 (k874 + 2) H743 fun t877 =>
 ldI .i64 i873 (k874 + 3) H743 fun n878 =>
 ldL i873 (k874 + 4) H743 fun z879b z879l z879c =>
 ldL i873 (k874 + 5) H743 fun z880b z880l z880c =>
 ldL i873 (k874 + 6) H743 fun z881b z881l z881c =>
 wCall Try.prog 30 [(.agg #[(.int .i64 n842), (.string t843), (.string t844), (.int .i64 n845), (.slice z846b z846l z846c), (.slice z847b z847l z847c), (.slice z848b z848l z848c)])] H743 (fun r882 H883 =>
 opS r882 fun t886 =>
 wCall Try.prog 31 [(.agg #[(.int .i64 n875), (.string t876), (.string t877), (.int .i64 n878), (.slice z879b z879l z879c), (.slice z880b z880l z880c), (.slice z881b z881l z881c)])] H883 (fun r887 H888 =>
 opB r887 fun b891 =>
 wCall Try.prog 25 [(.string t41), (.int .i64 n42), (.string t886), (.bool b891)] H888 (fun r892 H893 =>
 opB r892 fun b896 =>
 R (.ret (.bool b896)) H893) (fun v895 H894 => R (.panic v895) H894)) (fun v890 H889 => R (.panic v890) H889)) (fun v885 H884 => R (.panic v885) H884))) ∧
 (wPt s5 fun i897 k898 =>
 ldI .i64 i897 k898 H743 fun n899 =>
 ldS i897 (k898 + 1) H743 fun t900 =>
 ldS i897 (k898 + 2) H743 fun t901 =>
 ldI .i64 i897 (k898 + 3) H743 fun n902 =>
 ldL i897 (k898 + 4) H743 fun z903b z903l z903c =>
 ldL i897 (k898 + 5) H743 fun z904b z904l z904c =>
 ldL i897 (k898 + 6) H743 fun z905b z905l z905c =>
 wPt s5 fun i906 k907 =>
 ldI .i64 i906 k907 H743 fun n908 =>
 ldS i906 (k907 + 1) H743 fun t909 =>
 ldS i906 (k907 + 2) H743 fun t910 =>
 ldI .i64 i906 (k907 + 3) H743 fun n911 =>
 ldL i906 (k907 + 4) H743 fun z912b z912l z912c =>
 ldL i906 (k907 + 5) H743 fun z913b z913l z913c =>
 ldL i906 (k907 + 6) H743 fun z914b z914l z914c =>
 wCall Try.prog 30 [(.agg #[(.int .i64 n908), (.string t909), (.string t910), (.int .i64 n911), (.slice z912b z912l z912c), (.slice z913b z913l z913c), (.slice z914b z914l z914c)])] H743 (fun r915 H916 =>
 opS r915 fun t919 =>
 wCall Try.prog 31 [(.agg #[(.int .i64 n899), (.string t900), (.string t901), (.int .i64 n902), (.slice z903b z903l z903c), (.slice z904b z904l z904c), (.slice z905b z905l z905c)])] H916 (fun r920 H921 =>
 opB r920 fun b924 =>
 wCall Try.prog 25 [(.string t41), (.int .i64 n42), (.string t919), (.bool b924)] H921 (fun r925 H926 =>
 opB r925 fun b929 =>
 R (.ret (.bool b929)) H926) (fun v928 H927 => R (.panic v928) H927)) (fun v923 H922 => R (.panic v923) H922)) (fun v918 H917 => R (.panic v918) H917))))
 (((R (.ret (.bool false)) H743) ∧
 (R (.ret (.bool false)) H743)) ∧
 (R (.ret (.bool false)) H743))) (fun v745 H744 => R (.panic v745) H744)) (fun v740 H739 => R (.panic v740) H739)) (fun v729 H728 => R (.panic v729) H728)) ∧
 (wPt s4 fun i930 k931 =>
 ldI .i64 i930 k931 H716 fun n932 =>
 ldS i930 (k931 + 1) H716 fun t933 =>
 ldL i930 (k931 + 2) H716 fun z934b z934l z934c =>
 ldL i930 (k931 + 3) H716 fun z935b z935l z935c =>
 wCall Try.prog 28 [(.agg #[(.int .i64 n722), (.string t723), (.slice z724b z724l z724c), (.slice z725b z725l z725c)])] H716 (fun r936 H937 =>
 opS r936 fun t940 =>
 wCall Try.prog 29 [(.agg #[(.int .i64 n932), (.string t933), (.slice z934b z934l z934c), (.slice z935b z935l z935c)])] H937 (fun r941 H942 =>
 opB r941 fun b945 =>
 wCall Try.prog 25 [(.string t25), (.int .i64 n26), (.string t940), (.bool b945)] H942 (fun r946 H947 =>
 opB r946 fun b950 =>
 wIf b950
 (wPt s5 fun i951 k952 =>
 ldL i951 (k952 + 6) H947 fun z953b z953l z953c =>
 wIf (decide ((z953l : Int) > 4096))
 (wIf (decide (n42 = 4))
 (((R (.ret (.bool true)) H947) ∧
 (R (.ret (.bool true)) H947)) ∧
 (R (.ret (.bool true)) H947))
 ((wPt s5 fun i954 k955 =>
 ldI .i64 i954 k955 H947 fun n956 =>
 ldS i954 (k955 + 1) H947 fun t957 =>
 ldS i954 (k955 + 2) H947 fun t958 =>
 ldI .i64 i954 (k955 + 3) H947 fun n959 =>
 ldL i954 (k955 + 4) H947 fun z960b z960l z960c =>
 ldL i954 (k955 + 5) H947 fun z961b z961l z961c =>
 ldL i954 (k955 + 6) H947 fun z962b z962l z962c =>
 (wCall Try.prog 30 [(.agg #[(.int .i64 n956), (.string t957), (.string t958), (.int .i64 n959), (.slice z960b z960l z960c), (.slice z961b z961l z961c), (.slice z962b z962l z962c)])] H947 (fun r963 H964 =>
 opS r963 fun t967 =>
 wPt s5 fun i968 k969 =>
 ldI .i64 i968 k969 H964 fun n970 =>
 ldS i968 (k969 + 1) H964 fun t971 =>
 ldS i968 (k969 + 2) H964 fun t972 =>
 ldI .i64 i968 (k969 + 3) H964 fun n973 =>
 ldL i968 (k969 + 4) H964 fun z974b z974l z974c =>
 ldL i968 (k969 + 5) H964 fun z975b z975l z975c =>
 ldL i968 (k969 + 6) H964 fun z976b z976l z976c =>
 wCall Try.prog 31 [(.agg #[(.int .i64 n970), (.string t971), (.string t972), (.int .i64 n973), (.slice z974b z974l z974c), (.slice z975b z975l z975c), (.slice z976b z976l z976c)])] H964 (fun r977 H978 =>
 opB r977 fun b981 =>
 wCall Try.prog 25 [(.string t41), (.int .i64 n42), (.string t967), (.bool b981)] H978 (fun r982 H983 =>
 opB r982 fun b986 =>
 R (.ret (.bool b986)) H983) (fun v985 H984 => R (.panic v985) H984)) (fun v980 H979 => R (.panic v980) H979)) (fun v966 H965 => R (.panic v966) H965)) ∧
 (wPt s5 fun i987 k988 =>
 ldI .i64 i987 k988 H947 fun n989 =>
 ldS i987 (k988 + 1) H947 fun t990 =>
 ldS i987 (k988 + 2) H947 fun t991 =>
 ldI .i64 i987 (k988 + 3) H947 fun n992 =>
 ldL i987 (k988 + 4) H947 fun z993b z993l z993c =>
 ldL i987 (k988 + 5) H947 fun z994b z994l z994c =>
 ldL i987 (k988 + 6) H947 fun z995b z995l z995c =>
 wCall Try.prog 30 [(.agg #[(.int .i64 n956), (.string t957), (.string t958), (.int .i64 n959), (.slice z960b z960l z960c), (.slice z961b z961l z961c), (.slice z962b z962l z962c)])] H947 (fun r996 H997 =>
 opS r996 fun t1000 =>
 wCall Try.prog 31 [(.agg #[(.int .i64 n989), (.string t990), (.string t991), (.int .i64 n992), (.slice z993b z993l z993c), (.slice z994b z994l z994c), (.slice z995b z995l z995c)])] H997 (fun r1001 H1002 =>
 opB r1001 fun b1005 =>
 wCall Try.prog 25 [(.string t41), (.int .i64 n42), (.string t1000), (.bool b1005)] H1002 (fun r1006 H1007 =>
 opB r1006 fun b1010 =>
 R (.ret (.bool b1010)) H1007) (fun v1009 H1008 => R (.panic v1009) H1008)) (fun v1004 H1003 => R (.panic v1004) H1003)) (fun v999 H998 => R (.panic v999) H998))) ∧
 (wPt s5 fun i1011 k1012 =>
 ldI .i64 i1011 k1012 H947 fun n1013 =>
 ldS i1011 (k1012 + 1) H947 fun t1014 =>
 ldS i1011 (k1012 + 2) H947 fun t1015 =>
 ldI .i64 i1011 (k1012 + 3) H947 fun n1016 =>
 ldL i1011 (k1012 + 4) H947 fun z1017b z1017l z1017c =>
 ldL i1011 (k1012 + 5) H947 fun z1018b z1018l z1018c =>
 ldL i1011 (k1012 + 6) H947 fun z1019b z1019l z1019c =>
 wPt s5 fun i1020 k1021 =>
 ldI .i64 i1020 k1021 H947 fun n1022 =>
 ldS i1020 (k1021 + 1) H947 fun t1023 =>
 ldS i1020 (k1021 + 2) H947 fun t1024 =>
 ldI .i64 i1020 (k1021 + 3) H947 fun n1025 =>
 ldL i1020 (k1021 + 4) H947 fun z1026b z1026l z1026c =>
 ldL i1020 (k1021 + 5) H947 fun z1027b z1027l z1027c =>
 ldL i1020 (k1021 + 6) H947 fun z1028b z1028l z1028c =>
 wCall Try.prog 30 [(.agg #[(.int .i64 n1022), (.string t1023), (.string t1024), (.int .i64 n1025), (.slice z1026b z1026l z1026c), (.slice z1027b z1027l z1027c), (.slice z1028b z1028l z1028c)])] H947 (fun r1029 H1030 =>
 opS r1029 fun t1033 =>
 wCall Try.prog 31 [(.agg #[(.int .i64 n1013), (.string t1014), (.string t1015), (.int .i64 n1016), (.slice z1017b z1017l z1017c), (.slice z1018b z1018l z1018c), (.slice z1019b z1019l z1019c)])] H1030 (fun r1034 H1035 =>
 opB r1034 fun b1038 =>
 wCall Try.prog 25 [(.string t41), (.int .i64 n42), (.string t1033), (.bool b1038)] H1035 (fun r1039 H1040 =>
 opB r1039 fun b1043 =>
 R (.ret (.bool b1043)) H1040) (fun v1042 H1041 => R (.panic v1042) H1041)) (fun v1037 H1036 => R (.panic v1037) H1036)) (fun v1032 H1031 => R (.panic v1032) H1031))))
 ((wPt s5 fun i1044 k1045 =>
 ldI .i64 i1044 k1045 H947 fun n1046 =>
 ldS i1044 (k1045 + 1) H947 fun t1047 =>
 ldS i1044 (k1045 + 2) H947 fun t1048 =>
 ldI .i64 i1044 (k1045 + 3) H947 fun n1049 =>
 ldL i1044 (k1045 + 4) H947 fun z1050b z1050l z1050c =>
 ldL i1044 (k1045 + 5) H947 fun z1051b z1051l z1051c =>
 ldL i1044 (k1045 + 6) H947 fun z1052b z1052l z1052c =>
 (wCall Try.prog 30 [(.agg #[(.int .i64 n1046), (.string t1047), (.string t1048), (.int .i64 n1049), (.slice z1050b z1050l z1050c), (.slice z1051b z1051l z1051c), (.slice z1052b z1052l z1052c)])] H947 (fun r1053 H1054 =>
 opS r1053 fun t1057 =>
 wPt s5 fun i1058 k1059 =>
 ldI .i64 i1058 k1059 H1054 fun n1060 =>
 ldS i1058 (k1059 + 1) H1054 fun t1061 =>
 ldS i1058 (k1059 + 2) H1054 fun t1062 =>
 ldI .i64 i1058 (k1059 + 3) H1054 fun n1063 =>
 ldL i1058 (k1059 + 4) H1054 fun z1064b z1064l z1064c =>
 ldL i1058 (k1059 + 5) H1054 fun z1065b z1065l z1065c =>
 ldL i1058 (k1059 + 6) H1054 fun z1066b z1066l z1066c =>
 wCall Try.prog 31 [(.agg #[(.int .i64 n1060), (.string t1061), (.string t1062), (.int .i64 n1063), (.slice z1064b z1064l z1064c), (.slice z1065b z1065l z1065c), (.slice z1066b z1066l z1066c)])] H1054 (fun r1067 H1068 =>
 opB r1067 fun b1071 =>
 wCall Try.prog 25 [(.string t41), (.int .i64 n42), (.string t1057), (.bool b1071)] H1068 (fun r1072 H1073 =>
 opB r1072 fun b1076 =>
 R (.ret (.bool b1076)) H1073) (fun v1075 H1074 => R (.panic v1075) H1074)) (fun v1070 H1069 => R (.panic v1070) H1069)) (fun v1056 H1055 => R (.panic v1056) H1055)) ∧
 (wPt s5 fun i1077 k1078 =>
 ldI .i64 i1077 k1078 H947 fun n1079 =>
 ldS i1077 (k1078 + 1) H947 fun t1080 =>
 ldS i1077 (k1078 + 2) H947 fun t1081 =>
 ldI .i64 i1077 (k1078 + 3) H947 fun n1082 =>
 ldL i1077 (k1078 + 4) H947 fun z1083b z1083l z1083c =>
 ldL i1077 (k1078 + 5) H947 fun z1084b z1084l z1084c =>
 ldL i1077 (k1078 + 6) H947 fun z1085b z1085l z1085c =>
 wCall Try.prog 30 [(.agg #[(.int .i64 n1046), (.string t1047), (.string t1048), (.int .i64 n1049), (.slice z1050b z1050l z1050c), (.slice z1051b z1051l z1051c), (.slice z1052b z1052l z1052c)])] H947 (fun r1086 H1087 =>
 opS r1086 fun t1090 =>
 wCall Try.prog 31 [(.agg #[(.int .i64 n1079), (.string t1080), (.string t1081), (.int .i64 n1082), (.slice z1083b z1083l z1083c), (.slice z1084b z1084l z1084c), (.slice z1085b z1085l z1085c)])] H1087 (fun r1091 H1092 =>
 opB r1091 fun b1095 =>
 wCall Try.prog 25 [(.string t41), (.int .i64 n42), (.string t1090), (.bool b1095)] H1092 (fun r1096 H1097 =>
 opB r1096 fun b1100 =>
 R (.ret (.bool b1100)) H1097) (fun v1099 H1098 => R (.panic v1099) H1098)) (fun v1094 H1093 => R (.panic v1094) H1093)) (fun v1089 H1088 => R (.panic v1089) H1088))) ∧
 (wPt s5 fun i1101 k1102 =>
 ldI .i64 i1101 k1102 H947 fun n1103 =>
 ldS i1101 (k1102 + 1) H947 fun t1104 =>
 ldS i1101 (k1102 + 2) H947 fun t1105 =>
 ldI .i64 i1101 (k1102 + 3) H947 fun n1106 =>
 ldL i1101 (k1102 + 4) H947 fun z1107b z1107l z1107c =>
 ldL i1101 (k1102 + 5) H947 fun z1108b z1108l z1108c =>
 ldL i1101 (k1102 + 6) H947 fun z1109b z1109l z1109c =>
 wPt s5 fun i1110 k1111 =>
 ldI .i64 i1110 k1111 H947 fun n1112 =>
 ldS i1110 (k1111 + 1) H947 fun t1113 =>
 ldS i1110 (k1111 + 2) H947 fun t1114 =>
 ldI .i64 i1110 (k1111 + 3) H947 fun n1115 =>
 ldL i1110 (k1111 + 4) H947 fun z1116b z1116l z1116c =>
 ldL i1110 (k1111 + 5) H947 fun z1117b z1117l z1117c =>
 ldL i1110 (k1111 + 6) H947 fun z1118b z1118l z1118c =>
 wCall Try.prog 30 [(.agg #[(.int .i64 n1112), (.string t1113), (.string t1114), (.int .i64 n1115), (.slice z1116b z1116l z1116c), (.slice z1117b z1117l z1117c), (.slice z1118b z1118l z1118c)])] H947 (fun r1119 H1120 =>
 opS r1119 fun t1123 =>
 wCall Try.prog 31 [(.agg #[(.int .i64 n1103), (.string t1104), (.string t1105), (.int .i64 n1106), (.slice z1107b z1107l z1107c), (.slice z1108b z1108l z1108c), (.slice z1109b z1109l z1109c)])] H1120 (fun r1124 H1125 =>
 opB r1124 fun b1128 =>
 wCall Try.prog 25 [(.string t41), (.int .i64 n42), (.string t1123), (.bool b1128)] H1125 (fun r1129 H1130 =>
 opB r1129 fun b1133 =>
 R (.ret (.bool b1133)) H1130) (fun v1132 H1131 => R (.panic v1132) H1131)) (fun v1127 H1126 => R (.panic v1127) H1126)) (fun v1122 H1121 => R (.panic v1122) H1121))))
 (((R (.ret (.bool false)) H947) ∧
 (R (.ret (.bool false)) H947)) ∧
 (R (.ret (.bool false)) H947))) (fun v949 H948 => R (.panic v949) H948)) (fun v944 H943 => R (.panic v944) H943)) (fun v939 H938 => R (.panic v939) H938))) ∧
 (wPt s4 fun i1134 k1135 =>
 ldI .i64 i1134 k1135 H716 fun n1136 =>
 ldS i1134 (k1135 + 1) H716 fun t1137 =>
 ldL i1134 (k1135 + 2) H716 fun z1138b z1138l z1138c =>
 ldL i1134 (k1135 + 3) H716 fun z1139b z1139l z1139c =>
 wPt s4 fun i1140 k1141 =>
 ldI .i64 i1140 k1141 H716 fun n1142 =>
 ldS i1140 (k1141 + 1) H716 fun t1143 =>
 ldL i1140 (k1141 + 2) H716 fun z1144b z1144l z1144c =>
 ldL i1140 (k1141 + 3) H716 fun z1145b z1145l z1145c =>
 wCall Try.prog 28 [(.agg #[(.int .i64 n1142), (.string t1143), (.slice z1144b z1144l z1144c), (.slice z1145b z1145l z1145c)])] H716 (fun r1146 H1147 =>
 opS r1146 fun t1150 =>
 wCall Try.prog 29 [(.agg #[(.int .i64 n1136), (.string t1137), (.slice z1138b z1138l z1138c), (.slice z1139b z1139l z1139c)])] H1147 (fun r1151 H1152 =>
 opB r1151 fun b1155 =>
 wCall Try.prog 25 [(.string t25), (.int .i64 n26), (.string t1150), (.bool b1155)] H1152 (fun r1156 H1157 =>
 opB r1156 fun b1160 =>
 wIf b1160
 (wPt s5 fun i1161 k1162 =>
 ldL i1161 (k1162 + 6) H1157 fun z1163b z1163l z1163c =>
 wIf (decide ((z1163l : Int) > 4096))
 (wIf (decide (n42 = 4))
 (((R (.ret (.bool true)) H1157) ∧
 (R (.ret (.bool true)) H1157)) ∧
 (R (.ret (.bool true)) H1157))
 ((wPt s5 fun i1164 k1165 =>
 ldI .i64 i1164 k1165 H1157 fun n1166 =>
 ldS i1164 (k1165 + 1) H1157 fun t1167 =>
 ldS i1164 (k1165 + 2) H1157 fun t1168 =>
 ldI .i64 i1164 (k1165 + 3) H1157 fun n1169 =>
 ldL i1164 (k1165 + 4) H1157 fun z1170b z1170l z1170c =>
 ldL i1164 (k1165 + 5) H1157 fun z1171b z1171l z1171c =>
 ldL i1164 (k1165 + 6) H1157 fun z1172b z1172l z1172c =>
 (wCall Try.prog 30 [(.agg #[(.int .i64 n1166), (.string t1167), (.string t1168), (.int .i64 n1169), (.slice z1170b z1170l z1170c), (.slice z1171b z1171l z1171c), (.slice z1172b z1172l z1172c)])] H1157 (fun r1173 H1174 =>
 opS r1173 fun t1177 =>
 wPt s5 fun i1178 k1179 =>
 ldI .i64 i1178 k1179 H1174 fun n1180 =>
 ldS i1178 (k1179 + 1) H1174 fun t1181 =>
 ldS i1178 (k1179 + 2) H1174 fun t1182 =>
 ldI .i64 i1178 (k1179 + 3) H1174 fun n1183 =>
 ldL i1178 (k1179 + 4) H1174 fun z1184b z1184l z1184c =>
 ldL i1178 (k1179 + 5) H1174 fun z1185b z1185l z1185c =>
 ldL i1178 (k1179 + 6) H1174 fun z1186b z1186l z1186c =>
 wCall Try.prog 31 [(.agg #[(.int .i64 n1180), (.string t1181), (.string t1182), (.int .i64 n1183), (.slice z1184b z1184l z1184c), (.slice z1185b z1185l z1185c), (.slice z1186b z1186l z1186c)])] H1174 (fun r1187 H1188 =>
 opB r1187 fun b1191 =>
 wCall Try.prog 25 [(.string t41), (.int .i64 n42), (.string t1177), (.bool b1191)] H1188 (fun r1192 H1193 =>
 opB r1192 fun b1196 =>
 R (.ret (.bool b1196)) H1193) (fun v1195 H1194 => R (.panic v1195) H1194)) (fun v1190 H1189 => R (.panic v1190) H1189)) (fun v1176 H1175 => R (.panic v1176) H1175)) ∧
 (wPt s5 fun i1197 k1198 =>
 ldI .i64 i1197 k1198 H1157 fun n1199 =>
 ldS i1197 (k1198 + 1) H1157 fun t1200 =>
 ldS i1197 (k1198 + 2) H1157 fun t1201 =>
 ldI .i64 i1197 (k1198 + 3) H1157 fun n1202 =>
 ldL i1197 (k1198 + 4) H1157 fun z1203b z1203l z1203c =>
 ldL i1197 (k1198 + 5) H1157 fun z1204b z1204l z1204c =>
 ldL i1197 (k1198 + 6) H1157 fun z1205b z1205l z1205c =>
 wCall Try.prog 30 [(.agg #[(.int .i64 n1166), (.string t1167), (.string t1168), (.int .i64 n1169), (.slice z1170b z1170l z1170c), (.slice z1171b z1171l z1171c), (.slice z1172b z1172l z1172c)])] H1157 (fun r1206 H1207 =>
 opS r1206 fun t1210 =>
 wCall Try.prog 31 [(.agg #[(.int .i64 n1199), (.string t1200), (.string t1201), (.int .i64 n1202), (.slice z1203b z1203l z1203c), (.slice z1204b z1204l z1204c), (.slice z1205b z1205l z1205c)])] H1207 (fun r1211 H1212 =>
 opB r1211 fun b1215 =>
 wCall Try.prog 25 [(.string t41), (.int .i64 n42), (.string t1210), (.bool b1215)] H1212 (fun r1216 H1217 =>
 opB r1216 fun b1220 =>
 R (.ret (.bool b1220)) H1217) (fun v1219 H1218 => R (.panic v1219) H1218)) (fun v1214 H1213 => R (.panic v1214) H1213)) (fun v1209 H1208 => R (.panic v1209) H1208))) ∧
 (wPt s5 fun i1221 k1222 =>
 ldI .i64 i1221 k1222 H1157 fun n1223 =>
 ldS i1221 (k1222 + 1) H1157 fun t1224 =>
 ldS i1221 (k1222 + 2) H1157 fun t1225 =>
 ldI .i64 i1221 (k1222 + 3) H1157 fun n1226 =>
 ldL i1221 (k1222 + 4) H1157 fun z1227b z1227l z1227c =>
 ldL i1221 (k1222 + 5) H1157 fun z1228b z1228l z1228c =>
 ldL i1221 (k1222 + 6) H1157 fun z1229b z1229l z1229c =>
 wPt s5 fun i1230 k1231 =>
 ldI .i64 i1230 k1231 H1157 fun n1232 =>
 ldS i1230 (k1231 + 1) H1157 fun t1233 =>
 ldS i1230 (k1231 + 2) H1157 fun t1234 =>
 ldI .i64 i1230 (k1231 + 3) H1157 fun n1235 =>
 ldL i1230 (k1231 + 4) H1157 fun z1236b z1236l z1236c =>
 ldL i1230 (k1231 + 5) H1157 fun z1237b z1237l z1237c =>
 ldL i1230 (k1231 + 6) H1157 fun z1238b z1238l z1238c =>
 wCall Try.prog 30 [(.agg #[(.int .i64 n1232), (.string t1233), (.string t1234), (.int .i64 n1235), (.slice z1236b z1236l z1236c), (.slice z1237b z1237l z1237c), (.slice z1238b z1238l z1238c)])] H1157 (fun r1239 H1240 =>
 opS r1239 fun t1243 =>
 wCall Try.prog 31 [(.agg #[(.int .i64 n1223), (.string t1224), (.string t1225), (.int .i64 n1226), (.slice z1227b z1227l z1227c), (.slice z1228b z1228l z1228c), (.slice z1229b z1229l z1229c)])] H1240 (fun r1244 H1245 =>
 opB r1244 fun b1248 =>
 wCall Try.prog 25 [(.string t41), (.int .i64 n42), (.string t1243), (.bool b1248)] H1245 (fun r1249 H1250 =>
 opB r1249 fun b1253 =>
 R (.ret (.bool b1253)) H1250) (fun v1252 H1251 => R (.panic v1252) H1251)) (fun v1247 H1246 => R (.panic v1247) H1246)) (fun v1242 H1241 => R (.panic v1242) H1241))))
 ((wPt s5 fun i1254 k1255 =>
 ldI .i64 i1254 k1255 H1157 fun n1256 =>
 ldS i1254 (k1255 + 1) H1157 fun t1257 =>
 ldS i1254 (k1255 + 2) H1157 fun t1258 =>
 ldI .i64 i1254 (k1255 + 3) H1157 fun n1259 =>
 ldL i1254 (k1255 + 4) H1157 fun z1260b z1260l z1260c =>
 ldL i1254 (k1255 + 5) H1157 fun z1261b z1261l z1261c =>
 ldL i1254 (k1255 + 6) H1157 fun z1262b z1262l z1262c =>
 (wCall Try.prog 30 [(.agg #[(.int .i64 n1256), (.string t1257), (.string t1258), (.int .i64 n1259), (.slice z1260b z1260l z1260c), (.slice z1261b z1261l z1261c), (.slice z1262b z1262l z1262c)])] H1157 (fun r1263 H1264 =>
 opS r1263 fun t1267 =>
 wPt s5 fun i1268 k1269 =>
 ldI .i64 i1268 k1269 H1264 fun n1270 =>
 ldS i1268 (k1269 + 1) H1264 fun t1271 =>
 ldS i1268 (k1269 + 2) H1264 fun t1272 =>
 ldI .i64 i1268 (k1269 + 3) H1264 fun n1273 =>
 ldL i1268 (k1269 + 4) H1264 fun z1274b z1274l z1274c =>
 ldL i1268 (k1269 + 5) H1264 fun z1275b z1275l z1275c =>
 ldL i1268 (k1269 + 6) H1264 fun z1276b z1276l z1276c =>
 wCall Try.prog 31 [(.agg #[(.int .i64 n1270), (.string t1271), (.string t1272), (.int .i64 n1273), (.slice z1274b z1274l z1274c), (.slice z1275b z1275l z1275c), (.slice z1276b z1276l z1276c)])] H1264 (fun r1277 H1278 =>
 opB r1277 fun b1281 =>
 wCall Try.prog 25 [(.string t41), (.int .i64 n42), (.string t1267), (.bool b1281)] H1278 (fun r1282 H1283 =>
 opB r1282 fun b1286 =>
 R (.ret (.bool b1286)) H1283) (fun v1285 H1284 => R (.panic v1285) H1284)) (fun v1280 H1279 => R (.panic v1280) H1279)) (fun v1266 H1265 => R (.panic v1266) H1265)) ∧
 (wPt s5 fun i1287 k1288 =>
 ldI .i64 i1287 k1288 H1157 fun n1289 =>
 ldS i1287 (k1288 + 1) H1157 fun t1290 =>
 ldS i1287 (k1288 + 2) H1157 fun t1291 =>
 ldI .i64 i1287 (k1288 + 3) H1157 fun n1292 =>
 ldL i1287 (k1288 + 4) H1157 fun z1293b z1293l z1293c =>
 ldL i1287 (k1288 + 5) H1157 fun z1294b z1294l z1294c =>
 ldL i1287 (k1288 + 6) H1157 fun z1295b z1295l z1295c =>
 wCall Try.prog 30 [(.agg #[(.int .i64 n1256), (.string t1257), (.string t1258), (.int .i64 n1259), (.slice z1260b z1260l z1260c), (.slice z1261b z1261l z1261c), (.slice z1262b z1262l z1262c)])] H1157 (fun r1296 H1297 =>
 opS r1296 fun t1300 =>
 wCall Try.prog 31 [(.agg #[(.int .i64 n1289), (.string t1290), (.string t1291), (.int .i64 n1292), (.slice z1293b z1293l z1293c), (.slice z1294b z1294l z1294c), (.slice z1295b z1295l z1295c)])] H1297 (fun r1301 H1302 =>
 opB r1301 fun b1305 =>
 wCall Try.prog 25 [(.string t41), (.int .i64 n42), (.string t1300), (.bool b1305)] H1302 (fun r1306 H1307 =>
 opB r1306 fun b1310 =>
 R (.ret (.bool b1310)) H1307) (fun v1309 H1308 => R (.panic v1309) H1308)) (fun v1304 H1303 => R (.panic v1304) H1303)) (fun v1299 H1298 => R (.panic v1299) H1298))) ∧
 (wPt s5 fun i1311 k1312 =>
 ldI .i64 i1311 k1312 H1157 fun n1313 =>
 ldS i1311 (k1312 + 1) H1157 fun t1314 =>
 ldS i1311 (k1312 + 2) H1157 fun t1315 =>
 ldI .i64 i1311 (k1312 + 3) H1157 fun n1316 =>
 ldL i1311 (k1312 + 4) H1157 fun z1317b z1317l z1317c =>
 ldL i1311 (k1312 + 5) H1157 fun z1318b z1318l z1318c =>
 ldL i1311 (k1312 + 6) H1157 fun z1319b z1319l z1319c =>
 wPt s5 fun i1320 k1321 =>
 ldI .i64 i1320 k1321 H1157 fun n1322 =>
 ldS i1320 (k1321 + 1) H1157 fun t1323 =>
 ldS i1320 (k1321 + 2) H1157 fun t1324 =>
 ldI .i64 i1320 (k1321 + 3) H1157 fun n1325 =>
 ldL i1320 (k1321 + 4) H1157 fun z1326b z1326l z1326c =>
 ldL i1320 (k1321 + 5) H1157 fun z1327b z1327l z1327c =>
 ldL i1320 (k1321 + 6) H1157 fun z1328b z1328l z1328c =>
 wCall Try.prog 30 [(.agg #[(.int .i64 n1322), (.string t1323), (.string t1324), (.int .i64 n1325), (.slice z1326b z1326l z1326c), (.slice z1327b z1327l z1327c), (.slice z1328b z1328l z1328c)])] H1157 (fun r1329 H1330 =>
 opS r1329 fun t1333 =>
 wCall Try.prog 31 [(.agg #[(.int .i64 n1313), (.string t1314), (.string t1315), (.int .i64 n1316), (.slice z1317b z1317l z1317c), (.slice z1318b z1318l z1318c), (.slice z1319b z1319l z1319c)])] H1330 (fun r1334 H1335 =>
 opB r1334 fun b1338 =>
 wCall Try.prog 25 [(.string t41), (.int .i64 n42), (.string t1333), (.bool b1338)] H1335 (fun r1339 H1340 =>
 opB r1339 fun b1343 =>
 R (.ret (.bool b1343)) H1340) (fun v1342 H1341 => R (.panic v1342) H1341)) (fun v1337 H1336 => R (.panic v1337) H1336)) (fun v1332 H1331 => R (.panic v1332) H1331))))
 (((R (.ret (.bool false)) H1157) ∧
 (R (.ret (.bool false)) H1157)) ∧
 (R (.ret (.bool false)) H1157))) (fun v1159 H1158 => R (.panic v1159) H1158)) (fun v1154 H1153 => R (.panic v1154) H1153)) (fun v1149 H1148 => R (.panic v1149) H1148)))
 (((((R (.ret (.bool false)) H716) ∧
 (R (.ret (.bool false)) H716)) ∧
 (R (.ret (.bool false)) H716)) ∧
 (((R (.ret (.bool false)) H716) ∧
 (R (.ret (.bool false)) H716)) ∧
 (R (.ret (.bool false)) H716))) ∧
 (((R (.ret (.bool false)) H716) ∧
 (R (.ret (.bool false)) H716)) ∧
 (R (.ret (.bool false)) H716)))) (fun v718 H717 => R (.panic v718) H717)) (fun v713 H712 => R (.panic v713) H712)) (fun v708 H707 => R (.panic v708) H707))) ∧
 (wPt s3 fun i1344 k1345 =>
 ldI .i64 i1344 k1345 H44 fun n1346 =>
 ldI .i64 i1344 (k1345 + 1) H44 fun n1347 =>
 ldS i1344 (k1345 + 2) H44 fun t1348 =>
 ldL i1344 (k1345 + 3) H44 fun z1349b z1349l z1349c =>
 wPt s3 fun i1350 k1351 =>
 ldI .i64 i1350 k1351 H44 fun n1352 =>
 ldI .i64 i1350 (k1351 + 1) H44 fun n1353 =>
 ldS i1350 (k1351 + 2) H44 fun t1354 =>
 ldL i1350 (k1351 + 3) H44 fun z1355b z1355l z1355c =>
 wCall Try.prog 26 [(.agg #[(.int .i64 n1352), (.int .i64 n1353), (.string t1354), (.slice z1355b z1355l z1355c)])] H44 (fun r1356 H1357 =>
 opS r1356 fun t1360 =>
 wCall Try.prog 27 [(.agg #[(.int .i64 n1346), (.int .i64 n1347), (.string t1348), (.slice z1349b z1349l z1349c)])] H1357 (fun r1361 H1362 =>
 opB r1361 fun b1365 =>
 wCall Try.prog 25 [(.string t12), (.int .i64 n13), (.string t1360), (.bool b1365)] H1362 (fun r1366 H1367 =>
 opB r1366 fun b1370 =>
 wIf b1370
 ((wPt s4 fun i1371 k1372 =>
 ldI .i64 i1371 k1372 H1367 fun n1373 =>
 ldS i1371 (k1372 + 1) H1367 fun t1374 =>
 ldL i1371 (k1372 + 2) H1367 fun z1375b z1375l z1375c =>
 ldL i1371 (k1372 + 3) H1367 fun z1376b z1376l z1376c =>
 (wCall Try.prog 28 [(.agg #[(.int .i64 n1373), (.string t1374), (.slice z1375b z1375l z1375c), (.slice z1376b z1376l z1376c)])] H1367 (fun r1377 H1378 =>
 opS r1377 fun t1381 =>
 wPt s4 fun i1382 k1383 =>
 ldI .i64 i1382 k1383 H1378 fun n1384 =>
 ldS i1382 (k1383 + 1) H1378 fun t1385 =>
 ldL i1382 (k1383 + 2) H1378 fun z1386b z1386l z1386c =>
 ldL i1382 (k1383 + 3) H1378 fun z1387b z1387l z1387c =>
 wCall Try.prog 29 [(.agg #[(.int .i64 n1384), (.string t1385), (.slice z1386b z1386l z1386c), (.slice z1387b z1387l z1387c)])] H1378 (fun r1388 H1389 =>
 opB r1388 fun b1392 =>
 wCall Try.prog 25 [(.string t25), (.int .i64 n26), (.string t1381), (.bool b1392)] H1389 (fun r1393 H1394 =>
 opB r1393 fun b1397 =>
 wIf b1397
 (wPt s5 fun i1398 k1399 =>
 ldL i1398 (k1399 + 6) H1394 fun z1400b z1400l z1400c =>
 wIf (decide ((z1400l : Int) > 4096))
 (wIf (decide (n42 = 4))
 (((R (.ret (.bool true)) H1394) ∧
 (R (.ret (.bool true)) H1394)) ∧
 (R (.ret (.bool true)) H1394))
 ((wPt s5 fun i1401 k1402 =>
 ldI .i64 i1401 k1402 H1394 fun n1403 =>
 ldS i1401 (k1402 + 1) H1394 fun t1404 =>
 ldS i1401 (k1402 + 2) H1394 fun t1405 =>
 ldI .i64 i1401 (k1402 + 3) H1394 fun n1406 =>
 ldL i1401 (k1402 + 4) H1394 fun z1407b z1407l z1407c =>
 ldL i1401 (k1402 + 5) H1394 fun z1408b z1408l z1408c =>
 ldL i1401 (k1402 + 6) H1394 fun z1409b z1409l z1409c =>
 (wCall Try.prog 30 [(.agg #[(.int .i64 n1403), (.string t1404), (.string t1405), (.int .i64 n1406), (.slice z1407b z1407l z1407c), (.slice z1408b z1408l z1408c), (.slice z1409b z1409l z1409c)])] H1394 (fun r1410 H1411 =>
 opS r1410 fun t1414 =>
 wPt s5 fun i1415 k1416 =>
 ldI .i64 i1415 k1416 H1411 fun n1417 =>
 ldS i1415 (k1416 + 1) H1411 fun t1418 =>
 ldS i1415 (k1416 + 2) H1411 fun t1419 =>
 ldI .i64 i1415 (k1416 + 3) H1411 fun n1420 =>
 ldL i1415 (k1416 + 4) H1411 fun z1421b z1421l z1421c =>
 ldL i1415 (k1416 + 5) H1411 fun z1422b z1422l z1422c =>
 ldL i1415 (k1416 + 6) H1411 fun z1423b z1423l z1423c =>
 wCall Try.prog 31 [(.agg #[(.int .i64 n1417), (.string t1418), (.string t1419), (.int .i64 n1420), (.slice z1421b z1421l z1421c), (.slice z1422b z1422l z1422c), (.slice z1423b z1423l z1423c)])] H1411 (fun r1424 H1425 =>
 opB r1424 fun b1428 =>
 wCall Try.prog 25 [(.string t41), (.int .i64 n42), (.string t1414), (.bool b1428)] H1425 (fun r1429 H1430 =>
 opB r1429 fun b1433 =>
 R (.ret (.bool b1433)) H1430) (fun v1432 H1431 => R (.panic v1432) H1431)) (fun v1427 H1426 => R (.panic v1427) H1426)) (fun v1413 H1412 => R (.panic v1413) H1412)) ∧
 (wPt s5 fun i1434 k1435 =>
 ldI .i64 i1434 k1435 H1394 fun n1436 =>
 ldS i1434 (k1435 + 1) H1394 fun t1437 =>
 ldS i1434 (k1435 + 2) H1394 fun t1438 =>
 ldI .i64 i1434 (k1435 + 3) H1394 fun n1439 =>
 ldL i1434 (k1435 + 4) H1394 fun z1440b z1440l z1440c =>
 ldL i1434 (k1435 + 5) H1394 fun z1441b z1441l z1441c =>
 ldL i1434 (k1435 + 6) H1394 fun z1442b z1442l z1442c =>
 wCall Try.prog 30 [(.agg #[(.int .i64 n1403), (.string t1404), (.string t1405), (.int .i64 n1406), (.slice z1407b z1407l z1407c), (.slice z1408b z1408l z1408c), (.slice z1409b z1409l z1409c)])] H1394 (fun r1443 H1444 =>
 opS r1443 fun t1447 =>
 wCall Try.prog 31 [(.agg #[(.int .i64 n1436), (.string t1437), (.string t1438), (.int .i64 n1439), (.slice z1440b z1440l z1440c), (.slice z1441b z1441l z1441c), (.slice z1442b z1442l z1442c)])] H1444 (fun r1448 H1449 =>
 opB r1448 fun b1452 =>
 wCall Try.prog 25 [(.string t41), (.int .i64 n42), (.string t1447), (.bool b1452)] H1449 (fun r1453 H1454 =>
 opB r1453 fun b1457 =>
 R (.ret (.bool b1457)) H1454) (fun v1456 H1455 => R (.panic v1456) H1455)) (fun v1451 H1450 => R (.panic v1451) H1450)) (fun v1446 H1445 => R (.panic v1446) H1445))) ∧
 (wPt s5 fun i1458 k1459 =>
 ldI .i64 i1458 k1459 H1394 fun n1460 =>
 ldS i1458 (k1459 + 1) H1394 fun t1461 =>
 ldS i1458 (k1459 + 2) H1394 fun t1462 =>
 ldI .i64 i1458 (k1459 + 3) H1394 fun n1463 =>
 ldL i1458 (k1459 + 4) H1394 fun z1464b z1464l z1464c =>
 ldL i1458 (k1459 + 5) H1394 fun z1465b z1465l z1465c =>
 ldL i1458 (k1459 + 6) H1394 fun z1466b z1466l z1466c =>
 wPt s5 fun i1467 k1468 =>
 ldI .i64 i1467 k1468 H1394 fun n1469 =>
 ldS i1467 (k1468 + 1) H1394 fun t1470 =>
 ldS i1467 (k1468 + 2) H1394 fun t1471 =>
 ldI .i64 i1467 (k1468 + 3) H1394 fun n1472 =>
 ldL i1467 (k1468 + 4) H1394 fun z1473b z1473l z1473c =>
 ldL i1467 (k1468 + 5) H1394 fun z1474b z1474l z1474c =>
 ldL i1467 (k1468 + 6) H1394 fun z1475b z1475l z1475c =>
 wCall Try.prog 30 [(.agg #[(.int .i64 n1469), (.string t1470), (.string t1471), (.int .i64 n1472), (.slice z1473b z1473l z1473c), (.slice z1474b z1474l z1474c), (.slice z1475b z1475l z1475c)])] H1394 (fun r1476 H1477 =>
 opS r1476 fun t1480 =>
 wCall Try.prog 31 [(.agg #[(.int .i64 n1460), (.string t1461), (.string t1462), (.int .i64 n1463), (.slice z1464b z1464l z1464c), (.slice z1465b z1465l z1465c), (.slice z1466b z1466l z1466c)])] H1477 (fun r1481 H1482 =>
 opB r1481 fun b1485 =>
 wCall Try.prog 25 [(.string t41), (.int .i64 n42), (.string t1480), (.bool b1485)] H1482 (fun r1486 H1487 =>
 opB r1486 fun b1490 =>
 R (.ret (.bool b1490)) H1487) (fun v1489 H1488 => R (.panic v1489) H1488)) (fun v1484 H1483 => R (.panic v1484) H1483)) (fun v1479 H1478 => R (.panic v1479) H1478))))
 ((wPt s5 fun i1491 k1492 =>
 ldI .i64 i1491 k1492 H1394 fun n1493 =>
 ldS i1491 (k1492 + 1) H1394 fun t1494 =>
 ldS i1491 (k1492 + 2) H1394 fun t1495 =>
 ldI .i64 i1491 (k1492 + 3) H1394 fun n1496 =>
 ldL i1491 (k1492 + 4) H1394 fun z1497b z1497l z1497c =>
 ldL i1491 (k1492 + 5) H1394 fun z1498b z1498l z1498c =>
 ldL i1491 (k1492 + 6) H1394 fun z1499b z1499l z1499c =>
 (wCall Try.prog 30 [(.agg #[(.int .i64 n1493), (.string t1494), (.string t1495), (.int .i64 n1496), (.slice z1497b z1497l z1497c), (.slice z1498b z1498l z1498c), (.slice z1499b z1499l z1499c)])] H1394 (fun r1500 H1501 =>
 opS r1500 fun t1504 =>
 wPt s5 fun i1505 k1506 =>
 ldI .i64 i1505 k1506 H1501 fun n1507 =>
 ldS i1505 (k1506 + 1) H1501 fun t1508 =>
 ldS i1505 (k1506 + 2) H1501 fun t1509 =>
 ldI .i64 i1505 (k1506 + 3) H1501 fun n1510 =>
 ldL i1505 (k1506 + 4) H1501 fun z1511b z1511l z1511c =>
 ldL i1505 (k1506 + 5) H1501 fun z1512b z1512l z1512c =>
 ldL i1505 (k1506 + 6) H1501 fun z1513b z1513l z1513c =>
 wCall Try.prog 31 [(.agg #[(.int .i64 n1507), (.string t1508), (.string t1509), (.int .i64 n1510), (.slice z1511b z1511l z1511c), (.slice z1512b z1512l z1512c), (.slice z1513b z1513l z1513c)])] H1501 (fun r1514 H1515 =>
 opB r1514 fun b1518 =>
 wCall Try.prog 25 [(.string t41), (.int .i64 n42), (.string t1504), (.bool b1518)] H1515 (fun r1519 H1520 =>
 opB r1519 fun b1523 =>
 R (.ret (.bool b1523)) H1520) (fun v1522 H1521 => R (.panic v1522) H1521)) (fun v1517 H1516 => R (.panic v1517) H1516)) (fun v1503 H1502 => R (.panic v1503) H1502)) ∧
 (wPt s5 fun i1524 k1525 =>
 ldI .i64 i1524 k1525 H1394 fun n1526 =>
 ldS i1524 (k1525 + 1) H1394 fun t1527 =>
 ldS i1524 (k1525 + 2) H1394 fun t1528 =>
 ldI .i64 i1524 (k1525 + 3) H1394 fun n1529 =>
 ldL i1524 (k1525 + 4) H1394 fun z1530b z1530l z1530c =>
 ldL i1524 (k1525 + 5) H1394 fun z1531b z1531l z1531c =>
 ldL i1524 (k1525 + 6) H1394 fun z1532b z1532l z1532c =>
 wCall Try.prog 30 [(.agg #[(.int .i64 n1493), (.string t1494), (.string t1495), (.int .i64 n1496), (.slice z1497b z1497l z1497c), (.slice z1498b z1498l z1498c), (.slice z1499b z1499l z1499c)])] H1394 (fun r1533 H1534 =>
 opS r1533 fun t1537 =>
 wCall Try.prog 31 [(.agg #[(.int .i64 n1526), (.string t1527), (.string t1528), (.int .i64 n1529), (.slice z1530b z1530l z1530c), (.slice z1531b z1531l z1531c), (.slice z1532b z1532l z1532c)])] H1534 (fun r1538 H1539 =>
 opB r1538 fun b1542 =>
 wCall Try.prog 25 [(.string t41), (.int .i64 n42), (.string t1537), (.bool b1542)] H1539 (fun r1543 H1544 =>
 opB r1543 fun b1547 =>
 R (.ret (.bool b1547)) H1544) (fun v1546 H1545 => R (.panic v1546) H1545)) (fun v1541 H1540 => R (.panic v1541) H1540)) (fun v1536 H1535 => R (.panic v1536) H1535))) ∧
 (wPt s5 fun i1548 k1549 =>
 ldI .i64 i1548 k1549 H1394 fun n1550 =>
 ldS i1548 (k1549 + 1) H1394 fun t1551 =>
 ldS i1548 (k1549 + 2) H1394 fun t1552 =>
 ldI .i64 i1548 (k1549 + 3) H1394 fun n1553 =>
 ldL i1548 (k1549 + 4) H1394 fun z1554b z1554l z1554c =>
 ldL i1548 (k1549 + 5) H1394 fun z1555b z1555l z1555c =>
 ldL i1548 (k1549 + 6) H1394 fun z1556b z1556l z1556c =>
 wPt s5 fun i1557 k1558 =>
 ldI .i64 i1557 k1558 H1394 fun n1559 =>
 ldS i1557 (k1558 + 1) H1394 fun t1560 =>
 ldS i1557 (k1558 + 2) H1394 fun t1561 =>
 ldI .i64 i1557 (k1558 + 3) H1394 fun n1562 =>
 ldL i1557 (k1558 + 4) H1394 fun z1563b z1563l z1563c =>
 ldL i1557 (k1558 + 5) H1394 fun z1564b z1564l z1564c =>
 ldL i1557 (k1558 + 6) H1394 fun z1565b z1565l z1565c =>
 wCall Try.prog 30 [(.agg #[(.int .i64 n1559), (.string t1560), (.string t1561), (.int .i64 n1562), (.slice z1563b z1563l z1563c), (.slice z1564b z1564l z1564c), (.slice z1565b z1565l z1565c)])] H1394 (fun r1566 H1567 =>
 opS r1566 fun t1570 =>
 wCall Try.prog 31 [(.agg #[(.int .i64 n1550), (.string t1551), (.string t1552), (.int .i64 n1553), (.slice z1554b z1554l z1554c), (.slice z1555b z1555l z1555c), (.slice z1556b z1556l z1556c)])] H1567 (fun r1571 H1572 =>
 opB r1571 fun b1575 =>
 wCall Try.prog 25 [(.string t41), (.int .i64 n42), (.string t1570), (.bool b1575)] H1572 (fun r1576 H1577 =>
 opB r1576 fun b1580 =>
 R (.ret (.bool b1580)) H1577) (fun v1579 H1578 => R (.panic v1579) H1578)) (fun v1574 H1573 => R (.panic v1574) H1573)) (fun v1569 H1568 => R (.panic v1569) H1568))))
 (((R (.ret (.bool false)) H1394) ∧
 (R (.ret (.bool false)) H1394)) ∧
 (R (.ret (.bool false)) H1394))) (fun v1396 H1395 => R (.panic v1396) H1395)) (fun v1391 H1390 => R (.panic v1391) H1390)) (fun v1380 H1379 => R (.panic v1380) H1379)) ∧
 (wPt s4 fun i1581 k1582 =>
 ldI .i64 i1581 k1582 H1367 fun n1583 =>
 ldS i1581 (k1582 + 1) H1367 fun t1584 =>
 ldL i1581 (k1582 + 2) H1367 fun z1585b z1585l z1585c =>
 ldL i1581 (k1582 + 3) H1367 fun z1586b z1586l z1586c =>
 wCall Try.prog 28 [(.agg #[(.int .i64 n1373), (.string t1374), (.slice z1375b z1375l z1375c), (.slice z1376b z1376l z1376c)])] H1367 (fun r1587 H1588 =>
 opS r1587 fun t1591 =>
 wCall Try.prog 29 [(.agg #[(.int .i64 n1583), (.string t1584), (.slice z1585b z1585l z1585c), (.slice z1586b z1586l z1586c)])] H1588 (fun r1592 H1593 =>
 opB r1592 fun b1596 =>
 wCall Try.prog 25 [(.string t25), (.int .i64 n26), (.string t1591), (.bool b1596)] H1593 (fun r1597 H1598 =>
 opB r1597 fun b1601 =>
 wIf b1601
 (wPt s5 fun i1602 k1603 =>
 ldL i1602 (k1603 + 6) H1598 fun z1604b z1604l z1604c =>
 wIf (decide ((z1604l : Int) > 4096))
 (wIf (decide (n42 = 4))
 (((R (.ret (.bool true)) H1598) ∧
 (R (.ret (.bool true)) H1598)) ∧
 (R (.ret (.bool true)) H1598))
 ((wPt s5 fun i1605 k1606 =>
 ldI .i64 i1605 k1606 H1598 fun n1607 =>
 ldS i1605 (k1606 + 1) H1598 fun t1608 =>
 ldS i1605 (k1606 + 2) H1598 fun t1609 =>
 ldI .i64 i1605 (k1606 + 3) H1598 fun n1610 =>
 ldL i1605 (k1606 + 4) H1598 fun z1611b z1611l z1611c =>
 ldL i1605 (k1606 + 5) H1598 fun z1612b z1612l z1612c =>
 ldL i1605 (k1606 + 6) H1598 fun z1613b z1613l z1613c =>
 (wCall Try.prog 30 [(.agg #[(.int .i64 n1607), (.string t1608), (.string t1609), (.int .i64 n1610), (.slice z1611b z1611l z1611c), (.slice z1612b z1612l z1612c), (.slice z1613b z1613l z1613c)])] H1598 (fun r1614 H1615 =>
 opS r1614 fun t1618 =>
 wPt s5 fun i1619 k1620 =>
 ldI .i64 i1619 k1620 H1615 fun n1621 =>
 ldS i1619 (k1620 + 1) H1615 fun t1622 =>
 ldS i1619 (k1620 + 2) H1615 fun t1623 =>
 ldI .i64 i1619 (k1620 + 3) H1615 fun n1624 =>
 ldL i1619 (k1620 + 4) H1615 fun z1625b z1625l z1625c =>
 ldL i1619 (k1620 + 5) H1615 fun z1626b z1626l z1626c =>
 ldL i1619 (k1620 + 6) H1615 fun z1627b z1627l z1627c =>
 wCall Try.prog 31 [(.agg #[(.int .i64 n1621), (.string t1622), (.string t1623), (.int .i64 n1624), (.slice z1625b z1625l z1625c), (.slice z1626b z1626l z1626c), (.slice z1627b z1627l z1627c)])] H1615 (fun r1628 H1629 =>
 opB r1628 fun b1632 =>
 wCall Try.prog 25 [(.string t41), (.int .i64 n42), (.string t1618), (.bool b1632)] H1629 (fun r1633 H1634 =>
 opB r1633 fun b1637 =>
 R (.ret (.bool b1637)) H1634) (fun v1636 H1635 => R (.panic v1636) H1635)) (fun v1631 H1630 => R (.panic v1631) H1630)) (fun v1617 H1616 => R (.panic v1617) H1616)) ∧
 (wPt s5 fun i1638 k1639 =>
 ldI .i64 i1638 k1639 H1598 fun n1640 =>
 ldS i1638 (k1639 + 1) H1598 fun t1641 =>
 ldS i1638 (k1639 + 2) H1598 fun t1642 =>
 ldI .i64 i1638 (k1639 + 3) H1598 fun n1643 =>
 ldL i1638 (k1639 + 4) H1598 fun z1644b z1644l z1644c =>
 ldL i1638 (k1639 + 5) H1598 fun z1645b z1645l z1645c =>
 ldL i1638 (k1639 + 6) H1598 fun z1646b z1646l z1646c =>
 wCall Try.prog 30 [(.agg #[(.int .i64 n1607), (.string t1608), (.string t1609), (.int .i64 n1610), (.slice z1611b z1611l z1611c), (.slice z1612b z1612l z1612c), (.slice z1613b z1613l z1613c)])] H1598 (fun r1647 H1648 =>
 opS r1647 fun t1651 =>
 wCall Try.prog 31 [(.agg #[(.int .i64 n1640), (.string t1641), (.string t1642), (.int .i64 n1643), (.slice z1644b z1644l z1644c), (.slice z1645b z1645l z1645c), (.slice z1646b z1646l z1646c)])] H1648 (fun r1652 H1653 =>
 opB r1652 fun b1656 =>
 wCall Try.prog 25 [(.string t41), (.int .i64 n42), (.string t1651), (.bool b1656)] H1653 (fun r1657 H1658 =>
 opB r1657 fun b1661 =>
 R (.ret (.bool b1661)) H1658) (fun v1660 H1659 => R (.panic v1660) H1659)) (fun v1655 H1654 => R (.panic v1655) H1654)) (fun v1650 H1649 => R (.panic v1650) H1649))) ∧
 (wPt s5 fun i1662 k1663 =>
 ldI .i64 i1662 k1663 H1598 fun n1664 =>
 ldS i1662 (k1663 + 1) H1598 fun t1665 =>
 ldS i1662 (k1663 + 2) H1598 fun t1666 =>
 ldI .i64 i1662 (k1663 + 3) H1598 fun n1667 =>
 ldL i1662 (k1663 + 4) H1598 fun z1668b z1668l z1668c =>
 ldL i1662 (k1663 + 5) H1598 fun z1669b z1669l z1669c =>
 ldL i1662 (k1663 + 6) H1598 fun z1670b z1670l z1670c =>
 wPt s5 fun i1671 k1672 =>
 ldI .i64 i1671 k1672 H1598 fun n1673 =>
 ldS i1671 (k1672 + 1) H1598 fun t1674 =>
 ldS i1671 (k1672 + 2) H1598 fun t1675 =>
 ldI .i64 i1671 (k1672 + 3) H1598 fun n1676 =>
 ldL i1671 (k1672 + 4) H1598 fun z1677b z1677l z1677c =>
 ldL i1671 (k1672 + 5) H1598 fun z1678b z1678l z1678c =>
 ldL i1671 (k1672 + 6) H1598 fun z1679b z1679l z1679c =>
 wCall Try.prog 30 [(.agg #[(.int .i64 n1673), (.string t1674), (.string t1675), (.int .i64 n1676), (.slice z1677b z1677l z1677c), (.slice z1678b z1678l z1678c), (.slice z1679b z1679l z1679c)])] H1598 (fun r1680 H1681 =>
 opS r1680 fun t1684 =>
 wCall Try.prog 31 [(.agg #[(.int .i64 n1664), (.string t1665), (.string t1666), (.int .i64 n1667), (.slice z1668b z1668l z1668c), (.slice z1669b z1669l z1669c), (.slice z1670b z1670l z1670c)])] H1681 (fun r1685 H1686 =>
 opB r1685 fun b1689 =>
 wCall Try.prog 25 [(.string t41), (.int .i64 n42), (.string t1684), (.bool b1689)] H1686 (fun r1690 H1691 =>
 opB r1690 fun b1694 =>
 R (.ret (.bool b1694)) H1691) (fun v1693 H1692 => R (.panic v1693) H1692)) (fun v1688 H1687 => R (.panic v1688) H1687)) (fun v1683 H1682 => R (.panic v1683) H1682))))
 ((wPt s5 fun i1695 k1696 =>
 ldI .i64 i1695 k1696 H1598 fun n1697 =>
 ldS i1695 (k1696 + 1) H1598 fun t1698 =>
 ldS i1695 (k1696 + 2) H1598 fun t1699 =>
 ldI .i64 i1695 (k1696 + 3) H1598 fun n1700 =>
 ldL i1695 (k1696 + 4) H1598 fun z1701b z1701l z1701c =>
 ldL i1695 (k1696 + 5) H1598 fun z1702b z1702l z1702c =>
 ldL i1695 (k1696 + 6) H1598 fun z1703b z1703l z1703c =>
 (wCall Try.prog 30 [(.agg #[(.int .i64 n1697), (.string t1698), (.string t1699), (.int .i64 n1700), (.slice z1701b z1701l z1701c), (.slice z1702b z1702l z1702c), (.slice z1703b z1703l z1703c)])] H1598 (fun r1704 H1705 =>
 opS r1704 fun t1708 =>
 wPt s5 fun i1709 k1710 =>
 ldI .i64 i1709 k1710 H1705 fun n1711 =>
 ldS i1709 (k1710 + 1) H1705 fun t1712 =>
 ldS i1709 (k1710 + 2) H1705 fun t1713 =>
 ldI .i64 i1709 (k1710 + 3) H1705 fun n1714 =>
 ldL i1709 (k1710 + 4) H1705 fun z1715b z1715l z1715c =>
 ldL i1709 (k1710 + 5) H1705 fun z1716b z1716l z1716c =>
 ldL i1709 (k1710 + 6) H1705 fun z1717b z1717l z1717c =>
 wCall Try.prog 31 [(.agg #[(.int .i64 n1711), (.string t1712), (.string t1713), (.int .i64 n1714), (.slice z1715b z1715l z1715c), (.slice z1716b z1716l z1716c), (.slice z1717b z1717l z1717c)])] H1705 (fun r1718 H1719 =>
 opB r1718 fun b1722 =>
 wCall Try.prog 25 [(.string t41), (.int .i64 n42), (.string t1708), (.bool b1722)] H1719 (fun r1723 H1724 =>
 opB r1723 fun b1727 =>
 R (.ret (.bool b1727)) H1724) (fun v1726 H1725 => R (.panic v1726) H1725)) (fun v1721 H1720 => R (.panic v1721) H1720)) (fun v1707 H1706 => R (.panic v1707) H1706)) ∧
 (wPt s5 fun i1728 k1729 =>
 ldI .i64 i1728 k1729 H1598 fun n1730 =>
 ldS i1728 (k1729 + 1) H1598 fun t1731 =>
 ldS i1728 (k1729 + 2) H1598 fun t1732 =>
 ldI .i64 i1728 (k1729 + 3) H1598 fun n1733 =>
 ldL i1728 (k1729 + 4) H1598 fun z1734b z1734l z1734c =>
 ldL i1728 (k1729 + 5) H1598 fun z1735b z1735l z1735c =>
 ldL i1728 (k1729 + 6) H1598 fun z1736b z1736l z1736c =>
 wCall Try.prog 30 [(.agg #[(.int .i64 n1697), (.string t1698), (.string t1699), (.int .i64 n1700), (.slice z1701b z1701l z1701c), (.slice z1702b z1702l z1702c), (.slice z1703b z1703l z1703c)])] H1598 (fun r1737 H1738 =>
 opS r1737 fun t1741 =>
 wCall Try.prog 31 [(.agg #[(.int .i64 n1730), (.string t1731), (.string t1732), (.int .i64 n1733), (.slice z1734b z1734l z1734c), (.slice z1735b z1735l z1735c), (.slice z1736b z1736l z1736c)])] H1738 (fun r1742 H1743 =>
 opB r1742 fun b1746 =>
 wCall Try.prog 25 [(.string t41), (.int .i64 n42), (.string t1741), (.bool b1746)] H1743 (fun r1747 H1748 =>
 opB r1747 fun b1751 =>
 R (.ret (.bool b1751)) H1748) (fun v1750 H1749 => R (.panic v1750) H1749)) (fun v1745 H1744 => R (.panic v1745) H1744)) (fun v1740 H1739 => R (.panic v1740) H1739))) ∧
 (wPt s5 fun i1752 k1753 =>
 ldI .i64 i1752 k1753 H1598 fun n1754 =>
 ldS i1752 (k1753 + 1) H1598 fun t1755 =>
 ldS i1752 (k1753 + 2) H1598 fun t1756 =>
 ldI .i64 i1752 (k1753 + 3) H1598 fun n1757 =>
 ldL i1752 (k1753 + 4) H1598 fun z1758b z1758l z1758c =>
 ldL i1752 (k1753 + 5) H1598 fun z1759b z1759l z1759c =>
 ldL i1752 (k1753 + 6) H1598 fun z1760b z1760l z1760c =>
 wPt s5 fun i1761 k1762 =>
 ldI .i64 i1761 k1762 H1598 fun n1763 =>
 ldS i1761 (k1762 + 1) H1598 fun t1764 =>
 ldS i1761 (k1762 + 2) H1598 fun t1765 =>
 ldI .i64 i1761 (k1762 + 3) H1598 fun n1766 =>
 ldL i1761 (k1762 + 4) H1598 fun z1767b z1767l z1767c =>
 ldL i1761 (k1762 + 5) H1598 fun z1768b z1768l z1768c =>
 ldL i1761 (k1762 + 6) H1598 fun z1769b z1769l z1769c =>
 wCall Try.prog 30 [(.agg #[(.int .i64 n1763), (.string t1764), (.string t1765), (.int .i64 n1766), (.slice z1767b z1767l z1767c), (.slice z1768b z1768l z1768c), (.slice z1769b z1769l z1769c)])] H1598 (fun r1770 H1771 =>
 opS r1770 fun t1774 =>
 wCall Try.prog 31 [(.agg #[(.int .i64 n1754), (.string t1755), (.string t1756), (.int .i64 n1757), (.slice z1758b z1758l z1758c), (.slice z1759b z1759l z1759c), (.slice z1760b z1760l z1760c)])] H1771 (fun r1775 H1776 =>
 opB r1775 fun b1779 =>
 wCall Try.prog 25 [(.string t41), (.int .i64 n42), (.string t1774), (.bool b1779)] H1776 (fun r1780 H1781 =>
 opB r1780 fun b1784 =>
 R (.ret (.bool b1784)) H1781) (fun v1783 H1782 => R (.panic v1783) H1782)) (fun v1778 H1777 => R (.panic v1778) H1777)) (fun v1773 H1772 => R (.panic v1773) H1772))))
 (((R (.ret (.bool false)) H1598) ∧
 (R (.ret (.bool false)) H1598)) ∧
 (R (.ret (.bool false)) H1598))) (fun v1600 H1599 => R (.panic v1600) H1599)) (fun v1595 H1594 => R (.panic v1595) H1594)) (fun v1590 H1589 => R (.panic v1590) H1589))) ∧
 (wPt s4 fun i1785 k1786 =>
 ldI .i64 i1785 k1786 H1367 fun n1787 =>
 ldS i1785 (k1786 + 1) H1367 fun t1788 =>
 ldL i1785 (k1786 + 2) H1367 fun z1789b z1789l z1789c =>
 ldL i1785 (k1786 + 3) H1367 fun z1790b z1790l z1790c =>
 wPt s4 fun i1791 k1792 =>
 ldI .i64 i1791 k1792 H1367 fun n1793 =>
 ldS i1791 (k1792 + 1) H1367 fun t1794 =>
 ldL i1791 (k1792 + 2) H1367 fun z1795b z1795l z1795c =>
 ldL i1791 (k1792 + 3) H1367 fun z1796b z1796l z1796c =>
 wCall Try.prog 28 [(.agg #[(.int .i64 n1793), (.string t1794), (.slice z1795b z1795l z1795c), (.slice z1796b z1796l z1796c)])] H1367 (fun r1797 H1798 =>
 opS r1797 fun t1801 =>
 wCall Try.prog 29 [(.agg #[(.int .i64 n1787), (.string t1788), (.slice z1789b z1789l z1789c), (.slice z1790b z1790l z1790c)])] H1798 (fun r1802 H1803 =>
 opB r1802 fun b1806 =>
 wCall Try.prog 25 [(.string t25), (.int .i64 n26), (.string t1801), (.bool b1806)] H1803 (fun r1807 H1808 =>
 opB r1807 fun b1811 =>
 wIf b1811
 (wPt s5 fun i1812 k1813 =>
 ldL i1812 (k1813 + 6) H1808 fun z1814b z1814l z1814c =>
 wIf (decide ((z1814l : Int) > 4096))
 (wIf (decide (n42 = 4))
 (((R (.ret (.bool true)) H1808) ∧
 (R (.ret (.bool true)) H1808)) ∧
 (R (.ret (.bool true)) H1808))
 ((wPt s5 fun i1815 k1816 =>
 ldI .i64 i1815 k1816 H1808 fun n1817 =>
 ldS i1815 (k1816 + 1) H1808 fun t1818 =>
 ldS i1815 (k1816 + 2) H1808 fun t1819 =>
 ldI .i64 i1815 (k1816 + 3) H1808 fun n1820 =>
 ldL i1815 (k1816 + 4) H1808 fun z1821b z1821l z1821c =>
 ldL i1815 (k1816 + 5) H1808 fun z1822b z1822l z1822c =>
 ldL i1815 (k1816 + 6) H1808 fun z1823b z1823l z1823c =>
 (wCall Try.prog 30 [(.agg #[(.int .i64 n1817), (.string t1818), (.string t1819), (.int .i64 n1820), (.slice z1821b z1821l z1821c), (.slice z1822b z1822l z1822c), (.slice z1823b z1823l z1823c)])] H1808 (fun r1824 H1825 =>
 opS r1824 fun t1828 =>
 wPt s5 fun i1829 k1830 =>
 ldI .i64 i1829 k1830 H1825 fun n1831 =>
 ldS i1829 (k1830 + 1) H1825 fun t1832 =>
 ldS i1829 (k1830 + 2) H1825 fun t1833 =>
 ldI .i64 i1829 (k1830 + 3) H1825 fun n1834 =>
 ldL i1829 (k1830 + 4) H1825 fun z1835b z1835l z1835c =>
 ldL i1829 (k1830 + 5) H1825 fun z1836b z1836l z1836c =>
 ldL i1829 (k1830 + 6) H1825 fun z1837b z1837l z1837c =>
 wCall Try.prog 31 [(.agg #[(.int .i64 n1831), (.string t1832), (.string t1833), (.int .i64 n1834), (.slice z1835b z1835l z1835c), (.slice z1836b z1836l z1836c), (.slice z1837b z1837l z1837c)])] H1825 (fun r1838 H1839 =>
 opB r1838 fun b1842 =>
 wCall Try.prog 25 [(.string t41), (.int .i64 n42), (.string t1828), (.bool b1842)] H1839 (fun r1843 H1844 =>
 opB r1843 fun b1847 =>
 R (.ret (.bool b1847)) H1844) (fun v1846 H1845 => R (.panic v1846) H1845)) (fun v1841 H1840 => R (.panic v1841) H1840)) (fun v1827 H1826 => R (.panic v1827) H1826)) ∧
 (wPt s5 fun i1848 k1849 =>
 ldI .i64 i1848 k1849 H1808 fun n1850 =>
 ldS i1848 (k1849 + 1) H1808 fun t1851 =>
 ldS i1848 (k1849 + 2) H1808 fun t1852 =>
 ldI .i64 i1848 (k1849 + 3) H1808 fun n1853 =>
 ldL i1848 (k1849 + 4) H1808 fun z1854b z1854l z1854c =>
 ldL i1848 (k1849 + 5) H1808 fun z1855b z1855l z1855c =>
 ldL i1848 (k1849 + 6) H1808 fun z1856b z1856l z1856c =>
 wCall Try.prog 30 [(.agg #[(.int .i64 n1817), (.string t1818), (.string t1819), (.int .i64 n1820), (.slice z1821b z1821l z1821c), (.slice z1822b z1822l z1822c), (.slice z1823b z1823l z1823c)])] H1808 (fun r1857 H1858 =>
 opS r1857 fun t1861 =>
 wCall Try.prog 31 [(.agg #[(.int .i64 n1850), (.string t1851), (.string t1852), (.int .i64 n1853), (.slice z1854b z1854l z1854c), (.slice z1855b z1855l z1855c), (.slice z1856b z1856l z1856c)])] H1858 (fun r1862 H1863 =>
 opB r1862 fun b1866 =>
 wCall Try.prog 25 [(.string t41), (.int .i64 n42), (.string t1861), (.bool b1866)] H1863 (fun r1867 H1868 =>
 opB r1867 fun b1871 =>
 R (.ret (.bool b1871)) H1868) (fun v1870 H1869 => R (.panic v1870) H1869)) (fun v1865 H1864 => R (.panic v1865) H1864)) (fun v1860 H1859 => R (.panic v1860) H1859))) ∧
 (wPt s5 fun i1872 k1873 =>
 ldI .i64 i1872 k1873 H1808 fun n1874 =>
 ldS i1872 (k1873 + 1) H1808 fun t1875 =>
 ldS i1872 (k1873 + 2) H1808 fun t1876 =>
 ldI .i64 i1872 (k1873 + 3) H1808 fun n1877 =>
 ldL i1872 (k1873 + 4) H1808 fun z1878b z1878l z1878c =>
 ldL i1872 (k1873 + 5) H1808 fun z1879b z1879l z1879c =>
 ldL i1872 (k1873 + 6) H1808 fun z1880b z1880l z1880c =>
 wPt s5 fun i1881 k1882 =>
 ldI .i64 i1881 k1882 H1808 fun n1883 =>
 ldS i1881 (k1882 + 1) H1808 fun t1884 =>
 ldS i1881 (k1882 + 2) H1808 fun t1885 =>
 ldI .i64 i1881 (k1882 + 3) H1808 fun n1886 =>
 ldL i1881 (k1882 + 4) H1808 fun z1887b z1887l z1887c =>
 ldL i1881 (k1882 + 5) H1808 fun z1888b z1888l z1888c =>
 ldL i1881 (k1882 + 6) H1808 fun z1889b z1889l z1889c =>
 wCall Try.prog 30 [(.agg #[(.int .i64 n1883), (.string t1884), (.string t1885), (.int .i64 n1886), (.slice z1887b z1887l z1887c), (.slice z1888b z1888l z1888c), (.slice z1889b z1889l z1889c)])] H1808 (fun r1890 H1891 =>
 opS r1890 fun t1894 =>
 wCall Try.prog 31 [(.agg #[(.int .i64 n1874), (.string t1875), (.string t1876), (.int .i64 n1877), (.slice z1878b z1878l z1878c), (.slice z1879b z1879l z1879c), (.slice z1880b z1880l z1880c)])] H1891 (fun r1895 H1896 =>
 opB r1895 fun b1899 =>
 wCall Try.prog 25 [(.string t41), (.int .i64 n42), (.string t1894), (.bool b1899)] H1896 (fun r1900 H1901 =>
 opB r1900 fun b1904 =>
 R (.ret (.bool b1904)) H1901) (fun v1903 H1902 => R (.panic v1903) H1902)) (fun v1898 H1897 => R (.panic v1898) H1897)) (fun v1893 H1892 => R (.panic v1893) H1892))))
 ((wPt s5 fun i1905 k1906 =>
 ldI .i64 i1905 k1906 H1808 fun n1907 =>
 ldS i1905 (k1906 + 1) H1808 fun t1908 =>
 ldS i1905 (k1906 + 2) H1808 fun t1909 =>
 ldI .i64 i1905 (k1906 + 3) H1808 fun n1910 =>
 ldL i1905 (k1906 + 4) H1808 fun z1911b z1911l z1911c =>
 ldL i1905 (k1906 + 5) H1808 fun z1912b z1912l z1912c =>
 ldL i1905 (k1906 + 6) H1808 fun z1913b z1913l z1913c =>
 (wCall Try.prog 30 [(.agg #[(.int .i64 n1907), (.string t1908), (.string t1909), (.int .i64 n1910), (.slice z1911b z1911l z1911c), (.slice z1912b z1912l z1912c), (.slice z1913b z1913l z1913c)])] H1808 (fun r1914 H1915 =>
 opS r1914 fun t1918 =>
 wPt s5 fun i1919 k1920 =>
 ldI .i64 i1919 k1920 H1915 fun n1921 =>
 ldS i1919 (k1920 + 1) H1915 fun t1922 =>
 ldS i1919 (k1920 + 2) H1915 fun t1923 =>
 ldI .i64 i1919 (k1920 + 3) H1915 fun n1924 =>
 ldL i1919 (k1920 + 4) H1915 fun z1925b z1925l z1925c =>
 ldL i1919 (k1920 + 5) H1915 fun z1926b z1926l z1926c =>
 ldL i1919 (k1920 + 6) H1915 fun z1927b z1927l z1927c =>
 wCall Try.prog 31 [(.agg #[(.int .i64 n1921), (.string t1922), (.string t1923), (.int .i64 n1924), (.slice z1925b z1925l z1925c), (.slice z1926b z1926l z1926c), (.slice z1927b z1927l z1927c)])] H1915 (fun r1928 H1929 =>
 opB r1928 fun b1932 =>
 wCall Try.prog 25 [(.string t41), (.int .i64 n42), (.string t1918), (.bool b1932)] H1929 (fun r1933 H1934 =>
 opB r1933 fun b1937 =>
 R (.ret (.bool b1937)) H1934) (fun v1936 H1935 => R (.panic v1936) H1935)) (fun v1931 H1930 => R (.panic v1931) H1930)) (fun v1917 H1916 => R (.panic v1917) H1916)) ∧
 (wPt s5 fun i1938 k1939 =>
 ldI .i64 i1938 k1939 H1808 fun n1940 =>
 ldS i1938 (k1939 + 1) H1808 fun t1941 =>
 ldS i1938 (k1939 + 2) H1808 fun t1942 =>
 ldI .i64 i1938 (k1939 + 3) H1808 fun n1943 =>
 ldL i1938 (k1939 + 4) H1808 fun z1944b z1944l z1944c =>
 ldL i1938 (k1939 + 5) H1808 fun z1945b z1945l z1945c =>
 ldL i1938 (k1939 + 6) H1808 fun z1946b z1946l z1946c =>
 wCall Try.prog 30 [(.agg #[(.int .i64 n1907), (.string t1908), (.string t1909), (.int .i64 n1910), (.slice z1911b z1911l z1911c), (.slice z1912b z1912l z1912c), (.slice z1913b z1913l z1913c)])] H1808 (fun r1947 H1948 =>
 opS r1947 fun t1951 =>
 wCall Try.prog 31 [(.agg #[(.int .i64 n1940), (.string t1941), (.string t1942), (.int .i64 n1943), (.slice z1944b z1944l z1944c), (.slice z1945b z1945l z1945c), (.slice z1946b z1946l z1946c)])] H1948 (fun r1952 H1953 =>
 opB r1952 fun b1956 =>
 wCall Try.prog 25 [(.string t41), (.int .i64 n42), (.string t1951), (.bool b1956)] H1953 (fun r1957 H1958 =>
 opB r1957 fun b1961 =>
 R (.ret (.bool b1961)) H1958) (fun v1960 H1959 => R (.panic v1960) H1959)) (fun v1955 H1954 => R (.panic v1955) H1954)) (fun v1950 H1949 => R (.panic v1950) H1949))) ∧
 (wPt s5 fun i1962 k1963 =>
 ldI .i64 i1962 k1963 H1808 fun n1964 =>
 ldS i1962 (k1963 + 1) H1808 fun t1965 =>
 ldS i1962 (k1963 + 2) H1808 fun t1966 =>
 ldI .i64 i1962 (k1963 + 3) H1808 fun n1967 =>
 ldL i1962 (k1963 + 4) H1808 fun z1968b z1968l z1968c =>
 ldL i1962 (k1963 + 5) H1808 fun z1969b z1969l z1969c =>
 ldL i1962 (k1963 + 6) H1808 fun z1970b z1970l z1970c =>
 wPt s5 fun i1971 k1972 =>
 ldI .i64 i1971 k1972 H1808 fun n1973 =>
 ldS i1971 (k1972 + 1) H1808 fun t1974 =>
 ldS i1971 (k1972 + 2) H1808 fun t1975 =>
 ldI .i64 i1971 (k1972 + 3) H1808 fun n1976 =>
 ldL i1971 (k1972 + 4) H1808 fun z1977b z1977l z1977c =>
 ldL i1971 (k1972 + 5) H1808 fun z1978b z1978l z1978c =>
 ldL i1971 (k1972 + 6) H1808 fun z1979b z1979l z1979c =>
 wCall Try.prog 30 [(.agg #[(.int .i64 n1973), (.string t1974), (.string t1975), (.int .i64 n1976), (.slice z1977b z1977l z1977c), (.slice z1978b z1978l z1978c), (.slice z1979b z1979l z1979c)])] H1808 (fun r1980 H1981 =>
 opS r1980 fun t1984 =>
 wCall Try.prog 31 [(.agg #[(.int .i64 n1964), (.string t1965), (.string t1966), (.int .i64 n1967), (.slice z1968b z1968l z1968c), (.slice z1969b z1969l z1969c), (.slice z1970b z1970l z1970c)])] H1981 (fun r1985 H1986 =>
 opB r1985 fun b1989 =>
 wCall Try.prog 25 [(.string t41), (.int .i64 n42), (.string t1984), (.bool b1989)] H1986 (fun r1990 H1991 =>
 opB r1990 fun b1994 =>
 R (.ret (.bool b1994)) H1991) (fun v1993 H1992 => R (.panic v1993) H1992)) (fun v1988 H1987 => R (.panic v1988) H1987)) (fun v1983 H1982 => R (.panic v1983) H1982))))
 (((R (.ret (.bool false)) H1808) ∧
 (R (.ret (.bool false)) H1808)) ∧
 (R (.ret (.bool false)) H1808))) (fun v1810 H1809 => R (.panic v1810) H1809)) (fun v1805 H1804 => R (.panic v1805) H1804)) (fun v1800 H1799 => R (.panic v1800) H1799)))
 (((((R (.ret (.bool false)) H1367) ∧
 (R (.ret (.bool false)) H1367)) ∧
 (R (.ret (.bool false)) H1367)) ∧
 (((R (.ret (.bool false)) H1367) ∧
 (R (.ret (.bool false)) H1367)) ∧
 (R (.ret (.bool false)) H1367))) ∧
 (((R (.ret (.bool false)) H1367) ∧
 (R (.ret (.bool false)) H1367)) ∧
 (R (.ret (.bool false)) H1367)))) (fun v1369 H1368 => R (.panic v1369) H1368)) (fun v1364 H1363 => R (.panic v1364) H1363)) (fun v1359 H1358 => R (.panic v1359) H1358)))
 (((((((R (.ret (.bool false)) H44) ∧
 (R (.ret (.bool false)) H44)) ∧
 (R (.ret (.bool false)) H44)) ∧
 (((R (.ret (.bool false)) H44) ∧
 (R (.ret (.bool false)) H44)) ∧
 (R (.ret (.bool false)) H44))) ∧
 (((R (.ret (.bool false)) H44) ∧
 (R (.ret (.bool false)) H44)) ∧
 (R (.ret (.bool false)) H44))) ∧
 (((((R (.ret (.bool false)) H44) ∧
 (R (.ret (.bool false)) H44)) ∧
 (R (.ret (.bool false)) H44)) ∧
 (((R (.ret (.bool false)) H44) ∧
 (R (.ret (.bool false)) H44)) ∧
 (R (.ret (.bool false)) H44))) ∧
 (((R (.ret (.bool false)) H44) ∧
 (R (.ret (.bool false)) H44)) ∧
 (R (.ret (.bool false)) H44)))) ∧
 (((((R (.ret (.bool false)) H44) ∧
 (R (.ret (.bool false)) H44)) ∧
 (R (.ret (.bool false)) H44)) ∧
 (((R (.ret (.bool false)) H44) ∧
 (R (.ret (.bool false)) H44)) ∧
 (R (.ret (.bool false)) H44))) ∧
 (((R (.ret (.bool false)) H44) ∧
 (R (.ret (.bool false)) H44)) ∧
 (R (.ret (.bool false)) H44))))) (fun v46 H45 => R (.panic v46) H45)) (fun v39 H38 => R (.panic v39) H38)) (fun v23 H22 => R (.panic v23) H22)) (fun v10 H9 => R (.panic v10) H9)
theorem f5_J1_eq (s0 : Value) (s1 : Value) (s2 : Value) (s3 : Option Addr) (s4 : Option Addr) (s5 : Option Addr) (s6 : Value) (s7 : Value) (s8 : Value) (s9 : Value) (s10 : Value) (s11 : Value) (s12 : Value) (s13 : Value) (s14 : Value) (s15 : Value) (s16 : Value) (s17 : Value) (s18 : Value) (s19 : Value) (s20 : Value) (s21 : Value) (s22 : Value) (s23 : Value) (s24 : Value) (s25 : Value) (s26 : Value) (s27 : Value) (s28 : Value) (s29 : Value) (s30 : Value) (s31 : Value) (s32 : Value) (s33 : Value) (s34 : Value) (s35 : Value) (s36 : Value) (s37 : Value) (s38 : Value) (s39 : Value) (s40 : Value) (s41 : Value) (s42 : Value) (s43 : Value) (s44 : Value) (s45 : Value) (s46 : Value) (s47 : Value) (s48 : Value) (s49 : Value) (s50 : Value) (s51 : Value) (s52 : Value) (s53 : Value) (s54 : Value) (s55 : Value) (s56 : Value) (s57 : Value) (s58 : Value) (s59 : Value) (s60 : Value) (s61 : Value) (s62 : Value) (s63 : Value) (s64 : Value) (s65 : Value) (s66 : Value) (s67 : Value) (s68 : Value) (s69 : Value) (s70 : Value) (s71 : Value) (s72 : Value) (s73 : Value) (s74 : Value) (s75 : Value) (s76 : Value) (s77 : Value) (s78 : Value) (s79 : Value) (s80 : Value) (s81 : Value) (s82 : Value) (s83 : Value) (s84 : Value) (s85 : Value) (s86 : Value) (s87 : Value) (s88 : Value) (s89 : Value) (s90 : Value) (s91 : Value) (s92 : Value) (s93 : Value) (s94 : Value) (s95 : Value) (s96 : Value) (H : AH) (R : AEnd → AH → Prop) : f5_J1 R [s0, s1, s2, (.pointer s3), (.pointer s4), (.pointer s5), s6, s7, s8, s9, s10, s11, s12, s13, s14, s15, s16, s17, s18, s19, s20, s21, s22, s23, s24, s25, s26, s27, s28, s29, s30, s31, s32, s33, s34, s35, s36, s37, s38, s39, s40, s41, s42, s43, s44, s45, s46, s47, s48, s49, s50, s51, s52, s53, s54, s55, s56, s57, s58, s59, s60, s61, s62, s63, s64, s65, s66, s67, s68, s69, s70, s71, s72, s73, s74, s75, s76, s77, s78, s79, s80, s81, s82, s83, s84, s85, s86, s87, s88, s89, s90, s91, s92, s93, s94, s95, s96] H = f5_J1_B s3 s4 s5 H R := by kernel_rfl
-- join 0: live 3:C, 4:o, 5:d, 42:?
def f5_J0_B (s0 : Value) (s1 : Value) (s2 : Value) (s3 : Option Addr) (s4 : Option Addr) (s5 : Option Addr) (s6 : Value) (s7 : Value) (s8 : Value) (s9 : Value) (s10 : Value) (s11 : Value) (s12 : Value) (s13 : Value) (s14 : Value) (s15 : Value) (s16 : Value) (s17 : Value) (s18 : Value) (s19 : Value) (s20 : Value) (s21 : Value) (s22 : Value) (s23 : Value) (s24 : Value) (s25 : Value) (s26 : Value) (s27 : Value) (s28 : Value) (s29 : Value) (s30 : Value) (s31 : Value) (s32 : Value) (s33 : Value) (s34 : Value) (s35 : Value) (s36 : Value) (s37 : Value) (s38 : Value) (s39 : Value) (s40 : Value) (s41 : Value) (s42 : Bool) (s43 : Value) (s44 : Value) (s45 : Value) (s46 : Value) (s47 : Value) (s48 : Value) (s49 : Value) (s50 : Value) (s51 : Value) (s52 : Value) (s53 : Value) (s54 : Value) (s55 : Value) (s56 : Value) (s57 : Value) (s58 : Value) (s59 : Value) (s60 : Value) (s61 : Value) (s62 : Value) (s63 : Value) (s64 : Value) (s65 : Value) (s66 : Value) (s67 : Value) (s68 : Value) (s69 : Value) (s70 : Value) (s71 : Value) (s72 : Value) (s73 : Value) (s74 : Value) (s75 : Value) (s76 : Value) (s77 : Value) (s78 : Value) (s79 : Value) (s80 : Value) (s81 : Value) (s82 : Value) (s83 : Value) (s84 : Value) (s85 : Value) (s86 : Value) (s87 : Value) (s88 : Value) (s89 : Value) (s90 : Value) (s91 : Value) (s92 : Value) (s93 : Value) (s94 : Value) (s95 : Value) (s96 : Value) (H : AH) (R : AEnd → AH → Prop) : Prop :=
 wIf s42
 (wCall Try.prog 10 [] H (fun r1995 H1996 =>
 opB r1995 fun b1999 =>
 R (.ret (.bool b1999)) H1996) (fun v1998 H1997 => R (.panic v1998) H1997))
 (f5_J1 R [s0, s1, s2, (.pointer s3), (.pointer s4), (.pointer s5), s6, s7, s8, s9, s10, s11, s12, s13, s14, s15, s16, s17, s18, s19, s20, s21, s22, s23, s24, s25, s26, s27, s28, s29, s30, s31, s32, s33, s34, s35, s36, s37, s38, s39, s40, s41, (.bool false), s43, s44, s45, s46, s47, s48, s49, s50, s51, s52, s53, s54, s55, s56, s57, s58, s59, s60, s61, s62, s63, s64, s65, s66, s67, s68, s69, s70, s71, s72, s73, s74, s75, s76, s77, s78, s79, s80, s81, s82, s83, s84, s85, s86, s87, s88, s89, s90, s91, s92, s93, s94, s95, s96] H)
theorem f5_J0_eq (s0 : Value) (s1 : Value) (s2 : Value) (s3 : Option Addr) (s4 : Option Addr) (s5 : Option Addr) (s6 : Value) (s7 : Value) (s8 : Value) (s9 : Value) (s10 : Value) (s11 : Value) (s12 : Value) (s13 : Value) (s14 : Value) (s15 : Value) (s16 : Value) (s17 : Value) (s18 : Value) (s19 : Value) (s20 : Value) (s21 : Value) (s22 : Value) (s23 : Value) (s24 : Value) (s25 : Value) (s26 : Value) (s27 : Value) (s28 : Value) (s29 : Value) (s30 : Value) (s31 : Value) (s32 : Value) (s33 : Value) (s34 : Value) (s35 : Value) (s36 : Value) (s37 : Value) (s38 : Value) (s39 : Value) (s40 : Value) (s41 : Value) (s42 : Bool) (s43 : Value) (s44 : Value) (s45 : Value) (s46 : Value) (s47 : Value) (s48 : Value) (s49 : Value) (s50 : Value) (s51 : Value) (s52 : Value) (s53 : Value) (s54 : Value) (s55 : Value) (s56 : Value) (s57 : Value) (s58 : Value) (s59 : Value) (s60 : Value) (s61 : Value) (s62 : Value) (s63 : Value) (s64 : Value) (s65 : Value) (s66 : Value) (s67 : Value) (s68 : Value) (s69 : Value) (s70 : Value) (s71 : Value) (s72 : Value) (s73 : Value) (s74 : Value) (s75 : Value) (s76 : Value) (s77 : Value) (s78 : Value) (s79 : Value) (s80 : Value) (s81 : Value) (s82 : Value) (s83 : Value) (s84 : Value) (s85 : Value) (s86 : Value) (s87 : Value) (s88 : Value) (s89 : Value) (s90 : Value) (s91 : Value) (s92 : Value) (s93 : Value) (s94 : Value) (s95 : Value) (s96 : Value) (H : AH) (R : AEnd → AH → Prop) : f5_J0 R [s0, s1, s2, (.pointer s3), (.pointer s4), (.pointer s5), s6, s7, s8, s9, s10, s11, s12, s13, s14, s15, s16, s17, s18, s19, s20, s21, s22, s23, s24, s25, s26, s27, s28, s29, s30, s31, s32, s33, s34, s35, s36, s37, s38, s39, s40, s41, (.bool s42), s43, s44, s45, s46, s47, s48, s49, s50, s51, s52, s53, s54, s55, s56, s57, s58, s59, s60, s61, s62, s63, s64, s65, s66, s67, s68, s69, s70, s71, s72, s73, s74, s75, s76, s77, s78, s79, s80, s81, s82, s83, s84, s85, s86, s87, s88, s89, s90, s91, s92, s93, s94, s95, s96] H = f5_J0_B s0 s1 s2 s3 s4 s5 s6 s7 s8 s9 s10 s11 s12 s13 s14 s15 s16 s17 s18 s19 s20 s21 s22 s23 s24 s25 s26 s27 s28 s29 s30 s31 s32 s33 s34 s35 s36 s37 s38 s39 s40 s41 s42 s43 s44 s45 s46 s47 s48 s49 s50 s51 s52 s53 s54 s55 s56 s57 s58 s59 s60 s61 s62 s63 s64 s65 s66 s67 s68 s69 s70 s71 s72 s73 s74 s75 s76 s77 s78 s79 s80 s81 s82 s83 s84 s85 s86 s87 s88 s89 s90 s91 s92 s93 s94 s95 s96 H R := by kernel_rfl
def f5_B (x0_0 : Int) (x0_1 : Int) (x0_2 : ByteArray) (x0_3b : Option Addr) (x0_3l : Nat) (x0_3c : Nat) (x1_0 : Int) (x1_1 : ByteArray) (x1_2b : Option Addr) (x1_2l : Nat) (x1_2c : Nat) (x1_3b : Option Addr) (x1_3l : Nat) (x1_3c : Nat) (x2_0 : Int) (x2_1 : ByteArray) (x2_2 : ByteArray) (x2_3 : Int) (x2_4b : Option Addr) (x2_4l : Nat) (x2_4c : Nat) (x2_5b : Option Addr) (x2_5l : Nat) (x2_5c : Nat) (x2_6b : Option Addr) (x2_6l : Nat) (x2_6c : Nat) (H : AH) (R : AEnd → AH → Prop) : Prop :=
 wNew [(.int .i64 x0_0), (.int .i64 x0_1), (.string x0_2), (.slice x0_3b x0_3l x0_3c)] H fun i2000 H2001 =>
 wNew [(.int .i64 x1_0), (.string x1_1), (.slice x1_2b x1_2l x1_2c), (.slice x1_3b x1_3l x1_3c)] H2001 fun i2002 H2003 =>
 wNew [(.int .i64 x2_0), (.string x2_1), (.string x2_2), (.int .i64 x2_3), (.slice x2_4b x2_4l x2_4c), (.slice x2_5b x2_5l x2_5c), (.slice x2_6b x2_6l x2_6c)] H2003 fun i2004 H2005 =>
 wCall Try.prog 10 [] H2005 (fun r2006 H2007 =>
 opB r2006 fun b2010 =>
 wIf (!b2010)
 (R (.ret (.bool false)) H2007)
 (ldI .i64 i2002 0 H2007 fun n2011 =>
 ldS i2002 1 H2007 fun t2012 =>
 ldL i2002 2 H2007 fun z2013b z2013l z2013c =>
 ldL i2002 3 H2007 fun z2014b z2014l z2014c =>
 wBs [(.int .i64 n2011), (.string t2012), (.slice z2013b z2013l z2013c), (.slice z2014b z2014l z2014c)] 4 H2007 fun i2015 H2016 =>
 wCall Try.prog 11 [(.slice (some ⟨i2015, 0, none⟩) 1 0)] H2016 (fun r2017 H2018 =>
 opB r2017 fun b2021 =>
 wIf (!b2021)
 (f5_J0 R [(.agg #[(.int .i64 x0_0), (.int .i64 x0_1), (.string x0_2), (.slice x0_3b x0_3l x0_3c)]), (.agg #[(.int .i64 x1_0), (.string x1_1), (.slice x1_2b x1_2l x1_2c), (.slice x1_3b x1_3l x1_3c)]), (.agg #[(.int .i64 x2_0), (.string x2_1), (.string x2_2), (.int .i64 x2_3), (.slice x2_4b x2_4l x2_4c), (.slice x2_5b x2_5l x2_5c), (.slice x2_6b x2_6l x2_6c)]), (.pointer (some ⟨i2000, 0, none⟩)), (.pointer (some ⟨i2002, 0, none⟩)), (.pointer (some ⟨i2004, 0, none⟩)), (.bool false), undef, undef, undef, undef, undef, undef, (.bool b2010), (.bool false), (.agg #[(.int .i64 n2011), (.string t2012), (.slice z2013b z2013l z2013c), (.slice z2014b z2014l z2014c)]), (.slice (some ⟨i2015, 0, none⟩) 1 0), (.bool b2021), (.bool (!b2021)), (.bool true), undef, undef, undef, undef, undef, undef, undef, undef, undef, undef, (.bool true), (.bool true), undef, undef, undef, undef, (.bool true), (.bool true), undef, undef, undef, undef, (.bool true), undef, undef, undef, undef, undef, undef, undef, undef, undef, undef, undef, undef, undef, undef, undef, undef, undef, undef, undef, undef, undef, undef, undef, undef, undef, undef, undef, undef, undef, undef, undef, undef, undef, undef, undef, undef, undef, undef, undef, undef, undef, undef, undef, undef, undef, undef, undef, undef, undef, undef, undef, undef, undef, undef] H2018)
 (ldL i2004 6 H2018 fun z2022b z2022l z2022c =>
 wCall Try.prog 11 [(.slice z2022b z2022l z2022c)] H2018 (fun r2023 H2024 =>
 opB r2023 fun b2027 =>
 wIf (!b2027)
 (ldL i2004 6 H2024 fun z2028b z2028l z2028c =>
 wIf (decide ((z2028l : Int) ≤ 4096))
 (f5_J0 R [(.agg #[(.int .i64 x0_0), (.int .i64 x0_1), (.string x0_2), (.slice x0_3b x0_3l x0_3c)]), (.agg #[(.int .i64 x1_0), (.string x1_1), (.slice x1_2b x1_2l x1_2c), (.slice x1_3b x1_3l x1_3c)]), (.agg #[(.int .i64 x2_0), (.string x2_1), (.string x2_2), (.int .i64 x2_3), (.slice x2_4b x2_4l x2_4c), (.slice x2_5b x2_5l x2_5c), (.slice x2_6b x2_6l x2_6c)]), (.pointer (some ⟨i2000, 0, none⟩)), (.pointer (some ⟨i2002, 0, none⟩)), (.pointer (some ⟨i2004, 0, none⟩)), (.bool false), undef, undef, undef, undef, undef, undef, (.bool b2010), (.bool false), (.agg #[(.int .i64 n2011), (.string t2012), (.slice z2013b z2013l z2013c), (.slice z2014b z2014l z2014c)]), (.slice (some ⟨i2015, 0, none⟩) 1 0), (.bool b2021), (.bool (!b2021)), (.bool false), (.pointer (some ⟨i2004, 6, none⟩)), (.slice z2022b z2022l z2022c), (.bool b2027), (.bool (!b2027)), (.bool true), (.pointer (some ⟨i2004, 6, none⟩)), (.slice z2028b z2028l z2028c), (.int .i64 (z2028l : Int)), (.bool (decide ((z2028l : Int) ≤ 4096))), (.bool (decide ((z2028l : Int) ≤ 4096))), (.bool (decide ((z2028l : Int) ≤ 4096))), (.bool true), undef, undef, undef, undef, (.bool true), (.bool true), undef, undef, undef, undef, (.bool true), undef, undef, undef, undef, undef, undef, undef, undef, undef, undef, undef, undef, undef, undef, undef, undef, undef, undef, undef, undef, undef, undef, undef, undef, undef, undef, undef, undef, undef, undef, undef, undef, undef, undef, undef, undef, undef, undef, undef, undef, undef, undef, undef, undef, undef, undef, undef, undef, undef, undef, undef, undef, undef, undef] H2024)
 (ldL i2004 4 H2024 fun z2029b z2029l z2029c =>
 wIf (decide ((z2029l : Int) > 40))
 (f5_J0 R [(.agg #[(.int .i64 x0_0), (.int .i64 x0_1), (.string x0_2), (.slice x0_3b x0_3l x0_3c)]), (.agg #[(.int .i64 x1_0), (.string x1_1), (.slice x1_2b x1_2l x1_2c), (.slice x1_3b x1_3l x1_3c)]), (.agg #[(.int .i64 x2_0), (.string x2_1), (.string x2_2), (.int .i64 x2_3), (.slice x2_4b x2_4l x2_4c), (.slice x2_5b x2_5l x2_5c), (.slice x2_6b x2_6l x2_6c)]), (.pointer (some ⟨i2000, 0, none⟩)), (.pointer (some ⟨i2002, 0, none⟩)), (.pointer (some ⟨i2004, 0, none⟩)), (.bool false), undef, undef, undef, undef, undef, undef, (.bool b2010), (.bool false), (.agg #[(.int .i64 n2011), (.string t2012), (.slice z2013b z2013l z2013c), (.slice z2014b z2014l z2014c)]), (.slice (some ⟨i2015, 0, none⟩) 1 0), (.bool b2021), (.bool (!b2021)), (.bool false), (.pointer (some ⟨i2004, 6, none⟩)), (.slice z2022b z2022l z2022c), (.bool b2027), (.bool (!b2027)), (.bool true), (.pointer (some ⟨i2004, 6, none⟩)), (.slice z2028b z2028l z2028c), (.int .i64 (z2028l : Int)), (.bool (decide ((z2028l : Int) ≤ 4096))), (.bool (decide ((z2028l : Int) ≤ 4096))), (.bool (decide ((z2028l : Int) ≤ 4096))), (.bool false), (.pointer (some ⟨i2004, 4, none⟩)), (.slice z2029b z2029l z2029c), (.int .i64 (z2029l : Int)), (.bool (decide ((z2029l : Int) > 40))), (.bool (decide ((z2029l : Int) > 40))), (.bool true), undef, undef, undef, undef, (.bool true), undef, undef, undef, undef, undef, undef, undef, undef, undef, undef, undef, undef, undef, undef, undef, undef, undef, undef, undef, undef, undef, undef, undef, undef, undef, undef, undef, undef, undef, undef, undef, undef, undef, undef, undef, undef, undef, undef, undef, undef, undef, undef, undef, undef, undef, undef, undef, undef, undef, undef, undef, undef, undef, undef] H2024)
 (ldL i2004 5 H2024 fun z2030b z2030l z2030c =>
 f5_J0 R [(.agg #[(.int .i64 x0_0), (.int .i64 x0_1), (.string x0_2), (.slice x0_3b x0_3l x0_3c)]), (.agg #[(.int .i64 x1_0), (.string x1_1), (.slice x1_2b x1_2l x1_2c), (.slice x1_3b x1_3l x1_3c)]), (.agg #[(.int .i64 x2_0), (.string x2_1), (.string x2_2), (.int .i64 x2_3), (.slice x2_4b x2_4l x2_4c), (.slice x2_5b x2_5l x2_5c), (.slice x2_6b x2_6l x2_6c)]), (.pointer (some ⟨i2000, 0, none⟩)), (.pointer (some ⟨i2002, 0, none⟩)), (.pointer (some ⟨i2004, 0, none⟩)), (.bool false), undef, undef, undef, undef, undef, undef, (.bool b2010), (.bool false), (.agg #[(.int .i64 n2011), (.string t2012), (.slice z2013b z2013l z2013c), (.slice z2014b z2014l z2014c)]), (.slice (some ⟨i2015, 0, none⟩) 1 0), (.bool b2021), (.bool (!b2021)), (.bool false), (.pointer (some ⟨i2004, 6, none⟩)), (.slice z2022b z2022l z2022c), (.bool b2027), (.bool (!b2027)), (.bool true), (.pointer (some ⟨i2004, 6, none⟩)), (.slice z2028b z2028l z2028c), (.int .i64 (z2028l : Int)), (.bool (decide ((z2028l : Int) ≤ 4096))), (.bool (decide ((z2028l : Int) ≤ 4096))), (.bool (decide ((z2028l : Int) ≤ 4096))), (.bool false), (.pointer (some ⟨i2004, 4, none⟩)), (.slice z2029b z2029l z2029c), (.int .i64 (z2029l : Int)), (.bool (decide ((z2029l : Int) > 40))), (.bool (decide ((z2029l : Int) > 40))), (.bool false), (.pointer (some ⟨i2004, 5, none⟩)), (.slice z2030b z2030l z2030c), (.int .i64 (z2030l : Int)), (.bool (decide ((z2030l : Int) > 40))), (.bool (decide ((z2030l : Int) > 40))), undef, undef, undef, undef, undef, undef, undef, undef, undef, undef, undef, undef, undef, undef, undef, undef, undef, undef, undef, undef, undef, undef, undef, undef, undef, undef, undef, undef, undef, undef, undef, undef, undef, undef, undef, undef, undef, undef, undef, undef, undef, undef, undef, undef, undef, undef, undef, undef, undef, undef, undef, undef, undef, undef] H2024)))
 (ldL i2004 4 H2024 fun z2031b z2031l z2031c =>
 wIf (decide ((z2031l : Int) > 40))
 (f5_J0 R [(.agg #[(.int .i64 x0_0), (.int .i64 x0_1), (.string x0_2), (.slice x0_3b x0_3l x0_3c)]), (.agg #[(.int .i64 x1_0), (.string x1_1), (.slice x1_2b x1_2l x1_2c), (.slice x1_3b x1_3l x1_3c)]), (.agg #[(.int .i64 x2_0), (.string x2_1), (.string x2_2), (.int .i64 x2_3), (.slice x2_4b x2_4l x2_4c), (.slice x2_5b x2_5l x2_5c), (.slice x2_6b x2_6l x2_6c)]), (.pointer (some ⟨i2000, 0, none⟩)), (.pointer (some ⟨i2002, 0, none⟩)), (.pointer (some ⟨i2004, 0, none⟩)), (.bool false), undef, undef, undef, undef, undef, undef, (.bool b2010), (.bool false), (.agg #[(.int .i64 n2011), (.string t2012), (.slice z2013b z2013l z2013c), (.slice z2014b z2014l z2014c)]), (.slice (some ⟨i2015, 0, none⟩) 1 0), (.bool b2021), (.bool (!b2021)), (.bool false), (.pointer (some ⟨i2004, 6, none⟩)), (.slice z2022b z2022l z2022c), (.bool b2027), (.bool (!b2027)), (.bool false), undef, undef, undef, undef, (.bool false), (.bool false), (.bool false), (.pointer (some ⟨i2004, 4, none⟩)), (.slice z2031b z2031l z2031c), (.int .i64 (z2031l : Int)), (.bool (decide ((z2031l : Int) > 40))), (.bool (decide ((z2031l : Int) > 40))), (.bool true), undef, undef, undef, undef, (.bool true), undef, undef, undef, undef, undef, undef, undef, undef, undef, undef, undef, undef, undef, undef, undef, undef, undef, undef, undef, undef, undef, undef, undef, undef, undef, undef, undef, undef, undef, undef, undef, undef, undef, undef, undef, undef, undef, undef, undef, undef, undef, undef, undef, undef, undef, undef, undef, undef, undef, undef, undef, undef, undef, undef] H2024)
 (ldL i2004 5 H2024 fun z2032b z2032l z2032c =>
 f5_J0 R [(.agg #[(.int .i64 x0_0), (.int .i64 x0_1), (.string x0_2), (.slice x0_3b x0_3l x0_3c)]), (.agg #[(.int .i64 x1_0), (.string x1_1), (.slice x1_2b x1_2l x1_2c), (.slice x1_3b x1_3l x1_3c)]), (.agg #[(.int .i64 x2_0), (.string x2_1), (.string x2_2), (.int .i64 x2_3), (.slice x2_4b x2_4l x2_4c), (.slice x2_5b x2_5l x2_5c), (.slice x2_6b x2_6l x2_6c)]), (.pointer (some ⟨i2000, 0, none⟩)), (.pointer (some ⟨i2002, 0, none⟩)), (.pointer (some ⟨i2004, 0, none⟩)), (.bool false), undef, undef, undef, undef, undef, undef, (.bool b2010), (.bool false), (.agg #[(.int .i64 n2011), (.string t2012), (.slice z2013b z2013l z2013c), (.slice z2014b z2014l z2014c)]), (.slice (some ⟨i2015, 0, none⟩) 1 0), (.bool b2021), (.bool (!b2021)), (.bool false), (.pointer (some ⟨i2004, 6, none⟩)), (.slice z2022b z2022l z2022c), (.bool b2027), (.bool (!b2027)), (.bool false), undef, undef, undef, undef, (.bool false), (.bool false), (.bool false), (.pointer (some ⟨i2004, 4, none⟩)), (.slice z2031b z2031l z2031c), (.int .i64 (z2031l : Int)), (.bool (decide ((z2031l : Int) > 40))), (.bool (decide ((z2031l : Int) > 40))), (.bool false), (.pointer (some ⟨i2004, 5, none⟩)), (.slice z2032b z2032l z2032c), (.int .i64 (z2032l : Int)), (.bool (decide ((z2032l : Int) > 40))), (.bool (decide ((z2032l : Int) > 40))), undef, undef, undef, undef, undef, undef, undef, undef, undef, undef, undef, undef, undef, undef, undef, undef, undef, undef, undef, undef, undef, undef, undef, undef, undef, undef, undef, undef, undef, undef, undef, undef, undef, undef, undef, undef, undef, undef, undef, undef, undef, undef, undef, undef, undef, undef, undef, undef, undef, undef, undef, undef, undef, undef] H2024))) (fun v2026 H2025 => R (.panic v2026) H2025))) (fun v2020 H2019 => R (.panic v2020) H2019))) (fun v2009 H2008 => R (.panic v2009) H2008)
theorem f5_eq (x0_0 : Int) (x0_1 : Int) (x0_2 : ByteArray) (x0_3b : Option Addr) (x0_3l : Nat) (x0_3c : Nat) (x1_0 : Int) (x1_1 : ByteArray) (x1_2b : Option Addr) (x1_2l : Nat) (x1_2c : Nat) (x1_3b : Option Addr) (x1_3l : Nat) (x1_3c : Nat) (x2_0 : Int) (x2_1 : ByteArray) (x2_2 : ByteArray) (x2_3 : Int) (x2_4b : Option Addr) (x2_4l : Nat) (x2_4c : Nat) (x2_5b : Option Addr) (x2_5l : Nat) (x2_5c : Nat) (x2_6b : Option Addr) (x2_6l : Nat) (x2_6c : Nat) (H : AH) (R : AEnd → AH → Prop) : awpF Try.prog f5_c (aPost Try.prog Try.f5 R) (([(.agg #[(.int .i64 x0_0), (.int .i64 x0_1), (.string x0_2), (.slice x0_3b x0_3l x0_3c)]), (.agg #[(.int .i64 x1_0), (.string x1_1), (.slice x1_2b x1_2l x1_2c), (.slice x1_3b x1_3l x1_3c)]), (.agg #[(.int .i64 x2_0), (.string x2_1), (.string x2_2), (.int .i64 x2_3), (.slice x2_4b x2_4l x2_4c), (.slice x2_5b x2_5l x2_5c), (.slice x2_6b x2_6l x2_6c)])] : List Value) ++ List.replicate (Try.f5.ntmps - (([(.agg #[(.int .i64 x0_0), (.int .i64 x0_1), (.string x0_2), (.slice x0_3b x0_3l x0_3c)]), (.agg #[(.int .i64 x1_0), (.string x1_1), (.slice x1_2b x1_2l x1_2c), (.slice x1_3b x1_3l x1_3c)]), (.agg #[(.int .i64 x2_0), (.string x2_1), (.string x2_2), (.int .i64 x2_3), (.slice x2_4b x2_4l x2_4c), (.slice x2_5b x2_5l x2_5c), (.slice x2_6b x2_6l x2_6c)])] : List Value)).length) undef) H = f5_B x0_0 x0_1 x0_2 x0_3b x0_3l x0_3c x1_0 x1_1 x1_2b x1_2l x1_2c x1_3b x1_3l x1_3c x2_0 x2_1 x2_2 x2_3 x2_4b x2_4l x2_4c x2_5b x2_5l x2_5c x2_6b x2_6l x2_6c H R := by kernel_rfl
theorem f5_call (x0_0 : Int) (x0_1 : Int) (x0_2 : ByteArray) (x0_3b : Option Addr) (x0_3l : Nat) (x0_3c : Nat) (x1_0 : Int) (x1_1 : ByteArray) (x1_2b : Option Addr) (x1_2l : Nat) (x1_2c : Nat) (x1_3b : Option Addr) (x1_3l : Nat) (x1_3c : Nat) (x2_0 : Int) (x2_1 : ByteArray) (x2_2 : ByteArray) (x2_3 : Int) (x2_4b : Option Addr) (x2_4l : Nat) (x2_4c : Nat) (x2_5b : Option Addr) (x2_5l : Nat) (x2_5c : Nat) (x2_6b : Option Addr) (x2_6l : Nat) (x2_6c : Nat) (H : AH) (R : AEnd → AH → Prop) (h : f5_B x0_0 x0_1 x0_2 x0_3b x0_3l x0_3c x1_0 x1_1 x1_2b x1_2l x1_2c x1_3b x1_3l x1_3c x2_0 x2_1 x2_2 x2_3 x2_4b x2_4l x2_4c x2_5b x2_5l x2_5c x2_6b x2_6l x2_6c H R) : ACall Try.prog 5 ([(.agg #[(.int .i64 x0_0), (.int .i64 x0_1), (.string x0_2), (.slice x0_3b x0_3l x0_3c)]), (.agg #[(.int .i64 x1_0), (.string x1_1), (.slice x1_2b x1_2l x1_2c), (.slice x1_3b x1_3l x1_3c)]), (.agg #[(.int .i64 x2_0), (.string x2_1), (.string x2_2), (.int .i64 x2_3), (.slice x2_4b x2_4l x2_4c), (.slice x2_5b x2_5l x2_5c), (.slice x2_6b x2_6l x2_6c)])] : List Value) H R :=
  acall_of mixed Try.func5 (by kernel_rfl : Try.f5.body = some f5_c) (by kernel_rfl) (by kernel_rfl) (awp_of (Eq.mpr (f5_eq x0_0 x0_1 x0_2 x0_3b x0_3l x0_3c x1_0 x1_1 x1_2b x1_2l x1_2c x1_3b x1_3l x1_3c x2_0 x2_1 x2_2 x2_3 x2_4b x2_4l x2_4c x2_5b x2_5l x2_5c x2_6b x2_6l x2_6c H R) h))

end Go.Proofs.Ytfghglacfjncmaa
