/- Bodies of functions as nested rules: printed by genw.py, a program of this claim. -/
import Derived.Test.YtfghglacfjncmaaWTy
namespace Go.Proofs.Ytfghglacfjncmaa
open Go.RowKit
set_option linter.unusedVariables false
set_option maxRecDepth 100000

/-! f6: switchyard/switchyardlaw13.CodeKeeps -/
noncomputable def f6_c : Code := Try.f6.body.getD .skip
noncomputable def f6_X0 (R : AEnd → AH → Prop) : AExit → List Value → AH → Prop := thenF (fun tm H => hold (awpF Try.prog (codeAt f6_c [1, 1, 1]) (aPost Try.prog Try.f6 R) tm H)) (aPost Try.prog Try.f6 R)
def f6_J0 (R : AEnd → AH → Prop) (tm : List Value) (H : AH) : Prop := hold (awpF Try.prog (codeAt f6_c [1, 1, 0, 1]) ((f6_X0 R)) tm H)
def f6_J1 (R : AEnd → AH → Prop) (tm : List Value) (H : AH) : Prop := hold (awpF Try.prog (codeAt f6_c [1, 1, 1]) ((aPost Try.prog Try.f6 R)) tm H)
-- join 1: live 3:C, 4:o, 5:d
def f6_J1_B (s3 : Option Addr) (s4 : Option Addr) (s5 : Option Addr) (H : AH) (R : AEnd → AH → Prop) : Prop :=
 wPt s3 fun i1 k2 =>
 ldI .i64 i1 k2 H fun n3 =>
 ldI .i64 i1 (k2 + 1) H fun n4 =>
 ldS i1 (k2 + 2) H fun t5 =>
 ldL i1 (k2 + 3) H fun z6b z6l z6c =>
 ldL i1 (k2 + 4) H fun z7b z7l z7c =>
 ldI .i64 i1 (k2 + 5) H fun n8 =>
 wCall Try.prog 32 [(.agg #[(.int .i64 n3), (.int .i64 n4), (.string t5), (.slice z6b z6l z6c), (.slice z7b z7l z7c), (.int .i64 n8)])] H (fun r9 H10 =>
 opT 2 r9 fun l13 =>
 opS (l13.headD undef) fun t14 =>
 opI .i64 (l13.tail.headD undef) fun n15 =>
 wPt s4 fun i16 k17 =>
 ldI .i64 i16 k17 H10 fun n18 =>
 ldI .i64 i16 (k17 + 1) H10 fun n19 =>
 ldS i16 (k17 + 2) H10 fun t20 =>
 ldI .i64 i16 (k17 + 3) H10 fun n21 =>
 ldS i16 (k17 + 4) H10 fun t22 =>
 ldS i16 (k17 + 5) H10 fun t23 =>
 ldL i16 (k17 + 6) H10 fun z24b z24l z24c =>
 wCall Try.prog 33 [(.agg #[(.int .i64 n18), (.int .i64 n19), (.string t20), (.int .i64 n21), (.string t22), (.string t23), (.slice z24b z24l z24c)])] H10 (fun r25 H26 =>
 opT 2 r25 fun l29 =>
 opS (l29.headD undef) fun t30 =>
 opI .i64 (l29.tail.headD undef) fun n31 =>
 wPt s5 fun i32 k33 =>
 ldI .i64 i32 k33 H26 fun n34 =>
 ldS i32 (k33 + 1) H26 fun t35 =>
 ldI .i64 i32 (k33 + 2) H26 fun n36 =>
 wCall Try.prog 34 [(.agg #[(.int .i64 n34), (.string t35), (.int .i64 n36)])] H26 (fun r37 H38 =>
 opT 2 r37 fun l41 =>
 opS (l41.headD undef) fun t42 =>
 opI .i64 (l41.tail.headD undef) fun n43 =>
 wCall Try.prog 10 [] H38 (fun r44 H45 =>
 opB r44 fun b48 =>
 wIf b48
 ((wPt s3 fun i49 k50 =>
 ldI .i64 i49 k50 H45 fun n51 =>
 ldI .i64 i49 (k50 + 1) H45 fun n52 =>
 ldS i49 (k50 + 2) H45 fun t53 =>
 ldL i49 (k50 + 3) H45 fun z54b z54l z54c =>
 ldL i49 (k50 + 4) H45 fun z55b z55l z55c =>
 ldI .i64 i49 (k50 + 5) H45 fun n56 =>
 (wCall Try.prog 35 [(.agg #[(.int .i64 n51), (.int .i64 n52), (.string t53), (.slice z54b z54l z54c), (.slice z55b z55l z55c), (.int .i64 n56)])] H45 (fun r57 H58 =>
 opS r57 fun t61 =>
 wPt s3 fun i62 k63 =>
 ldI .i64 i62 k63 H58 fun n64 =>
 ldI .i64 i62 (k63 + 1) H58 fun n65 =>
 ldS i62 (k63 + 2) H58 fun t66 =>
 ldL i62 (k63 + 3) H58 fun z67b z67l z67c =>
 ldL i62 (k63 + 4) H58 fun z68b z68l z68c =>
 ldI .i64 i62 (k63 + 5) H58 fun n69 =>
 wCall Try.prog 36 [(.agg #[(.int .i64 n64), (.int .i64 n65), (.string t66), (.slice z67b z67l z67c), (.slice z68b z68l z68c), (.int .i64 n69)])] H58 (fun r70 H71 =>
 opB r70 fun b74 =>
 wCall Try.prog 25 [(.string t14), (.int .i64 n15), (.string t61), (.bool b74)] H71 (fun r75 H76 =>
 opB r75 fun b79 =>
 wIf b79
 ((wPt s4 fun i80 k81 =>
 ldI .i64 i80 k81 H76 fun n82 =>
 ldI .i64 i80 (k81 + 1) H76 fun n83 =>
 ldS i80 (k81 + 2) H76 fun t84 =>
 ldI .i64 i80 (k81 + 3) H76 fun n85 =>
 ldS i80 (k81 + 4) H76 fun t86 =>
 ldS i80 (k81 + 5) H76 fun t87 =>
 ldL i80 (k81 + 6) H76 fun z88b z88l z88c =>
 (wCall Try.prog 37 [(.agg #[(.int .i64 n82), (.int .i64 n83), (.string t84), (.int .i64 n85), (.string t86), (.string t87), (.slice z88b z88l z88c)])] H76 (fun r89 H90 =>
 opS r89 fun t93 =>
 wPt s4 fun i94 k95 =>
 ldI .i64 i94 k95 H90 fun n96 =>
 ldI .i64 i94 (k95 + 1) H90 fun n97 =>
 ldS i94 (k95 + 2) H90 fun t98 =>
 ldI .i64 i94 (k95 + 3) H90 fun n99 =>
 ldS i94 (k95 + 4) H90 fun t100 =>
 ldS i94 (k95 + 5) H90 fun t101 =>
 ldL i94 (k95 + 6) H90 fun z102b z102l z102c =>
 wCall Try.prog 38 [(.agg #[(.int .i64 n96), (.int .i64 n97), (.string t98), (.int .i64 n99), (.string t100), (.string t101), (.slice z102b z102l z102c)])] H90 (fun r103 H104 =>
 opB r103 fun b107 =>
 wCall Try.prog 25 [(.string t30), (.int .i64 n31), (.string t93), (.bool b107)] H104 (fun r108 H109 =>
 opB r108 fun b112 =>
 wIf b112
 ((wPt s5 fun i113 k114 =>
 ldI .i64 i113 k114 H109 fun n115 =>
 ldS i113 (k114 + 1) H109 fun t116 =>
 ldI .i64 i113 (k114 + 2) H109 fun n117 =>
 (wCall Try.prog 39 [(.agg #[(.int .i64 n115), (.string t116), (.int .i64 n117)])] H109 (fun r118 H119 =>
 opS r118 fun t122 =>
 wPt s5 fun i123 k124 =>
 ldI .i64 i123 k124 H119 fun n125 =>
 ldS i123 (k124 + 1) H119 fun t126 =>
 ldI .i64 i123 (k124 + 2) H119 fun n127 =>
 wCall Try.prog 40 [(.agg #[(.int .i64 n125), (.string t126), (.int .i64 n127)])] H119 (fun r128 H129 =>
 opB r128 fun b132 =>
 wCall Try.prog 25 [(.string t42), (.int .i64 n43), (.string t122), (.bool b132)] H129 (fun r133 H134 =>
 opB r133 fun b137 =>
 R (.ret (.bool b137)) H134) (fun v136 H135 => R (.panic v136) H135)) (fun v131 H130 => R (.panic v131) H130)) (fun v121 H120 => R (.panic v121) H120)) ∧
 (wPt s5 fun i138 k139 =>
 ldI .i64 i138 k139 H109 fun n140 =>
 ldS i138 (k139 + 1) H109 fun t141 =>
 ldI .i64 i138 (k139 + 2) H109 fun n142 =>
 wCall Try.prog 39 [(.agg #[(.int .i64 n115), (.string t116), (.int .i64 n117)])] H109 (fun r143 H144 =>
 opS r143 fun t147 =>
 wCall Try.prog 40 [(.agg #[(.int .i64 n140), (.string t141), (.int .i64 n142)])] H144 (fun r148 H149 =>
 opB r148 fun b152 =>
 wCall Try.prog 25 [(.string t42), (.int .i64 n43), (.string t147), (.bool b152)] H149 (fun r153 H154 =>
 opB r153 fun b157 =>
 R (.ret (.bool b157)) H154) (fun v156 H155 => R (.panic v156) H155)) (fun v151 H150 => R (.panic v151) H150)) (fun v146 H145 => R (.panic v146) H145))) ∧
 (wPt s5 fun i158 k159 =>
 ldI .i64 i158 k159 H109 fun n160 =>
 ldS i158 (k159 + 1) H109 fun t161 =>
 ldI .i64 i158 (k159 + 2) H109 fun n162 =>
 wPt s5 fun i163 k164 =>
 ldI .i64 i163 k164 H109 fun n165 =>
 ldS i163 (k164 + 1) H109 fun t166 =>
 ldI .i64 i163 (k164 + 2) H109 fun n167 =>
 wCall Try.prog 39 [(.agg #[(.int .i64 n165), (.string t166), (.int .i64 n167)])] H109 (fun r168 H169 =>
 opS r168 fun t172 =>
 wCall Try.prog 40 [(.agg #[(.int .i64 n160), (.string t161), (.int .i64 n162)])] H169 (fun r173 H174 =>
 opB r173 fun b177 =>
 wCall Try.prog 25 [(.string t42), (.int .i64 n43), (.string t172), (.bool b177)] H174 (fun r178 H179 =>
 opB r178 fun b182 =>
 R (.ret (.bool b182)) H179) (fun v181 H180 => R (.panic v181) H180)) (fun v176 H175 => R (.panic v176) H175)) (fun v171 H170 => R (.panic v171) H170)))
 (((R (.ret (.bool false)) H109) ∧
 (R (.ret (.bool false)) H109)) ∧
 (R (.ret (.bool false)) H109))) (fun v111 H110 => R (.panic v111) H110)) (fun v106 H105 => R (.panic v106) H105)) (fun v92 H91 => R (.panic v92) H91)) ∧
 (wPt s4 fun i183 k184 =>
 ldI .i64 i183 k184 H76 fun n185 =>
 ldI .i64 i183 (k184 + 1) H76 fun n186 =>
 ldS i183 (k184 + 2) H76 fun t187 =>
 ldI .i64 i183 (k184 + 3) H76 fun n188 =>
 ldS i183 (k184 + 4) H76 fun t189 =>
 ldS i183 (k184 + 5) H76 fun t190 =>
 ldL i183 (k184 + 6) H76 fun z191b z191l z191c =>
 wCall Try.prog 37 [(.agg #[(.int .i64 n82), (.int .i64 n83), (.string t84), (.int .i64 n85), (.string t86), (.string t87), (.slice z88b z88l z88c)])] H76 (fun r192 H193 =>
 opS r192 fun t196 =>
 wCall Try.prog 38 [(.agg #[(.int .i64 n185), (.int .i64 n186), (.string t187), (.int .i64 n188), (.string t189), (.string t190), (.slice z191b z191l z191c)])] H193 (fun r197 H198 =>
 opB r197 fun b201 =>
 wCall Try.prog 25 [(.string t30), (.int .i64 n31), (.string t196), (.bool b201)] H198 (fun r202 H203 =>
 opB r202 fun b206 =>
 wIf b206
 ((wPt s5 fun i207 k208 =>
 ldI .i64 i207 k208 H203 fun n209 =>
 ldS i207 (k208 + 1) H203 fun t210 =>
 ldI .i64 i207 (k208 + 2) H203 fun n211 =>
 (wCall Try.prog 39 [(.agg #[(.int .i64 n209), (.string t210), (.int .i64 n211)])] H203 (fun r212 H213 =>
 opS r212 fun t216 =>
 wPt s5 fun i217 k218 =>
 ldI .i64 i217 k218 H213 fun n219 =>
 ldS i217 (k218 + 1) H213 fun t220 =>
 ldI .i64 i217 (k218 + 2) H213 fun n221 =>
 wCall Try.prog 40 [(.agg #[(.int .i64 n219), (.string t220), (.int .i64 n221)])] H213 (fun r222 H223 =>
 opB r222 fun b226 =>
 wCall Try.prog 25 [(.string t42), (.int .i64 n43), (.string t216), (.bool b226)] H223 (fun r227 H228 =>
 opB r227 fun b231 =>
 R (.ret (.bool b231)) H228) (fun v230 H229 => R (.panic v230) H229)) (fun v225 H224 => R (.panic v225) H224)) (fun v215 H214 => R (.panic v215) H214)) ∧
 (wPt s5 fun i232 k233 =>
 ldI .i64 i232 k233 H203 fun n234 =>
 ldS i232 (k233 + 1) H203 fun t235 =>
 ldI .i64 i232 (k233 + 2) H203 fun n236 =>
 wCall Try.prog 39 [(.agg #[(.int .i64 n209), (.string t210), (.int .i64 n211)])] H203 (fun r237 H238 =>
 opS r237 fun t241 =>
 wCall Try.prog 40 [(.agg #[(.int .i64 n234), (.string t235), (.int .i64 n236)])] H238 (fun r242 H243 =>
 opB r242 fun b246 =>
 wCall Try.prog 25 [(.string t42), (.int .i64 n43), (.string t241), (.bool b246)] H243 (fun r247 H248 =>
 opB r247 fun b251 =>
 R (.ret (.bool b251)) H248) (fun v250 H249 => R (.panic v250) H249)) (fun v245 H244 => R (.panic v245) H244)) (fun v240 H239 => R (.panic v240) H239))) ∧
 (wPt s5 fun i252 k253 =>
 ldI .i64 i252 k253 H203 fun n254 =>
 ldS i252 (k253 + 1) H203 fun t255 =>
 ldI .i64 i252 (k253 + 2) H203 fun n256 =>
 wPt s5 fun i257 k258 =>
 ldI .i64 i257 k258 H203 fun n259 =>
 ldS i257 (k258 + 1) H203 fun t260 =>
 ldI .i64 i257 (k258 + 2) H203 fun n261 =>
 wCall Try.prog 39 [(.agg #[(.int .i64 n259), (.string t260), (.int .i64 n261)])] H203 (fun r262 H263 =>
 opS r262 fun t266 =>
 wCall Try.prog 40 [(.agg #[(.int .i64 n254), (.string t255), (.int .i64 n256)])] H263 (fun r267 H268 =>
 opB r267 fun b271 =>
 wCall Try.prog 25 [(.string t42), (.int .i64 n43), (.string t266), (.bool b271)] H268 (fun r272 H273 =>
 opB r272 fun b276 =>
 R (.ret (.bool b276)) H273) (fun v275 H274 => R (.panic v275) H274)) (fun v270 H269 => R (.panic v270) H269)) (fun v265 H264 => R (.panic v265) H264)))
 (((R (.ret (.bool false)) H203) ∧
 (R (.ret (.bool false)) H203)) ∧
 (R (.ret (.bool false)) H203))) (fun v205 H204 => R (.panic v205) H204)) (fun v200 H199 => R (.panic v200) H199)) (fun v195 H194 => R (.panic v195) H194))) ∧
 (wPt s4 fun i277 k278 =>
 ldI .i64 i277 k278 H76 fun n279 =>
 ldI .i64 i277 (k278 + 1) H76 fun n280 =>
 ldS i277 (k278 + 2) H76 fun t281 =>
 ldI .i64 i277 (k278 + 3) H76 fun n282 =>
 ldS i277 (k278 + 4) H76 fun t283 =>
 ldS i277 (k278 + 5) H76 fun t284 =>
 ldL i277 (k278 + 6) H76 fun z285b z285l z285c =>
 wPt s4 fun i286 k287 =>
 ldI .i64 i286 k287 H76 fun n288 =>
 ldI .i64 i286 (k287 + 1) H76 fun n289 =>
 ldS i286 (k287 + 2) H76 fun t290 =>
 ldI .i64 i286 (k287 + 3) H76 fun n291 =>
 ldS i286 (k287 + 4) H76 fun t292 =>
 ldS i286 (k287 + 5) H76 fun t293 =>
 ldL i286 (k287 + 6) H76 fun z294b z294l z294c =>
 wCall Try.prog 37 [(.agg #[(.int .i64 n288), (.int .i64 n289), (.string t290), (.int .i64 n291), (.string t292), (.string t293), (.slice z294b z294l z294c)])] H76 (fun r295 H296 =>
 opS r295 fun t299 =>
 wCall Try.prog 38 [(.agg #[(.int .i64 n279), (.int .i64 n280), (.string t281), (.int .i64 n282), (.string t283), (.string t284), (.slice z285b z285l z285c)])] H296 (fun r300 H301 =>
 opB r300 fun b304 =>
 wCall Try.prog 25 [(.string t30), (.int .i64 n31), (.string t299), (.bool b304)] H301 (fun r305 H306 =>
 opB r305 fun b309 =>
 wIf b309
 ((wPt s5 fun i310 k311 =>
 ldI .i64 i310 k311 H306 fun n312 =>
 ldS i310 (k311 + 1) H306 fun t313 =>
 ldI .i64 i310 (k311 + 2) H306 fun n314 =>
 (wCall Try.prog 39 [(.agg #[(.int .i64 n312), (.string t313), (.int .i64 n314)])] H306 (fun r315 H316 =>
 opS r315 fun t319 =>
 wPt s5 fun i320 k321 =>
 ldI .i64 i320 k321 H316 fun n322 =>
 ldS i320 (k321 + 1) H316 fun t323 =>
 ldI .i64 i320 (k321 + 2) H316 fun n324 =>
 wCall Try.prog 40 [(.agg #[(.int .i64 n322), (.string t323), (.int .i64 n324)])] H316 (fun r325 H326 =>
 opB r325 fun b329 =>
 wCall Try.prog 25 [(.string t42), (.int .i64 n43), (.string t319), (.bool b329)] H326 (fun r330 H331 =>
 opB r330 fun b334 =>
 R (.ret (.bool b334)) H331) (fun v333 H332 => R (.panic v333) H332)) (fun v328 H327 => R (.panic v328) H327)) (fun v318 H317 => R (.panic v318) H317)) ∧
 (wPt s5 fun i335 k336 =>
 ldI .i64 i335 k336 H306 fun n337 =>
 ldS i335 (k336 + 1) H306 fun t338 =>
 ldI .i64 i335 (k336 + 2) H306 fun n339 =>
 wCall Try.prog 39 [(.agg #[(.int .i64 n312), (.string t313), (.int .i64 n314)])] H306 (fun r340 H341 =>
 opS r340 fun t344 =>
 wCall Try.prog 40 [(.agg #[(.int .i64 n337), (.string t338), (.int .i64 n339)])] H341 (fun r345 H346 =>
 opB r345 fun b349 =>
 wCall Try.prog 25 [(.string t42), (.int .i64 n43), (.string t344), (.bool b349)] H346 (fun r350 H351 =>
 opB r350 fun b354 =>
 R (.ret (.bool b354)) H351) (fun v353 H352 => R (.panic v353) H352)) (fun v348 H347 => R (.panic v348) H347)) (fun v343 H342 => R (.panic v343) H342))) ∧
 (wPt s5 fun i355 k356 =>
 ldI .i64 i355 k356 H306 fun n357 =>
 ldS i355 (k356 + 1) H306 fun t358 =>
 ldI .i64 i355 (k356 + 2) H306 fun n359 =>
 wPt s5 fun i360 k361 =>
 ldI .i64 i360 k361 H306 fun n362 =>
 ldS i360 (k361 + 1) H306 fun t363 =>
 ldI .i64 i360 (k361 + 2) H306 fun n364 =>
 wCall Try.prog 39 [(.agg #[(.int .i64 n362), (.string t363), (.int .i64 n364)])] H306 (fun r365 H366 =>
 opS r365 fun t369 =>
 wCall Try.prog 40 [(.agg #[(.int .i64 n357), (.string t358), (.int .i64 n359)])] H366 (fun r370 H371 =>
 opB r370 fun b374 =>
 wCall Try.prog 25 [(.string t42), (.int .i64 n43), (.string t369), (.bool b374)] H371 (fun r375 H376 =>
 opB r375 fun b379 =>
 R (.ret (.bool b379)) H376) (fun v378 H377 => R (.panic v378) H377)) (fun v373 H372 => R (.panic v373) H372)) (fun v368 H367 => R (.panic v368) H367)))
 (((R (.ret (.bool false)) H306) ∧
 (R (.ret (.bool false)) H306)) ∧
 (R (.ret (.bool false)) H306))) (fun v308 H307 => R (.panic v308) H307)) (fun v303 H302 => R (.panic v303) H302)) (fun v298 H297 => R (.panic v298) H297)))
 (((((R (.ret (.bool false)) H76) ∧
 (R (.ret (.bool false)) H76)) ∧
 (R (.ret (.bool false)) H76)) ∧
 (((R (.ret (.bool false)) H76) ∧
 (R (.ret (.bool false)) H76)) ∧
 (R (.ret (.bool false)) H76))) ∧
 (((R (.ret (.bool false)) H76) ∧
 (R (.ret (.bool false)) H76)) ∧
 (R (.ret (.bool false)) H76)))) (fun v78 H77 => R (.panic v78) H77)) (fun v73 H72 => R (.panic v73) H72)) (fun v60 H59 => R (.panic v60) H59)) ∧
 (wPt s3 fun i380 k381 =>
 ldI .i64 i380 k381 H45 fun n382 =>
 ldI .i64 i380 (k381 + 1) H45 fun n383 =>
 ldS i380 (k381 + 2) H45 fun t384 =>
 ldL i380 (k381 + 3) H45 fun z385b z385l z385c =>
 ldL i380 (k381 + 4) H45 fun z386b z386l z386c =>
 ldI .i64 i380 (k381 + 5) H45 fun n387 =>
 wCall Try.prog 35 [(.agg #[(.int .i64 n51), (.int .i64 n52), (.string t53), (.slice z54b z54l z54c), (.slice z55b z55l z55c), (.int .i64 n56)])] H45 (fun r388 H389 =>
 opS r388 fun t392 =>
 wCall Try.prog 36 [(.agg #[(.int .i64 n382), (.int .i64 n383), (.string t384), (.slice z385b z385l z385c), (.slice z386b z386l z386c), (.int .i64 n387)])] H389 (fun r393 H394 =>
 opB r393 fun b397 =>
 wCall Try.prog 25 [(.string t14), (.int .i64 n15), (.string t392), (.bool b397)] H394 (fun r398 H399 =>
 opB r398 fun b402 =>
 wIf b402
 ((wPt s4 fun i403 k404 =>
 ldI .i64 i403 k404 H399 fun n405 =>
 ldI .i64 i403 (k404 + 1) H399 fun n406 =>
 ldS i403 (k404 + 2) H399 fun t407 =>
 ldI .i64 i403 (k404 + 3) H399 fun n408 =>
 ldS i403 (k404 + 4) H399 fun t409 =>
 ldS i403 (k404 + 5) H399 fun t410 =>
 ldL i403 (k404 + 6) H399 fun z411b z411l z411c =>
 (wCall Try.prog 37 [(.agg #[(.int .i64 n405), (.int .i64 n406), (.string t407), (.int .i64 n408), (.string t409), (.string t410), (.slice z411b z411l z411c)])] H399 (fun r412 H413 =>
 opS r412 fun t416 =>
 wPt s4 fun i417 k418 =>
 ldI .i64 i417 k418 H413 fun n419 =>
 ldI .i64 i417 (k418 + 1) H413 fun n420 =>
 ldS i417 (k418 + 2) H413 fun t421 =>
 ldI .i64 i417 (k418 + 3) H413 fun n422 =>
 ldS i417 (k418 + 4) H413 fun t423 =>
 ldS i417 (k418 + 5) H413 fun t424 =>
 ldL i417 (k418 + 6) H413 fun z425b z425l z425c =>
 wCall Try.prog 38 [(.agg #[(.int .i64 n419), (.int .i64 n420), (.string t421), (.int .i64 n422), (.string t423), (.string t424), (.slice z425b z425l z425c)])] H413 (fun r426 H427 =>
 opB r426 fun b430 =>
 wCall Try.prog 25 [(.string t30), (.int .i64 n31), (.string t416), (.bool b430)] H427 (fun r431 H432 =>
 opB r431 fun b435 =>
 wIf b435
 ((wPt s5 fun i436 k437 =>
 ldI .i64 i436 k437 H432 fun n438 =>
 ldS i436 (k437 + 1) H432 fun t439 =>
 ldI .i64 i436 (k437 + 2) H432 fun n440 =>
 (wCall Try.prog 39 [(.agg #[(.int .i64 n438), (.string t439), (.int .i64 n440)])] H432 (fun r441 H442 =>
 opS r441 fun t445 =>
 wPt s5 fun i446 k447 =>
 ldI .i64 i446 k447 H442 fun n448 =>
 ldS i446 (k447 + 1) H442 fun t449 =>
 ldI .i64 i446 (k447 + 2) H442 fun n450 =>
 wCall Try.prog 40 [(.agg #[(.int .i64 n448), (.string t449), (.int .i64 n450)])] H442 (fun r451 H452 =>
 opB r451 fun b455 =>
 wCall Try.prog 25 [(.string t42), (.int .i64 n43), (.string t445), (.bool b455)] H452 (fun r456 H457 =>
 opB r456 fun b460 =>
 R (.ret (.bool b460)) H457) (fun v459 H458 => R (.panic v459) H458)) (fun v454 H453 => R (.panic v454) H453)) (fun v444 H443 => R (.panic v444) H443)) ∧
 (wPt s5 fun i461 k462 =>
 ldI .i64 i461 k462 H432 fun n463 =>
 ldS i461 (k462 + 1) H432 fun t464 =>
 ldI .i64 i461 (k462 + 2) H432 fun n465 =>
 wCall Try.prog 39 [(.agg #[(.int .i64 n438), (.string t439), (.int .i64 n440)])] H432 (fun r466 H467 =>
 opS r466 fun t470 =>
 wCall Try.prog 40 [(.agg #[(.int .i64 n463), (.string t464), (.int .i64 n465)])] H467 (fun r471 H472 =>
 opB r471 fun b475 =>
 wCall Try.prog 25 [(.string t42), (.int .i64 n43), (.string t470), (.bool b475)] H472 (fun r476 H477 =>
 opB r476 fun b480 =>
 R (.ret (.bool b480)) H477) (fun v479 H478 => R (.panic v479) H478)) (fun v474 H473 => R (.panic v474) H473)) (fun v469 H468 => R (.panic v469) H468))) ∧
 (wPt s5 fun i481 k482 =>
 ldI .i64 i481 k482 H432 fun n483 =>
 ldS i481 (k482 + 1) H432 fun t484 =>
 ldI .i64 i481 (k482 + 2) H432 fun n485 =>
 wPt s5 fun i486 k487 =>
 ldI .i64 i486 k487 H432 fun n488 =>
 ldS i486 (k487 + 1) H432 fun t489 =>
 ldI .i64 i486 (k487 + 2) H432 fun n490 =>
 wCall Try.prog 39 [(.agg #[(.int .i64 n488), (.string t489), (.int .i64 n490)])] H432 (fun r491 H492 =>
 opS r491 fun t495 =>
 wCall Try.prog 40 [(.agg #[(.int .i64 n483), (.string t484), (.int .i64 n485)])] H492 (fun r496 H497 =>
 opB r496 fun b500 =>
 wCall Try.prog 25 [(.string t42), (.int .i64 n43), (.string t495), (.bool b500)] H497 (fun r501 H502 =>
 opB r501 fun b505 =>
 R (.ret (.bool b505)) H502) (fun v504 H503 => R (.panic v504) H503)) (fun v499 H498 => R (.panic v499) H498)) (fun v494 H493 => R (.panic v494) H493)))
 (((R (.ret (.bool false)) H432) ∧
 (R (.ret (.bool false)) H432)) ∧
 (R (.ret (.bool false)) H432))) (fun v434 H433 => R (.panic v434) H433)) (fun v429 H428 => R (.panic v429) H428)) (fun v415 H414 => R (.panic v415) H414)) ∧
 (wPt s4 fun i506 k507 =>
 ldI .i64 i506 k507 H399 fun n508 =>
 ldI .i64 i506 (k507 + 1) H399 fun n509 =>
 ldS i506 (k507 + 2) H399 fun t510 =>
 ldI .i64 i506 (k507 + 3) H399 fun n511 =>
 ldS i506 (k507 + 4) H399 fun t512 =>
 ldS i506 (k507 + 5) H399 fun t513 =>
 ldL i506 (k507 + 6) H399 fun z514b z514l z514c =>
 wCall Try.prog 37 [(.agg #[(.int .i64 n405), (.int .i64 n406), (.string t407), (.int .i64 n408), (.string t409), (.string t410), (.slice z411b z411l z411c)])] H399 (fun r515 H516 =>
 opS r515 fun t519 =>
 wCall Try.prog 38 [(.agg #[(.int .i64 n508), (.int .i64 n509), (.string t510), (.int .i64 n511), (.string t512), (.string t513), (.slice z514b z514l z514c)])] H516 (fun r520 H521 =>
 opB r520 fun b524 =>
 wCall Try.prog 25 [(.string t30), (.int .i64 n31), (.string t519), (.bool b524)] H521 (fun r525 H526 =>
 opB r525 fun b529 =>
 wIf b529
 ((wPt s5 fun i530 k531 =>
 ldI .i64 i530 k531 H526 fun n532 =>
 ldS i530 (k531 + 1) H526 fun t533 =>
 ldI .i64 i530 (k531 + 2) H526 fun n534 =>
 (wCall Try.prog 39 [(.agg #[(.int .i64 n532), (.string t533), (.int .i64 n534)])] H526 (fun r535 H536 =>
 opS r535 fun t539 =>
 wPt s5 fun i540 k541 =>
 ldI .i64 i540 k541 H536 fun n542 =>
 ldS i540 (k541 + 1) H536 fun t543 =>
 ldI .i64 i540 (k541 + 2) H536 fun n544 =>
 wCall Try.prog 40 [(.agg #[(.int .i64 n542), (.string t543), (.int .i64 n544)])] H536 (fun r545 H546 =>
 opB r545 fun b549 =>
 wCall Try.prog 25 [(.string t42), (.int .i64 n43), (.string t539), (.bool b549)] H546 (fun r550 H551 =>
 opB r550 fun b554 =>
 R (.ret (.bool b554)) H551) (fun v553 H552 => R (.panic v553) H552)) (fun v548 H547 => R (.panic v548) H547)) (fun v538 H537 => R (.panic v538) H537)) ∧
 (wPt s5 fun i555 k556 =>
 ldI .i64 i555 k556 H526 fun n557 =>
 ldS i555 (k556 + 1) H526 fun t558 =>
 ldI .i64 i555 (k556 + 2) H526 fun n559 =>
 wCall Try.prog 39 [(.agg #[(.int .i64 n532), (.string t533), (.int .i64 n534)])] H526 (fun r560 H561 =>
 opS r560 fun t564 =>
 wCall Try.prog 40 [(.agg #[(.int .i64 n557), (.string t558), (.int .i64 n559)])] H561 (fun r565 H566 =>
 opB r565 fun b569 =>
 wCall Try.prog 25 [(.string t42), (.int .i64 n43), (.string t564), (.bool b569)] H566 (fun r570 H571 =>
 opB r570 fun b574 =>
 R (.ret (.bool b574)) H571) (fun v573 H572 => R (.panic v573) H572)) (fun v568 H567 => R (.panic v568) H567)) (fun v563 H562 => R (.panic v563) H562))) ∧
 (wPt s5 fun i575 k576 =>
 ldI .i64 i575 k576 H526 fun n577 =>
 ldS i575 (k576 + 1) H526 fun t578 =>
 ldI .i64 i575 (k576 + 2) H526 fun n579 =>
 wPt s5 fun i580 k581 =>
 ldI .i64 i580 k581 H526 fun n582 =>
 ldS i580 (k581 + 1) H526 fun t583 =>
 ldI .i64 i580 (k581 + 2) H526 fun n584 =>
 wCall Try.prog 39 [(.agg #[(.int .i64 n582), (.string t583), (.int .i64 n584)])] H526 (fun r585 H586 =>
 opS r585 fun t589 =>
 wCall Try.prog 40 [(.agg #[(.int .i64 n577), (.string t578), (.int .i64 n579)])] H586 (fun r590 H591 =>
 opB r590 fun b594 =>
 wCall Try.prog 25 [(.string t42), (.int .i64 n43), (.string t589), (.bool b594)] H591 (fun r595 H596 =>
 opB r595 fun b599 =>
 R (.ret (.bool b599)) H596) (fun v598 H597 => R (.panic v598) H597)) (fun v593 H592 => R (.panic v593) H592)) (fun v588 H587 => R (.panic v588) H587)))
 (((R (.ret (.bool false)) H526) ∧
 (R (.ret (.bool false)) H526)) ∧
 (R (.ret (.bool false)) H526))) (fun v528 H527 => R (.panic v528) H527)) (fun v523 H522 => R (.panic v523) H522)) (fun v518 H517 => R (.panic v518) H517))) ∧
 (wPt s4 fun i600 k601 =>
 ldI .i64 i600 k601 H399 fun n602 =>
 ldI .i64 i600 (k601 + 1) H399 fun n603 =>
 ldS i600 (k601 + 2) H399 fun t604 =>
 ldI .i64 i600 (k601 + 3) H399 fun n605 =>
 ldS i600 (k601 + 4) H399 fun t606 =>
 ldS i600 (k601 + 5) H399 fun t607 =>
 ldL i600 (k601 + 6) H399 fun z608b z608l z608c =>
 wPt s4 fun i609 k610 =>
 ldI .i64 i609 k610 H399 fun n611 =>
 ldI .i64 i609 (k610 + 1) H399 fun n612 =>
 ldS i609 (k610 + 2) H399 fun t613 =>
 ldI .i64 i609 (k610 + 3) H399 fun n614 =>
 ldS i609 (k610 + 4) H399 fun t615 =>
 ldS i609 (k610 + 5) H399 fun t616 =>
 ldL i609 (k610 + 6) H399 fun z617b z617l z617c =>
 wCall Try.prog 37 [(.agg #[(.int .i64 n611), (.int .i64 n612), (.string t613), (.int .i64 n614), (.string t615), (.string t616), (.slice z617b z617l z617c)])] H399 (fun r618 H619 =>
 opS r618 fun t622 =>
 wCall Try.prog 38 [(.agg #[(.int .i64 n602), (.int .i64 n603), (.string t604), (.int .i64 n605), (.string t606), (.string t607), (.slice z608b z608l z608c)])] H619 (fun r623 H624 =>
 opB r623 fun b627 =>
 wCall Try.prog 25 [(.string t30), (.int .i64 n31), (.string t622), (.bool b627)] H624 (fun r628 H629 =>
 opB r628 fun b632 =>
 wIf b632
 ((wPt s5 fun i633 k634 =>
 ldI .i64 i633 k634 H629 fun n635 =>
 ldS i633 (k634 + 1) H629 fun t636 =>
 ldI .i64 i633 (k634 + 2) H629 fun n637 =>
 (wCall Try.prog 39 [(.agg #[(.int .i64 n635), (.string t636), (.int .i64 n637)])] H629 (fun r638 H639 =>
 opS r638 fun t642 =>
 wPt s5 fun i643 k644 =>
 ldI .i64 i643 k644 H639 fun n645 =>
 ldS i643 (k644 + 1) H639 fun t646 =>
 ldI .i64 i643 (k644 + 2) H639 fun n647 =>
 wCall Try.prog 40 [(.agg #[(.int .i64 n645), (.string t646), (.int .i64 n647)])] H639 (fun r648 H649 =>
 opB r648 fun b652 =>
 wCall Try.prog 25 [(.string t42), (.int .i64 n43), (.string t642), (.bool b652)] H649 (fun r653 H654 =>
 opB r653 fun b657 =>
 R (.ret (.bool b657)) H654) (fun v656 H655 => R (.panic v656) H655)) (fun v651 H650 => R (.panic v651) H650)) (fun v641 H640 => R (.panic v641) H640)) ∧
 (wPt s5 fun i658 k659 =>
 ldI .i64 i658 k659 H629 fun n660 =>
 ldS i658 (k659 + 1) H629 fun t661 =>
 ldI .i64 i658 (k659 + 2) H629 fun n662 =>
 wCall Try.prog 39 [(.agg #[(.int .i64 n635), (.string t636), (.int .i64 n637)])] H629 (fun r663 H664 =>
 opS r663 fun t667 =>
 wCall Try.prog 40 [(.agg #[(.int .i64 n660), (.string t661), (.int .i64 n662)])] H664 (fun r668 H669 =>
 opB r668 fun b672 =>
 wCall Try.prog 25 [(.string t42), (.int .i64 n43), (.string t667), (.bool b672)] H669 (fun r673 H674 =>
 opB r673 fun b677 =>
 R (.ret (.bool b677)) H674) (fun v676 H675 => R (.panic v676) H675)) (fun v671 H670 => R (.panic v671) H670)) (fun v666 H665 => R (.panic v666) H665))) ∧
 (wPt s5 fun i678 k679 =>
 ldI .i64 i678 k679 H629 fun n680 =>
 ldS i678 (k679 + 1) H629 fun t681 =>
 ldI .i64 i678 (k679 + 2) H629 fun n682 =>
 wPt s5 fun i683 k684 =>
 ldI .i64 i683 k684 H629 fun n685 =>
 ldS i683 (k684 + 1) H629 fun t686 =>
 ldI .i64 i683 (k684 + 2) H629 fun n687 =>
 wCall Try.prog 39 [(.agg #[(.int .i64 n685), (.string t686), (.int .i64 n687)])] H629 (fun r688 H689 =>
 opS r688 fun t692 =>
 wCall Try.prog 40 [(.agg #[(.int .i64 n680), (.string t681), (.int .i64 n682)])] H689 (fun r693 H694 =>
 opB r693 fun b697 =>
 wCall Try.prog 25 [(.string t42), (.int .i64 n43), (.string t692), (.bool b697)] H694 (fun r698 H699 =>
 opB r698 fun b702 =>
 R (.ret (.bool b702)) H699) (fun v701 H700 => R (.panic v701) H700)) (fun v696 H695 => R (.panic v696) H695)) (fun v691 H690 => R (.panic v691) H690)))
 (((R (.ret (.bool false)) H629) ∧
 (R (.ret (.bool false)) H629)) ∧
 (R (.ret (.bool false)) H629))) (fun v631 H630 => R (.panic v631) H630)) (fun v626 H625 => R (.panic v626) H625)) (fun v621 H620 => R (.panic v621) H620)))
 (((((R (.ret (.bool false)) H399) ∧
 (R (.ret (.bool false)) H399)) ∧
 (R (.ret (.bool false)) H399)) ∧
 (((R (.ret (.bool false)) H399) ∧
 (R (.ret (.bool false)) H399)) ∧
 (R (.ret (.bool false)) H399))) ∧
 (((R (.ret (.bool false)) H399) ∧
 (R (.ret (.bool false)) H399)) ∧
 (R (.ret (.bool false)) H399)))) (fun v401 H400 => R (.panic v401) H400)) (fun v396 H395 => R (.panic v396) H395)) (fun v391 H390 => R (.panic v391) H390))) ∧
 (wPt s3 fun i703 k704 =>
 ldI .i64 i703 k704 H45 fun n705 =>
 ldI .i64 i703 (k704 + 1) H45 fun n706 =>
 ldS i703 (k704 + 2) H45 fun t707 =>
 ldL i703 (k704 + 3) H45 fun z708b z708l z708c =>
 ldL i703 (k704 + 4) H45 fun z709b z709l z709c =>
 ldI .i64 i703 (k704 + 5) H45 fun n710 =>
 wPt s3 fun i711 k712 =>
 ldI .i64 i711 k712 H45 fun n713 =>
 ldI .i64 i711 (k712 + 1) H45 fun n714 =>
 ldS i711 (k712 + 2) H45 fun t715 =>
 ldL i711 (k712 + 3) H45 fun z716b z716l z716c =>
 ldL i711 (k712 + 4) H45 fun z717b z717l z717c =>
 ldI .i64 i711 (k712 + 5) H45 fun n718 =>
 wCall Try.prog 35 [(.agg #[(.int .i64 n713), (.int .i64 n714), (.string t715), (.slice z716b z716l z716c), (.slice z717b z717l z717c), (.int .i64 n718)])] H45 (fun r719 H720 =>
 opS r719 fun t723 =>
 wCall Try.prog 36 [(.agg #[(.int .i64 n705), (.int .i64 n706), (.string t707), (.slice z708b z708l z708c), (.slice z709b z709l z709c), (.int .i64 n710)])] H720 (fun r724 H725 =>
 opB r724 fun b728 =>
 wCall Try.prog 25 [(.string t14), (.int .i64 n15), (.string t723), (.bool b728)] H725 (fun r729 H730 =>
 opB r729 fun b733 =>
 wIf b733
 ((wPt s4 fun i734 k735 =>
 ldI .i64 i734 k735 H730 fun n736 =>
 ldI .i64 i734 (k735 + 1) H730 fun n737 =>
 ldS i734 (k735 + 2) H730 fun t738 =>
 ldI .i64 i734 (k735 + 3) H730 fun n739 =>
 ldS i734 (k735 + 4) H730 fun t740 =>
 ldS i734 (k735 + 5) H730 fun t741 =>
 ldL i734 (k735 + 6) H730 fun z742b z742l z742c =>
 (wCall Try.prog 37 [(.agg #[(.int .i64 n736), (.int .i64 n737), (.string t738), (.int .i64 n739), (.string t740), (.string t741), (.slice z742b z742l z742c)])] H730 (fun r743 H744 =>
 opS r743 fun t747 =>
 wPt s4 fun i748 k749 =>
 ldI .i64 i748 k749 H744 fun n750 =>
 ldI .i64 i748 (k749 + 1) H744 fun n751 =>
 ldS i748 (k749 + 2) H744 fun t752 =>
 ldI .i64 i748 (k749 + 3) H744 fun n753 =>
 ldS i748 (k749 + 4) H744 fun t754 =>
 ldS i748 (k749 + 5) H744 fun t755 =>
 ldL i748 (k749 + 6) H744 fun z756b z756l z756c =>
 wCall Try.prog 38 [(.agg #[(.int .i64 n750), (.int .i64 n751), (.string t752), (.int .i64 n753), (.string t754), (.string t755), (.slice z756b z756l z756c)])] H744 (fun r757 H758 =>
 opB r757 fun b761 =>
 wCall Try.prog 25 [(.string t30), (.int .i64 n31), (.string t747), (.bool b761)] H758 (fun r762 H763 =>
 opB r762 fun b766 =>
 wIf b766
 ((wPt s5 fun i767 k768 =>
 ldI .i64 i767 k768 H763 fun n769 =>
 ldS i767 (k768 + 1) H763 fun t770 =>
 ldI .i64 i767 (k768 + 2) H763 fun n771 =>
 (wCall Try.prog 39 [(.agg #[(.int .i64 n769), (.string t770), (.int .i64 n771)])] H763 (fun r772 H773 =>
 opS r772 fun t776 =>
 wPt s5 fun i777 k778 =>
 ldI .i64 i777 k778 H773 fun n779 =>
 ldS i777 (k778 + 1) H773 fun t780 =>
 ldI .i64 i777 (k778 + 2) H773 fun n781 =>
 wCall Try.prog 40 [(.agg #[(.int .i64 n779), (.string t780), (.int .i64 n781)])] H773 (fun r782 H783 =>
 opB r782 fun b786 =>
 wCall Try.prog 25 [(.string t42), (.int .i64 n43), (.string t776), (.bool b786)] H783 (fun r787 H788 =>
 opB r787 fun b791 =>
 R (.ret (.bool b791)) H788) (fun v790 H789 => R (.panic v790) H789)) (fun v785 H784 => R (.panic v785) H784)) (fun v775 H774 => R (.panic v775) H774)) ∧
 (wPt s5 fun i792 k793 =>
 ldI .i64 i792 k793 H763 fun n794 =>
 ldS i792 (k793 + 1) H763 fun t795 =>
 ldI .i64 i792 (k793 + 2) H763 fun n796 =>
 wCall Try.prog 39 [(.agg #[(.int .i64 n769), (.string t770), (.int .i64 n771)])] H763 (fun r797 H798 =>
 opS r797 fun t801 =>
 wCall Try.prog 40 [(.agg #[(.int .i64 n794), (.string t795), (.int .i64 n796)])] H798 (fun r802 H803 =>
 opB r802 fun b806 =>
 wCall Try.prog 25 [(.string t42), (.int .i64 n43), (.string t801), (.bool b806)] H803 (fun r807 H808 =>
 opB r807 fun b811 =>
 R (.ret (.bool b811)) H808) (fun v810 H809 => R (.panic v810) H809)) (fun v805 H804 => R (.panic v805) H804)) (fun v800 H799 => R (.panic v800) H799))) ∧
 (wPt s5 fun i812 k813 =>
 ldI .i64 i812 k813 H763 fun n814 =>
 ldS i812 (k813 + 1) H763 fun t815 =>
 ldI .i64 i812 (k813 + 2) H763 fun n816 =>
 wPt s5 fun i817 k818 =>
 ldI .i64 i817 k818 H763 fun n819 =>
 ldS i817 (k818 + 1) H763 fun t820 =>
 ldI .i64 i817 (k818 + 2) H763 fun n821 =>
 wCall Try.prog 39 [(.agg #[(.int .i64 n819), (.string t820), (.int .i64 n821)])] H763 (fun r822 H823 =>
 opS r822 fun t826 =>
 wCall Try.prog 40 [(.agg #[(.int .i64 n814), (.string t815), (.int .i64 n816)])] H823 (fun r827 H828 =>
 opB r827 fun b831 =>
 wCall Try.prog 25 [(.string t42), (.int .i64 n43), (.string t826), (.bool b831)] H828 (fun r832 H833 =>
 opB r832 fun b836 =>
 R (.ret (.bool b836)) H833) (fun v835 H834 => R (.panic v835) H834)) (fun v830 H829 => R (.panic v830) H829)) (fun v825 H824 => R (.panic v825) H824)))
 (((R (.ret (.bool false)) H763) ∧
 (R (.ret (.bool false)) H763)) ∧
 (R (.ret (.bool false)) H763))) (fun v765 H764 => R (.panic v765) H764)) (fun v760 H759 => R (.panic v760) H759)) (fun v746 H745 => R (.panic v746) H745)) ∧
 (wPt s4 fun i837 k838 =>
 ldI .i64 i837 k838 H730 fun n839 =>
 ldI .i64 i837 (k838 + 1) H730 fun n840 =>
 ldS i837 (k838 + 2) H730 fun t841 =>
 ldI .i64 i837 (k838 + 3) H730 fun n842 =>
 ldS i837 (k838 + 4) H730 fun t843 =>
 ldS i837 (k838 + 5) H730 fun t844 =>
 ldL i837 (k838 + 6) H730 fun z845b z845l z845c =>
 wCall Try.prog 37 [(.agg #[(.int .i64 n736), (.int .i64 n737), (.string t738), (.int .i64 n739), (.string t740), (.string t741), (.slice z742b z742l z742c)])] H730 (fun r846 H847 =>
 opS r846 fun t850 =>
 wCall Try.prog 38 [(.agg #[(.int .i64 n839), (.int .i64 n840), (.string t841), (.int .i64 n842), (.string t843), (.string t844), (.slice z845b z845l z845c)])] H847 (fun r851 H852 =>
 opB r851 fun b855 =>
 wCall Try.prog 25 [(.string t30), (.int .i64 n31), (.string t850), (.bool b855)] H852 (fun r856 H857 =>
 opB r856 fun b860 =>
 wIf b860
 ((wPt s5 fun i861 k862 =>
 ldI .i64 i861 k862 H857 fun n863 =>
 ldS i861 (k862 + 1) H857 fun t864 =>
 ldI .i64 i861 (k862 + 2) H857 fun n865 =>
 (wCall Try.prog 39 [(.agg #[(.int .i64 n863), (.string t864), (.int .i64 n865)])] H857 (fun r866 H867 =>
 opS r866 fun t870 =>
 wPt s5 fun i871 k872 =>
 ldI .i64 i871 k872 H867 fun n873 =>
 ldS i871 (k872 + 1) H867 fun t874 =>
 ldI .i64 i871 (k872 + 2) H867 fun n875 =>
 wCall Try.prog 40 [(.agg #[(.int .i64 n873), (.string t874), (.int .i64 n875)])] H867 (fun r876 H877 =>
 opB r876 fun b880 =>
 wCall Try.prog 25 [(.string t42), (.int .i64 n43), (.string t870), (.bool b880)] H877 (fun r881 H882 =>
 opB r881 fun b885 =>
 R (.ret (.bool b885)) H882) (fun v884 H883 => R (.panic v884) H883)) (fun v879 H878 => R (.panic v879) H878)) (fun v869 H868 => R (.panic v869) H868)) ∧
 (wPt s5 fun i886 k887 =>
 ldI .i64 i886 k887 H857 fun n888 =>
 ldS i886 (k887 + 1) H857 fun t889 =>
 ldI .i64 i886 (k887 + 2) H857 fun n890 =>
 wCall Try.prog 39 [(.agg #[(.int .i64 n863), (.string t864), (.int .i64 n865)])] H857 (fun r891 H892 =>
 opS r891 fun t895 =>
 wCall Try.prog 40 [(.agg #[(.int .i64 n888), (.string t889), (.int .i64 n890)])] H892 (fun r896 H897 =>
 opB r896 fun b900 =>
 wCall Try.prog 25 [(.string t42), (.int .i64 n43), (.string t895), (.bool b900)] H897 (fun r901 H902 =>
 opB r901 fun b905 =>
 R (.ret (.bool b905)) H902) (fun v904 H903 => R (.panic v904) H903)) (fun v899 H898 => R (.panic v899) H898)) (fun v894 H893 => R (.panic v894) H893))) ∧
 (wPt s5 fun i906 k907 =>
 ldI .i64 i906 k907 H857 fun n908 =>
 ldS i906 (k907 + 1) H857 fun t909 =>
 ldI .i64 i906 (k907 + 2) H857 fun n910 =>
 wPt s5 fun i911 k912 =>
 ldI .i64 i911 k912 H857 fun n913 =>
 ldS i911 (k912 + 1) H857 fun t914 =>
 ldI .i64 i911 (k912 + 2) H857 fun n915 =>
 wCall Try.prog 39 [(.agg #[(.int .i64 n913), (.string t914), (.int .i64 n915)])] H857 (fun r916 H917 =>
 opS r916 fun t920 =>
 wCall Try.prog 40 [(.agg #[(.int .i64 n908), (.string t909), (.int .i64 n910)])] H917 (fun r921 H922 =>
 opB r921 fun b925 =>
 wCall Try.prog 25 [(.string t42), (.int .i64 n43), (.string t920), (.bool b925)] H922 (fun r926 H927 =>
 opB r926 fun b930 =>
 R (.ret (.bool b930)) H927) (fun v929 H928 => R (.panic v929) H928)) (fun v924 H923 => R (.panic v924) H923)) (fun v919 H918 => R (.panic v919) H918)))
 (((R (.ret (.bool false)) H857) ∧
 (R (.ret (.bool false)) H857)) ∧
 (R (.ret (.bool false)) H857))) (fun v859 H858 => R (.panic v859) H858)) (fun v854 H853 => R (.panic v854) H853)) (fun v849 H848 => R (.panic v849) H848))) ∧
 (wPt s4 fun i931 k932 =>
 ldI .i64 i931 k932 H730 fun n933 =>
 ldI .i64 i931 (k932 + 1) H730 fun n934 =>
 ldS i931 (k932 + 2) H730 fun t935 =>
 ldI .i64 i931 (k932 + 3) H730 fun n936 =>
 ldS i931 (k932 + 4) H730 fun t937 =>
 ldS i931 (k932 + 5) H730 fun t938 =>
 ldL i931 (k932 + 6) H730 fun z939b z939l z939c =>
 wPt s4 fun i940 k941 =>
 ldI .i64 i940 k941 H730 fun n942 =>
 ldI .i64 i940 (k941 + 1) H730 fun n943 =>
 ldS i940 (k941 + 2) H730 fun t944 =>
 ldI .i64 i940 (k941 + 3) H730 fun n945 =>
 ldS i940 (k941 + 4) H730 fun t946 =>
 ldS i940 (k941 + 5) H730 fun t947 =>
 ldL i940 (k941 + 6) H730 fun z948b z948l z948c =>
 wCall Try.prog 37 [(.agg #[(.int .i64 n942), (.int .i64 n943), (.string t944), (.int .i64 n945), (.string t946), (.string t947), (.slice z948b z948l z948c)])] H730 (fun r949 H950 =>
 opS r949 fun t953 =>
 wCall Try.prog 38 [(.agg #[(.int .i64 n933), (.int .i64 n934), (.string t935), (.int .i64 n936), (.string t937), (.string t938), (.slice z939b z939l z939c)])] H950 (fun r954 H955 =>
 opB r954 fun b958 =>
 wCall Try.prog 25 [(.string t30), (.int .i64 n31), (.string t953), (.bool b958)] H955 (fun r959 H960 =>
 opB r959 fun b963 =>
 wIf b963
 ((wPt s5 fun i964 k965 =>
 ldI .i64 i964 k965 H960 fun n966 =>
 ldS i964 (k965 + 1) H960 fun t967 =>
 ldI .i64 i964 (k965 + 2) H960 fun n968 =>
 (wCall Try.prog 39 [(.agg #[(.int .i64 n966), (.string t967), (.int .i64 n968)])] H960 (fun r969 H970 =>
 opS r969 fun t973 =>
 wPt s5 fun i974 k975 =>
 ldI .i64 i974 k975 H970 fun n976 =>
 ldS i974 (k975 + 1) H970 fun t977 =>
 ldI .i64 i974 (k975 + 2) H970 fun n978 =>
 wCall Try.prog 40 [(.agg #[(.int .i64 n976), (.string t977), (.int .i64 n978)])] H970 (fun r979 H980 =>
 opB r979 fun b983 =>
 wCall Try.prog 25 [(.string t42), (.int .i64 n43), (.string t973), (.bool b983)] H980 (fun r984 H985 =>
 opB r984 fun b988 =>
 R (.ret (.bool b988)) H985) (fun v987 H986 => R (.panic v987) H986)) (fun v982 H981 => R (.panic v982) H981)) (fun v972 H971 => R (.panic v972) H971)) ∧
 (wPt s5 fun i989 k990 =>
 ldI .i64 i989 k990 H960 fun n991 =>
 ldS i989 (k990 + 1) H960 fun t992 =>
 ldI .i64 i989 (k990 + 2) H960 fun n993 =>
 wCall Try.prog 39 [(.agg #[(.int .i64 n966), (.string t967), (.int .i64 n968)])] H960 (fun r994 H995 =>
 opS r994 fun t998 =>
 wCall Try.prog 40 [(.agg #[(.int .i64 n991), (.string t992), (.int .i64 n993)])] H995 (fun r999 H1000 =>
 opB r999 fun b1003 =>
 wCall Try.prog 25 [(.string t42), (.int .i64 n43), (.string t998), (.bool b1003)] H1000 (fun r1004 H1005 =>
 opB r1004 fun b1008 =>
 R (.ret (.bool b1008)) H1005) (fun v1007 H1006 => R (.panic v1007) H1006)) (fun v1002 H1001 => R (.panic v1002) H1001)) (fun v997 H996 => R (.panic v997) H996))) ∧
 (wPt s5 fun i1009 k1010 =>
 ldI .i64 i1009 k1010 H960 fun n1011 =>
 ldS i1009 (k1010 + 1) H960 fun t1012 =>
 ldI .i64 i1009 (k1010 + 2) H960 fun n1013 =>
 wPt s5 fun i1014 k1015 =>
 ldI .i64 i1014 k1015 H960 fun n1016 =>
 ldS i1014 (k1015 + 1) H960 fun t1017 =>
 ldI .i64 i1014 (k1015 + 2) H960 fun n1018 =>
 wCall Try.prog 39 [(.agg #[(.int .i64 n1016), (.string t1017), (.int .i64 n1018)])] H960 (fun r1019 H1020 =>
 opS r1019 fun t1023 =>
 wCall Try.prog 40 [(.agg #[(.int .i64 n1011), (.string t1012), (.int .i64 n1013)])] H1020 (fun r1024 H1025 =>
 opB r1024 fun b1028 =>
 wCall Try.prog 25 [(.string t42), (.int .i64 n43), (.string t1023), (.bool b1028)] H1025 (fun r1029 H1030 =>
 opB r1029 fun b1033 =>
 R (.ret (.bool b1033)) H1030) (fun v1032 H1031 => R (.panic v1032) H1031)) (fun v1027 H1026 => R (.panic v1027) H1026)) (fun v1022 H1021 => R (.panic v1022) H1021)))
 (((R (.ret (.bool false)) H960) ∧
 (R (.ret (.bool false)) H960)) ∧
 (R (.ret (.bool false)) H960))) (fun v962 H961 => R (.panic v962) H961)) (fun v957 H956 => R (.panic v957) H956)) (fun v952 H951 => R (.panic v952) H951)))
 (((((R (.ret (.bool false)) H730) ∧
 (R (.ret (.bool false)) H730)) ∧
 (R (.ret (.bool false)) H730)) ∧
 (((R (.ret (.bool false)) H730) ∧
 (R (.ret (.bool false)) H730)) ∧
 (R (.ret (.bool false)) H730))) ∧
 (((R (.ret (.bool false)) H730) ∧
 (R (.ret (.bool false)) H730)) ∧
 (R (.ret (.bool false)) H730)))) (fun v732 H731 => R (.panic v732) H731)) (fun v727 H726 => R (.panic v727) H726)) (fun v722 H721 => R (.panic v722) H721)))
 (((((((R (.ret (.bool false)) H45) ∧
 (R (.ret (.bool false)) H45)) ∧
 (R (.ret (.bool false)) H45)) ∧
 (((R (.ret (.bool false)) H45) ∧
 (R (.ret (.bool false)) H45)) ∧
 (R (.ret (.bool false)) H45))) ∧
 (((R (.ret (.bool false)) H45) ∧
 (R (.ret (.bool false)) H45)) ∧
 (R (.ret (.bool false)) H45))) ∧
 (((((R (.ret (.bool false)) H45) ∧
 (R (.ret (.bool false)) H45)) ∧
 (R (.ret (.bool false)) H45)) ∧
 (((R (.ret (.bool false)) H45) ∧
 (R (.ret (.bool false)) H45)) ∧
 (R (.ret (.bool false)) H45))) ∧
 (((R (.ret (.bool false)) H45) ∧
 (R (.ret (.bool false)) H45)) ∧
 (R (.ret (.bool false)) H45)))) ∧
 (((((R (.ret (.bool false)) H45) ∧
 (R (.ret (.bool false)) H45)) ∧
 (R (.ret (.bool false)) H45)) ∧
 (((R (.ret (.bool false)) H45) ∧
 (R (.ret (.bool false)) H45)) ∧
 (R (.ret (.bool false)) H45))) ∧
 (((R (.ret (.bool false)) H45) ∧
 (R (.ret (.bool false)) H45)) ∧
 (R (.ret (.bool false)) H45))))) (fun v47 H46 => R (.panic v47) H46)) (fun v40 H39 => R (.panic v40) H39)) (fun v28 H27 => R (.panic v28) H27)) (fun v12 H11 => R (.panic v12) H11)
theorem f6_J1_eq (s0 : Value) (s1 : Value) (s2 : Value) (s3 : Option Addr) (s4 : Option Addr) (s5 : Option Addr) (s6 : Value) (s7 : Value) (s8 : Value) (s9 : Value) (s10 : Value) (s11 : Value) (s12 : Value) (s13 : Value) (s14 : Value) (s15 : Value) (s16 : Value) (s17 : Value) (s18 : Value) (s19 : Value) (s20 : Value) (s21 : Value) (s22 : Value) (s23 : Value) (s24 : Value) (s25 : Value) (s26 : Value) (s27 : Value) (s28 : Value) (s29 : Value) (s30 : Value) (s31 : Value) (s32 : Value) (s33 : Value) (s34 : Value) (s35 : Value) (s36 : Value) (s37 : Value) (s38 : Value) (s39 : Value) (s40 : Value) (s41 : Value) (s42 : Value) (s43 : Value) (s44 : Value) (s45 : Value) (s46 : Value) (s47 : Value) (s48 : Value) (s49 : Value) (s50 : Value) (s51 : Value) (s52 : Value) (s53 : Value) (s54 : Value) (s55 : Value) (s56 : Value) (s57 : Value) (s58 : Value) (s59 : Value) (s60 : Value) (s61 : Value) (s62 : Value) (s63 : Value) (s64 : Value) (s65 : Value) (s66 : Value) (s67 : Value) (s68 : Value) (s69 : Value) (H : AH) (R : AEnd → AH → Prop) : f6_J1 R [s0, s1, s2, (.pointer s3), (.pointer s4), (.pointer s5), s6, s7, s8, s9, s10, s11, s12, s13, s14, s15, s16, s17, s18, s19, s20, s21, s22, s23, s24, s25, s26, s27, s28, s29, s30, s31, s32, s33, s34, s35, s36, s37, s38, s39, s40, s41, s42, s43, s44, s45, s46, s47, s48, s49, s50, s51, s52, s53, s54, s55, s56, s57, s58, s59, s60, s61, s62, s63, s64, s65, s66, s67, s68, s69] H = f6_J1_B s3 s4 s5 H R := by kernel_rfl
-- join 0: live 3:C, 4:o, 5:d, 25:?
def f6_J0_B (s0 : Value) (s1 : Value) (s2 : Value) (s3 : Option Addr) (s4 : Option Addr) (s5 : Option Addr) (s6 : Value) (s7 : Value) (s8 : Value) (s9 : Value) (s10 : Value) (s11 : Value) (s12 : Value) (s13 : Value) (s14 : Value) (s15 : Value) (s16 : Value) (s17 : Value) (s18 : Value) (s19 : Value) (s20 : Value) (s21 : Value) (s22 : Value) (s23 : Value) (s24 : Value) (s25 : Bool) (s26 : Value) (s27 : Value) (s28 : Value) (s29 : Value) (s30 : Value) (s31 : Value) (s32 : Value) (s33 : Value) (s34 : Value) (s35 : Value) (s36 : Value) (s37 : Value) (s38 : Value) (s39 : Value) (s40 : Value) (s41 : Value) (s42 : Value) (s43 : Value) (s44 : Value) (s45 : Value) (s46 : Value) (s47 : Value) (s48 : Value) (s49 : Value) (s50 : Value) (s51 : Value) (s52 : Value) (s53 : Value) (s54 : Value) (s55 : Value) (s56 : Value) (s57 : Value) (s58 : Value) (s59 : Value) (s60 : Value) (s61 : Value) (s62 : Value) (s63 : Value) (s64 : Value) (s65 : Value) (s66 : Value) (s67 : Value) (s68 : Value) (s69 : Value) (H : AH) (R : AEnd → AH → Prop) : Prop :=
 wIf s25
 (wCall Try.prog 10 [] H (fun r1034 H1035 =>
 opB r1034 fun b1038 =>
 R (.ret (.bool b1038)) H1035) (fun v1037 H1036 => R (.panic v1037) H1036))
 (f6_J1 R [s0, s1, s2, (.pointer s3), (.pointer s4), (.pointer s5), s6, s7, s8, s9, s10, s11, s12, s13, s14, s15, s16, s17, s18, s19, s20, s21, s22, s23, s24, (.bool false), s26, s27, s28, s29, s30, s31, s32, s33, s34, s35, s36, s37, s38, s39, s40, s41, s42, s43, s44, s45, s46, s47, s48, s49, s50, s51, s52, s53, s54, s55, s56, s57, s58, s59, s60, s61, s62, s63, s64, s65, s66, s67, s68, s69] H)
theorem f6_J0_eq (s0 : Value) (s1 : Value) (s2 : Value) (s3 : Option Addr) (s4 : Option Addr) (s5 : Option Addr) (s6 : Value) (s7 : Value) (s8 : Value) (s9 : Value) (s10 : Value) (s11 : Value) (s12 : Value) (s13 : Value) (s14 : Value) (s15 : Value) (s16 : Value) (s17 : Value) (s18 : Value) (s19 : Value) (s20 : Value) (s21 : Value) (s22 : Value) (s23 : Value) (s24 : Value) (s25 : Bool) (s26 : Value) (s27 : Value) (s28 : Value) (s29 : Value) (s30 : Value) (s31 : Value) (s32 : Value) (s33 : Value) (s34 : Value) (s35 : Value) (s36 : Value) (s37 : Value) (s38 : Value) (s39 : Value) (s40 : Value) (s41 : Value) (s42 : Value) (s43 : Value) (s44 : Value) (s45 : Value) (s46 : Value) (s47 : Value) (s48 : Value) (s49 : Value) (s50 : Value) (s51 : Value) (s52 : Value) (s53 : Value) (s54 : Value) (s55 : Value) (s56 : Value) (s57 : Value) (s58 : Value) (s59 : Value) (s60 : Value) (s61 : Value) (s62 : Value) (s63 : Value) (s64 : Value) (s65 : Value) (s66 : Value) (s67 : Value) (s68 : Value) (s69 : Value) (H : AH) (R : AEnd → AH → Prop) : f6_J0 R [s0, s1, s2, (.pointer s3), (.pointer s4), (.pointer s5), s6, s7, s8, s9, s10, s11, s12, s13, s14, s15, s16, s17, s18, s19, s20, s21, s22, s23, s24, (.bool s25), s26, s27, s28, s29, s30, s31, s32, s33, s34, s35, s36, s37, s38, s39, s40, s41, s42, s43, s44, s45, s46, s47, s48, s49, s50, s51, s52, s53, s54, s55, s56, s57, s58, s59, s60, s61, s62, s63, s64, s65, s66, s67, s68, s69] H = f6_J0_B s0 s1 s2 s3 s4 s5 s6 s7 s8 s9 s10 s11 s12 s13 s14 s15 s16 s17 s18 s19 s20 s21 s22 s23 s24 s25 s26 s27 s28 s29 s30 s31 s32 s33 s34 s35 s36 s37 s38 s39 s40 s41 s42 s43 s44 s45 s46 s47 s48 s49 s50 s51 s52 s53 s54 s55 s56 s57 s58 s59 s60 s61 s62 s63 s64 s65 s66 s67 s68 s69 H R := by kernel_rfl
def f6_B (x0_0 : Int) (x0_1 : Int) (x0_2 : ByteArray) (x0_3b : Option Addr) (x0_3l : Nat) (x0_3c : Nat) (x0_4b : Option Addr) (x0_4l : Nat) (x0_4c : Nat) (x0_5 : Int) (x1_0 : Int) (x1_1 : Int) (x1_2 : ByteArray) (x1_3 : Int) (x1_4 : ByteArray) (x1_5 : ByteArray) (x1_6b : Option Addr) (x1_6l : Nat) (x1_6c : Nat) (x2_0 : Int) (x2_1 : ByteArray) (x2_2 : Int) (H : AH) (R : AEnd → AH → Prop) : Prop :=
 wNew [(.int .i64 x0_0), (.int .i64 x0_1), (.string x0_2), (.slice x0_3b x0_3l x0_3c), (.slice x0_4b x0_4l x0_4c), (.int .i64 x0_5)] H fun i1039 H1040 =>
 wNew [(.int .i64 x1_0), (.int .i64 x1_1), (.string x1_2), (.int .i64 x1_3), (.string x1_4), (.string x1_5), (.slice x1_6b x1_6l x1_6c)] H1040 fun i1041 H1042 =>
 wNew [(.int .i64 x2_0), (.string x2_1), (.int .i64 x2_2)] H1042 fun i1043 H1044 =>
 wCall Try.prog 10 [] H1044 (fun r1045 H1046 =>
 opB r1045 fun b1049 =>
 wIf (!b1049)
 (R (.ret (.bool false)) H1046)
 (ldI .i64 i1039 1 H1046 fun n1050 =>
 ldS i1039 2 H1046 fun t1051 =>
 ldL i1039 3 H1046 fun z1052b z1052l z1052c =>
 ldL i1039 4 H1046 fun z1053b z1053l z1053c =>
 wBs [(.int .i64 n1050), (.string t1051), (.slice z1052b z1052l z1052c), (.slice z1053b z1053l z1053c)] 4 H1046 fun i1054 H1055 =>
 wCall Try.prog 11 [(.slice (some ⟨i1054, 0, none⟩) 1 0)] H1055 (fun r1056 H1057 =>
 opB r1056 fun b1060 =>
 wIf (!b1060)
 (f6_J0 R [(.agg #[(.int .i64 x0_0), (.int .i64 x0_1), (.string x0_2), (.slice x0_3b x0_3l x0_3c), (.slice x0_4b x0_4l x0_4c), (.int .i64 x0_5)]), (.agg #[(.int .i64 x1_0), (.int .i64 x1_1), (.string x1_2), (.int .i64 x1_3), (.string x1_4), (.string x1_5), (.slice x1_6b x1_6l x1_6c)]), (.agg #[(.int .i64 x2_0), (.string x2_1), (.int .i64 x2_2)]), (.pointer (some ⟨i1039, 0, none⟩)), (.pointer (some ⟨i1041, 0, none⟩)), (.pointer (some ⟨i1043, 0, none⟩)), (.bool false), undef, undef, undef, undef, undef, undef, (.bool b1049), (.bool false), (.pointer (some ⟨i1039, 1, none⟩)), (.agg #[(.int .i64 n1050), (.string t1051), (.slice z1052b z1052l z1052c), (.slice z1053b z1053l z1053c)]), (.slice (some ⟨i1054, 0, none⟩) 1 0), (.bool b1060), (.bool (!b1060)), (.bool true), undef, undef, undef, undef, (.bool true), undef, undef, undef, undef, undef, undef, undef, undef, undef, undef, undef, undef, undef, undef, undef, undef, undef, undef, undef, undef, undef, undef, undef, undef, undef, undef, undef, undef, undef, undef, undef, undef, undef, undef, undef, undef, undef, undef, undef, undef, undef, undef, undef, undef] H1057)
 (ldL i1041 6 H1057 fun z1061b z1061l z1061c =>
 f6_J0 R [(.agg #[(.int .i64 x0_0), (.int .i64 x0_1), (.string x0_2), (.slice x0_3b x0_3l x0_3c), (.slice x0_4b x0_4l x0_4c), (.int .i64 x0_5)]), (.agg #[(.int .i64 x1_0), (.int .i64 x1_1), (.string x1_2), (.int .i64 x1_3), (.string x1_4), (.string x1_5), (.slice x1_6b x1_6l x1_6c)]), (.agg #[(.int .i64 x2_0), (.string x2_1), (.int .i64 x2_2)]), (.pointer (some ⟨i1039, 0, none⟩)), (.pointer (some ⟨i1041, 0, none⟩)), (.pointer (some ⟨i1043, 0, none⟩)), (.bool false), undef, undef, undef, undef, undef, undef, (.bool b1049), (.bool false), (.pointer (some ⟨i1039, 1, none⟩)), (.agg #[(.int .i64 n1050), (.string t1051), (.slice z1052b z1052l z1052c), (.slice z1053b z1053l z1053c)]), (.slice (some ⟨i1054, 0, none⟩) 1 0), (.bool b1060), (.bool (!b1060)), (.bool false), (.pointer (some ⟨i1041, 6, none⟩)), (.slice z1061b z1061l z1061c), (.int .i64 (z1061l : Int)), (.bool (decide ((z1061l : Int) > 40))), (.bool (decide ((z1061l : Int) > 40))), undef, undef, undef, undef, undef, undef, undef, undef, undef, undef, undef, undef, undef, undef, undef, undef, undef, undef, undef, undef, undef, undef, undef, undef, undef, undef, undef, undef, undef, undef, undef, undef, undef, undef, undef, undef, undef, undef, undef, undef, undef, undef, undef, undef] H1057)) (fun v1059 H1058 => R (.panic v1059) H1058))) (fun v1048 H1047 => R (.panic v1048) H1047)
theorem f6_eq (x0_0 : Int) (x0_1 : Int) (x0_2 : ByteArray) (x0_3b : Option Addr) (x0_3l : Nat) (x0_3c : Nat) (x0_4b : Option Addr) (x0_4l : Nat) (x0_4c : Nat) (x0_5 : Int) (x1_0 : Int) (x1_1 : Int) (x1_2 : ByteArray) (x1_3 : Int) (x1_4 : ByteArray) (x1_5 : ByteArray) (x1_6b : Option Addr) (x1_6l : Nat) (x1_6c : Nat) (x2_0 : Int) (x2_1 : ByteArray) (x2_2 : Int) (H : AH) (R : AEnd → AH → Prop) : awpF Try.prog f6_c (aPost Try.prog Try.f6 R) (([(.agg #[(.int .i64 x0_0), (.int .i64 x0_1), (.string x0_2), (.slice x0_3b x0_3l x0_3c), (.slice x0_4b x0_4l x0_4c), (.int .i64 x0_5)]), (.agg #[(.int .i64 x1_0), (.int .i64 x1_1), (.string x1_2), (.int .i64 x1_3), (.string x1_4), (.string x1_5), (.slice x1_6b x1_6l x1_6c)]), (.agg #[(.int .i64 x2_0), (.string x2_1), (.int .i64 x2_2)])] : List Value) ++ List.replicate (Try.f6.ntmps - (([(.agg #[(.int .i64 x0_0), (.int .i64 x0_1), (.string x0_2), (.slice x0_3b x0_3l x0_3c), (.slice x0_4b x0_4l x0_4c), (.int .i64 x0_5)]), (.agg #[(.int .i64 x1_0), (.int .i64 x1_1), (.string x1_2), (.int .i64 x1_3), (.string x1_4), (.string x1_5), (.slice x1_6b x1_6l x1_6c)]), (.agg #[(.int .i64 x2_0), (.string x2_1), (.int .i64 x2_2)])] : List Value)).length) undef) H = f6_B x0_0 x0_1 x0_2 x0_3b x0_3l x0_3c x0_4b x0_4l x0_4c x0_5 x1_0 x1_1 x1_2 x1_3 x1_4 x1_5 x1_6b x1_6l x1_6c x2_0 x2_1 x2_2 H R := by kernel_rfl
theorem f6_call (x0_0 : Int) (x0_1 : Int) (x0_2 : ByteArray) (x0_3b : Option Addr) (x0_3l : Nat) (x0_3c : Nat) (x0_4b : Option Addr) (x0_4l : Nat) (x0_4c : Nat) (x0_5 : Int) (x1_0 : Int) (x1_1 : Int) (x1_2 : ByteArray) (x1_3 : Int) (x1_4 : ByteArray) (x1_5 : ByteArray) (x1_6b : Option Addr) (x1_6l : Nat) (x1_6c : Nat) (x2_0 : Int) (x2_1 : ByteArray) (x2_2 : Int) (H : AH) (R : AEnd → AH → Prop) (h : f6_B x0_0 x0_1 x0_2 x0_3b x0_3l x0_3c x0_4b x0_4l x0_4c x0_5 x1_0 x1_1 x1_2 x1_3 x1_4 x1_5 x1_6b x1_6l x1_6c x2_0 x2_1 x2_2 H R) : ACall Try.prog 6 ([(.agg #[(.int .i64 x0_0), (.int .i64 x0_1), (.string x0_2), (.slice x0_3b x0_3l x0_3c), (.slice x0_4b x0_4l x0_4c), (.int .i64 x0_5)]), (.agg #[(.int .i64 x1_0), (.int .i64 x1_1), (.string x1_2), (.int .i64 x1_3), (.string x1_4), (.string x1_5), (.slice x1_6b x1_6l x1_6c)]), (.agg #[(.int .i64 x2_0), (.string x2_1), (.int .i64 x2_2)])] : List Value) H R :=
  acall_of mixed Try.func6 (by kernel_rfl : Try.f6.body = some f6_c) (by kernel_rfl) (by kernel_rfl) (awp_of (Eq.mpr (f6_eq x0_0 x0_1 x0_2 x0_3b x0_3l x0_3c x0_4b x0_4l x0_4c x0_5 x1_0 x1_1 x1_2 x1_3 x1_4 x1_5 x1_6b x1_6l x1_6c x2_0 x2_1 x2_2 H R) h))

end Go.Proofs.Ytfghglacfjncmaa
