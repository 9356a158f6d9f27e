/- The texts that the law PolyWays needs, part 5. No conditions. -/
import Derived.ChangeArms
import Derived.WideShapes
import Derived.OpenShut
import Derived.Deep.Slices
import Derived.Test.YtkfppigcjdapnaaMPolyWays4
namespace Go.Proofs.Ytkfppigcjdapnaa.AE
set_option linter.unusedVariables false
set_option linter.unusedSimpArgs false
set_option linter.constructorNameAsVariable false
open Go
set_option maxRecDepth 100000
def r6R4 (C : Cb) (d : Nat) (a0 : List AV) (a1 a2 a3 a4 : Int) (v0 v2 : AV) (b49 b50 b51 : Bool) (v52 v53 v54 : AV) (b55 b56 : Bool) (v57 v58 v59 : AV) (b60 b61 : Bool) (v62 v63 v64 : AV) (b65 b66 : Bool) (v67 v68 v69 : AV) (x76 x77 x78 x79 : Int) (b80 : Bool) (v81 v205 : AV) (x206 : Int) (v207 v208 : AV) (x209 : Int) (b210 b211 : Bool) (v212 v213 v214 v215 v216 v217 : AV) (b218 b219 : Bool) (v220 v221 v222 v223 v224 v225 : AV) (b226 b227 : Bool) (v228 v229 v230 v231 v232 v233 : AV) (b234 b235 : Bool) (v236 v237 v238 v239 : AV) (x243 x252 : Int) (v289 : AV) (k291 : Ex → St → Ans) (b293 b294 : Bool) (v325 v326 v327 v328 v329 v330 v331 v332 v333 : AV) (x338 x339 : Int) (v340 : AV) (x346 : Int) (v347 : AV) (x352 x353 : Int) (v354 : AV) : St → (Ex → St → Ans) → Ans := fun s358 k359 =>
 cnd ((List.length s358.env) == 133)
 (C.same s358.env[0]? (.lst a0) <|
 C.same s358.env[1]? (.agg [(iz a1), (iz a2)]) <|
 C.same s358.env[2]? (.agg [(iz a3), (iz a4)]) <|
 C.same s358.env[3]? tz <|
 C.same s358.env[4]? v0 <|
 C.same s358.env[5]? v2 <|
 C.same s358.env[6]? (.bool b293) <|
 C.same s358.env[7]? v81 <|
 C.same s358.env[8]? (.bool b80) <|
 C.same s358.env[9]? (.bool b294) <|
 C.same s358.env[10]? (iz x252) <|
 C.same s358.env[11]? v340 <|
 C.same s358.env[12]? v354 <|
 C.same s358.env[13]? (.bool b49) <|
 C.same s358.env[14]? (.bool b50) <|
 C.same s358.env[15]? (.bool b51) <|
 C.same s358.env[16]? v52 <|
 C.same s358.env[17]? v53 <|
 C.same s358.env[18]? v54 <|
 C.same s358.env[19]? (.bool b55) <|
 C.same s358.env[20]? (.bool b56) <|
 C.same s358.env[21]? v57 <|
 C.same s358.env[22]? v58 <|
 C.same s358.env[23]? v59 <|
 C.same s358.env[24]? (.bool b60) <|
 C.same s358.env[25]? (.bool b61) <|
 C.same s358.env[26]? v62 <|
 C.same s358.env[27]? v63 <|
 C.same s358.env[28]? v64 <|
 C.same s358.env[29]? (.bool b65) <|
 C.same s358.env[30]? (.bool b66) <|
 C.same s358.env[31]? v67 <|
 C.same s358.env[32]? v68 <|
 C.same s358.env[33]? v69 <|
 C.same s358.env[34]? bf <|
 C.same s358.env[35]? tz <|
 C.same s358.env[36]? (.tup [(.agg [(iz x76), (iz x77), (iz x78), (iz x79)]), (.bool b80)]) <|
 C.same s358.env[37]? (.lst a0) <|
 C.same s358.env[38]? (.tup [(.agg [(iz x76), (iz x77), (iz x78), (iz x79)]), (.bool b80)]) <|
 C.same s358.env[39]? (.agg [(iz x76), (iz x77), (iz x78), (iz x79)]) <|
 C.same s358.env[40]? (.bool b80) <|
 C.same s358.env[41]? v205 <|
 C.same s358.env[42]? (iz x206) <|
 C.same s358.env[43]? v207 <|
 C.same s358.env[44]? v208 <|
 C.same s358.env[45]? (iz x209) <|
 C.same s358.env[46]? (.bool b210) <|
 C.same s358.env[47]? (.bool b211) <|
 C.same s358.env[48]? v212 <|
 C.same s358.env[49]? v213 <|
 C.same s358.env[50]? v214 <|
 C.same s358.env[51]? v215 <|
 C.same s358.env[52]? v216 <|
 C.same s358.env[53]? v217 <|
 C.same s358.env[54]? (.bool b218) <|
 C.same s358.env[55]? (.bool b219) <|
 C.same s358.env[56]? v220 <|
 C.same s358.env[57]? v221 <|
 C.same s358.env[58]? v222 <|
 C.same s358.env[59]? v223 <|
 C.same s358.env[60]? v224 <|
 C.same s358.env[61]? v225 <|
 C.same s358.env[62]? (.bool b226) <|
 C.same s358.env[63]? (.bool b227) <|
 C.same s358.env[64]? v228 <|
 C.same s358.env[65]? v229 <|
 C.same s358.env[66]? v230 <|
 C.same s358.env[67]? v231 <|
 C.same s358.env[68]? v232 <|
 C.same s358.env[69]? v233 <|
 C.same s358.env[70]? (.bool b234) <|
 C.same s358.env[71]? (.bool b235) <|
 C.same s358.env[72]? v236 <|
 C.same s358.env[73]? v237 <|
 C.same s358.env[74]? v238 <|
 C.same s358.env[75]? v239 <|
 C.same s358.env[76]? bf <|
 C.same s358.env[77]? (.lst a0) <|
 C.same s358.env[78]? (iz x243) <|
 C.same s358.env[79]? (iz x252) <|
 C.same s358.env[80]? bt <|
 C.same s358.env[81]? (iz x252) <|
 C.same s358.env[82]? v333 <|
 C.same s358.env[83]? (.agg [(iz x338), (iz x339)]) <|
 C.same s358.env[84]? (.lst a0) <|
 C.same s358.env[85]? (iz x252) <|
 C.same s358.env[86]? (iz (IntKind.wrap .i64 (x252 + 1))) <|
 C.same s358.env[87]? (.lst a0) <|
 C.same s358.env[88]? (iz x346) <|
 C.same s358.env[89]? (iz (Int.tmod (IntKind.wrap .i64 (x252 + 1)) x346)) <|
 C.same s358.env[90]? v347 <|
 C.same s358.env[91]? (.agg [(iz x352), (iz x353)]) <|
 C.any s358.env[92]? fun v361 =>
 C.any s358.env[93]? fun v362 =>
 C.any s358.env[94]? fun v363 =>
 C.any s358.env[95]? fun v364 =>
 C.any s358.env[96]? fun v365 =>
 C.any s358.env[97]? fun v366 =>
 C.any s358.env[98]? fun v367 =>
 C.any s358.env[99]? fun v368 =>
 C.any s358.env[100]? fun v369 =>
 C.any s358.env[101]? fun v370 =>
 C.any s358.env[102]? fun v371 =>
 C.any s358.env[103]? fun v372 =>
 C.any s358.env[104]? fun v373 =>
 C.any s358.env[105]? fun v374 =>
 C.any s358.env[106]? fun v375 =>
 C.any s358.env[107]? fun v376 =>
 C.same s358.env[108]? v325 <|
 C.same s358.env[109]? v326 <|
 C.same s358.env[110]? v327 <|
 C.same s358.env[111]? v328 <|
 C.same s358.env[112]? v329 <|
 C.same s358.env[113]? v330 <|
 C.same s358.env[114]? v331 <|
 C.same s358.env[115]? v332 <|
 C.same s358.env[116]? v289 <|
 C.same s358.env[117]? tz <|
 C.same s358.env[118]? tz <|
 C.same s358.env[119]? tz <|
 C.same s358.env[120]? tz <|
 C.same s358.env[121]? tz <|
 C.same s358.env[122]? tz <|
 C.same s358.env[123]? tz <|
 C.same s358.env[124]? tz <|
 C.same s358.env[125]? tz <|
 C.same s358.env[126]? tz <|
 C.same s358.env[127]? tz <|
 C.same s358.env[128]? tz <|
 C.same s358.env[129]? tz <|
 C.same s358.env[130]? tz <|
 C.same s358.env[131]? tz <|
 C.same s358.env[132]? tz <|
 C.hop (St.H s358) (.load true 2 (.v v340)) fun v377 h378 =>
 C.agg 2 (some v377) fun l379 =>
 C.int .i64 l379[0]? fun x380 =>
 C.int .i64 l379[1]? fun x381 =>
 C.snp h378 [(.lst a0), (.agg [(iz x380), (iz x381)])] fun l382 b383 =>
 C.int .i64 (pcall M d 16 l382) fun x384 =>
 cnd (b383 || true)
 (cnd (x384 != 0)
 (k359 (.exit 2000000) ⟨[(.lst a0), (.agg [(iz a1), (iz a2)]), (.agg [(iz a3), (iz a4)]), tz, v0, v2, (.bool b293), v81, (.bool b80), (.bool b294), (iz x252), v340, v354, (.bool b49), (.bool b50), (.bool b51), v52, v53, v54, (.bool b55), (.bool b56), v57, v58, v59, (.bool b60), (.bool b61), v62, v63, v64, (.bool b65), (.bool b66), v67, v68, v69, bf, tz, (.tup [(.agg [(iz x76), (iz x77), (iz x78), (iz x79)]), (.bool b80)]), (.lst a0), (.tup [(.agg [(iz x76), (iz x77), (iz x78), (iz x79)]), (.bool b80)]), (.agg [(iz x76), (iz x77), (iz x78), (iz x79)]), (.bool b80), v205, (iz x206), v207, v208, (iz x209), (.bool b210), (.bool b211), v212, v213, v214, v215, v216, v217, (.bool b218), (.bool b219), v220, v221, v222, v223, v224, v225, (.bool b226), (.bool b227), v228, v229, v230, v231, v232, v233, (.bool b234), (.bool b235), v236, v237, v238, v239, bf, (.lst a0), (iz x243), (iz x252), bt, (iz x252), v333, (.agg [(iz x338), (iz x339)]), (.lst a0), (iz x252), (iz (IntKind.wrap .i64 (x252 + 1))), (.lst a0), (iz x346), (iz (Int.tmod (IntKind.wrap .i64 (x252 + 1)) x346)), v347, (.agg [(iz x352), (iz x353)]), (.lst a0), (.agg [(iz x380), (iz x381)]), (iz x384), (.bool (x384 != 0)), bt, tz, tz, tz, tz, tz, tz, tz, tz, tz, tz, bt, v325, v326, v327, v328, v329, v330, v331, v332, v289, tz, tz, tz, tz, tz, tz, tz, tz, tz, tz, tz, tz, tz, tz, tz, tz], h378⟩)
 (C.hop h378 (.load true 2 (.v v0)) fun v385 h386 =>
 C.agg 2 (some v385) fun l387 =>
 C.int .i64 l387[0]? fun x388 =>
 C.int .i64 l387[1]? fun x389 =>
 C.hop h386 (.load true 2 (.v v340)) fun v390 h391 =>
 C.agg 2 (some v390) fun l392 =>
 C.int .i64 l392[0]? fun x393 =>
 C.int .i64 l392[1]? fun x394 =>
 C.hop h391 (.load true 2 (.v v354)) fun v395 h396 =>
 C.agg 2 (some v395) fun l397 =>
 C.int .i64 l397[0]? fun x398 =>
 C.int .i64 l397[1]? fun x399 =>
 C.bool (pcall M d 27 [(.agg [(iz x388), (iz x389)]), (.agg [(iz x393), (iz x394)]), (.agg [(iz x398), (iz x399)])]) fun b400 =>
 cnd b400
 (C.hop h396 (.load true 2 (.v v0)) fun v401 h402 =>
 C.agg 2 (some v401) fun l403 =>
 C.int .i64 l403[0]? fun x404 =>
 C.int .i64 l403[1]? fun x405 =>
 C.snp h402 [(.lst a0), (.agg [(iz x404), (iz x405)])] fun l406 b407 =>
 C.int .i64 (pcall M d 16 l406) fun x408 =>
 cnd (b407 || true)
 (k359 (.exit 2000000) ⟨[(.lst a0), (.agg [(iz a1), (iz a2)]), (.agg [(iz a3), (iz a4)]), tz, v0, v2, (.bool b293), v81, (.bool b80), (.bool b294), (iz x252), v340, v354, (.bool b49), (.bool b50), (.bool b51), v52, v53, v54, (.bool b55), (.bool b56), v57, v58, v59, (.bool b60), (.bool b61), v62, v63, v64, (.bool b65), (.bool b66), v67, v68, v69, bf, tz, (.tup [(.agg [(iz x76), (iz x77), (iz x78), (iz x79)]), (.bool b80)]), (.lst a0), (.tup [(.agg [(iz x76), (iz x77), (iz x78), (iz x79)]), (.bool b80)]), (.agg [(iz x76), (iz x77), (iz x78), (iz x79)]), (.bool b80), v205, (iz x206), v207, v208, (iz x209), (.bool b210), (.bool b211), v212, v213, v214, v215, v216, v217, (.bool b218), (.bool b219), v220, v221, v222, v223, v224, v225, (.bool b226), (.bool b227), v228, v229, v230, v231, v232, v233, (.bool b234), (.bool b235), v236, v237, v238, v239, bf, (.lst a0), (iz x243), (iz x252), bt, (iz x252), v333, (.agg [(iz x338), (iz x339)]), (.lst a0), (iz x252), (iz (IntKind.wrap .i64 (x252 + 1))), (.lst a0), (iz x346), (iz (Int.tmod (IntKind.wrap .i64 (x252 + 1)) x346)), v347, (.agg [(iz x352), (iz x353)]), (.lst a0), (.agg [(iz x380), (iz x381)]), (iz x384), (.bool (x384 != 0)), bf, (.agg [(iz x388), (iz x389)]), (.agg [(iz x393), (iz x394)]), (.agg [(iz x398), (iz x399)]), (.bool b400), bt, (.lst a0), (.agg [(iz x404), (iz x405)]), (iz x408), (.bool (x408 != 0)), (.bool (x408 != 0)), (.bool (x408 != 0)), v325, v326, v327, v328, v329, v330, v331, v332, v289, tz, tz, tz, tz, tz, tz, tz, tz, tz, tz, tz, tz, tz, tz, tz, tz], h402⟩)
 (none))
 (k359 (.exit 2000000) ⟨[(.lst a0), (.agg [(iz a1), (iz a2)]), (.agg [(iz a3), (iz a4)]), tz, v0, v2, (.bool b293), v81, (.bool b80), (.bool b294), (iz x252), v340, v354, (.bool b49), (.bool b50), (.bool b51), v52, v53, v54, (.bool b55), (.bool b56), v57, v58, v59, (.bool b60), (.bool b61), v62, v63, v64, (.bool b65), (.bool b66), v67, v68, v69, bf, tz, (.tup [(.agg [(iz x76), (iz x77), (iz x78), (iz x79)]), (.bool b80)]), (.lst a0), (.tup [(.agg [(iz x76), (iz x77), (iz x78), (iz x79)]), (.bool b80)]), (.agg [(iz x76), (iz x77), (iz x78), (iz x79)]), (.bool b80), v205, (iz x206), v207, v208, (iz x209), (.bool b210), (.bool b211), v212, v213, v214, v215, v216, v217, (.bool b218), (.bool b219), v220, v221, v222, v223, v224, v225, (.bool b226), (.bool b227), v228, v229, v230, v231, v232, v233, (.bool b234), (.bool b235), v236, v237, v238, v239, bf, (.lst a0), (iz x243), (iz x252), bt, (iz x252), v333, (.agg [(iz x338), (iz x339)]), (.lst a0), (iz x252), (iz (IntKind.wrap .i64 (x252 + 1))), (.lst a0), (iz x346), (iz (Int.tmod (IntKind.wrap .i64 (x252 + 1)) x346)), v347, (.agg [(iz x352), (iz x353)]), (.lst a0), (.agg [(iz x380), (iz x381)]), (iz x384), (.bool (x384 != 0)), bf, (.agg [(iz x388), (iz x389)]), (.agg [(iz x393), (iz x394)]), (.agg [(iz x398), (iz x399)]), (.bool b400), bf, tz, tz, tz, tz, bf, bf, v325, v326, v327, v328, v329, v330, v331, v332, v289, tz, tz, tz, tz, tz, tz, tz, tz, tz, tz, tz, tz, tz, tz, tz, tz], h396⟩)))
 (none))
 (none)
def r6X4_0 (C : Cb) (d : Nat) (a0 : List AV) (a1 a2 a3 a4 : Int) (v0 v2 : AV) (b49 b50 b51 : Bool) (v52 v53 v54 : AV) (b55 b56 : Bool) (v57 v58 v59 : AV) (b60 b61 : Bool) (v62 v63 v64 : AV) (b65 b66 : Bool) (v67 v68 v69 : AV) (x76 x77 x78 x79 : Int) (b80 : Bool) (v81 v205 : AV) (x206 : Int) (v207 v208 : AV) (x209 : Int) (b210 b211 : Bool) (v212 v213 v214 v215 v216 v217 : AV) (b218 b219 : Bool) (v220 v221 v222 v223 v224 v225 : AV) (b226 b227 : Bool) (v228 v229 v230 v231 v232 v233 : AV) (b234 b235 : Bool) (v236 v237 v238 v239 : AV) (x243 x252 : Int) (v289 : AV) (k291 : Ex → St → Ans) (b293 b294 : Bool) (v325 v326 v327 v328 v329 v330 v331 v332 v333 : AV) (x338 x339 : Int) (v340 : AV) (x346 : Int) (v347 : AV) (x352 x353 : Int) (v354 : AV) : St → Ans := fun s409 =>
 cnd ((List.length s409.env) == 133)
 (C.same s409.env[0]? (.lst a0) <|
 C.same s409.env[1]? (.agg [(iz a1), (iz a2)]) <|
 C.same s409.env[2]? (.agg [(iz a3), (iz a4)]) <|
 C.same s409.env[3]? tz <|
 C.same s409.env[4]? v0 <|
 C.same s409.env[5]? v2 <|
 C.same s409.env[6]? (.bool b293) <|
 C.same s409.env[7]? v81 <|
 C.same s409.env[8]? (.bool b80) <|
 C.same s409.env[9]? (.bool b294) <|
 C.same s409.env[10]? (iz x252) <|
 C.same s409.env[11]? v340 <|
 C.same s409.env[12]? v354 <|
 C.same s409.env[13]? (.bool b49) <|
 C.same s409.env[14]? (.bool b50) <|
 C.same s409.env[15]? (.bool b51) <|
 C.same s409.env[16]? v52 <|
 C.same s409.env[17]? v53 <|
 C.same s409.env[18]? v54 <|
 C.same s409.env[19]? (.bool b55) <|
 C.same s409.env[20]? (.bool b56) <|
 C.same s409.env[21]? v57 <|
 C.same s409.env[22]? v58 <|
 C.same s409.env[23]? v59 <|
 C.same s409.env[24]? (.bool b60) <|
 C.same s409.env[25]? (.bool b61) <|
 C.same s409.env[26]? v62 <|
 C.same s409.env[27]? v63 <|
 C.same s409.env[28]? v64 <|
 C.same s409.env[29]? (.bool b65) <|
 C.same s409.env[30]? (.bool b66) <|
 C.same s409.env[31]? v67 <|
 C.same s409.env[32]? v68 <|
 C.same s409.env[33]? v69 <|
 C.same s409.env[34]? bf <|
 C.same s409.env[35]? tz <|
 C.same s409.env[36]? (.tup [(.agg [(iz x76), (iz x77), (iz x78), (iz x79)]), (.bool b80)]) <|
 C.same s409.env[37]? (.lst a0) <|
 C.same s409.env[38]? (.tup [(.agg [(iz x76), (iz x77), (iz x78), (iz x79)]), (.bool b80)]) <|
 C.same s409.env[39]? (.agg [(iz x76), (iz x77), (iz x78), (iz x79)]) <|
 C.same s409.env[40]? (.bool b80) <|
 C.same s409.env[41]? v205 <|
 C.same s409.env[42]? (iz x206) <|
 C.same s409.env[43]? v207 <|
 C.same s409.env[44]? v208 <|
 C.same s409.env[45]? (iz x209) <|
 C.same s409.env[46]? (.bool b210) <|
 C.same s409.env[47]? (.bool b211) <|
 C.same s409.env[48]? v212 <|
 C.same s409.env[49]? v213 <|
 C.same s409.env[50]? v214 <|
 C.same s409.env[51]? v215 <|
 C.same s409.env[52]? v216 <|
 C.same s409.env[53]? v217 <|
 C.same s409.env[54]? (.bool b218) <|
 C.same s409.env[55]? (.bool b219) <|
 C.same s409.env[56]? v220 <|
 C.same s409.env[57]? v221 <|
 C.same s409.env[58]? v222 <|
 C.same s409.env[59]? v223 <|
 C.same s409.env[60]? v224 <|
 C.same s409.env[61]? v225 <|
 C.same s409.env[62]? (.bool b226) <|
 C.same s409.env[63]? (.bool b227) <|
 C.same s409.env[64]? v228 <|
 C.same s409.env[65]? v229 <|
 C.same s409.env[66]? v230 <|
 C.same s409.env[67]? v231 <|
 C.same s409.env[68]? v232 <|
 C.same s409.env[69]? v233 <|
 C.same s409.env[70]? (.bool b234) <|
 C.same s409.env[71]? (.bool b235) <|
 C.same s409.env[72]? v236 <|
 C.same s409.env[73]? v237 <|
 C.same s409.env[74]? v238 <|
 C.same s409.env[75]? v239 <|
 C.same s409.env[76]? bf <|
 C.same s409.env[77]? (.lst a0) <|
 C.same s409.env[78]? (iz x243) <|
 C.same s409.env[79]? (iz x252) <|
 C.same s409.env[80]? bt <|
 C.same s409.env[81]? (iz x252) <|
 C.same s409.env[82]? v333 <|
 C.same s409.env[83]? (.agg [(iz x338), (iz x339)]) <|
 C.same s409.env[84]? (.lst a0) <|
 C.same s409.env[85]? (iz x252) <|
 C.same s409.env[86]? (iz (IntKind.wrap .i64 (x252 + 1))) <|
 C.same s409.env[87]? (.lst a0) <|
 C.same s409.env[88]? (iz x346) <|
 C.same s409.env[89]? (iz (Int.tmod (IntKind.wrap .i64 (x252 + 1)) x346)) <|
 C.same s409.env[90]? v347 <|
 C.same s409.env[91]? (.agg [(iz x352), (iz x353)]) <|
 C.any s409.env[92]? fun v410 =>
 C.agg 2 s409.env[93]? fun l411 =>
 C.int .i64 l411[0]? fun x412 =>
 C.int .i64 l411[1]? fun x413 =>
 C.int .i64 s409.env[94]? fun x414 =>
 C.bool s409.env[95]? fun b415 =>
 C.bool s409.env[96]? fun b416 =>
 C.any s409.env[97]? fun v417 =>
 C.any s409.env[98]? fun v418 =>
 C.any s409.env[99]? fun v419 =>
 C.any s409.env[100]? fun v420 =>
 C.any s409.env[101]? fun v421 =>
 C.any s409.env[102]? fun v422 =>
 C.any s409.env[103]? fun v423 =>
 C.any s409.env[104]? fun v424 =>
 C.any s409.env[105]? fun v425 =>
 C.any s409.env[106]? fun v426 =>
 C.bool s409.env[107]? fun b427 =>
 C.same s409.env[108]? v325 <|
 C.same s409.env[109]? v326 <|
 C.same s409.env[110]? v327 <|
 C.same s409.env[111]? v328 <|
 C.same s409.env[112]? v329 <|
 C.same s409.env[113]? v330 <|
 C.same s409.env[114]? v331 <|
 C.same s409.env[115]? v332 <|
 C.same s409.env[116]? v289 <|
 C.same s409.env[117]? tz <|
 C.same s409.env[118]? tz <|
 C.same s409.env[119]? tz <|
 C.same s409.env[120]? tz <|
 C.same s409.env[121]? tz <|
 C.same s409.env[122]? tz <|
 C.same s409.env[123]? tz <|
 C.same s409.env[124]? tz <|
 C.same s409.env[125]? tz <|
 C.same s409.env[126]? tz <|
 C.same s409.env[127]? tz <|
 C.same s409.env[128]? tz <|
 C.same s409.env[129]? tz <|
 C.same s409.env[130]? tz <|
 C.same s409.env[131]? tz <|
 C.same s409.env[132]? tz <|
 cnd b427
 (k291 .ret ⟨[(.lst a0), (.agg [(iz a1), (iz a2)]), (.agg [(iz a3), (iz a4)]), tz, v0, v2, bf, v81, (.bool b80), (.bool b294), (iz x252), v340, v354, (.bool b49), (.bool b50), (.bool b51), v52, v53, v54, (.bool b55), (.bool b56), v57, v58, v59, (.bool b60), (.bool b61), v62, v63, v64, (.bool b65), (.bool b66), v67, v68, v69, bf, tz, (.tup [(.agg [(iz x76), (iz x77), (iz x78), (iz x79)]), (.bool b80)]), (.lst a0), (.tup [(.agg [(iz x76), (iz x77), (iz x78), (iz x79)]), (.bool b80)]), (.agg [(iz x76), (iz x77), (iz x78), (iz x79)]), (.bool b80), v205, (iz x206), v207, v208, (iz x209), (.bool b210), (.bool b211), v212, v213, v214, v215, v216, v217, (.bool b218), (.bool b219), v220, v221, v222, v223, v224, v225, (.bool b226), (.bool b227), v228, v229, v230, v231, v232, v233, (.bool b234), (.bool b235), v236, v237, v238, v239, bf, (.lst a0), (iz x243), (iz x252), bt, (iz x252), v333, (.agg [(iz x338), (iz x339)]), (.lst a0), (iz x252), (iz (IntKind.wrap .i64 (x252 + 1))), (.lst a0), (iz x346), (iz (Int.tmod (IntKind.wrap .i64 (x252 + 1)) x346)), v347, (.agg [(iz x352), (iz x353)]), v410, (.agg [(iz x412), (iz x413)]), (iz x414), (.bool b415), (.bool b416), v417, v418, v419, v420, v421, v422, v423, v424, v425, v426, bt, v325, v326, v327, v328, v329, v330, v331, v332, v289, tz, tz, tz, tz, tz, tz, tz, tz, tz, tz, tz, tz, tz, tz, tz, tz], (St.H s409)⟩)
 (cnd b294
 (k291 (.exit 2000000) ⟨[(.lst a0), (.agg [(iz a1), (iz a2)]), (.agg [(iz a3), (iz a4)]), tz, v0, v2, (.bool b293), v81, (.bool b80), bt, (iz x252), v340, v354, (.bool b49), (.bool b50), (.bool b51), v52, v53, v54, (.bool b55), (.bool b56), v57, v58, v59, (.bool b60), (.bool b61), v62, v63, v64, (.bool b65), (.bool b66), v67, v68, v69, bf, tz, (.tup [(.agg [(iz x76), (iz x77), (iz x78), (iz x79)]), (.bool b80)]), (.lst a0), (.tup [(.agg [(iz x76), (iz x77), (iz x78), (iz x79)]), (.bool b80)]), (.agg [(iz x76), (iz x77), (iz x78), (iz x79)]), (.bool b80), v205, (iz x206), v207, v208, (iz x209), (.bool b210), (.bool b211), v212, v213, v214, v215, v216, v217, (.bool b218), (.bool b219), v220, v221, v222, v223, v224, v225, (.bool b226), (.bool b227), v228, v229, v230, v231, v232, v233, (.bool b234), (.bool b235), v236, v237, v238, v239, bf, (.lst a0), (iz x243), (iz x252), bt, (iz x252), v333, (.agg [(iz x338), (iz x339)]), (.lst a0), (iz x252), (iz (IntKind.wrap .i64 (x252 + 1))), (.lst a0), (iz x346), (iz (Int.tmod (IntKind.wrap .i64 (x252 + 1)) x346)), v347, (.agg [(iz x352), (iz x353)]), v410, (.agg [(iz x412), (iz x413)]), (iz x414), (.bool b415), (.bool b416), v417, v418, v419, v420, v421, v422, v423, v424, v425, v426, bf, (.bool b294), bt, tz, tz, tz, tz, tz, bt, v289, tz, tz, tz, tz, tz, tz, tz, tz, tz, tz, tz, tz, tz, tz, tz, tz], (St.H s409)⟩)
 (C.hop (St.H s409) (.load true 2 (.v v0)) fun v428 h429 =>
 C.agg 2 (some v428) fun l430 =>
 C.int .i64 l430[0]? fun x431 =>
 C.int .i64 l430[1]? fun x432 =>
 C.hop h429 (.load true 2 (.v v2)) fun v433 h434 =>
 C.agg 2 (some v433) fun l435 =>
 C.int .i64 l435[0]? fun x436 =>
 C.int .i64 l435[1]? fun x437 =>
 C.hop h434 (.load true 2 (.v v340)) fun v438 h439 =>
 C.agg 2 (some v438) fun l440 =>
 C.int .i64 l440[0]? fun x441 =>
 C.int .i64 l440[1]? fun x442 =>
 C.hop h439 (.load true 2 (.v v354)) fun v443 h444 =>
 C.agg 2 (some v443) fun l445 =>
 C.int .i64 l445[0]? fun x446 =>
 C.int .i64 l445[1]? fun x447 =>
 C.bool (pcall M d 28 [(.agg [(iz x431), (iz x432)]), (.agg [(iz x436), (iz x437)]), (.agg [(iz x441), (iz x442)]), (.agg [(iz x446), (iz x447)])]) fun b448 =>
 k291 (.exit 2000000) ⟨[(.lst a0), (.agg [(iz a1), (iz a2)]), (.agg [(iz a3), (iz a4)]), tz, v0, v2, (.bool b293), v81, (.bool b80), (.bool b448), (iz x252), v340, v354, (.bool b49), (.bool b50), (.bool b51), v52, v53, v54, (.bool b55), (.bool b56), v57, v58, v59, (.bool b60), (.bool b61), v62, v63, v64, (.bool b65), (.bool b66), v67, v68, v69, bf, tz, (.tup [(.agg [(iz x76), (iz x77), (iz x78), (iz x79)]), (.bool b80)]), (.lst a0), (.tup [(.agg [(iz x76), (iz x77), (iz x78), (iz x79)]), (.bool b80)]), (.agg [(iz x76), (iz x77), (iz x78), (iz x79)]), (.bool b80), v205, (iz x206), v207, v208, (iz x209), (.bool b210), (.bool b211), v212, v213, v214, v215, v216, v217, (.bool b218), (.bool b219), v220, v221, v222, v223, v224, v225, (.bool b226), (.bool b227), v228, v229, v230, v231, v232, v233, (.bool b234), (.bool b235), v236, v237, v238, v239, bf, (.lst a0), (iz x243), (iz x252), bt, (iz x252), v333, (.agg [(iz x338), (iz x339)]), (.lst a0), (iz x252), (iz (IntKind.wrap .i64 (x252 + 1))), (.lst a0), (iz x346), (iz (Int.tmod (IntKind.wrap .i64 (x252 + 1)) x346)), v347, (.agg [(iz x352), (iz x353)]), v410, (.agg [(iz x412), (iz x413)]), (iz x414), (.bool b415), (.bool b416), v417, v418, v419, v420, v421, v422, v423, v424, v425, v426, bf, (.bool b294), bf, (.agg [(iz x431), (iz x432)]), (.agg [(iz x436), (iz x437)]), (.agg [(iz x441), (iz x442)]), (.agg [(iz x446), (iz x447)]), (.bool b448), (.bool b448), v289, tz, tz, tz, tz, tz, tz, tz, tz, tz, tz, tz, tz, tz, tz, tz, tz], h444⟩)))
 (none)
def r6E4 (C : Cb) (d : Nat) (a0 : List AV) (a1 a2 a3 a4 : Int) (v0 v2 : AV) (b49 b50 b51 : Bool) (v52 v53 v54 : AV) (b55 b56 : Bool) (v57 v58 v59 : AV) (b60 b61 : Bool) (v62 v63 v64 : AV) (b65 b66 : Bool) (v67 v68 v69 : AV) (x76 x77 x78 x79 : Int) (b80 : Bool) (v81 v205 : AV) (x206 : Int) (v207 v208 : AV) (x209 : Int) (b210 b211 : Bool) (v212 v213 v214 v215 v216 v217 : AV) (b218 b219 : Bool) (v220 v221 v222 v223 v224 v225 : AV) (b226 b227 : Bool) (v228 v229 v230 v231 v232 v233 : AV) (b234 b235 : Bool) (v236 v237 v238 v239 : AV) (x243 x252 : Int) (v289 : AV) (k291 : Ex → St → Ans) (b293 b294 : Bool) (v325 v326 v327 v328 v329 v330 v331 v332 v333 : AV) (x338 x339 : Int) (v340 : AV) (x346 : Int) (v347 : AV) (x352 x353 : Int) (v354 : AV) : St → Ans := fun s360 =>
 cnd ((List.length s360.env) == 133)
 (C.same s360.env[0]? (.lst a0) <|
 C.same s360.env[1]? (.agg [(iz a1), (iz a2)]) <|
 C.same s360.env[2]? (.agg [(iz a3), (iz a4)]) <|
 C.same s360.env[3]? tz <|
 C.same s360.env[4]? v0 <|
 C.same s360.env[5]? v2 <|
 C.same s360.env[6]? (.bool b293) <|
 C.same s360.env[7]? v81 <|
 C.same s360.env[8]? (.bool b80) <|
 C.same s360.env[9]? (.bool b294) <|
 C.same s360.env[10]? (iz x252) <|
 C.same s360.env[11]? v340 <|
 C.same s360.env[12]? v354 <|
 C.same s360.env[13]? (.bool b49) <|
 C.same s360.env[14]? (.bool b50) <|
 C.same s360.env[15]? (.bool b51) <|
 C.same s360.env[16]? v52 <|
 C.same s360.env[17]? v53 <|
 C.same s360.env[18]? v54 <|
 C.same s360.env[19]? (.bool b55) <|
 C.same s360.env[20]? (.bool b56) <|
 C.same s360.env[21]? v57 <|
 C.same s360.env[22]? v58 <|
 C.same s360.env[23]? v59 <|
 C.same s360.env[24]? (.bool b60) <|
 C.same s360.env[25]? (.bool b61) <|
 C.same s360.env[26]? v62 <|
 C.same s360.env[27]? v63 <|
 C.same s360.env[28]? v64 <|
 C.same s360.env[29]? (.bool b65) <|
 C.same s360.env[30]? (.bool b66) <|
 C.same s360.env[31]? v67 <|
 C.same s360.env[32]? v68 <|
 C.same s360.env[33]? v69 <|
 C.same s360.env[34]? bf <|
 C.same s360.env[35]? tz <|
 C.same s360.env[36]? (.tup [(.agg [(iz x76), (iz x77), (iz x78), (iz x79)]), (.bool b80)]) <|
 C.same s360.env[37]? (.lst a0) <|
 C.same s360.env[38]? (.tup [(.agg [(iz x76), (iz x77), (iz x78), (iz x79)]), (.bool b80)]) <|
 C.same s360.env[39]? (.agg [(iz x76), (iz x77), (iz x78), (iz x79)]) <|
 C.same s360.env[40]? (.bool b80) <|
 C.same s360.env[41]? v205 <|
 C.same s360.env[42]? (iz x206) <|
 C.same s360.env[43]? v207 <|
 C.same s360.env[44]? v208 <|
 C.same s360.env[45]? (iz x209) <|
 C.same s360.env[46]? (.bool b210) <|
 C.same s360.env[47]? (.bool b211) <|
 C.same s360.env[48]? v212 <|
 C.same s360.env[49]? v213 <|
 C.same s360.env[50]? v214 <|
 C.same s360.env[51]? v215 <|
 C.same s360.env[52]? v216 <|
 C.same s360.env[53]? v217 <|
 C.same s360.env[54]? (.bool b218) <|
 C.same s360.env[55]? (.bool b219) <|
 C.same s360.env[56]? v220 <|
 C.same s360.env[57]? v221 <|
 C.same s360.env[58]? v222 <|
 C.same s360.env[59]? v223 <|
 C.same s360.env[60]? v224 <|
 C.same s360.env[61]? v225 <|
 C.same s360.env[62]? (.bool b226) <|
 C.same s360.env[63]? (.bool b227) <|
 C.same s360.env[64]? v228 <|
 C.same s360.env[65]? v229 <|
 C.same s360.env[66]? v230 <|
 C.same s360.env[67]? v231 <|
 C.same s360.env[68]? v232 <|
 C.same s360.env[69]? v233 <|
 C.same s360.env[70]? (.bool b234) <|
 C.same s360.env[71]? (.bool b235) <|
 C.same s360.env[72]? v236 <|
 C.same s360.env[73]? v237 <|
 C.same s360.env[74]? v238 <|
 C.same s360.env[75]? v239 <|
 C.same s360.env[76]? bf <|
 C.same s360.env[77]? (.lst a0) <|
 C.same s360.env[78]? (iz x243) <|
 C.same s360.env[79]? (iz x252) <|
 C.same s360.env[80]? bt <|
 C.same s360.env[81]? (iz x252) <|
 C.same s360.env[82]? v333 <|
 C.same s360.env[83]? (.agg [(iz x338), (iz x339)]) <|
 C.same s360.env[84]? (.lst a0) <|
 C.same s360.env[85]? (iz x252) <|
 C.same s360.env[86]? (iz (IntKind.wrap .i64 (x252 + 1))) <|
 C.same s360.env[87]? (.lst a0) <|
 C.same s360.env[88]? (iz x346) <|
 C.same s360.env[89]? (iz (Int.tmod (IntKind.wrap .i64 (x252 + 1)) x346)) <|
 C.same s360.env[90]? v347 <|
 C.same s360.env[91]? (.agg [(iz x352), (iz x353)]) <|
 C.any s360.env[92]? fun v449 =>
 C.any s360.env[93]? fun v450 =>
 C.any s360.env[94]? fun v451 =>
 C.any s360.env[95]? fun v452 =>
 C.any s360.env[96]? fun v453 =>
 C.any s360.env[97]? fun v454 =>
 C.any s360.env[98]? fun v455 =>
 C.any s360.env[99]? fun v456 =>
 C.any s360.env[100]? fun v457 =>
 C.any s360.env[101]? fun v458 =>
 C.any s360.env[102]? fun v459 =>
 C.any s360.env[103]? fun v460 =>
 C.any s360.env[104]? fun v461 =>
 C.any s360.env[105]? fun v462 =>
 C.any s360.env[106]? fun v463 =>
 C.any s360.env[107]? fun v464 =>
 C.same s360.env[108]? v325 <|
 C.same s360.env[109]? v326 <|
 C.same s360.env[110]? v327 <|
 C.same s360.env[111]? v328 <|
 C.same s360.env[112]? v329 <|
 C.same s360.env[113]? v330 <|
 C.same s360.env[114]? v331 <|
 C.same s360.env[115]? v332 <|
 C.same s360.env[116]? v289 <|
 C.same s360.env[117]? tz <|
 C.same s360.env[118]? tz <|
 C.same s360.env[119]? tz <|
 C.same s360.env[120]? tz <|
 C.same s360.env[121]? tz <|
 C.same s360.env[122]? tz <|
 C.same s360.env[123]? tz <|
 C.same s360.env[124]? tz <|
 C.same s360.env[125]? tz <|
 C.same s360.env[126]? tz <|
 C.same s360.env[127]? tz <|
 C.same s360.env[128]? tz <|
 C.same s360.env[129]? tz <|
 C.same s360.env[130]? tz <|
 C.same s360.env[131]? tz <|
 C.same s360.env[132]? tz <|
 none)
 (none)
def r6R3 (C : Cb) (d : Nat) (a0 : List AV) (a1 a2 a3 a4 : Int) (v0 v2 : AV) (b49 b50 b51 : Bool) (v52 v53 v54 : AV) (b55 b56 : Bool) (v57 v58 v59 : AV) (b60 b61 : Bool) (v62 v63 v64 : AV) (b65 b66 : Bool) (v67 v68 v69 : AV) (x76 x77 x78 x79 : Int) (b80 : Bool) (v81 v205 : AV) (x206 : Int) (v207 v208 : AV) (x209 : Int) (b210 b211 : Bool) (v212 v213 v214 v215 v216 v217 : AV) (b218 b219 : Bool) (v220 v221 v222 v223 v224 v225 : AV) (b226 b227 : Bool) (v228 v229 v230 v231 v232 v233 : AV) (b234 b235 : Bool) (v236 v237 v238 v239 : AV) (x243 : Int) (k245 : Ex → St → Ans) (x252 : Int) (v289 : AV) : St → (Ex → St → Ans) → Ans := fun s290 k291 =>
 cnd ((List.length s290.env) == 133)
 (C.same s290.env[0]? (.lst a0) <|
 C.same s290.env[1]? (.agg [(iz a1), (iz a2)]) <|
 C.same s290.env[2]? (.agg [(iz a3), (iz a4)]) <|
 C.same s290.env[3]? tz <|
 C.same s290.env[4]? v0 <|
 C.same s290.env[5]? v2 <|
 C.bool s290.env[6]? fun b293 =>
 C.same s290.env[7]? v81 <|
 C.same s290.env[8]? (.bool b80) <|
 C.bool s290.env[9]? fun b294 =>
 C.any s290.env[10]? fun v295 =>
 C.any s290.env[11]? fun v296 =>
 C.any s290.env[12]? fun v297 =>
 C.same s290.env[13]? (.bool b49) <|
 C.same s290.env[14]? (.bool b50) <|
 C.same s290.env[15]? (.bool b51) <|
 C.same s290.env[16]? v52 <|
 C.same s290.env[17]? v53 <|
 C.same s290.env[18]? v54 <|
 C.same s290.env[19]? (.bool b55) <|
 C.same s290.env[20]? (.bool b56) <|
 C.same s290.env[21]? v57 <|
 C.same s290.env[22]? v58 <|
 C.same s290.env[23]? v59 <|
 C.same s290.env[24]? (.bool b60) <|
 C.same s290.env[25]? (.bool b61) <|
 C.same s290.env[26]? v62 <|
 C.same s290.env[27]? v63 <|
 C.same s290.env[28]? v64 <|
 C.same s290.env[29]? (.bool b65) <|
 C.same s290.env[30]? (.bool b66) <|
 C.same s290.env[31]? v67 <|
 C.same s290.env[32]? v68 <|
 C.same s290.env[33]? v69 <|
 C.same s290.env[34]? bf <|
 C.same s290.env[35]? tz <|
 C.same s290.env[36]? (.tup [(.agg [(iz x76), (iz x77), (iz x78), (iz x79)]), (.bool b80)]) <|
 C.same s290.env[37]? (.lst a0) <|
 C.same s290.env[38]? (.tup [(.agg [(iz x76), (iz x77), (iz x78), (iz x79)]), (.bool b80)]) <|
 C.same s290.env[39]? (.agg [(iz x76), (iz x77), (iz x78), (iz x79)]) <|
 C.same s290.env[40]? (.bool b80) <|
 C.same s290.env[41]? v205 <|
 C.same s290.env[42]? (iz x206) <|
 C.same s290.env[43]? v207 <|
 C.same s290.env[44]? v208 <|
 C.same s290.env[45]? (iz x209) <|
 C.same s290.env[46]? (.bool b210) <|
 C.same s290.env[47]? (.bool b211) <|
 C.same s290.env[48]? v212 <|
 C.same s290.env[49]? v213 <|
 C.same s290.env[50]? v214 <|
 C.same s290.env[51]? v215 <|
 C.same s290.env[52]? v216 <|
 C.same s290.env[53]? v217 <|
 C.same s290.env[54]? (.bool b218) <|
 C.same s290.env[55]? (.bool b219) <|
 C.same s290.env[56]? v220 <|
 C.same s290.env[57]? v221 <|
 C.same s290.env[58]? v222 <|
 C.same s290.env[59]? v223 <|
 C.same s290.env[60]? v224 <|
 C.same s290.env[61]? v225 <|
 C.same s290.env[62]? (.bool b226) <|
 C.same s290.env[63]? (.bool b227) <|
 C.same s290.env[64]? v228 <|
 C.same s290.env[65]? v229 <|
 C.same s290.env[66]? v230 <|
 C.same s290.env[67]? v231 <|
 C.same s290.env[68]? v232 <|
 C.same s290.env[69]? v233 <|
 C.same s290.env[70]? (.bool b234) <|
 C.same s290.env[71]? (.bool b235) <|
 C.same s290.env[72]? v236 <|
 C.same s290.env[73]? v237 <|
 C.same s290.env[74]? v238 <|
 C.same s290.env[75]? v239 <|
 C.same s290.env[76]? bf <|
 C.same s290.env[77]? (.lst a0) <|
 C.same s290.env[78]? (iz x243) <|
 C.same s290.env[79]? (iz x252) <|
 C.same s290.env[80]? bt <|
 C.any s290.env[81]? fun v298 =>
 C.any s290.env[82]? fun v299 =>
 C.any s290.env[83]? fun v300 =>
 C.any s290.env[84]? fun v301 =>
 C.any s290.env[85]? fun v302 =>
 C.any s290.env[86]? fun v303 =>
 C.any s290.env[87]? fun v304 =>
 C.any s290.env[88]? fun v305 =>
 C.any s290.env[89]? fun v306 =>
 C.any s290.env[90]? fun v307 =>
 C.any s290.env[91]? fun v308 =>
 C.any s290.env[92]? fun v309 =>
 C.any s290.env[93]? fun v310 =>
 C.any s290.env[94]? fun v311 =>
 C.any s290.env[95]? fun v312 =>
 C.any s290.env[96]? fun v313 =>
 C.any s290.env[97]? fun v314 =>
 C.any s290.env[98]? fun v315 =>
 C.any s290.env[99]? fun v316 =>
 C.any s290.env[100]? fun v317 =>
 C.any s290.env[101]? fun v318 =>
 C.any s290.env[102]? fun v319 =>
 C.any s290.env[103]? fun v320 =>
 C.any s290.env[104]? fun v321 =>
 C.any s290.env[105]? fun v322 =>
 C.any s290.env[106]? fun v323 =>
 C.any s290.env[107]? fun v324 =>
 C.any s290.env[108]? fun v325 =>
 C.any s290.env[109]? fun v326 =>
 C.any s290.env[110]? fun v327 =>
 C.any s290.env[111]? fun v328 =>
 C.any s290.env[112]? fun v329 =>
 C.any s290.env[113]? fun v330 =>
 C.any s290.env[114]? fun v331 =>
 C.any s290.env[115]? fun v332 =>
 C.same s290.env[116]? v289 <|
 C.same s290.env[117]? tz <|
 C.same s290.env[118]? tz <|
 C.same s290.env[119]? tz <|
 C.same s290.env[120]? tz <|
 C.same s290.env[121]? tz <|
 C.same s290.env[122]? tz <|
 C.same s290.env[123]? tz <|
 C.same s290.env[124]? tz <|
 C.same s290.env[125]? tz <|
 C.same s290.env[126]? tz <|
 C.same s290.env[127]? tz <|
 C.same s290.env[128]? tz <|
 C.same s290.env[129]? tz <|
 C.same s290.env[130]? tz <|
 C.same s290.env[131]? tz <|
 C.same s290.env[132]? tz <|
 C.hop (St.H s290) (.ixAS .any 2 (.v (.lst a0)) (.v (iz x252))) fun v333 h334 =>
 C.hop h334 (.load true 2 (.v v333)) fun v335 h336 =>
 C.agg 2 (some v335) fun l337 =>
 C.int .i64 l337[0]? fun x338 =>
 C.int .i64 l337[1]? fun x339 =>
 C.hop h336 (.alloc E24) fun v340 h341 =>
 C.hop h341 (.store 2 (.v v340) (.v (.agg [(iz x338), (iz x339)]))) fun v342 h343 =>
 C.hop h343 (.bk .lenV [(.v (.lst a0))]) fun v344 h345 =>
 C.int .i64 (some v344) fun x346 =>
 cnd (decide (x346 = 0))
 (none)
 (C.hop h345 (.ixAS .any 2 (.v (.lst a0)) (.v (iz (Int.tmod (IntKind.wrap .i64 (x252 + 1)) x346)))) fun v347 h348 =>
 C.hop h348 (.load true 2 (.v v347)) fun v349 h350 =>
 C.agg 2 (some v349) fun l351 =>
 C.int .i64 l351[0]? fun x352 =>
 C.int .i64 l351[1]? fun x353 =>
 C.hop h350 (.alloc E24) fun v354 h355 =>
 C.hop h355 (.store 2 (.v v354) (.v (.agg [(iz x352), (iz x353)]))) fun v356 h357 =>
 C.iter (r6R4 C d a0 a1 a2 a3 a4 v0 v2 b49 b50 b51 v52 v53 v54 b55 b56 v57 v58 v59 b60 b61 v62 v63 v64 b65 b66 v67 v68 v69 x76 x77 x78 x79 b80 v81 v205 x206 v207 v208 x209 b210 b211 v212 v213 v214 v215 v216 v217 b218 b219 v220 v221 v222 v223 v224 v225 b226 b227 v228 v229 v230 v231 v232 v233 b234 b235 v236 v237 v238 v239 x243 x252 v289 k291 b293 b294 v325 v326 v327 v328 v329 v330 v331 v332 v333 x338 x339 v340 x346 v347 x352 x353 v354) 1 ⟨[(.lst a0), (.agg [(iz a1), (iz a2)]), (.agg [(iz a3), (iz a4)]), tz, v0, v2, (.bool b293), v81, (.bool b80), (.bool b294), (iz x252), v340, v354, (.bool b49), (.bool b50), (.bool b51), v52, v53, v54, (.bool b55), (.bool b56), v57, v58, v59, (.bool b60), (.bool b61), v62, v63, v64, (.bool b65), (.bool b66), v67, v68, v69, bf, tz, (.tup [(.agg [(iz x76), (iz x77), (iz x78), (iz x79)]), (.bool b80)]), (.lst a0), (.tup [(.agg [(iz x76), (iz x77), (iz x78), (iz x79)]), (.bool b80)]), (.agg [(iz x76), (iz x77), (iz x78), (iz x79)]), (.bool b80), v205, (iz x206), v207, v208, (iz x209), (.bool b210), (.bool b211), v212, v213, v214, v215, v216, v217, (.bool b218), (.bool b219), v220, v221, v222, v223, v224, v225, (.bool b226), (.bool b227), v228, v229, v230, v231, v232, v233, (.bool b234), (.bool b235), v236, v237, v238, v239, bf, (.lst a0), (iz x243), (iz x252), bt, (iz x252), v333, (.agg [(iz x338), (iz x339)]), (.lst a0), (iz x252), (iz (IntKind.wrap .i64 (x252 + 1))), (.lst a0), (iz x346), (iz (Int.tmod (IntKind.wrap .i64 (x252 + 1)) x346)), v347, (.agg [(iz x352), (iz x353)]), v309, v310, v311, v312, v313, v314, v315, v316, v317, v318, v319, v320, v321, v322, v323, v324, v325, v326, v327, v328, v329, v330, v331, v332, v289, tz, tz, tz, tz, tz, tz, tz, tz, tz, tz, tz, tz, tz, tz, tz, tz], h357⟩ [2000000] [r6X4_0 C d a0 a1 a2 a3 a4 v0 v2 b49 b50 b51 v52 v53 v54 b55 b56 v57 v58 v59 b60 b61 v62 v63 v64 b65 b66 v67 v68 v69 x76 x77 x78 x79 b80 v81 v205 x206 v207 v208 x209 b210 b211 v212 v213 v214 v215 v216 v217 b218 b219 v220 v221 v222 v223 v224 v225 b226 b227 v228 v229 v230 v231 v232 v233 b234 b235 v236 v237 v238 v239 x243 x252 v289 k291 b293 b294 v325 v326 v327 v328 v329 v330 v331 v332 v333 x338 x339 v340 x346 v347 x352 x353 v354] (r6E4 C d a0 a1 a2 a3 a4 v0 v2 b49 b50 b51 v52 v53 v54 b55 b56 v57 v58 v59 b60 b61 v62 v63 v64 b65 b66 v67 v68 v69 x76 x77 x78 x79 b80 v81 v205 x206 v207 v208 x209 b210 b211 v212 v213 v214 v215 v216 v217 b218 b219 v220 v221 v222 v223 v224 v225 b226 b227 v228 v229 v230 v231 v232 v233 b234 b235 v236 v237 v238 v239 x243 x252 v289 k291 b293 b294 v325 v326 v327 v328 v329 v330 v331 v332 v333 x338 x339 v340 x346 v347 x352 x353 v354)))
 (none)
def r6X3_0 (C : Cb) (d : Nat) (a0 : List AV) (a1 a2 a3 a4 : Int) (v0 v2 : AV) (b49 b50 b51 : Bool) (v52 v53 v54 : AV) (b55 b56 : Bool) (v57 v58 v59 : AV) (b60 b61 : Bool) (v62 v63 v64 : AV) (b65 b66 : Bool) (v67 v68 v69 : AV) (x76 x77 x78 x79 : Int) (b80 : Bool) (v81 v205 : AV) (x206 : Int) (v207 v208 : AV) (x209 : Int) (b210 b211 : Bool) (v212 v213 v214 v215 v216 v217 : AV) (b218 b219 : Bool) (v220 v221 v222 v223 v224 v225 : AV) (b226 b227 : Bool) (v228 v229 v230 v231 v232 v233 : AV) (b234 b235 : Bool) (v236 v237 v238 v239 : AV) (x243 : Int) (k245 : Ex → St → Ans) (x252 : Int) (v289 : AV) : St → Ans := fun s465 =>
 cnd ((List.length s465.env) == 133)
 (C.same s465.env[0]? (.lst a0) <|
 C.same s465.env[1]? (.agg [(iz a1), (iz a2)]) <|
 C.same s465.env[2]? (.agg [(iz a3), (iz a4)]) <|
 C.same s465.env[3]? tz <|
 C.same s465.env[4]? v0 <|
 C.same s465.env[5]? v2 <|
 C.bool s465.env[6]? fun b466 =>
 C.same s465.env[7]? v81 <|
 C.same s465.env[8]? (.bool b80) <|
 C.bool s465.env[9]? fun b467 =>
 C.int .i64 s465.env[10]? fun x468 =>
 C.any s465.env[11]? fun v469 =>
 C.any s465.env[12]? fun v470 =>
 C.same s465.env[13]? (.bool b49) <|
 C.same s465.env[14]? (.bool b50) <|
 C.same s465.env[15]? (.bool b51) <|
 C.same s465.env[16]? v52 <|
 C.same s465.env[17]? v53 <|
 C.same s465.env[18]? v54 <|
 C.same s465.env[19]? (.bool b55) <|
 C.same s465.env[20]? (.bool b56) <|
 C.same s465.env[21]? v57 <|
 C.same s465.env[22]? v58 <|
 C.same s465.env[23]? v59 <|
 C.same s465.env[24]? (.bool b60) <|
 C.same s465.env[25]? (.bool b61) <|
 C.same s465.env[26]? v62 <|
 C.same s465.env[27]? v63 <|
 C.same s465.env[28]? v64 <|
 C.same s465.env[29]? (.bool b65) <|
 C.same s465.env[30]? (.bool b66) <|
 C.same s465.env[31]? v67 <|
 C.same s465.env[32]? v68 <|
 C.same s465.env[33]? v69 <|
 C.same s465.env[34]? bf <|
 C.same s465.env[35]? tz <|
 C.same s465.env[36]? (.tup [(.agg [(iz x76), (iz x77), (iz x78), (iz x79)]), (.bool b80)]) <|
 C.same s465.env[37]? (.lst a0) <|
 C.same s465.env[38]? (.tup [(.agg [(iz x76), (iz x77), (iz x78), (iz x79)]), (.bool b80)]) <|
 C.same s465.env[39]? (.agg [(iz x76), (iz x77), (iz x78), (iz x79)]) <|
 C.same s465.env[40]? (.bool b80) <|
 C.same s465.env[41]? v205 <|
 C.same s465.env[42]? (iz x206) <|
 C.same s465.env[43]? v207 <|
 C.same s465.env[44]? v208 <|
 C.same s465.env[45]? (iz x209) <|
 C.same s465.env[46]? (.bool b210) <|
 C.same s465.env[47]? (.bool b211) <|
 C.same s465.env[48]? v212 <|
 C.same s465.env[49]? v213 <|
 C.same s465.env[50]? v214 <|
 C.same s465.env[51]? v215 <|
 C.same s465.env[52]? v216 <|
 C.same s465.env[53]? v217 <|
 C.same s465.env[54]? (.bool b218) <|
 C.same s465.env[55]? (.bool b219) <|
 C.same s465.env[56]? v220 <|
 C.same s465.env[57]? v221 <|
 C.same s465.env[58]? v222 <|
 C.same s465.env[59]? v223 <|
 C.same s465.env[60]? v224 <|
 C.same s465.env[61]? v225 <|
 C.same s465.env[62]? (.bool b226) <|
 C.same s465.env[63]? (.bool b227) <|
 C.same s465.env[64]? v228 <|
 C.same s465.env[65]? v229 <|
 C.same s465.env[66]? v230 <|
 C.same s465.env[67]? v231 <|
 C.same s465.env[68]? v232 <|
 C.same s465.env[69]? v233 <|
 C.same s465.env[70]? (.bool b234) <|
 C.same s465.env[71]? (.bool b235) <|
 C.same s465.env[72]? v236 <|
 C.same s465.env[73]? v237 <|
 C.same s465.env[74]? v238 <|
 C.same s465.env[75]? v239 <|
 C.same s465.env[76]? bf <|
 C.same s465.env[77]? (.lst a0) <|
 C.same s465.env[78]? (iz x243) <|
 C.same s465.env[79]? (iz x252) <|
 C.same s465.env[80]? bt <|
 C.int .i64 s465.env[81]? fun x471 =>
 C.any s465.env[82]? fun v472 =>
 C.agg 2 s465.env[83]? fun l473 =>
 C.int .i64 l473[0]? fun x474 =>
 C.int .i64 l473[1]? fun x475 =>
 C.any s465.env[84]? fun v476 =>
 C.int .i64 s465.env[85]? fun x477 =>
 C.int .i64 s465.env[86]? fun x478 =>
 C.any s465.env[87]? fun v479 =>
 C.int .i64 s465.env[88]? fun x480 =>
 C.int .i64 s465.env[89]? fun x481 =>
 C.any s465.env[90]? fun v482 =>
 C.agg 2 s465.env[91]? fun l483 =>
 C.int .i64 l483[0]? fun x484 =>
 C.int .i64 l483[1]? fun x485 =>
 C.any s465.env[92]? fun v486 =>
 C.agg 2 s465.env[93]? fun l487 =>
 C.int .i64 l487[0]? fun x488 =>
 C.int .i64 l487[1]? fun x489 =>
 C.int .i64 s465.env[94]? fun x490 =>
 C.bool s465.env[95]? fun b491 =>
 C.bool s465.env[96]? fun b492 =>
 C.any s465.env[97]? fun v493 =>
 C.any s465.env[98]? fun v494 =>
 C.any s465.env[99]? fun v495 =>
 C.any s465.env[100]? fun v496 =>
 C.any s465.env[101]? fun v497 =>
 C.any s465.env[102]? fun v498 =>
 C.any s465.env[103]? fun v499 =>
 C.any s465.env[104]? fun v500 =>
 C.any s465.env[105]? fun v501 =>
 C.any s465.env[106]? fun v502 =>
 C.bool s465.env[107]? fun b503 =>
 C.bool s465.env[108]? fun b504 =>
 C.bool s465.env[109]? fun b505 =>
 C.any s465.env[110]? fun v506 =>
 C.any s465.env[111]? fun v507 =>
 C.any s465.env[112]? fun v508 =>
 C.any s465.env[113]? fun v509 =>
 C.any s465.env[114]? fun v510 =>
 C.bool s465.env[115]? fun b511 =>
 C.same s465.env[116]? v289 <|
 C.same s465.env[117]? tz <|
 C.same s465.env[118]? tz <|
 C.same s465.env[119]? tz <|
 C.same s465.env[120]? tz <|
 C.same s465.env[121]? tz <|
 C.same s465.env[122]? tz <|
 C.same s465.env[123]? tz <|
 C.same s465.env[124]? tz <|
 C.same s465.env[125]? tz <|
 C.same s465.env[126]? tz <|
 C.same s465.env[127]? tz <|
 C.same s465.env[128]? tz <|
 C.same s465.env[129]? tz <|
 C.same s465.env[130]? tz <|
 C.same s465.env[131]? tz <|
 C.same s465.env[132]? tz <|
 k245 .normal ⟨[(.lst a0), (.agg [(iz a1), (iz a2)]), (.agg [(iz a3), (iz a4)]), tz, v0, v2, (.bool b466), v81, (.bool b80), (.bool b467), (iz x468), v469, v470, (.bool b49), (.bool b50), (.bool b51), v52, v53, v54, (.bool b55), (.bool b56), v57, v58, v59, (.bool b60), (.bool b61), v62, v63, v64, (.bool b65), (.bool b66), v67, v68, v69, bf, tz, (.tup [(.agg [(iz x76), (iz x77), (iz x78), (iz x79)]), (.bool b80)]), (.lst a0), (.tup [(.agg [(iz x76), (iz x77), (iz x78), (iz x79)]), (.bool b80)]), (.agg [(iz x76), (iz x77), (iz x78), (iz x79)]), (.bool b80), v205, (iz x206), v207, v208, (iz x209), (.bool b210), (.bool b211), v212, v213, v214, v215, v216, v217, (.bool b218), (.bool b219), v220, v221, v222, v223, v224, v225, (.bool b226), (.bool b227), v228, v229, v230, v231, v232, v233, (.bool b234), (.bool b235), v236, v237, v238, v239, bf, (.lst a0), (iz x243), (iz (IntKind.wrap .i64 (x252 + 1))), bt, (iz x471), v472, (.agg [(iz x474), (iz x475)]), v476, (iz x477), (iz x478), v479, (iz x480), (iz x481), v482, (.agg [(iz x484), (iz x485)]), v486, (.agg [(iz x488), (iz x489)]), (iz x490), (.bool b491), (.bool b492), v493, v494, v495, v496, v497, v498, v499, v500, v501, v502, (.bool b503), (.bool b504), (.bool b505), v506, v507, v508, v509, v510, (.bool b511), (iz (IntKind.wrap .i64 (x252 + 1))), tz, tz, tz, tz, tz, tz, tz, tz, tz, tz, tz, tz, tz, tz, tz, tz], (St.H s465)⟩)
 (none)
def r6E3 (C : Cb) (d : Nat) (a0 : List AV) (a1 a2 a3 a4 : Int) (v0 v2 : AV) (b49 b50 b51 : Bool) (v52 v53 v54 : AV) (b55 b56 : Bool) (v57 v58 v59 : AV) (b60 b61 : Bool) (v62 v63 v64 : AV) (b65 b66 : Bool) (v67 v68 v69 : AV) (x76 x77 x78 x79 : Int) (b80 : Bool) (v81 v205 : AV) (x206 : Int) (v207 v208 : AV) (x209 : Int) (b210 b211 : Bool) (v212 v213 v214 v215 v216 v217 : AV) (b218 b219 : Bool) (v220 v221 v222 v223 v224 v225 : AV) (b226 b227 : Bool) (v228 v229 v230 v231 v232 v233 : AV) (b234 b235 : Bool) (v236 v237 v238 v239 : AV) (x243 : Int) (k245 : Ex → St → Ans) (x252 : Int) (v289 : AV) : St → Ans := fun s292 =>
 cnd ((List.length s292.env) == 133)
 (C.same s292.env[0]? (.lst a0) <|
 C.same s292.env[1]? (.agg [(iz a1), (iz a2)]) <|
 C.same s292.env[2]? (.agg [(iz a3), (iz a4)]) <|
 C.same s292.env[3]? tz <|
 C.same s292.env[4]? v0 <|
 C.same s292.env[5]? v2 <|
 C.bool s292.env[6]? fun b512 =>
 C.same s292.env[7]? v81 <|
 C.same s292.env[8]? (.bool b80) <|
 C.bool s292.env[9]? fun b513 =>
 C.int .i64 s292.env[10]? fun x514 =>
 C.any s292.env[11]? fun v515 =>
 C.any s292.env[12]? fun v516 =>
 C.same s292.env[13]? (.bool b49) <|
 C.same s292.env[14]? (.bool b50) <|
 C.same s292.env[15]? (.bool b51) <|
 C.same s292.env[16]? v52 <|
 C.same s292.env[17]? v53 <|
 C.same s292.env[18]? v54 <|
 C.same s292.env[19]? (.bool b55) <|
 C.same s292.env[20]? (.bool b56) <|
 C.same s292.env[21]? v57 <|
 C.same s292.env[22]? v58 <|
 C.same s292.env[23]? v59 <|
 C.same s292.env[24]? (.bool b60) <|
 C.same s292.env[25]? (.bool b61) <|
 C.same s292.env[26]? v62 <|
 C.same s292.env[27]? v63 <|
 C.same s292.env[28]? v64 <|
 C.same s292.env[29]? (.bool b65) <|
 C.same s292.env[30]? (.bool b66) <|
 C.same s292.env[31]? v67 <|
 C.same s292.env[32]? v68 <|
 C.same s292.env[33]? v69 <|
 C.same s292.env[34]? bf <|
 C.same s292.env[35]? tz <|
 C.same s292.env[36]? (.tup [(.agg [(iz x76), (iz x77), (iz x78), (iz x79)]), (.bool b80)]) <|
 C.same s292.env[37]? (.lst a0) <|
 C.same s292.env[38]? (.tup [(.agg [(iz x76), (iz x77), (iz x78), (iz x79)]), (.bool b80)]) <|
 C.same s292.env[39]? (.agg [(iz x76), (iz x77), (iz x78), (iz x79)]) <|
 C.same s292.env[40]? (.bool b80) <|
 C.same s292.env[41]? v205 <|
 C.same s292.env[42]? (iz x206) <|
 C.same s292.env[43]? v207 <|
 C.same s292.env[44]? v208 <|
 C.same s292.env[45]? (iz x209) <|
 C.same s292.env[46]? (.bool b210) <|
 C.same s292.env[47]? (.bool b211) <|
 C.same s292.env[48]? v212 <|
 C.same s292.env[49]? v213 <|
 C.same s292.env[50]? v214 <|
 C.same s292.env[51]? v215 <|
 C.same s292.env[52]? v216 <|
 C.same s292.env[53]? v217 <|
 C.same s292.env[54]? (.bool b218) <|
 C.same s292.env[55]? (.bool b219) <|
 C.same s292.env[56]? v220 <|
 C.same s292.env[57]? v221 <|
 C.same s292.env[58]? v222 <|
 C.same s292.env[59]? v223 <|
 C.same s292.env[60]? v224 <|
 C.same s292.env[61]? v225 <|
 C.same s292.env[62]? (.bool b226) <|
 C.same s292.env[63]? (.bool b227) <|
 C.same s292.env[64]? v228 <|
 C.same s292.env[65]? v229 <|
 C.same s292.env[66]? v230 <|
 C.same s292.env[67]? v231 <|
 C.same s292.env[68]? v232 <|
 C.same s292.env[69]? v233 <|
 C.same s292.env[70]? (.bool b234) <|
 C.same s292.env[71]? (.bool b235) <|
 C.same s292.env[72]? v236 <|
 C.same s292.env[73]? v237 <|
 C.same s292.env[74]? v238 <|
 C.same s292.env[75]? v239 <|
 C.same s292.env[76]? bf <|
 C.same s292.env[77]? (.lst a0) <|
 C.same s292.env[78]? (iz x243) <|
 C.same s292.env[79]? (iz x252) <|
 C.same s292.env[80]? bt <|
 C.int .i64 s292.env[81]? fun x517 =>
 C.any s292.env[82]? fun v518 =>
 C.agg 2 s292.env[83]? fun l519 =>
 C.int .i64 l519[0]? fun x520 =>
 C.int .i64 l519[1]? fun x521 =>
 C.any s292.env[84]? fun v522 =>
 C.int .i64 s292.env[85]? fun x523 =>
 C.int .i64 s292.env[86]? fun x524 =>
 C.any s292.env[87]? fun v525 =>
 C.int .i64 s292.env[88]? fun x526 =>
 C.int .i64 s292.env[89]? fun x527 =>
 C.any s292.env[90]? fun v528 =>
 C.agg 2 s292.env[91]? fun l529 =>
 C.int .i64 l529[0]? fun x530 =>
 C.int .i64 l529[1]? fun x531 =>
 C.any s292.env[92]? fun v532 =>
 C.agg 2 s292.env[93]? fun l533 =>
 C.int .i64 l533[0]? fun x534 =>
 C.int .i64 l533[1]? fun x535 =>
 C.int .i64 s292.env[94]? fun x536 =>
 C.bool s292.env[95]? fun b537 =>
 C.bool s292.env[96]? fun b538 =>
 C.any s292.env[97]? fun v539 =>
 C.any s292.env[98]? fun v540 =>
 C.any s292.env[99]? fun v541 =>
 C.any s292.env[100]? fun v542 =>
 C.any s292.env[101]? fun v543 =>
 C.any s292.env[102]? fun v544 =>
 C.any s292.env[103]? fun v545 =>
 C.any s292.env[104]? fun v546 =>
 C.any s292.env[105]? fun v547 =>
 C.any s292.env[106]? fun v548 =>
 C.bool s292.env[107]? fun b549 =>
 C.any s292.env[108]? fun v550 =>
 C.any s292.env[109]? fun v551 =>
 C.any s292.env[110]? fun v552 =>
 C.any s292.env[111]? fun v553 =>
 C.any s292.env[112]? fun v554 =>
 C.any s292.env[113]? fun v555 =>
 C.any s292.env[114]? fun v556 =>
 C.any s292.env[115]? fun v557 =>
 C.same s292.env[116]? v289 <|
 C.same s292.env[117]? tz <|
 C.same s292.env[118]? tz <|
 C.same s292.env[119]? tz <|
 C.same s292.env[120]? tz <|
 C.same s292.env[121]? tz <|
 C.same s292.env[122]? tz <|
 C.same s292.env[123]? tz <|
 C.same s292.env[124]? tz <|
 C.same s292.env[125]? tz <|
 C.same s292.env[126]? tz <|
 C.same s292.env[127]? tz <|
 C.same s292.env[128]? tz <|
 C.same s292.env[129]? tz <|
 C.same s292.env[130]? tz <|
 C.same s292.env[131]? tz <|
 C.same s292.env[132]? tz <|
 k245 .ret ⟨[(.lst a0), (.agg [(iz a1), (iz a2)]), (.agg [(iz a3), (iz a4)]), tz, v0, v2, (.bool b512), v81, (.bool b80), (.bool b513), (iz x514), v515, v516, (.bool b49), (.bool b50), (.bool b51), v52, v53, v54, (.bool b55), (.bool b56), v57, v58, v59, (.bool b60), (.bool b61), v62, v63, v64, (.bool b65), (.bool b66), v67, v68, v69, bf, tz, (.tup [(.agg [(iz x76), (iz x77), (iz x78), (iz x79)]), (.bool b80)]), (.lst a0), (.tup [(.agg [(iz x76), (iz x77), (iz x78), (iz x79)]), (.bool b80)]), (.agg [(iz x76), (iz x77), (iz x78), (iz x79)]), (.bool b80), v205, (iz x206), v207, v208, (iz x209), (.bool b210), (.bool b211), v212, v213, v214, v215, v216, v217, (.bool b218), (.bool b219), v220, v221, v222, v223, v224, v225, (.bool b226), (.bool b227), v228, v229, v230, v231, v232, v233, (.bool b234), (.bool b235), v236, v237, v238, v239, bf, (.lst a0), (iz x243), (iz x252), bt, (iz x517), v518, (.agg [(iz x520), (iz x521)]), v522, (iz x523), (iz x524), v525, (iz x526), (iz x527), v528, (.agg [(iz x530), (iz x531)]), v532, (.agg [(iz x534), (iz x535)]), (iz x536), (.bool b537), (.bool b538), v539, v540, v541, v542, v543, v544, v545, v546, v547, v548, (.bool b549), v550, v551, v552, v553, v554, v555, v556, v557, v289, tz, tz, tz, tz, tz, tz, tz, tz, tz, tz, tz, tz, tz, tz, tz, tz], (St.H s292)⟩)
 (none)
def r6R7 (C : Cb) (d : Nat) (a0 : List AV) (a1 a2 a3 a4 : Int) (v0 v2 : AV) (b49 b50 b51 : Bool) (v52 v53 v54 : AV) (b55 b56 : Bool) (v57 v58 v59 : AV) (b60 b61 : Bool) (v62 v63 v64 : AV) (b65 b66 : Bool) (v67 v68 v69 : AV) (x76 x77 x78 x79 : Int) (b80 : Bool) (v81 v205 : AV) (x206 : Int) (v207 v208 : AV) (x209 : Int) (b210 b211 : Bool) (v212 v213 v214 v215 v216 v217 : AV) (b218 b219 : Bool) (v220 v221 v222 v223 v224 v225 : AV) (b226 b227 : Bool) (v228 v229 v230 v231 v232 v233 : AV) (b234 b235 : Bool) (v236 v237 v238 v239 : AV) (x243 : Int) (b560 : Bool) (v561 v562 v563 : AV) (x564 : Int) (v565 v566 v567 v568 v569 v570 v571 v572 v573 v574 v575 v576 v577 v578 v579 v580 v581 v582 v583 v584 v585 v586 v587 v588 v589 v590 v591 v592 v593 v594 v595 v596 v597 v598 v599 v600 v601 : AV) : St → (Ex → St → Ans) → Ans := fun s602 k603 =>
 cnd ((List.length s602.env) == 133)
 (C.same s602.env[0]? (.lst a0) <|
 C.same s602.env[1]? (.agg [(iz a1), (iz a2)]) <|
 C.same s602.env[2]? (.agg [(iz a3), (iz a4)]) <|
 C.same s602.env[3]? tz <|
 C.same s602.env[4]? v0 <|
 C.same s602.env[5]? v2 <|
 C.bool s602.env[6]? fun b605 =>
 C.same s602.env[7]? v81 <|
 C.same s602.env[8]? (.bool b80) <|
 C.same s602.env[9]? (.bool b560) <|
 C.same s602.env[10]? v561 <|
 C.same s602.env[11]? v562 <|
 C.same s602.env[12]? v563 <|
 C.same s602.env[13]? (.bool b49) <|
 C.same s602.env[14]? (.bool b50) <|
 C.same s602.env[15]? (.bool b51) <|
 C.same s602.env[16]? v52 <|
 C.same s602.env[17]? v53 <|
 C.same s602.env[18]? v54 <|
 C.same s602.env[19]? (.bool b55) <|
 C.same s602.env[20]? (.bool b56) <|
 C.same s602.env[21]? v57 <|
 C.same s602.env[22]? v58 <|
 C.same s602.env[23]? v59 <|
 C.same s602.env[24]? (.bool b60) <|
 C.same s602.env[25]? (.bool b61) <|
 C.same s602.env[26]? v62 <|
 C.same s602.env[27]? v63 <|
 C.same s602.env[28]? v64 <|
 C.same s602.env[29]? (.bool b65) <|
 C.same s602.env[30]? (.bool b66) <|
 C.same s602.env[31]? v67 <|
 C.same s602.env[32]? v68 <|
 C.same s602.env[33]? v69 <|
 C.same s602.env[34]? bf <|
 C.same s602.env[35]? tz <|
 C.same s602.env[36]? (.tup [(.agg [(iz x76), (iz x77), (iz x78), (iz x79)]), (.bool b80)]) <|
 C.same s602.env[37]? (.lst a0) <|
 C.same s602.env[38]? (.tup [(.agg [(iz x76), (iz x77), (iz x78), (iz x79)]), (.bool b80)]) <|
 C.same s602.env[39]? (.agg [(iz x76), (iz x77), (iz x78), (iz x79)]) <|
 C.same s602.env[40]? (.bool b80) <|
 C.same s602.env[41]? v205 <|
 C.same s602.env[42]? (iz x206) <|
 C.same s602.env[43]? v207 <|
 C.same s602.env[44]? v208 <|
 C.same s602.env[45]? (iz x209) <|
 C.same s602.env[46]? (.bool b210) <|
 C.same s602.env[47]? (.bool b211) <|
 C.same s602.env[48]? v212 <|
 C.same s602.env[49]? v213 <|
 C.same s602.env[50]? v214 <|
 C.same s602.env[51]? v215 <|
 C.same s602.env[52]? v216 <|
 C.same s602.env[53]? v217 <|
 C.same s602.env[54]? (.bool b218) <|
 C.same s602.env[55]? (.bool b219) <|
 C.same s602.env[56]? v220 <|
 C.same s602.env[57]? v221 <|
 C.same s602.env[58]? v222 <|
 C.same s602.env[59]? v223 <|
 C.same s602.env[60]? v224 <|
 C.same s602.env[61]? v225 <|
 C.same s602.env[62]? (.bool b226) <|
 C.same s602.env[63]? (.bool b227) <|
 C.same s602.env[64]? v228 <|
 C.same s602.env[65]? v229 <|
 C.same s602.env[66]? v230 <|
 C.same s602.env[67]? v231 <|
 C.same s602.env[68]? v232 <|
 C.same s602.env[69]? v233 <|
 C.same s602.env[70]? (.bool b234) <|
 C.same s602.env[71]? (.bool b235) <|
 C.same s602.env[72]? v236 <|
 C.same s602.env[73]? v237 <|
 C.same s602.env[74]? v238 <|
 C.same s602.env[75]? v239 <|
 C.same s602.env[76]? bf <|
 C.same s602.env[77]? (.lst a0) <|
 C.same s602.env[78]? (iz x243) <|
 C.same s602.env[79]? (iz x564) <|
 C.same s602.env[80]? v565 <|
 C.same s602.env[81]? v566 <|
 C.same s602.env[82]? v567 <|
 C.same s602.env[83]? v568 <|
 C.same s602.env[84]? v569 <|
 C.same s602.env[85]? v570 <|
 C.same s602.env[86]? v571 <|
 C.same s602.env[87]? v572 <|
 C.same s602.env[88]? v573 <|
 C.same s602.env[89]? v574 <|
 C.same s602.env[90]? v575 <|
 C.same s602.env[91]? v576 <|
 C.same s602.env[92]? v577 <|
 C.same s602.env[93]? v578 <|
 C.same s602.env[94]? v579 <|
 C.same s602.env[95]? v580 <|
 C.same s602.env[96]? v581 <|
 C.same s602.env[97]? v582 <|
 C.same s602.env[98]? v583 <|
 C.same s602.env[99]? v584 <|
 C.same s602.env[100]? v585 <|
 C.same s602.env[101]? v586 <|
 C.same s602.env[102]? v587 <|
 C.same s602.env[103]? v588 <|
 C.same s602.env[104]? v589 <|
 C.same s602.env[105]? v590 <|
 C.same s602.env[106]? v591 <|
 C.same s602.env[107]? v592 <|
 C.same s602.env[108]? v593 <|
 C.same s602.env[109]? v594 <|
 C.same s602.env[110]? v595 <|
 C.same s602.env[111]? v596 <|
 C.same s602.env[112]? v597 <|
 C.same s602.env[113]? v598 <|
 C.same s602.env[114]? v599 <|
 C.same s602.env[115]? v600 <|
 C.same s602.env[116]? v601 <|
 C.any s602.env[117]? fun v606 =>
 C.any s602.env[118]? fun v607 =>
 C.any s602.env[119]? fun v608 =>
 C.any s602.env[120]? fun v609 =>
 C.any s602.env[121]? fun v610 =>
 C.any s602.env[122]? fun v611 =>
 C.any s602.env[123]? fun v612 =>
 C.any s602.env[124]? fun v613 =>
 C.any s602.env[125]? fun v614 =>
 C.any s602.env[126]? fun v615 =>
 C.any s602.env[127]? fun v616 =>
 C.any s602.env[128]? fun v617 =>
 C.any s602.env[129]? fun v618 =>
 C.any s602.env[130]? fun v619 =>
 C.any s602.env[131]? fun v620 =>
 C.any s602.env[132]? fun v621 =>
 cnd b560
 (k603 (.exit 2000000) ⟨[(.lst a0), (.agg [(iz a1), (iz a2)]), (.agg [(iz a3), (iz a4)]), tz, v0, v2, bt, v81, (.bool b80), (.bool b560), v561, v562, v563, (.bool b49), (.bool b50), (.bool b51), v52, v53, v54, (.bool b55), (.bool b56), v57, v58, v59, (.bool b60), (.bool b61), v62, v63, v64, (.bool b65), (.bool b66), v67, v68, v69, bf, tz, (.tup [(.agg [(iz x76), (iz x77), (iz x78), (iz x79)]), (.bool b80)]), (.lst a0), (.tup [(.agg [(iz x76), (iz x77), (iz x78), (iz x79)]), (.bool b80)]), (.agg [(iz x76), (iz x77), (iz x78), (iz x79)]), (.bool b80), v205, (iz x206), v207, v208, (iz x209), (.bool b210), (.bool b211), v212, v213, v214, v215, v216, v217, (.bool b218), (.bool b219), v220, v221, v222, v223, v224, v225, (.bool b226), (.bool b227), v228, v229, v230, v231, v232, v233, (.bool b234), (.bool b235), v236, v237, v238, v239, bf, (.lst a0), (iz x243), (iz x564), v565, v566, v567, v568, v569, v570, v571, v572, v573, v574, v575, v576, v577, v578, v579, v580, v581, v582, v583, v584, v585, v586, v587, v588, v589, v590, v591, v592, v593, v594, v595, v596, v597, v598, v599, v600, v601, (.bool b560), bt, tz, tz, tz, tz, tz, tz, tz, tz, tz, tz, tz, tz, tz, bt], (St.H s602)⟩)
 (C.hop (St.H s602) (.load true 2 (.v v0)) fun v622 h623 =>
 C.agg 2 (some v622) fun l624 =>
 C.int .i64 l624[0]? fun x625 =>
 C.int .i64 l624[1]? fun x626 =>
 C.snp h623 [(.lst a0), (.agg [(iz x625), (iz x626)])] fun l627 b628 =>
 C.int .i64 (pcall M d 16 l627) fun x629 =>
 cnd (b628 || true)
 (C.hop h623 (.load true 2 (.v v2)) fun v630 h631 =>
 C.agg 2 (some v630) fun l632 =>
 C.int .i64 l632[0]? fun x633 =>
 C.int .i64 l632[1]? fun x634 =>
 C.snp h631 [(.lst a0), (.agg [(iz x633), (iz x634)])] fun l635 b636 =>
 C.int .i64 (pcall M d 16 l635) fun x637 =>
 cnd (b636 || true)
 (cnd (x629 == x637)
 (C.hop h631 (.load true 2 (.v v0)) fun v638 h639 =>
 C.agg 2 (some v638) fun l640 =>
 C.int .i64 l640[0]? fun x641 =>
 C.int .i64 l640[1]? fun x642 =>
 C.snp h639 [(.lst a0), (.agg [(iz x641), (iz x642)])] fun l643 b644 =>
 C.int .i64 (pcall M d 16 l643) fun x645 =>
 cnd (b644 || true)
 (k603 (.exit 2000000) ⟨[(.lst a0), (.agg [(iz a1), (iz a2)]), (.agg [(iz a3), (iz a4)]), tz, v0, v2, (.bool (x645 != 0)), v81, (.bool b80), (.bool b560), v561, v562, v563, (.bool b49), (.bool b50), (.bool b51), v52, v53, v54, (.bool b55), (.bool b56), v57, v58, v59, (.bool b60), (.bool b61), v62, v63, v64, (.bool b65), (.bool b66), v67, v68, v69, bf, tz, (.tup [(.agg [(iz x76), (iz x77), (iz x78), (iz x79)]), (.bool b80)]), (.lst a0), (.tup [(.agg [(iz x76), (iz x77), (iz x78), (iz x79)]), (.bool b80)]), (.agg [(iz x76), (iz x77), (iz x78), (iz x79)]), (.bool b80), v205, (iz x206), v207, v208, (iz x209), (.bool b210), (.bool b211), v212, v213, v214, v215, v216, v217, (.bool b218), (.bool b219), v220, v221, v222, v223, v224, v225, (.bool b226), (.bool b227), v228, v229, v230, v231, v232, v233, (.bool b234), (.bool b235), v236, v237, v238, v239, bf, (.lst a0), (iz x243), (iz x564), v565, v566, v567, v568, v569, v570, v571, v572, v573, v574, v575, v576, v577, v578, v579, v580, v581, v582, v583, v584, v585, v586, v587, v588, v589, v590, v591, v592, v593, v594, v595, v596, v597, v598, v599, v600, v601, (.bool b560), bf, (.lst a0), (.agg [(iz x625), (iz x626)]), (iz x629), (.lst a0), (.agg [(iz x633), (iz x634)]), (iz x637), (.bool (x629 == x637)), bt, (.lst a0), (.agg [(iz x641), (iz x642)]), (iz x645), (.bool (x645 != 0)), (.bool (x645 != 0)), (.bool (x645 != 0))], h639⟩)
 (none))
 (k603 (.exit 2000000) ⟨[(.lst a0), (.agg [(iz a1), (iz a2)]), (.agg [(iz a3), (iz a4)]), tz, v0, v2, bf, v81, (.bool b80), (.bool b560), v561, v562, v563, (.bool b49), (.bool b50), (.bool b51), v52, v53, v54, (.bool b55), (.bool b56), v57, v58, v59, (.bool b60), (.bool b61), v62, v63, v64, (.bool b65), (.bool b66), v67, v68, v69, bf, tz, (.tup [(.agg [(iz x76), (iz x77), (iz x78), (iz x79)]), (.bool b80)]), (.lst a0), (.tup [(.agg [(iz x76), (iz x77), (iz x78), (iz x79)]), (.bool b80)]), (.agg [(iz x76), (iz x77), (iz x78), (iz x79)]), (.bool b80), v205, (iz x206), v207, v208, (iz x209), (.bool b210), (.bool b211), v212, v213, v214, v215, v216, v217, (.bool b218), (.bool b219), v220, v221, v222, v223, v224, v225, (.bool b226), (.bool b227), v228, v229, v230, v231, v232, v233, (.bool b234), (.bool b235), v236, v237, v238, v239, bf, (.lst a0), (iz x243), (iz x564), v565, v566, v567, v568, v569, v570, v571, v572, v573, v574, v575, v576, v577, v578, v579, v580, v581, v582, v583, v584, v585, v586, v587, v588, v589, v590, v591, v592, v593, v594, v595, v596, v597, v598, v599, v600, v601, (.bool b560), bf, (.lst a0), (.agg [(iz x625), (iz x626)]), (iz x629), (.lst a0), (.agg [(iz x633), (iz x634)]), (iz x637), (.bool (x629 == x637)), bf, tz, tz, tz, tz, bf, bf], h631⟩))
 (none))
 (none)))
 (none)
def r6X7_0 (C : Cb) (d : Nat) (a0 : List AV) (a1 a2 a3 a4 : Int) (v0 v2 : AV) (b49 b50 b51 : Bool) (v52 v53 v54 : AV) (b55 b56 : Bool) (v57 v58 v59 : AV) (b60 b61 : Bool) (v62 v63 v64 : AV) (b65 b66 : Bool) (v67 v68 v69 : AV) (x76 x77 x78 x79 : Int) (b80 : Bool) (v81 v205 : AV) (x206 : Int) (v207 v208 : AV) (x209 : Int) (b210 b211 : Bool) (v212 v213 v214 v215 v216 v217 : AV) (b218 b219 : Bool) (v220 v221 v222 v223 v224 v225 : AV) (b226 b227 : Bool) (v228 v229 v230 v231 v232 v233 : AV) (b234 b235 : Bool) (v236 v237 v238 v239 : AV) (x243 : Int) (b560 : Bool) (v561 v562 v563 : AV) (x564 : Int) (v565 v566 v567 v568 v569 v570 v571 v572 v573 v574 v575 v576 v577 v578 v579 v580 v581 v582 v583 v584 v585 v586 v587 v588 v589 v590 v591 v592 v593 v594 v595 v596 v597 v598 v599 v600 v601 : AV) : St → Ans := fun s646 =>
 cnd ((List.length s646.env) == 133)
 (C.same s646.env[0]? (.lst a0) <|
 C.same s646.env[1]? (.agg [(iz a1), (iz a2)]) <|
 C.same s646.env[2]? (.agg [(iz a3), (iz a4)]) <|
 C.same s646.env[3]? tz <|
 C.same s646.env[4]? v0 <|
 C.same s646.env[5]? v2 <|
 C.bool s646.env[6]? fun b647 =>
 C.same s646.env[7]? v81 <|
 C.same s646.env[8]? (.bool b80) <|
 C.same s646.env[9]? (.bool b560) <|
 C.same s646.env[10]? v561 <|
 C.same s646.env[11]? v562 <|
 C.same s646.env[12]? v563 <|
 C.same s646.env[13]? (.bool b49) <|
 C.same s646.env[14]? (.bool b50) <|
 C.same s646.env[15]? (.bool b51) <|
 C.same s646.env[16]? v52 <|
 C.same s646.env[17]? v53 <|
 C.same s646.env[18]? v54 <|
 C.same s646.env[19]? (.bool b55) <|
 C.same s646.env[20]? (.bool b56) <|
 C.same s646.env[21]? v57 <|
 C.same s646.env[22]? v58 <|
 C.same s646.env[23]? v59 <|
 C.same s646.env[24]? (.bool b60) <|
 C.same s646.env[25]? (.bool b61) <|
 C.same s646.env[26]? v62 <|
 C.same s646.env[27]? v63 <|
 C.same s646.env[28]? v64 <|
 C.same s646.env[29]? (.bool b65) <|
 C.same s646.env[30]? (.bool b66) <|
 C.same s646.env[31]? v67 <|
 C.same s646.env[32]? v68 <|
 C.same s646.env[33]? v69 <|
 C.same s646.env[34]? bf <|
 C.same s646.env[35]? tz <|
 C.same s646.env[36]? (.tup [(.agg [(iz x76), (iz x77), (iz x78), (iz x79)]), (.bool b80)]) <|
 C.same s646.env[37]? (.lst a0) <|
 C.same s646.env[38]? (.tup [(.agg [(iz x76), (iz x77), (iz x78), (iz x79)]), (.bool b80)]) <|
 C.same s646.env[39]? (.agg [(iz x76), (iz x77), (iz x78), (iz x79)]) <|
 C.same s646.env[40]? (.bool b80) <|
 C.same s646.env[41]? v205 <|
 C.same s646.env[42]? (iz x206) <|
 C.same s646.env[43]? v207 <|
 C.same s646.env[44]? v208 <|
 C.same s646.env[45]? (iz x209) <|
 C.same s646.env[46]? (.bool b210) <|
 C.same s646.env[47]? (.bool b211) <|
 C.same s646.env[48]? v212 <|
 C.same s646.env[49]? v213 <|
 C.same s646.env[50]? v214 <|
 C.same s646.env[51]? v215 <|
 C.same s646.env[52]? v216 <|
 C.same s646.env[53]? v217 <|
 C.same s646.env[54]? (.bool b218) <|
 C.same s646.env[55]? (.bool b219) <|
 C.same s646.env[56]? v220 <|
 C.same s646.env[57]? v221 <|
 C.same s646.env[58]? v222 <|
 C.same s646.env[59]? v223 <|
 C.same s646.env[60]? v224 <|
 C.same s646.env[61]? v225 <|
 C.same s646.env[62]? (.bool b226) <|
 C.same s646.env[63]? (.bool b227) <|
 C.same s646.env[64]? v228 <|
 C.same s646.env[65]? v229 <|
 C.same s646.env[66]? v230 <|
 C.same s646.env[67]? v231 <|
 C.same s646.env[68]? v232 <|
 C.same s646.env[69]? v233 <|
 C.same s646.env[70]? (.bool b234) <|
 C.same s646.env[71]? (.bool b235) <|
 C.same s646.env[72]? v236 <|
 C.same s646.env[73]? v237 <|
 C.same s646.env[74]? v238 <|
 C.same s646.env[75]? v239 <|
 C.same s646.env[76]? bf <|
 C.same s646.env[77]? (.lst a0) <|
 C.same s646.env[78]? (iz x243) <|
 C.same s646.env[79]? (iz x564) <|
 C.same s646.env[80]? v565 <|
 C.same s646.env[81]? v566 <|
 C.same s646.env[82]? v567 <|
 C.same s646.env[83]? v568 <|
 C.same s646.env[84]? v569 <|
 C.same s646.env[85]? v570 <|
 C.same s646.env[86]? v571 <|
 C.same s646.env[87]? v572 <|
 C.same s646.env[88]? v573 <|
 C.same s646.env[89]? v574 <|
 C.same s646.env[90]? v575 <|
 C.same s646.env[91]? v576 <|
 C.same s646.env[92]? v577 <|
 C.same s646.env[93]? v578 <|
 C.same s646.env[94]? v579 <|
 C.same s646.env[95]? v580 <|
 C.same s646.env[96]? v581 <|
 C.same s646.env[97]? v582 <|
 C.same s646.env[98]? v583 <|
 C.same s646.env[99]? v584 <|
 C.same s646.env[100]? v585 <|
 C.same s646.env[101]? v586 <|
 C.same s646.env[102]? v587 <|
 C.same s646.env[103]? v588 <|
 C.same s646.env[104]? v589 <|
 C.same s646.env[105]? v590 <|
 C.same s646.env[106]? v591 <|
 C.same s646.env[107]? v592 <|
 C.same s646.env[108]? v593 <|
 C.same s646.env[109]? v594 <|
 C.same s646.env[110]? v595 <|
 C.same s646.env[111]? v596 <|
 C.same s646.env[112]? v597 <|
 C.same s646.env[113]? v598 <|
 C.same s646.env[114]? v599 <|
 C.same s646.env[115]? v600 <|
 C.same s646.env[116]? v601 <|
 C.bool s646.env[117]? fun b648 =>
 C.bool s646.env[118]? fun b649 =>
 C.any s646.env[119]? fun v650 =>
 C.any s646.env[120]? fun v651 =>
 C.any s646.env[121]? fun v652 =>
 C.any s646.env[122]? fun v653 =>
 C.any s646.env[123]? fun v654 =>
 C.any s646.env[124]? fun v655 =>
 C.any s646.env[125]? fun v656 =>
 C.any s646.env[126]? fun v657 =>
 C.any s646.env[127]? fun v658 =>
 C.any s646.env[128]? fun v659 =>
 C.any s646.env[129]? fun v660 =>
 C.any s646.env[130]? fun v661 =>
 C.any s646.env[131]? fun v662 =>
 C.bool s646.env[132]? fun b663 =>
 C.fin (St.H s646) (.bool b647))
 (none)
def r6E7 (C : Cb) (d : Nat) (a0 : List AV) (a1 a2 a3 a4 : Int) (v0 v2 : AV) (b49 b50 b51 : Bool) (v52 v53 v54 : AV) (b55 b56 : Bool) (v57 v58 v59 : AV) (b60 b61 : Bool) (v62 v63 v64 : AV) (b65 b66 : Bool) (v67 v68 v69 : AV) (x76 x77 x78 x79 : Int) (b80 : Bool) (v81 v205 : AV) (x206 : Int) (v207 v208 : AV) (x209 : Int) (b210 b211 : Bool) (v212 v213 v214 v215 v216 v217 : AV) (b218 b219 : Bool) (v220 v221 v222 v223 v224 v225 : AV) (b226 b227 : Bool) (v228 v229 v230 v231 v232 v233 : AV) (b234 b235 : Bool) (v236 v237 v238 v239 : AV) (x243 : Int) (b560 : Bool) (v561 v562 v563 : AV) (x564 : Int) (v565 v566 v567 v568 v569 v570 v571 v572 v573 v574 v575 v576 v577 v578 v579 v580 v581 v582 v583 v584 v585 v586 v587 v588 v589 v590 v591 v592 v593 v594 v595 v596 v597 v598 v599 v600 v601 : AV) : St → Ans := fun s604 =>
 cnd ((List.length s604.env) == 133)
 (C.same s604.env[0]? (.lst a0) <|
 C.same s604.env[1]? (.agg [(iz a1), (iz a2)]) <|
 C.same s604.env[2]? (.agg [(iz a3), (iz a4)]) <|
 C.same s604.env[3]? tz <|
 C.same s604.env[4]? v0 <|
 C.same s604.env[5]? v2 <|
 C.bool s604.env[6]? fun b664 =>
 C.same s604.env[7]? v81 <|
 C.same s604.env[8]? (.bool b80) <|
 C.same s604.env[9]? (.bool b560) <|
 C.same s604.env[10]? v561 <|
 C.same s604.env[11]? v562 <|
 C.same s604.env[12]? v563 <|
 C.same s604.env[13]? (.bool b49) <|
 C.same s604.env[14]? (.bool b50) <|
 C.same s604.env[15]? (.bool b51) <|
 C.same s604.env[16]? v52 <|
 C.same s604.env[17]? v53 <|
 C.same s604.env[18]? v54 <|
 C.same s604.env[19]? (.bool b55) <|
 C.same s604.env[20]? (.bool b56) <|
 C.same s604.env[21]? v57 <|
 C.same s604.env[22]? v58 <|
 C.same s604.env[23]? v59 <|
 C.same s604.env[24]? (.bool b60) <|
 C.same s604.env[25]? (.bool b61) <|
 C.same s604.env[26]? v62 <|
 C.same s604.env[27]? v63 <|
 C.same s604.env[28]? v64 <|
 C.same s604.env[29]? (.bool b65) <|
 C.same s604.env[30]? (.bool b66) <|
 C.same s604.env[31]? v67 <|
 C.same s604.env[32]? v68 <|
 C.same s604.env[33]? v69 <|
 C.same s604.env[34]? bf <|
 C.same s604.env[35]? tz <|
 C.same s604.env[36]? (.tup [(.agg [(iz x76), (iz x77), (iz x78), (iz x79)]), (.bool b80)]) <|
 C.same s604.env[37]? (.lst a0) <|
 C.same s604.env[38]? (.tup [(.agg [(iz x76), (iz x77), (iz x78), (iz x79)]), (.bool b80)]) <|
 C.same s604.env[39]? (.agg [(iz x76), (iz x77), (iz x78), (iz x79)]) <|
 C.same s604.env[40]? (.bool b80) <|
 C.same s604.env[41]? v205 <|
 C.same s604.env[42]? (iz x206) <|
 C.same s604.env[43]? v207 <|
 C.same s604.env[44]? v208 <|
 C.same s604.env[45]? (iz x209) <|
 C.same s604.env[46]? (.bool b210) <|
 C.same s604.env[47]? (.bool b211) <|
 C.same s604.env[48]? v212 <|
 C.same s604.env[49]? v213 <|
 C.same s604.env[50]? v214 <|
 C.same s604.env[51]? v215 <|
 C.same s604.env[52]? v216 <|
 C.same s604.env[53]? v217 <|
 C.same s604.env[54]? (.bool b218) <|
 C.same s604.env[55]? (.bool b219) <|
 C.same s604.env[56]? v220 <|
 C.same s604.env[57]? v221 <|
 C.same s604.env[58]? v222 <|
 C.same s604.env[59]? v223 <|
 C.same s604.env[60]? v224 <|
 C.same s604.env[61]? v225 <|
 C.same s604.env[62]? (.bool b226) <|
 C.same s604.env[63]? (.bool b227) <|
 C.same s604.env[64]? v228 <|
 C.same s604.env[65]? v229 <|
 C.same s604.env[66]? v230 <|
 C.same s604.env[67]? v231 <|
 C.same s604.env[68]? v232 <|
 C.same s604.env[69]? v233 <|
 C.same s604.env[70]? (.bool b234) <|
 C.same s604.env[71]? (.bool b235) <|
 C.same s604.env[72]? v236 <|
 C.same s604.env[73]? v237 <|
 C.same s604.env[74]? v238 <|
 C.same s604.env[75]? v239 <|
 C.same s604.env[76]? bf <|
 C.same s604.env[77]? (.lst a0) <|
 C.same s604.env[78]? (iz x243) <|
 C.same s604.env[79]? (iz x564) <|
 C.same s604.env[80]? v565 <|
 C.same s604.env[81]? v566 <|
 C.same s604.env[82]? v567 <|
 C.same s604.env[83]? v568 <|
 C.same s604.env[84]? v569 <|
 C.same s604.env[85]? v570 <|
 C.same s604.env[86]? v571 <|
 C.same s604.env[87]? v572 <|
 C.same s604.env[88]? v573 <|
 C.same s604.env[89]? v574 <|
 C.same s604.env[90]? v575 <|
 C.same s604.env[91]? v576 <|
 C.same s604.env[92]? v577 <|
 C.same s604.env[93]? v578 <|
 C.same s604.env[94]? v579 <|
 C.same s604.env[95]? v580 <|
 C.same s604.env[96]? v581 <|
 C.same s604.env[97]? v582 <|
 C.same s604.env[98]? v583 <|
 C.same s604.env[99]? v584 <|
 C.same s604.env[100]? v585 <|
 C.same s604.env[101]? v586 <|
 C.same s604.env[102]? v587 <|
 C.same s604.env[103]? v588 <|
 C.same s604.env[104]? v589 <|
 C.same s604.env[105]? v590 <|
 C.same s604.env[106]? v591 <|
 C.same s604.env[107]? v592 <|
 C.same s604.env[108]? v593 <|
 C.same s604.env[109]? v594 <|
 C.same s604.env[110]? v595 <|
 C.same s604.env[111]? v596 <|
 C.same s604.env[112]? v597 <|
 C.same s604.env[113]? v598 <|
 C.same s604.env[114]? v599 <|
 C.same s604.env[115]? v600 <|
 C.same s604.env[116]? v601 <|
 C.any s604.env[117]? fun v665 =>
 C.any s604.env[118]? fun v666 =>
 C.any s604.env[119]? fun v667 =>
 C.any s604.env[120]? fun v668 =>
 C.any s604.env[121]? fun v669 =>
 C.any s604.env[122]? fun v670 =>
 C.any s604.env[123]? fun v671 =>
 C.any s604.env[124]? fun v672 =>
 C.any s604.env[125]? fun v673 =>
 C.any s604.env[126]? fun v674 =>
 C.any s604.env[127]? fun v675 =>
 C.any s604.env[128]? fun v676 =>
 C.any s604.env[129]? fun v677 =>
 C.any s604.env[130]? fun v678 =>
 C.any s604.env[131]? fun v679 =>
 C.any s604.env[132]? fun v680 =>
 none)
 (none)
def r6R2 (C : Cb) (d : Nat) (a0 : List AV) (a1 a2 a3 a4 : Int) (v0 v2 : AV) (b49 b50 b51 : Bool) (v52 v53 v54 : AV) (b55 b56 : Bool) (v57 v58 v59 : AV) (b60 b61 : Bool) (v62 v63 v64 : AV) (b65 b66 : Bool) (v67 v68 v69 : AV) (x76 x77 x78 x79 : Int) (b80 : Bool) (v81 v205 : AV) (x206 : Int) (v207 v208 : AV) (x209 : Int) (b210 b211 : Bool) (v212 v213 v214 v215 v216 v217 : AV) (b218 b219 : Bool) (v220 v221 v222 v223 v224 v225 : AV) (b226 b227 : Bool) (v228 v229 v230 v231 v232 v233 : AV) (b234 b235 : Bool) (v236 v237 v238 v239 : AV) (x243 : Int) : St → (Ex → St → Ans) → Ans := fun s244 k245 =>
 cnd ((List.length s244.env) == 133)
 (C.same s244.env[0]? (.lst a0) <|
 C.same s244.env[1]? (.agg [(iz a1), (iz a2)]) <|
 C.same s244.env[2]? (.agg [(iz a3), (iz a4)]) <|
 C.same s244.env[3]? tz <|
 C.same s244.env[4]? v0 <|
 C.same s244.env[5]? v2 <|
 C.bool s244.env[6]? fun b247 =>
 C.same s244.env[7]? v81 <|
 C.same s244.env[8]? (.bool b80) <|
 C.bool s244.env[9]? fun b248 =>
 C.any s244.env[10]? fun v249 =>
 C.any s244.env[11]? fun v250 =>
 C.any s244.env[12]? fun v251 =>
 C.same s244.env[13]? (.bool b49) <|
 C.same s244.env[14]? (.bool b50) <|
 C.same s244.env[15]? (.bool b51) <|
 C.same s244.env[16]? v52 <|
 C.same s244.env[17]? v53 <|
 C.same s244.env[18]? v54 <|
 C.same s244.env[19]? (.bool b55) <|
 C.same s244.env[20]? (.bool b56) <|
 C.same s244.env[21]? v57 <|
 C.same s244.env[22]? v58 <|
 C.same s244.env[23]? v59 <|
 C.same s244.env[24]? (.bool b60) <|
 C.same s244.env[25]? (.bool b61) <|
 C.same s244.env[26]? v62 <|
 C.same s244.env[27]? v63 <|
 C.same s244.env[28]? v64 <|
 C.same s244.env[29]? (.bool b65) <|
 C.same s244.env[30]? (.bool b66) <|
 C.same s244.env[31]? v67 <|
 C.same s244.env[32]? v68 <|
 C.same s244.env[33]? v69 <|
 C.same s244.env[34]? bf <|
 C.same s244.env[35]? tz <|
 C.same s244.env[36]? (.tup [(.agg [(iz x76), (iz x77), (iz x78), (iz x79)]), (.bool b80)]) <|
 C.same s244.env[37]? (.lst a0) <|
 C.same s244.env[38]? (.tup [(.agg [(iz x76), (iz x77), (iz x78), (iz x79)]), (.bool b80)]) <|
 C.same s244.env[39]? (.agg [(iz x76), (iz x77), (iz x78), (iz x79)]) <|
 C.same s244.env[40]? (.bool b80) <|
 C.same s244.env[41]? v205 <|
 C.same s244.env[42]? (iz x206) <|
 C.same s244.env[43]? v207 <|
 C.same s244.env[44]? v208 <|
 C.same s244.env[45]? (iz x209) <|
 C.same s244.env[46]? (.bool b210) <|
 C.same s244.env[47]? (.bool b211) <|
 C.same s244.env[48]? v212 <|
 C.same s244.env[49]? v213 <|
 C.same s244.env[50]? v214 <|
 C.same s244.env[51]? v215 <|
 C.same s244.env[52]? v216 <|
 C.same s244.env[53]? v217 <|
 C.same s244.env[54]? (.bool b218) <|
 C.same s244.env[55]? (.bool b219) <|
 C.same s244.env[56]? v220 <|
 C.same s244.env[57]? v221 <|
 C.same s244.env[58]? v222 <|
 C.same s244.env[59]? v223 <|
 C.same s244.env[60]? v224 <|
 C.same s244.env[61]? v225 <|
 C.same s244.env[62]? (.bool b226) <|
 C.same s244.env[63]? (.bool b227) <|
 C.same s244.env[64]? v228 <|
 C.same s244.env[65]? v229 <|
 C.same s244.env[66]? v230 <|
 C.same s244.env[67]? v231 <|
 C.same s244.env[68]? v232 <|
 C.same s244.env[69]? v233 <|
 C.same s244.env[70]? (.bool b234) <|
 C.same s244.env[71]? (.bool b235) <|
 C.same s244.env[72]? v236 <|
 C.same s244.env[73]? v237 <|
 C.same s244.env[74]? v238 <|
 C.same s244.env[75]? v239 <|
 C.same s244.env[76]? bf <|
 C.same s244.env[77]? (.lst a0) <|
 C.same s244.env[78]? (iz x243) <|
 C.int .i64 s244.env[79]? fun x252 =>
 C.any s244.env[80]? fun v253 =>
 C.any s244.env[81]? fun v254 =>
 C.any s244.env[82]? fun v255 =>
 C.any s244.env[83]? fun v256 =>
 C.any s244.env[84]? fun v257 =>
 C.any s244.env[85]? fun v258 =>
 C.any s244.env[86]? fun v259 =>
 C.any s244.env[87]? fun v260 =>
 C.any s244.env[88]? fun v261 =>
 C.any s244.env[89]? fun v262 =>
 C.any s244.env[90]? fun v263 =>
 C.any s244.env[91]? fun v264 =>
 C.any s244.env[92]? fun v265 =>
 C.any s244.env[93]? fun v266 =>
 C.any s244.env[94]? fun v267 =>
 C.any s244.env[95]? fun v268 =>
 C.any s244.env[96]? fun v269 =>
 C.any s244.env[97]? fun v270 =>
 C.any s244.env[98]? fun v271 =>
 C.any s244.env[99]? fun v272 =>
 C.any s244.env[100]? fun v273 =>
 C.any s244.env[101]? fun v274 =>
 C.any s244.env[102]? fun v275 =>
 C.any s244.env[103]? fun v276 =>
 C.any s244.env[104]? fun v277 =>
 C.any s244.env[105]? fun v278 =>
 C.any s244.env[106]? fun v279 =>
 C.any s244.env[107]? fun v280 =>
 C.any s244.env[108]? fun v281 =>
 C.any s244.env[109]? fun v282 =>
 C.any s244.env[110]? fun v283 =>
 C.any s244.env[111]? fun v284 =>
 C.any s244.env[112]? fun v285 =>
 C.any s244.env[113]? fun v286 =>
 C.any s244.env[114]? fun v287 =>
 C.any s244.env[115]? fun v288 =>
 C.any s244.env[116]? fun v289 =>
 C.same s244.env[117]? tz <|
 C.same s244.env[118]? tz <|
 C.same s244.env[119]? tz <|
 C.same s244.env[120]? tz <|
 C.same s244.env[121]? tz <|
 C.same s244.env[122]? tz <|
 C.same s244.env[123]? tz <|
 C.same s244.env[124]? tz <|
 C.same s244.env[125]? tz <|
 C.same s244.env[126]? tz <|
 C.same s244.env[127]? tz <|
 C.same s244.env[128]? tz <|
 C.same s244.env[129]? tz <|
 C.same s244.env[130]? tz <|
 C.same s244.env[131]? tz <|
 C.same s244.env[132]? tz <|
 cnd (decide (x252 < x243))
 (C.iter (r6R3 C d a0 a1 a2 a3 a4 v0 v2 b49 b50 b51 v52 v53 v54 b55 b56 v57 v58 v59 b60 b61 v62 v63 v64 b65 b66 v67 v68 v69 x76 x77 x78 x79 b80 v81 v205 x206 v207 v208 x209 b210 b211 v212 v213 v214 v215 v216 v217 b218 b219 v220 v221 v222 v223 v224 v225 b226 b227 v228 v229 v230 v231 v232 v233 b234 b235 v236 v237 v238 v239 x243 k245 x252 v289) 1 ⟨[(.lst a0), (.agg [(iz a1), (iz a2)]), (.agg [(iz a3), (iz a4)]), tz, v0, v2, (.bool b247), v81, (.bool b80), (.bool b248), v249, v250, v251, (.bool b49), (.bool b50), (.bool b51), v52, v53, v54, (.bool b55), (.bool b56), v57, v58, v59, (.bool b60), (.bool b61), v62, v63, v64, (.bool b65), (.bool b66), v67, v68, v69, bf, tz, (.tup [(.agg [(iz x76), (iz x77), (iz x78), (iz x79)]), (.bool b80)]), (.lst a0), (.tup [(.agg [(iz x76), (iz x77), (iz x78), (iz x79)]), (.bool b80)]), (.agg [(iz x76), (iz x77), (iz x78), (iz x79)]), (.bool b80), v205, (iz x206), v207, v208, (iz x209), (.bool b210), (.bool b211), v212, v213, v214, v215, v216, v217, (.bool b218), (.bool b219), v220, v221, v222, v223, v224, v225, (.bool b226), (.bool b227), v228, v229, v230, v231, v232, v233, (.bool b234), (.bool b235), v236, v237, v238, v239, bf, (.lst a0), (iz x243), (iz x252), bt, v254, v255, v256, v257, v258, v259, v260, v261, v262, v263, v264, v265, v266, v267, v268, v269, v270, v271, v272, v273, v274, v275, v276, v277, v278, v279, v280, v281, v282, v283, v284, v285, v286, v287, v288, v289, tz, tz, tz, tz, tz, tz, tz, tz, tz, tz, tz, tz, tz, tz, tz, tz], (St.H s244)⟩ [2000000] [r6X3_0 C d a0 a1 a2 a3 a4 v0 v2 b49 b50 b51 v52 v53 v54 b55 b56 v57 v58 v59 b60 b61 v62 v63 v64 b65 b66 v67 v68 v69 x76 x77 x78 x79 b80 v81 v205 x206 v207 v208 x209 b210 b211 v212 v213 v214 v215 v216 v217 b218 b219 v220 v221 v222 v223 v224 v225 b226 b227 v228 v229 v230 v231 v232 v233 b234 b235 v236 v237 v238 v239 x243 k245 x252 v289] (r6E3 C d a0 a1 a2 a3 a4 v0 v2 b49 b50 b51 v52 v53 v54 b55 b56 v57 v58 v59 b60 b61 v62 v63 v64 b65 b66 v67 v68 v69 x76 x77 x78 x79 b80 v81 v205 x206 v207 v208 x209 b210 b211 v212 v213 v214 v215 v216 v217 b218 b219 v220 v221 v222 v223 v224 v225 b226 b227 v228 v229 v230 v231 v232 v233 b234 b235 v236 v237 v238 v239 x243 k245 x252 v289))
 (k245 (.exit 0) ⟨[(.lst a0), (.agg [(iz a1), (iz a2)]), (.agg [(iz a3), (iz a4)]), tz, v0, v2, (.bool b247), v81, (.bool b80), (.bool b248), v249, v250, v251, (.bool b49), (.bool b50), (.bool b51), v52, v53, v54, (.bool b55), (.bool b56), v57, v58, v59, (.bool b60), (.bool b61), v62, v63, v64, (.bool b65), (.bool b66), v67, v68, v69, bf, tz, (.tup [(.agg [(iz x76), (iz x77), (iz x78), (iz x79)]), (.bool b80)]), (.lst a0), (.tup [(.agg [(iz x76), (iz x77), (iz x78), (iz x79)]), (.bool b80)]), (.agg [(iz x76), (iz x77), (iz x78), (iz x79)]), (.bool b80), v205, (iz x206), v207, v208, (iz x209), (.bool b210), (.bool b211), v212, v213, v214, v215, v216, v217, (.bool b218), (.bool b219), v220, v221, v222, v223, v224, v225, (.bool b226), (.bool b227), v228, v229, v230, v231, v232, v233, (.bool b234), (.bool b235), v236, v237, v238, v239, bf, (.lst a0), (iz x243), (iz x252), bf, v254, v255, v256, v257, v258, v259, v260, v261, v262, v263, v264, v265, v266, v267, v268, v269, v270, v271, v272, v273, v274, v275, v276, v277, v278, v279, v280, v281, v282, v283, v284, v285, v286, v287, v288, v289, tz, tz, tz, tz, tz, tz, tz, tz, tz, tz, tz, tz, tz, tz, tz, tz], (St.H s244)⟩))
 (none)
def r6X2_0 (C : Cb) (d : Nat) (a0 : List AV) (a1 a2 a3 a4 : Int) (v0 v2 : AV) (b49 b50 b51 : Bool) (v52 v53 v54 : AV) (b55 b56 : Bool) (v57 v58 v59 : AV) (b60 b61 : Bool) (v62 v63 v64 : AV) (b65 b66 : Bool) (v67 v68 v69 : AV) (x76 x77 x78 x79 : Int) (b80 : Bool) (v81 v205 : AV) (x206 : Int) (v207 v208 : AV) (x209 : Int) (b210 b211 : Bool) (v212 v213 v214 v215 v216 v217 : AV) (b218 b219 : Bool) (v220 v221 v222 v223 v224 v225 : AV) (b226 b227 : Bool) (v228 v229 v230 v231 v232 v233 : AV) (b234 b235 : Bool) (v236 v237 v238 v239 : AV) (x243 : Int) : St → Ans := fun s558 =>
 cnd ((List.length s558.env) == 133)
 (C.same s558.env[0]? (.lst a0) <|
 C.same s558.env[1]? (.agg [(iz a1), (iz a2)]) <|
 C.same s558.env[2]? (.agg [(iz a3), (iz a4)]) <|
 C.same s558.env[3]? tz <|
 C.same s558.env[4]? v0 <|
 C.same s558.env[5]? v2 <|
 C.bool s558.env[6]? fun b559 =>
 C.same s558.env[7]? v81 <|
 C.same s558.env[8]? (.bool b80) <|
 C.bool s558.env[9]? fun b560 =>
 C.any s558.env[10]? fun v561 =>
 C.any s558.env[11]? fun v562 =>
 C.any s558.env[12]? fun v563 =>
 C.same s558.env[13]? (.bool b49) <|
 C.same s558.env[14]? (.bool b50) <|
 C.same s558.env[15]? (.bool b51) <|
 C.same s558.env[16]? v52 <|
 C.same s558.env[17]? v53 <|
 C.same s558.env[18]? v54 <|
 C.same s558.env[19]? (.bool b55) <|
 C.same s558.env[20]? (.bool b56) <|
 C.same s558.env[21]? v57 <|
 C.same s558.env[22]? v58 <|
 C.same s558.env[23]? v59 <|
 C.same s558.env[24]? (.bool b60) <|
 C.same s558.env[25]? (.bool b61) <|
 C.same s558.env[26]? v62 <|
 C.same s558.env[27]? v63 <|
 C.same s558.env[28]? v64 <|
 C.same s558.env[29]? (.bool b65) <|
 C.same s558.env[30]? (.bool b66) <|
 C.same s558.env[31]? v67 <|
 C.same s558.env[32]? v68 <|
 C.same s558.env[33]? v69 <|
 C.same s558.env[34]? bf <|
 C.same s558.env[35]? tz <|
 C.same s558.env[36]? (.tup [(.agg [(iz x76), (iz x77), (iz x78), (iz x79)]), (.bool b80)]) <|
 C.same s558.env[37]? (.lst a0) <|
 C.same s558.env[38]? (.tup [(.agg [(iz x76), (iz x77), (iz x78), (iz x79)]), (.bool b80)]) <|
 C.same s558.env[39]? (.agg [(iz x76), (iz x77), (iz x78), (iz x79)]) <|
 C.same s558.env[40]? (.bool b80) <|
 C.same s558.env[41]? v205 <|
 C.same s558.env[42]? (iz x206) <|
 C.same s558.env[43]? v207 <|
 C.same s558.env[44]? v208 <|
 C.same s558.env[45]? (iz x209) <|
 C.same s558.env[46]? (.bool b210) <|
 C.same s558.env[47]? (.bool b211) <|
 C.same s558.env[48]? v212 <|
 C.same s558.env[49]? v213 <|
 C.same s558.env[50]? v214 <|
 C.same s558.env[51]? v215 <|
 C.same s558.env[52]? v216 <|
 C.same s558.env[53]? v217 <|
 C.same s558.env[54]? (.bool b218) <|
 C.same s558.env[55]? (.bool b219) <|
 C.same s558.env[56]? v220 <|
 C.same s558.env[57]? v221 <|
 C.same s558.env[58]? v222 <|
 C.same s558.env[59]? v223 <|
 C.same s558.env[60]? v224 <|
 C.same s558.env[61]? v225 <|
 C.same s558.env[62]? (.bool b226) <|
 C.same s558.env[63]? (.bool b227) <|
 C.same s558.env[64]? v228 <|
 C.same s558.env[65]? v229 <|
 C.same s558.env[66]? v230 <|
 C.same s558.env[67]? v231 <|
 C.same s558.env[68]? v232 <|
 C.same s558.env[69]? v233 <|
 C.same s558.env[70]? (.bool b234) <|
 C.same s558.env[71]? (.bool b235) <|
 C.same s558.env[72]? v236 <|
 C.same s558.env[73]? v237 <|
 C.same s558.env[74]? v238 <|
 C.same s558.env[75]? v239 <|
 C.same s558.env[76]? bf <|
 C.same s558.env[77]? (.lst a0) <|
 C.same s558.env[78]? (iz x243) <|
 C.int .i64 s558.env[79]? fun x564 =>
 C.any s558.env[80]? fun v565 =>
 C.any s558.env[81]? fun v566 =>
 C.any s558.env[82]? fun v567 =>
 C.any s558.env[83]? fun v568 =>
 C.any s558.env[84]? fun v569 =>
 C.any s558.env[85]? fun v570 =>
 C.any s558.env[86]? fun v571 =>
 C.any s558.env[87]? fun v572 =>
 C.any s558.env[88]? fun v573 =>
 C.any s558.env[89]? fun v574 =>
 C.any s558.env[90]? fun v575 =>
 C.any s558.env[91]? fun v576 =>
 C.any s558.env[92]? fun v577 =>
 C.any s558.env[93]? fun v578 =>
 C.any s558.env[94]? fun v579 =>
 C.any s558.env[95]? fun v580 =>
 C.any s558.env[96]? fun v581 =>
 C.any s558.env[97]? fun v582 =>
 C.any s558.env[98]? fun v583 =>
 C.any s558.env[99]? fun v584 =>
 C.any s558.env[100]? fun v585 =>
 C.any s558.env[101]? fun v586 =>
 C.any s558.env[102]? fun v587 =>
 C.any s558.env[103]? fun v588 =>
 C.any s558.env[104]? fun v589 =>
 C.any s558.env[105]? fun v590 =>
 C.any s558.env[106]? fun v591 =>
 C.any s558.env[107]? fun v592 =>
 C.any s558.env[108]? fun v593 =>
 C.any s558.env[109]? fun v594 =>
 C.any s558.env[110]? fun v595 =>
 C.any s558.env[111]? fun v596 =>
 C.any s558.env[112]? fun v597 =>
 C.any s558.env[113]? fun v598 =>
 C.any s558.env[114]? fun v599 =>
 C.any s558.env[115]? fun v600 =>
 C.any s558.env[116]? fun v601 =>
 C.same s558.env[117]? tz <|
 C.same s558.env[118]? tz <|
 C.same s558.env[119]? tz <|
 C.same s558.env[120]? tz <|
 C.same s558.env[121]? tz <|
 C.same s558.env[122]? tz <|
 C.same s558.env[123]? tz <|
 C.same s558.env[124]? tz <|
 C.same s558.env[125]? tz <|
 C.same s558.env[126]? tz <|
 C.same s558.env[127]? tz <|
 C.same s558.env[128]? tz <|
 C.same s558.env[129]? tz <|
 C.same s558.env[130]? tz <|
 C.same s558.env[131]? tz <|
 C.same s558.env[132]? tz <|
 C.iter (r6R7 C d a0 a1 a2 a3 a4 v0 v2 b49 b50 b51 v52 v53 v54 b55 b56 v57 v58 v59 b60 b61 v62 v63 v64 b65 b66 v67 v68 v69 x76 x77 x78 x79 b80 v81 v205 x206 v207 v208 x209 b210 b211 v212 v213 v214 v215 v216 v217 b218 b219 v220 v221 v222 v223 v224 v225 b226 b227 v228 v229 v230 v231 v232 v233 b234 b235 v236 v237 v238 v239 x243 b560 v561 v562 v563 x564 v565 v566 v567 v568 v569 v570 v571 v572 v573 v574 v575 v576 v577 v578 v579 v580 v581 v582 v583 v584 v585 v586 v587 v588 v589 v590 v591 v592 v593 v594 v595 v596 v597 v598 v599 v600 v601) 1 ⟨[(.lst a0), (.agg [(iz a1), (iz a2)]), (.agg [(iz a3), (iz a4)]), tz, v0, v2, (.bool b559), v81, (.bool b80), (.bool b560), v561, v562, v563, (.bool b49), (.bool b50), (.bool b51), v52, v53, v54, (.bool b55), (.bool b56), v57, v58, v59, (.bool b60), (.bool b61), v62, v63, v64, (.bool b65), (.bool b66), v67, v68, v69, bf, tz, (.tup [(.agg [(iz x76), (iz x77), (iz x78), (iz x79)]), (.bool b80)]), (.lst a0), (.tup [(.agg [(iz x76), (iz x77), (iz x78), (iz x79)]), (.bool b80)]), (.agg [(iz x76), (iz x77), (iz x78), (iz x79)]), (.bool b80), v205, (iz x206), v207, v208, (iz x209), (.bool b210), (.bool b211), v212, v213, v214, v215, v216, v217, (.bool b218), (.bool b219), v220, v221, v222, v223, v224, v225, (.bool b226), (.bool b227), v228, v229, v230, v231, v232, v233, (.bool b234), (.bool b235), v236, v237, v238, v239, bf, (.lst a0), (iz x243), (iz x564), v565, v566, v567, v568, v569, v570, v571, v572, v573, v574, v575, v576, v577, v578, v579, v580, v581, v582, v583, v584, v585, v586, v587, v588, v589, v590, v591, v592, v593, v594, v595, v596, v597, v598, v599, v600, v601, tz, tz, tz, tz, tz, tz, tz, tz, tz, tz, tz, tz, tz, tz, tz, tz], (St.H s558)⟩ [2000000] [r6X7_0 C d a0 a1 a2 a3 a4 v0 v2 b49 b50 b51 v52 v53 v54 b55 b56 v57 v58 v59 b60 b61 v62 v63 v64 b65 b66 v67 v68 v69 x76 x77 x78 x79 b80 v81 v205 x206 v207 v208 x209 b210 b211 v212 v213 v214 v215 v216 v217 b218 b219 v220 v221 v222 v223 v224 v225 b226 b227 v228 v229 v230 v231 v232 v233 b234 b235 v236 v237 v238 v239 x243 b560 v561 v562 v563 x564 v565 v566 v567 v568 v569 v570 v571 v572 v573 v574 v575 v576 v577 v578 v579 v580 v581 v582 v583 v584 v585 v586 v587 v588 v589 v590 v591 v592 v593 v594 v595 v596 v597 v598 v599 v600 v601] (r6E7 C d a0 a1 a2 a3 a4 v0 v2 b49 b50 b51 v52 v53 v54 b55 b56 v57 v58 v59 b60 b61 v62 v63 v64 b65 b66 v67 v68 v69 x76 x77 x78 x79 b80 v81 v205 x206 v207 v208 x209 b210 b211 v212 v213 v214 v215 v216 v217 b218 b219 v220 v221 v222 v223 v224 v225 b226 b227 v228 v229 v230 v231 v232 v233 b234 b235 v236 v237 v238 v239 x243 b560 v561 v562 v563 x564 v565 v566 v567 v568 v569 v570 v571 v572 v573 v574 v575 v576 v577 v578 v579 v580 v581 v582 v583 v584 v585 v586 v587 v588 v589 v590 v591 v592 v593 v594 v595 v596 v597 v598 v599 v600 v601))
 (none)
def r6E2 (C : Cb) (d : Nat) (a0 : List AV) (a1 a2 a3 a4 : Int) (v0 v2 : AV) (b49 b50 b51 : Bool) (v52 v53 v54 : AV) (b55 b56 : Bool) (v57 v58 v59 : AV) (b60 b61 : Bool) (v62 v63 v64 : AV) (b65 b66 : Bool) (v67 v68 v69 : AV) (x76 x77 x78 x79 : Int) (b80 : Bool) (v81 v205 : AV) (x206 : Int) (v207 v208 : AV) (x209 : Int) (b210 b211 : Bool) (v212 v213 v214 v215 v216 v217 : AV) (b218 b219 : Bool) (v220 v221 v222 v223 v224 v225 : AV) (b226 b227 : Bool) (v228 v229 v230 v231 v232 v233 : AV) (b234 b235 : Bool) (v236 v237 v238 v239 : AV) (x243 : Int) : St → Ans := fun s246 =>
 cnd ((List.length s246.env) == 133)
 (C.same s246.env[0]? (.lst a0) <|
 C.same s246.env[1]? (.agg [(iz a1), (iz a2)]) <|
 C.same s246.env[2]? (.agg [(iz a3), (iz a4)]) <|
 C.same s246.env[3]? tz <|
 C.same s246.env[4]? v0 <|
 C.same s246.env[5]? v2 <|
 C.bool s246.env[6]? fun b681 =>
 C.same s246.env[7]? v81 <|
 C.same s246.env[8]? (.bool b80) <|
 C.bool s246.env[9]? fun b682 =>
 C.int .i64 s246.env[10]? fun x683 =>
 C.any s246.env[11]? fun v684 =>
 C.any s246.env[12]? fun v685 =>
 C.same s246.env[13]? (.bool b49) <|
 C.same s246.env[14]? (.bool b50) <|
 C.same s246.env[15]? (.bool b51) <|
 C.same s246.env[16]? v52 <|
 C.same s246.env[17]? v53 <|
 C.same s246.env[18]? v54 <|
 C.same s246.env[19]? (.bool b55) <|
 C.same s246.env[20]? (.bool b56) <|
 C.same s246.env[21]? v57 <|
 C.same s246.env[22]? v58 <|
 C.same s246.env[23]? v59 <|
 C.same s246.env[24]? (.bool b60) <|
 C.same s246.env[25]? (.bool b61) <|
 C.same s246.env[26]? v62 <|
 C.same s246.env[27]? v63 <|
 C.same s246.env[28]? v64 <|
 C.same s246.env[29]? (.bool b65) <|
 C.same s246.env[30]? (.bool b66) <|
 C.same s246.env[31]? v67 <|
 C.same s246.env[32]? v68 <|
 C.same s246.env[33]? v69 <|
 C.same s246.env[34]? bf <|
 C.same s246.env[35]? tz <|
 C.same s246.env[36]? (.tup [(.agg [(iz x76), (iz x77), (iz x78), (iz x79)]), (.bool b80)]) <|
 C.same s246.env[37]? (.lst a0) <|
 C.same s246.env[38]? (.tup [(.agg [(iz x76), (iz x77), (iz x78), (iz x79)]), (.bool b80)]) <|
 C.same s246.env[39]? (.agg [(iz x76), (iz x77), (iz x78), (iz x79)]) <|
 C.same s246.env[40]? (.bool b80) <|
 C.same s246.env[41]? v205 <|
 C.same s246.env[42]? (iz x206) <|
 C.same s246.env[43]? v207 <|
 C.same s246.env[44]? v208 <|
 C.same s246.env[45]? (iz x209) <|
 C.same s246.env[46]? (.bool b210) <|
 C.same s246.env[47]? (.bool b211) <|
 C.same s246.env[48]? v212 <|
 C.same s246.env[49]? v213 <|
 C.same s246.env[50]? v214 <|
 C.same s246.env[51]? v215 <|
 C.same s246.env[52]? v216 <|
 C.same s246.env[53]? v217 <|
 C.same s246.env[54]? (.bool b218) <|
 C.same s246.env[55]? (.bool b219) <|
 C.same s246.env[56]? v220 <|
 C.same s246.env[57]? v221 <|
 C.same s246.env[58]? v222 <|
 C.same s246.env[59]? v223 <|
 C.same s246.env[60]? v224 <|
 C.same s246.env[61]? v225 <|
 C.same s246.env[62]? (.bool b226) <|
 C.same s246.env[63]? (.bool b227) <|
 C.same s246.env[64]? v228 <|
 C.same s246.env[65]? v229 <|
 C.same s246.env[66]? v230 <|
 C.same s246.env[67]? v231 <|
 C.same s246.env[68]? v232 <|
 C.same s246.env[69]? v233 <|
 C.same s246.env[70]? (.bool b234) <|
 C.same s246.env[71]? (.bool b235) <|
 C.same s246.env[72]? v236 <|
 C.same s246.env[73]? v237 <|
 C.same s246.env[74]? v238 <|
 C.same s246.env[75]? v239 <|
 C.same s246.env[76]? bf <|
 C.same s246.env[77]? (.lst a0) <|
 C.same s246.env[78]? (iz x243) <|
 C.int .i64 s246.env[79]? fun x686 =>
 C.any s246.env[80]? fun v687 =>
 C.int .i64 s246.env[81]? fun x688 =>
 C.any s246.env[82]? fun v689 =>
 C.agg 2 s246.env[83]? fun l690 =>
 C.int .i64 l690[0]? fun x691 =>
 C.int .i64 l690[1]? fun x692 =>
 C.any s246.env[84]? fun v693 =>
 C.int .i64 s246.env[85]? fun x694 =>
 C.int .i64 s246.env[86]? fun x695 =>
 C.any s246.env[87]? fun v696 =>
 C.int .i64 s246.env[88]? fun x697 =>
 C.int .i64 s246.env[89]? fun x698 =>
 C.any s246.env[90]? fun v699 =>
 C.agg 2 s246.env[91]? fun l700 =>
 C.int .i64 l700[0]? fun x701 =>
 C.int .i64 l700[1]? fun x702 =>
 C.any s246.env[92]? fun v703 =>
 C.agg 2 s246.env[93]? fun l704 =>
 C.int .i64 l704[0]? fun x705 =>
 C.int .i64 l704[1]? fun x706 =>
 C.int .i64 s246.env[94]? fun x707 =>
 C.bool s246.env[95]? fun b708 =>
 C.bool s246.env[96]? fun b709 =>
 C.any s246.env[97]? fun v710 =>
 C.any s246.env[98]? fun v711 =>
 C.any s246.env[99]? fun v712 =>
 C.any s246.env[100]? fun v713 =>
 C.any s246.env[101]? fun v714 =>
 C.any s246.env[102]? fun v715 =>
 C.any s246.env[103]? fun v716 =>
 C.any s246.env[104]? fun v717 =>
 C.any s246.env[105]? fun v718 =>
 C.any s246.env[106]? fun v719 =>
 C.bool s246.env[107]? fun b720 =>
 C.any s246.env[108]? fun v721 =>
 C.any s246.env[109]? fun v722 =>
 C.any s246.env[110]? fun v723 =>
 C.any s246.env[111]? fun v724 =>
 C.any s246.env[112]? fun v725 =>
 C.any s246.env[113]? fun v726 =>
 C.any s246.env[114]? fun v727 =>
 C.any s246.env[115]? fun v728 =>
 C.any s246.env[116]? fun v729 =>
 C.same s246.env[117]? tz <|
 C.same s246.env[118]? tz <|
 C.same s246.env[119]? tz <|
 C.same s246.env[120]? tz <|
 C.same s246.env[121]? tz <|
 C.same s246.env[122]? tz <|
 C.same s246.env[123]? tz <|
 C.same s246.env[124]? tz <|
 C.same s246.env[125]? tz <|
 C.same s246.env[126]? tz <|
 C.same s246.env[127]? tz <|
 C.same s246.env[128]? tz <|
 C.same s246.env[129]? tz <|
 C.same s246.env[130]? tz <|
 C.same s246.env[131]? tz <|
 C.same s246.env[132]? tz <|
 C.fin (St.H s246) (.bool b681))
 (none)
def r6R1 (C : Cb) (d : Nat) (a0 : List AV) (a1 a2 a3 a4 : Int) (v0 v2 : AV) (b49 b50 b51 : Bool) (v52 v53 v54 : AV) (b55 b56 : Bool) (v57 v58 v59 : AV) (b60 b61 : Bool) (v62 v63 v64 : AV) (b65 b66 : Bool) (v67 v68 v69 : AV) (x76 x77 x78 x79 : Int) (b80 : Bool) (v81 : AV) : St → (Ex → St → Ans) → Ans := fun s85 k86 =>
 cnd ((List.length s85.env) == 133)
 (C.same s85.env[0]? (.lst a0) <|
 C.same s85.env[1]? (.agg [(iz a1), (iz a2)]) <|
 C.same s85.env[2]? (.agg [(iz a3), (iz a4)]) <|
 C.same s85.env[3]? tz <|
 C.same s85.env[4]? v0 <|
 C.same s85.env[5]? v2 <|
 C.same s85.env[6]? bf <|
 C.same s85.env[7]? v81 <|
 C.same s85.env[8]? (.bool b80) <|
 C.same s85.env[9]? tz <|
 C.same s85.env[10]? tz <|
 C.same s85.env[11]? tz <|
 C.same s85.env[12]? tz <|
 C.same s85.env[13]? (.bool b49) <|
 C.same s85.env[14]? (.bool b50) <|
 C.same s85.env[15]? (.bool b51) <|
 C.same s85.env[16]? v52 <|
 C.same s85.env[17]? v53 <|
 C.same s85.env[18]? v54 <|
 C.same s85.env[19]? (.bool b55) <|
 C.same s85.env[20]? (.bool b56) <|
 C.same s85.env[21]? v57 <|
 C.same s85.env[22]? v58 <|
 C.same s85.env[23]? v59 <|
 C.same s85.env[24]? (.bool b60) <|
 C.same s85.env[25]? (.bool b61) <|
 C.same s85.env[26]? v62 <|
 C.same s85.env[27]? v63 <|
 C.same s85.env[28]? v64 <|
 C.same s85.env[29]? (.bool b65) <|
 C.same s85.env[30]? (.bool b66) <|
 C.same s85.env[31]? v67 <|
 C.same s85.env[32]? v68 <|
 C.same s85.env[33]? v69 <|
 C.same s85.env[34]? bf <|
 C.same s85.env[35]? tz <|
 C.same s85.env[36]? (.tup [(.agg [(iz x76), (iz x77), (iz x78), (iz x79)]), (.bool b80)]) <|
 C.same s85.env[37]? (.lst a0) <|
 C.same s85.env[38]? (.tup [(.agg [(iz x76), (iz x77), (iz x78), (iz x79)]), (.bool b80)]) <|
 C.same s85.env[39]? (.agg [(iz x76), (iz x77), (iz x78), (iz x79)]) <|
 C.same s85.env[40]? (.bool b80) <|
 C.any s85.env[41]? fun v88 =>
 C.any s85.env[42]? fun v89 =>
 C.any s85.env[43]? fun v90 =>
 C.any s85.env[44]? fun v91 =>
 C.any s85.env[45]? fun v92 =>
 C.any s85.env[46]? fun v93 =>
 C.any s85.env[47]? fun v94 =>
 C.any s85.env[48]? fun v95 =>
 C.any s85.env[49]? fun v96 =>
 C.any s85.env[50]? fun v97 =>
 C.any s85.env[51]? fun v98 =>
 C.any s85.env[52]? fun v99 =>
 C.any s85.env[53]? fun v100 =>
 C.any s85.env[54]? fun v101 =>
 C.any s85.env[55]? fun v102 =>
 C.any s85.env[56]? fun v103 =>
 C.any s85.env[57]? fun v104 =>
 C.any s85.env[58]? fun v105 =>
 C.any s85.env[59]? fun v106 =>
 C.any s85.env[60]? fun v107 =>
 C.any s85.env[61]? fun v108 =>
 C.any s85.env[62]? fun v109 =>
 C.any s85.env[63]? fun v110 =>
 C.any s85.env[64]? fun v111 =>
 C.any s85.env[65]? fun v112 =>
 C.any s85.env[66]? fun v113 =>
 C.any s85.env[67]? fun v114 =>
 C.any s85.env[68]? fun v115 =>
 C.any s85.env[69]? fun v116 =>
 C.any s85.env[70]? fun v117 =>
 C.any s85.env[71]? fun v118 =>
 C.any s85.env[72]? fun v119 =>
 C.any s85.env[73]? fun v120 =>
 C.any s85.env[74]? fun v121 =>
 C.any s85.env[75]? fun v122 =>
 C.any s85.env[76]? fun v123 =>
 C.same s85.env[77]? tz <|
 C.same s85.env[78]? tz <|
 C.same s85.env[79]? tz <|
 C.same s85.env[80]? tz <|
 C.same s85.env[81]? tz <|
 C.same s85.env[82]? tz <|
 C.same s85.env[83]? tz <|
 C.same s85.env[84]? tz <|
 C.same s85.env[85]? tz <|
 C.same s85.env[86]? tz <|
 C.same s85.env[87]? tz <|
 C.same s85.env[88]? tz <|
 C.same s85.env[89]? tz <|
 C.same s85.env[90]? tz <|
 C.same s85.env[91]? tz <|
 C.same s85.env[92]? tz <|
 C.same s85.env[93]? tz <|
 C.same s85.env[94]? tz <|
 C.same s85.env[95]? tz <|
 C.same s85.env[96]? tz <|
 C.same s85.env[97]? tz <|
 C.same s85.env[98]? tz <|
 C.same s85.env[99]? tz <|
 C.same s85.env[100]? tz <|
 C.same s85.env[101]? tz <|
 C.same s85.env[102]? tz <|
 C.same s85.env[103]? tz <|
 C.same s85.env[104]? tz <|
 C.same s85.env[105]? tz <|
 C.same s85.env[106]? tz <|
 C.same s85.env[107]? tz <|
 C.same s85.env[108]? tz <|
 C.same s85.env[109]? tz <|
 C.same s85.env[110]? tz <|
 C.same s85.env[111]? tz <|
 C.same s85.env[112]? tz <|
 C.same s85.env[113]? tz <|
 C.same s85.env[114]? tz <|
 C.same s85.env[115]? tz <|
 C.same s85.env[116]? tz <|
 C.same s85.env[117]? tz <|
 C.same s85.env[118]? tz <|
 C.same s85.env[119]? tz <|
 C.same s85.env[120]? tz <|
 C.same s85.env[121]? tz <|
 C.same s85.env[122]? tz <|
 C.same s85.env[123]? tz <|
 C.same s85.env[124]? tz <|
 C.same s85.env[125]? tz <|
 C.same s85.env[126]? tz <|
 C.same s85.env[127]? tz <|
 C.same s85.env[128]? tz <|
 C.same s85.env[129]? tz <|
 C.same s85.env[130]? tz <|
 C.same s85.env[131]? tz <|
 C.same s85.env[132]? tz <|
 C.hop (St.H s85) (.fldA 0 (.v v0)) fun v124 h125 =>
 C.hop h125 (.load false 1 (.v v124)) fun v126 h127 =>
 C.int .i64 (some v126) fun x128 =>
 C.hop h127 (.fldA 0 (.v v81)) fun v129 h130 =>
 C.hop h130 (.fldA 0 (.v v129)) fun v131 h132 =>
 C.hop h132 (.load false 1 (.v v131)) fun v133 h134 =>
 C.int .i64 (some v133) fun x135 =>
 cnd (decide (x128 < x135))
 (C.hop h134 (.load true 2 (.v v0)) fun v136 h137 =>
 C.agg 2 (some v136) fun l138 =>
 C.int .i64 l138[0]? fun x139 =>
 C.int .i64 l138[1]? fun x140 =>
 C.snp h137 [(.lst a0), (.agg [(iz x139), (iz x140)])] fun l141 b142 =>
 C.int .i64 (pcall M d 16 l141) fun x143 =>
 cnd (b142 || true)
 (k86 (.exit 2000000) ⟨[(.lst a0), (.agg [(iz a1), (iz a2)]), (.agg [(iz a3), (iz a4)]), tz, v0, v2, bf, v81, (.bool b80), tz, tz, tz, tz, (.bool b49), (.bool b50), (.bool b51), v52, v53, v54, (.bool b55), (.bool b56), v57, v58, v59, (.bool b60), (.bool b61), v62, v63, v64, (.bool b65), (.bool b66), v67, v68, v69, bf, tz, (.tup [(.agg [(iz x76), (iz x77), (iz x78), (iz x79)]), (.bool b80)]), (.lst a0), (.tup [(.agg [(iz x76), (iz x77), (iz x78), (iz x79)]), (.bool b80)]), (.agg [(iz x76), (iz x77), (iz x78), (iz x79)]), (.bool b80), v124, (iz x128), v129, v131, (iz x135), (.bool (decide (x128 < x135))), bt, tz, tz, tz, tz, tz, tz, bt, bt, tz, tz, tz, tz, tz, tz, bt, bt, tz, tz, tz, tz, tz, tz, bt, bt, (.lst a0), (.agg [(iz x139), (iz x140)]), (iz x143), (.bool (x143 != (-1))), (.bool (x143 != (-1))), tz, tz, tz, tz, tz, tz, tz, tz, tz, tz, tz, tz, tz, tz, tz, tz, tz, tz, tz, tz, tz, tz, tz, tz, tz, tz, tz, tz, tz, tz, tz, tz, tz, tz, tz, tz, tz, tz, tz, tz, tz, tz, tz, tz, tz, tz, tz, tz, tz, tz, tz, tz, tz, tz, tz, tz], h137⟩)
 (none))
 (C.hop h134 (.fldA 0 (.v v0)) fun v144 h145 =>
 C.hop h145 (.load false 1 (.v v144)) fun v146 h147 =>
 C.int .i64 (some v146) fun x148 =>
 C.hop h147 (.fldA 2 (.v v81)) fun v149 h150 =>
 C.hop h150 (.fldA 0 (.v v149)) fun v151 h152 =>
 C.hop h152 (.load false 1 (.v v151)) fun v153 h154 =>
 C.int .i64 (some v153) fun x155 =>
 cnd (decide (x148 > x155))
 (C.hop h154 (.load true 2 (.v v0)) fun v156 h157 =>
 C.agg 2 (some v156) fun l158 =>
 C.int .i64 l158[0]? fun x159 =>
 C.int .i64 l158[1]? fun x160 =>
 C.snp h157 [(.lst a0), (.agg [(iz x159), (iz x160)])] fun l161 b162 =>
 C.int .i64 (pcall M d 16 l161) fun x163 =>
 cnd (b162 || true)
 (k86 (.exit 2000000) ⟨[(.lst a0), (.agg [(iz a1), (iz a2)]), (.agg [(iz a3), (iz a4)]), tz, v0, v2, bf, v81, (.bool b80), tz, tz, tz, tz, (.bool b49), (.bool b50), (.bool b51), v52, v53, v54, (.bool b55), (.bool b56), v57, v58, v59, (.bool b60), (.bool b61), v62, v63, v64, (.bool b65), (.bool b66), v67, v68, v69, bf, tz, (.tup [(.agg [(iz x76), (iz x77), (iz x78), (iz x79)]), (.bool b80)]), (.lst a0), (.tup [(.agg [(iz x76), (iz x77), (iz x78), (iz x79)]), (.bool b80)]), (.agg [(iz x76), (iz x77), (iz x78), (iz x79)]), (.bool b80), v124, (iz x128), v129, v131, (iz x135), (.bool (decide (x128 < x135))), bf, v144, (iz x148), v149, v151, (iz x155), (.bool (decide (x148 > x155))), (.bool (decide (x148 > x155))), bt, tz, tz, tz, tz, tz, tz, bt, bt, tz, tz, tz, tz, tz, tz, bt, bt, (.lst a0), (.agg [(iz x159), (iz x160)]), (iz x163), (.bool (x163 != (-1))), (.bool (x163 != (-1))), tz, tz, tz, tz, tz, tz, tz, tz, tz, tz, tz, tz, tz, tz, tz, tz, tz, tz, tz, tz, tz, tz, tz, tz, tz, tz, tz, tz, tz, tz, tz, tz, tz, tz, tz, tz, tz, tz, tz, tz, tz, tz, tz, tz, tz, tz, tz, tz, tz, tz, tz, tz, tz, tz, tz, tz], h157⟩)
 (none))
 (C.hop h154 (.fldA 1 (.v v0)) fun v164 h165 =>
 C.hop h165 (.load false 1 (.v v164)) fun v166 h167 =>
 C.int .i64 (some v166) fun x168 =>
 C.hop h167 (.fldA 0 (.v v81)) fun v169 h170 =>
 C.hop h170 (.fldA 1 (.v v169)) fun v171 h172 =>
 C.hop h172 (.load false 1 (.v v171)) fun v173 h174 =>
 C.int .i64 (some v173) fun x175 =>
 cnd (decide (x168 < x175))
 (C.hop h174 (.load true 2 (.v v0)) fun v176 h177 =>
 C.agg 2 (some v176) fun l178 =>
 C.int .i64 l178[0]? fun x179 =>
 C.int .i64 l178[1]? fun x180 =>
 C.snp h177 [(.lst a0), (.agg [(iz x179), (iz x180)])] fun l181 b182 =>
 C.int .i64 (pcall M d 16 l181) fun x183 =>
 cnd (b182 || true)
 (k86 (.exit 2000000) ⟨[(.lst a0), (.agg [(iz a1), (iz a2)]), (.agg [(iz a3), (iz a4)]), tz, v0, v2, bf, v81, (.bool b80), tz, tz, tz, tz, (.bool b49), (.bool b50), (.bool b51), v52, v53, v54, (.bool b55), (.bool b56), v57, v58, v59, (.bool b60), (.bool b61), v62, v63, v64, (.bool b65), (.bool b66), v67, v68, v69, bf, tz, (.tup [(.agg [(iz x76), (iz x77), (iz x78), (iz x79)]), (.bool b80)]), (.lst a0), (.tup [(.agg [(iz x76), (iz x77), (iz x78), (iz x79)]), (.bool b80)]), (.agg [(iz x76), (iz x77), (iz x78), (iz x79)]), (.bool b80), v124, (iz x128), v129, v131, (iz x135), (.bool (decide (x128 < x135))), bf, v144, (iz x148), v149, v151, (iz x155), (.bool (decide (x148 > x155))), (.bool (decide (x148 > x155))), bf, v164, (iz x168), v169, v171, (iz x175), (.bool (decide (x168 < x175))), (.bool (decide (x168 < x175))), bt, tz, tz, tz, tz, tz, tz, bt, bt, (.lst a0), (.agg [(iz x179), (iz x180)]), (iz x183), (.bool (x183 != (-1))), (.bool (x183 != (-1))), tz, tz, tz, tz, tz, tz, tz, tz, tz, tz, tz, tz, tz, tz, tz, tz, tz, tz, tz, tz, tz, tz, tz, tz, tz, tz, tz, tz, tz, tz, tz, tz, tz, tz, tz, tz, tz, tz, tz, tz, tz, tz, tz, tz, tz, tz, tz, tz, tz, tz, tz, tz, tz, tz, tz, tz], h177⟩)
 (none))
 (C.hop h174 (.fldA 1 (.v v0)) fun v184 h185 =>
 C.hop h185 (.load false 1 (.v v184)) fun v186 h187 =>
 C.int .i64 (some v186) fun x188 =>
 C.hop h187 (.fldA 2 (.v v81)) fun v189 h190 =>
 C.hop h190 (.fldA 1 (.v v189)) fun v191 h192 =>
 C.hop h192 (.load false 1 (.v v191)) fun v193 h194 =>
 C.int .i64 (some v193) fun x195 =>
 cnd (decide (x188 > x195))
 (C.hop h194 (.load true 2 (.v v0)) fun v196 h197 =>
 C.agg 2 (some v196) fun l198 =>
 C.int .i64 l198[0]? fun x199 =>
 C.int .i64 l198[1]? fun x200 =>
 C.snp h197 [(.lst a0), (.agg [(iz x199), (iz x200)])] fun l201 b202 =>
 C.int .i64 (pcall M d 16 l201) fun x203 =>
 cnd (b202 || true)
 (k86 (.exit 2000000) ⟨[(.lst a0), (.agg [(iz a1), (iz a2)]), (.agg [(iz a3), (iz a4)]), tz, v0, v2, bf, v81, (.bool b80), tz, tz, tz, tz, (.bool b49), (.bool b50), (.bool b51), v52, v53, v54, (.bool b55), (.bool b56), v57, v58, v59, (.bool b60), (.bool b61), v62, v63, v64, (.bool b65), (.bool b66), v67, v68, v69, bf, tz, (.tup [(.agg [(iz x76), (iz x77), (iz x78), (iz x79)]), (.bool b80)]), (.lst a0), (.tup [(.agg [(iz x76), (iz x77), (iz x78), (iz x79)]), (.bool b80)]), (.agg [(iz x76), (iz x77), (iz x78), (iz x79)]), (.bool b80), v124, (iz x128), v129, v131, (iz x135), (.bool (decide (x128 < x135))), bf, v144, (iz x148), v149, v151, (iz x155), (.bool (decide (x148 > x155))), (.bool (decide (x148 > x155))), bf, v164, (iz x168), v169, v171, (iz x175), (.bool (decide (x168 < x175))), (.bool (decide (x168 < x175))), bf, v184, (iz x188), v189, v191, (iz x195), (.bool (decide (x188 > x195))), (.bool (decide (x188 > x195))), bt, (.lst a0), (.agg [(iz x199), (iz x200)]), (iz x203), (.bool (x203 != (-1))), (.bool (x203 != (-1))), tz, tz, tz, tz, tz, tz, tz, tz, tz, tz, tz, tz, tz, tz, tz, tz, tz, tz, tz, tz, tz, tz, tz, tz, tz, tz, tz, tz, tz, tz, tz, tz, tz, tz, tz, tz, tz, tz, tz, tz, tz, tz, tz, tz, tz, tz, tz, tz, tz, tz, tz, tz, tz, tz, tz, tz], h197⟩)
 (none))
 (k86 (.exit 2000000) ⟨[(.lst a0), (.agg [(iz a1), (iz a2)]), (.agg [(iz a3), (iz a4)]), tz, v0, v2, bf, v81, (.bool b80), tz, tz, tz, tz, (.bool b49), (.bool b50), (.bool b51), v52, v53, v54, (.bool b55), (.bool b56), v57, v58, v59, (.bool b60), (.bool b61), v62, v63, v64, (.bool b65), (.bool b66), v67, v68, v69, bf, tz, (.tup [(.agg [(iz x76), (iz x77), (iz x78), (iz x79)]), (.bool b80)]), (.lst a0), (.tup [(.agg [(iz x76), (iz x77), (iz x78), (iz x79)]), (.bool b80)]), (.agg [(iz x76), (iz x77), (iz x78), (iz x79)]), (.bool b80), v124, (iz x128), v129, v131, (iz x135), (.bool (decide (x128 < x135))), bf, v144, (iz x148), v149, v151, (iz x155), (.bool (decide (x148 > x155))), (.bool (decide (x148 > x155))), bf, v164, (iz x168), v169, v171, (iz x175), (.bool (decide (x168 < x175))), (.bool (decide (x168 < x175))), bf, v184, (iz x188), v189, v191, (iz x195), (.bool (decide (x188 > x195))), (.bool (decide (x188 > x195))), bf, tz, tz, tz, tz, bf, tz, tz, tz, tz, tz, tz, tz, tz, tz, tz, tz, tz, tz, tz, tz, tz, tz, tz, tz, tz, tz, tz, tz, tz, tz, tz, tz, tz, tz, tz, tz, tz, tz, tz, tz, tz, tz, tz, tz, tz, tz, tz, tz, tz, tz, tz, tz, tz, tz, tz, tz, tz, tz, tz, tz, tz], h194⟩)))))
 (none)
def r6X1_0 (C : Cb) (d : Nat) (a0 : List AV) (a1 a2 a3 a4 : Int) (v0 v2 : AV) (b49 b50 b51 : Bool) (v52 v53 v54 : AV) (b55 b56 : Bool) (v57 v58 v59 : AV) (b60 b61 : Bool) (v62 v63 v64 : AV) (b65 b66 : Bool) (v67 v68 v69 : AV) (x76 x77 x78 x79 : Int) (b80 : Bool) (v81 : AV) : St → Ans := fun s204 =>
 cnd ((List.length s204.env) == 133)
 (C.same s204.env[0]? (.lst a0) <|
 C.same s204.env[1]? (.agg [(iz a1), (iz a2)]) <|
 C.same s204.env[2]? (.agg [(iz a3), (iz a4)]) <|
 C.same s204.env[3]? tz <|
 C.same s204.env[4]? v0 <|
 C.same s204.env[5]? v2 <|
 C.same s204.env[6]? bf <|
 C.same s204.env[7]? v81 <|
 C.same s204.env[8]? (.bool b80) <|
 C.same s204.env[9]? tz <|
 C.same s204.env[10]? tz <|
 C.same s204.env[11]? tz <|
 C.same s204.env[12]? tz <|
 C.same s204.env[13]? (.bool b49) <|
 C.same s204.env[14]? (.bool b50) <|
 C.same s204.env[15]? (.bool b51) <|
 C.same s204.env[16]? v52 <|
 C.same s204.env[17]? v53 <|
 C.same s204.env[18]? v54 <|
 C.same s204.env[19]? (.bool b55) <|
 C.same s204.env[20]? (.bool b56) <|
 C.same s204.env[21]? v57 <|
 C.same s204.env[22]? v58 <|
 C.same s204.env[23]? v59 <|
 C.same s204.env[24]? (.bool b60) <|
 C.same s204.env[25]? (.bool b61) <|
 C.same s204.env[26]? v62 <|
 C.same s204.env[27]? v63 <|
 C.same s204.env[28]? v64 <|
 C.same s204.env[29]? (.bool b65) <|
 C.same s204.env[30]? (.bool b66) <|
 C.same s204.env[31]? v67 <|
 C.same s204.env[32]? v68 <|
 C.same s204.env[33]? v69 <|
 C.same s204.env[34]? bf <|
 C.same s204.env[35]? tz <|
 C.same s204.env[36]? (.tup [(.agg [(iz x76), (iz x77), (iz x78), (iz x79)]), (.bool b80)]) <|
 C.same s204.env[37]? (.lst a0) <|
 C.same s204.env[38]? (.tup [(.agg [(iz x76), (iz x77), (iz x78), (iz x79)]), (.bool b80)]) <|
 C.same s204.env[39]? (.agg [(iz x76), (iz x77), (iz x78), (iz x79)]) <|
 C.same s204.env[40]? (.bool b80) <|
 C.any s204.env[41]? fun v205 =>
 C.int .i64 s204.env[42]? fun x206 =>
 C.any s204.env[43]? fun v207 =>
 C.any s204.env[44]? fun v208 =>
 C.int .i64 s204.env[45]? fun x209 =>
 C.bool s204.env[46]? fun b210 =>
 C.bool s204.env[47]? fun b211 =>
 C.any s204.env[48]? fun v212 =>
 C.any s204.env[49]? fun v213 =>
 C.any s204.env[50]? fun v214 =>
 C.any s204.env[51]? fun v215 =>
 C.any s204.env[52]? fun v216 =>
 C.any s204.env[53]? fun v217 =>
 C.bool s204.env[54]? fun b218 =>
 C.bool s204.env[55]? fun b219 =>
 C.any s204.env[56]? fun v220 =>
 C.any s204.env[57]? fun v221 =>
 C.any s204.env[58]? fun v222 =>
 C.any s204.env[59]? fun v223 =>
 C.any s204.env[60]? fun v224 =>
 C.any s204.env[61]? fun v225 =>
 C.bool s204.env[62]? fun b226 =>
 C.bool s204.env[63]? fun b227 =>
 C.any s204.env[64]? fun v228 =>
 C.any s204.env[65]? fun v229 =>
 C.any s204.env[66]? fun v230 =>
 C.any s204.env[67]? fun v231 =>
 C.any s204.env[68]? fun v232 =>
 C.any s204.env[69]? fun v233 =>
 C.bool s204.env[70]? fun b234 =>
 C.bool s204.env[71]? fun b235 =>
 C.any s204.env[72]? fun v236 =>
 C.any s204.env[73]? fun v237 =>
 C.any s204.env[74]? fun v238 =>
 C.any s204.env[75]? fun v239 =>
 C.bool s204.env[76]? fun b240 =>
 C.same s204.env[77]? tz <|
 C.same s204.env[78]? tz <|
 C.same s204.env[79]? tz <|
 C.same s204.env[80]? tz <|
 C.same s204.env[81]? tz <|
 C.same s204.env[82]? tz <|
 C.same s204.env[83]? tz <|
 C.same s204.env[84]? tz <|
 C.same s204.env[85]? tz <|
 C.same s204.env[86]? tz <|
 C.same s204.env[87]? tz <|
 C.same s204.env[88]? tz <|
 C.same s204.env[89]? tz <|
 C.same s204.env[90]? tz <|
 C.same s204.env[91]? tz <|
 C.same s204.env[92]? tz <|
 C.same s204.env[93]? tz <|
 C.same s204.env[94]? tz <|
 C.same s204.env[95]? tz <|
 C.same s204.env[96]? tz <|
 C.same s204.env[97]? tz <|
 C.same s204.env[98]? tz <|
 C.same s204.env[99]? tz <|
 C.same s204.env[100]? tz <|
 C.same s204.env[101]? tz <|
 C.same s204.env[102]? tz <|
 C.same s204.env[103]? tz <|
 C.same s204.env[104]? tz <|
 C.same s204.env[105]? tz <|
 C.same s204.env[106]? tz <|
 C.same s204.env[107]? tz <|
 C.same s204.env[108]? tz <|
 C.same s204.env[109]? tz <|
 C.same s204.env[110]? tz <|
 C.same s204.env[111]? tz <|
 C.same s204.env[112]? tz <|
 C.same s204.env[113]? tz <|
 C.same s204.env[114]? tz <|
 C.same s204.env[115]? tz <|
 C.same s204.env[116]? tz <|
 C.same s204.env[117]? tz <|
 C.same s204.env[118]? tz <|
 C.same s204.env[119]? tz <|
 C.same s204.env[120]? tz <|
 C.same s204.env[121]? tz <|
 C.same s204.env[122]? tz <|
 C.same s204.env[123]? tz <|
 C.same s204.env[124]? tz <|
 C.same s204.env[125]? tz <|
 C.same s204.env[126]? tz <|
 C.same s204.env[127]? tz <|
 C.same s204.env[128]? tz <|
 C.same s204.env[129]? tz <|
 C.same s204.env[130]? tz <|
 C.same s204.env[131]? tz <|
 C.same s204.env[132]? tz <|
 cnd b240
 (C.fin (St.H s204) bf)
 (C.hop (St.H s204) (.bk .lenV [(.v (.lst a0))]) fun v241 h242 =>
 C.int .i64 (some v241) fun x243 =>
 C.iter (r6R2 C d a0 a1 a2 a3 a4 v0 v2 b49 b50 b51 v52 v53 v54 b55 b56 v57 v58 v59 b60 b61 v62 v63 v64 b65 b66 v67 v68 v69 x76 x77 x78 x79 b80 v81 v205 x206 v207 v208 x209 b210 b211 v212 v213 v214 v215 v216 v217 b218 b219 v220 v221 v222 v223 v224 v225 b226 b227 v228 v229 v230 v231 v232 v233 b234 b235 v236 v237 v238 v239 x243) 1000000000000000000 ⟨[(.lst a0), (.agg [(iz a1), (iz a2)]), (.agg [(iz a3), (iz a4)]), tz, v0, v2, bf, v81, (.bool b80), bf, tz, tz, tz, (.bool b49), (.bool b50), (.bool b51), v52, v53, v54, (.bool b55), (.bool b56), v57, v58, v59, (.bool b60), (.bool b61), v62, v63, v64, (.bool b65), (.bool b66), v67, v68, v69, bf, tz, (.tup [(.agg [(iz x76), (iz x77), (iz x78), (iz x79)]), (.bool b80)]), (.lst a0), (.tup [(.agg [(iz x76), (iz x77), (iz x78), (iz x79)]), (.bool b80)]), (.agg [(iz x76), (iz x77), (iz x78), (iz x79)]), (.bool b80), v205, (iz x206), v207, v208, (iz x209), (.bool b210), (.bool b211), v212, v213, v214, v215, v216, v217, (.bool b218), (.bool b219), v220, v221, v222, v223, v224, v225, (.bool b226), (.bool b227), v228, v229, v230, v231, v232, v233, (.bool b234), (.bool b235), v236, v237, v238, v239, bf, (.lst a0), (iz x243), (iz 0), tz, tz, tz, tz, tz, tz, tz, tz, tz, tz, tz, tz, tz, tz, tz, tz, tz, tz, tz, tz, tz, tz, tz, tz, tz, tz, tz, tz, tz, tz, tz, tz, tz, tz, tz, tz, tz, tz, tz, tz, tz, tz, tz, tz, tz, tz, tz, tz, tz, tz, tz, tz, tz], h242⟩ [0] [r6X2_0 C d a0 a1 a2 a3 a4 v0 v2 b49 b50 b51 v52 v53 v54 b55 b56 v57 v58 v59 b60 b61 v62 v63 v64 b65 b66 v67 v68 v69 x76 x77 x78 x79 b80 v81 v205 x206 v207 v208 x209 b210 b211 v212 v213 v214 v215 v216 v217 b218 b219 v220 v221 v222 v223 v224 v225 b226 b227 v228 v229 v230 v231 v232 v233 b234 b235 v236 v237 v238 v239 x243] (r6E2 C d a0 a1 a2 a3 a4 v0 v2 b49 b50 b51 v52 v53 v54 b55 b56 v57 v58 v59 b60 b61 v62 v63 v64 b65 b66 v67 v68 v69 x76 x77 x78 x79 b80 v81 v205 x206 v207 v208 x209 b210 b211 v212 v213 v214 v215 v216 v217 b218 b219 v220 v221 v222 v223 v224 v225 b226 b227 v228 v229 v230 v231 v232 v233 b234 b235 v236 v237 v238 v239 x243)))
 (none)
def r6E1 (C : Cb) (d : Nat) (a0 : List AV) (a1 a2 a3 a4 : Int) (v0 v2 : AV) (b49 b50 b51 : Bool) (v52 v53 v54 : AV) (b55 b56 : Bool) (v57 v58 v59 : AV) (b60 b61 : Bool) (v62 v63 v64 : AV) (b65 b66 : Bool) (v67 v68 v69 : AV) (x76 x77 x78 x79 : Int) (b80 : Bool) (v81 : AV) : St → Ans := fun s87 =>
 cnd ((List.length s87.env) == 133)
 (C.same s87.env[0]? (.lst a0) <|
 C.same s87.env[1]? (.agg [(iz a1), (iz a2)]) <|
 C.same s87.env[2]? (.agg [(iz a3), (iz a4)]) <|
 C.same s87.env[3]? tz <|
 C.same s87.env[4]? v0 <|
 C.same s87.env[5]? v2 <|
 C.same s87.env[6]? bf <|
 C.same s87.env[7]? v81 <|
 C.same s87.env[8]? (.bool b80) <|
 C.same s87.env[9]? tz <|
 C.same s87.env[10]? tz <|
 C.same s87.env[11]? tz <|
 C.same s87.env[12]? tz <|
 C.same s87.env[13]? (.bool b49) <|
 C.same s87.env[14]? (.bool b50) <|
 C.same s87.env[15]? (.bool b51) <|
 C.same s87.env[16]? v52 <|
 C.same s87.env[17]? v53 <|
 C.same s87.env[18]? v54 <|
 C.same s87.env[19]? (.bool b55) <|
 C.same s87.env[20]? (.bool b56) <|
 C.same s87.env[21]? v57 <|
 C.same s87.env[22]? v58 <|
 C.same s87.env[23]? v59 <|
 C.same s87.env[24]? (.bool b60) <|
 C.same s87.env[25]? (.bool b61) <|
 C.same s87.env[26]? v62 <|
 C.same s87.env[27]? v63 <|
 C.same s87.env[28]? v64 <|
 C.same s87.env[29]? (.bool b65) <|
 C.same s87.env[30]? (.bool b66) <|
 C.same s87.env[31]? v67 <|
 C.same s87.env[32]? v68 <|
 C.same s87.env[33]? v69 <|
 C.same s87.env[34]? bf <|
 C.same s87.env[35]? tz <|
 C.same s87.env[36]? (.tup [(.agg [(iz x76), (iz x77), (iz x78), (iz x79)]), (.bool b80)]) <|
 C.same s87.env[37]? (.lst a0) <|
 C.same s87.env[38]? (.tup [(.agg [(iz x76), (iz x77), (iz x78), (iz x79)]), (.bool b80)]) <|
 C.same s87.env[39]? (.agg [(iz x76), (iz x77), (iz x78), (iz x79)]) <|
 C.same s87.env[40]? (.bool b80) <|
 C.any s87.env[41]? fun v730 =>
 C.any s87.env[42]? fun v731 =>
 C.any s87.env[43]? fun v732 =>
 C.any s87.env[44]? fun v733 =>
 C.any s87.env[45]? fun v734 =>
 C.any s87.env[46]? fun v735 =>
 C.any s87.env[47]? fun v736 =>
 C.any s87.env[48]? fun v737 =>
 C.any s87.env[49]? fun v738 =>
 C.any s87.env[50]? fun v739 =>
 C.any s87.env[51]? fun v740 =>
 C.any s87.env[52]? fun v741 =>
 C.any s87.env[53]? fun v742 =>
 C.any s87.env[54]? fun v743 =>
 C.any s87.env[55]? fun v744 =>
 C.any s87.env[56]? fun v745 =>
 C.any s87.env[57]? fun v746 =>
 C.any s87.env[58]? fun v747 =>
 C.any s87.env[59]? fun v748 =>
 C.any s87.env[60]? fun v749 =>
 C.any s87.env[61]? fun v750 =>
 C.any s87.env[62]? fun v751 =>
 C.any s87.env[63]? fun v752 =>
 C.any s87.env[64]? fun v753 =>
 C.any s87.env[65]? fun v754 =>
 C.any s87.env[66]? fun v755 =>
 C.any s87.env[67]? fun v756 =>
 C.any s87.env[68]? fun v757 =>
 C.any s87.env[69]? fun v758 =>
 C.any s87.env[70]? fun v759 =>
 C.any s87.env[71]? fun v760 =>
 C.any s87.env[72]? fun v761 =>
 C.any s87.env[73]? fun v762 =>
 C.any s87.env[74]? fun v763 =>
 C.any s87.env[75]? fun v764 =>
 C.any s87.env[76]? fun v765 =>
 C.same s87.env[77]? tz <|
 C.same s87.env[78]? tz <|
 C.same s87.env[79]? tz <|
 C.same s87.env[80]? tz <|
 C.same s87.env[81]? tz <|
 C.same s87.env[82]? tz <|
 C.same s87.env[83]? tz <|
 C.same s87.env[84]? tz <|
 C.same s87.env[85]? tz <|
 C.same s87.env[86]? tz <|
 C.same s87.env[87]? tz <|
 C.same s87.env[88]? tz <|
 C.same s87.env[89]? tz <|
 C.same s87.env[90]? tz <|
 C.same s87.env[91]? tz <|
 C.same s87.env[92]? tz <|
 C.same s87.env[93]? tz <|
 C.same s87.env[94]? tz <|
 C.same s87.env[95]? tz <|
 C.same s87.env[96]? tz <|
 C.same s87.env[97]? tz <|
 C.same s87.env[98]? tz <|
 C.same s87.env[99]? tz <|
 C.same s87.env[100]? tz <|
 C.same s87.env[101]? tz <|
 C.same s87.env[102]? tz <|
 C.same s87.env[103]? tz <|
 C.same s87.env[104]? tz <|
 C.same s87.env[105]? tz <|
 C.same s87.env[106]? tz <|
 C.same s87.env[107]? tz <|
 C.same s87.env[108]? tz <|
 C.same s87.env[109]? tz <|
 C.same s87.env[110]? tz <|
 C.same s87.env[111]? tz <|
 C.same s87.env[112]? tz <|
 C.same s87.env[113]? tz <|
 C.same s87.env[114]? tz <|
 C.same s87.env[115]? tz <|
 C.same s87.env[116]? tz <|
 C.same s87.env[117]? tz <|
 C.same s87.env[118]? tz <|
 C.same s87.env[119]? tz <|
 C.same s87.env[120]? tz <|
 C.same s87.env[121]? tz <|
 C.same s87.env[122]? tz <|
 C.same s87.env[123]? tz <|
 C.same s87.env[124]? tz <|
 C.same s87.env[125]? tz <|
 C.same s87.env[126]? tz <|
 C.same s87.env[127]? tz <|
 C.same s87.env[128]? tz <|
 C.same s87.env[129]? tz <|
 C.same s87.env[130]? tz <|
 C.same s87.env[131]? tz <|
 C.same s87.env[132]? tz <|
 none)
 (none)
def r6R0 (C : Cb) (d : Nat) (a0 : List AV) (a1 a2 a3 a4 : Int) (v0 v2 : AV) : St → (Ex → St → Ans) → Ans := fun s4 k5 =>
 cnd ((List.length s4.env) == 133)
 (C.same s4.env[0]? (.lst a0) <|
 C.same s4.env[1]? (.agg [(iz a1), (iz a2)]) <|
 C.same s4.env[2]? (.agg [(iz a3), (iz a4)]) <|
 C.same s4.env[3]? tz <|
 C.same s4.env[4]? v0 <|
 C.same s4.env[5]? v2 <|
 C.same s4.env[6]? bf <|
 C.same s4.env[7]? tz <|
 C.same s4.env[8]? tz <|
 C.same s4.env[9]? tz <|
 C.same s4.env[10]? tz <|
 C.same s4.env[11]? tz <|
 C.same s4.env[12]? tz <|
 C.any s4.env[13]? fun v7 =>
 C.any s4.env[14]? fun v8 =>
 C.any s4.env[15]? fun v9 =>
 C.any s4.env[16]? fun v10 =>
 C.any s4.env[17]? fun v11 =>
 C.any s4.env[18]? fun v12 =>
 C.any s4.env[19]? fun v13 =>
 C.any s4.env[20]? fun v14 =>
 C.any s4.env[21]? fun v15 =>
 C.any s4.env[22]? fun v16 =>
 C.any s4.env[23]? fun v17 =>
 C.any s4.env[24]? fun v18 =>
 C.any s4.env[25]? fun v19 =>
 C.any s4.env[26]? fun v20 =>
 C.any s4.env[27]? fun v21 =>
 C.any s4.env[28]? fun v22 =>
 C.any s4.env[29]? fun v23 =>
 C.any s4.env[30]? fun v24 =>
 C.any s4.env[31]? fun v25 =>
 C.any s4.env[32]? fun v26 =>
 C.any s4.env[33]? fun v27 =>
 C.any s4.env[34]? fun v28 =>
 C.same s4.env[35]? tz <|
 C.same s4.env[36]? tz <|
 C.same s4.env[37]? tz <|
 C.same s4.env[38]? tz <|
 C.same s4.env[39]? tz <|
 C.same s4.env[40]? tz <|
 C.same s4.env[41]? tz <|
 C.same s4.env[42]? tz <|
 C.same s4.env[43]? tz <|
 C.same s4.env[44]? tz <|
 C.same s4.env[45]? tz <|
 C.same s4.env[46]? tz <|
 C.same s4.env[47]? tz <|
 C.same s4.env[48]? tz <|
 C.same s4.env[49]? tz <|
 C.same s4.env[50]? tz <|
 C.same s4.env[51]? tz <|
 C.same s4.env[52]? tz <|
 C.same s4.env[53]? tz <|
 C.same s4.env[54]? tz <|
 C.same s4.env[55]? tz <|
 C.same s4.env[56]? tz <|
 C.same s4.env[57]? tz <|
 C.same s4.env[58]? tz <|
 C.same s4.env[59]? tz <|
 C.same s4.env[60]? tz <|
 C.same s4.env[61]? tz <|
 C.same s4.env[62]? tz <|
 C.same s4.env[63]? tz <|
 C.same s4.env[64]? tz <|
 C.same s4.env[65]? tz <|
 C.same s4.env[66]? tz <|
 C.same s4.env[67]? tz <|
 C.same s4.env[68]? tz <|
 C.same s4.env[69]? tz <|
 C.same s4.env[70]? tz <|
 C.same s4.env[71]? tz <|
 C.same s4.env[72]? tz <|
 C.same s4.env[73]? tz <|
 C.same s4.env[74]? tz <|
 C.same s4.env[75]? tz <|
 C.same s4.env[76]? tz <|
 C.same s4.env[77]? tz <|
 C.same s4.env[78]? tz <|
 C.same s4.env[79]? tz <|
 C.same s4.env[80]? tz <|
 C.same s4.env[81]? tz <|
 C.same s4.env[82]? tz <|
 C.same s4.env[83]? tz <|
 C.same s4.env[84]? tz <|
 C.same s4.env[85]? tz <|
 C.same s4.env[86]? tz <|
 C.same s4.env[87]? tz <|
 C.same s4.env[88]? tz <|
 C.same s4.env[89]? tz <|
 C.same s4.env[90]? tz <|
 C.same s4.env[91]? tz <|
 C.same s4.env[92]? tz <|
 C.same s4.env[93]? tz <|
 C.same s4.env[94]? tz <|
 C.same s4.env[95]? tz <|
 C.same s4.env[96]? tz <|
 C.same s4.env[97]? tz <|
 C.same s4.env[98]? tz <|
 C.same s4.env[99]? tz <|
 C.same s4.env[100]? tz <|
 C.same s4.env[101]? tz <|
 C.same s4.env[102]? tz <|
 C.same s4.env[103]? tz <|
 C.same s4.env[104]? tz <|
 C.same s4.env[105]? tz <|
 C.same s4.env[106]? tz <|
 C.same s4.env[107]? tz <|
 C.same s4.env[108]? tz <|
 C.same s4.env[109]? tz <|
 C.same s4.env[110]? tz <|
 C.same s4.env[111]? tz <|
 C.same s4.env[112]? tz <|
 C.same s4.env[113]? tz <|
 C.same s4.env[114]? tz <|
 C.same s4.env[115]? tz <|
 C.same s4.env[116]? tz <|
 C.same s4.env[117]? tz <|
 C.same s4.env[118]? tz <|
 C.same s4.env[119]? tz <|
 C.same s4.env[120]? tz <|
 C.same s4.env[121]? tz <|
 C.same s4.env[122]? tz <|
 C.same s4.env[123]? tz <|
 C.same s4.env[124]? tz <|
 C.same s4.env[125]? tz <|
 C.same s4.env[126]? tz <|
 C.same s4.env[127]? tz <|
 C.same s4.env[128]? tz <|
 C.same s4.env[129]? tz <|
 C.same s4.env[130]? tz <|
 C.same s4.env[131]? tz <|
 C.same s4.env[132]? tz <|
 C.bool (pcall M d 9 []) fun b29 =>
 cnd (!b29)
 (k5 (.exit 2000000) ⟨[(.lst a0), (.agg [(iz a1), (iz a2)]), (.agg [(iz a3), (iz a4)]), tz, v0, v2, bf, tz, tz, tz, tz, tz, tz, (.bool b29), (.bool (!b29)), bt, tz, tz, tz, bt, bt, tz, tz, tz, bt, bt, tz, tz, tz, bt, bt, tz, tz, tz, bt, tz, tz, tz, tz, tz, tz, tz, tz, tz, tz, tz, tz, tz, tz, tz, tz, tz, tz, tz, tz, tz, tz, tz, tz, tz, tz, tz, tz, tz, tz, tz, tz, tz, tz, tz, tz, tz, tz, tz, tz, tz, tz, tz, tz, tz, tz, tz, tz, tz, tz, tz, tz, tz, tz, tz, tz, tz, tz, tz, tz, tz, tz, tz, tz, tz, tz, tz, tz, tz, tz, tz, tz, tz, tz, tz, tz, tz, tz, tz, tz, tz, tz, tz, tz, tz, tz, tz, tz, tz, tz, tz, tz, tz, tz, tz, tz, tz, tz], (St.H s4)⟩)
 (C.snp (St.H s4) [(.lst a0)] fun l30 b31 =>
 C.bool (pcall M d 10 l30) fun b32 =>
 cnd (b31 || true)
 (cnd (!b32)
 (k5 (.exit 2000000) ⟨[(.lst a0), (.agg [(iz a1), (iz a2)]), (.agg [(iz a3), (iz a4)]), tz, v0, v2, bf, tz, tz, tz, tz, tz, tz, (.bool b29), (.bool (!b29)), bf, (.lst a0), (.bool b32), (.bool (!b32)), (.bool (!b32)), bt, tz, tz, tz, bt, bt, tz, tz, tz, bt, bt, tz, tz, tz, bt, tz, tz, tz, tz, tz, tz, tz, tz, tz, tz, tz, tz, tz, tz, tz, tz, tz, tz, tz, tz, tz, tz, tz, tz, tz, tz, tz, tz, tz, tz, tz, tz, tz, tz, tz, tz, tz, tz, tz, tz, tz, tz, tz, tz, tz, tz, tz, tz, tz, tz, tz, tz, tz, tz, tz, tz, tz, tz, tz, tz, tz, tz, tz, tz, tz, tz, tz, tz, tz, tz, tz, tz, tz, tz, tz, tz, tz, tz, tz, tz, tz, tz, tz, tz, tz, tz, tz, tz, tz, tz, tz, tz, tz, tz, tz, tz, tz, tz], (St.H s4)⟩)
 (C.snp (St.H s4) [(.lst a0)] fun l33 b34 =>
 C.bool (pcall M d 12 l33) fun b35 =>
 cnd (b34 || true)
 (cnd (!b35)
 (k5 (.exit 2000000) ⟨[(.lst a0), (.agg [(iz a1), (iz a2)]), (.agg [(iz a3), (iz a4)]), tz, v0, v2, bf, tz, tz, tz, tz, tz, tz, (.bool b29), (.bool (!b29)), bf, (.lst a0), (.bool b32), (.bool (!b32)), (.bool (!b32)), bf, (.lst a0), (.bool b35), (.bool (!b35)), (.bool (!b35)), bt, tz, tz, tz, bt, bt, tz, tz, tz, bt, tz, tz, tz, tz, tz, tz, tz, tz, tz, tz, tz, tz, tz, tz, tz, tz, tz, tz, tz, tz, tz, tz, tz, tz, tz, tz, tz, tz, tz, tz, tz, tz, tz, tz, tz, tz, tz, tz, tz, tz, tz, tz, tz, tz, tz, tz, tz, tz, tz, tz, tz, tz, tz, tz, tz, tz, tz, tz, tz, tz, tz, tz, tz, tz, tz, tz, tz, tz, tz, tz, tz, tz, tz, tz, tz, tz, tz, tz, tz, tz, tz, tz, tz, tz, tz, tz, tz, tz, tz, tz, tz, tz, tz, tz, tz, tz, tz, tz], (St.H s4)⟩)
 (C.hop (St.H s4) (.load true 2 (.v v0)) fun v36 h37 =>
 C.agg 2 (some v36) fun l38 =>
 C.int .i64 l38[0]? fun x39 =>
 C.int .i64 l38[1]? fun x40 =>
 C.bool (pcall M d 26 [(.agg [(iz x39), (iz x40)])]) fun b41 =>
 cnd (!b41)
 (k5 (.exit 2000000) ⟨[(.lst a0), (.agg [(iz a1), (iz a2)]), (.agg [(iz a3), (iz a4)]), tz, v0, v2, bf, tz, tz, tz, tz, tz, tz, (.bool b29), (.bool (!b29)), bf, (.lst a0), (.bool b32), (.bool (!b32)), (.bool (!b32)), bf, (.lst a0), (.bool b35), (.bool (!b35)), (.bool (!b35)), bf, (.agg [(iz x39), (iz x40)]), (.bool b41), (.bool (!b41)), (.bool (!b41)), bt, tz, tz, tz, bt, tz, tz, tz, tz, tz, tz, tz, tz, tz, tz, tz, tz, tz, tz, tz, tz, tz, tz, tz, tz, tz, tz, tz, tz, tz, tz, tz, tz, tz, tz, tz, tz, tz, tz, tz, tz, tz, tz, tz, tz, tz, tz, tz, tz, tz, tz, tz, tz, tz, tz, tz, tz, tz, tz, tz, tz, tz, tz, tz, tz, tz, tz, tz, tz, tz, tz, tz, tz, tz, tz, tz, tz, tz, tz, tz, tz, tz, tz, tz, tz, tz, tz, tz, tz, tz, tz, tz, tz, tz, tz, tz, tz, tz, tz, tz, tz, tz, tz], h37⟩)
 (C.hop h37 (.load true 2 (.v v2)) fun v42 h43 =>
 C.agg 2 (some v42) fun l44 =>
 C.int .i64 l44[0]? fun x45 =>
 C.int .i64 l44[1]? fun x46 =>
 C.bool (pcall M d 26 [(.agg [(iz x45), (iz x46)])]) fun b47 =>
 k5 (.exit 2000000) ⟨[(.lst a0), (.agg [(iz a1), (iz a2)]), (.agg [(iz a3), (iz a4)]), tz, v0, v2, bf, tz, tz, tz, tz, tz, tz, (.bool b29), (.bool (!b29)), bf, (.lst a0), (.bool b32), (.bool (!b32)), (.bool (!b32)), bf, (.lst a0), (.bool b35), (.bool (!b35)), (.bool (!b35)), bf, (.agg [(iz x39), (iz x40)]), (.bool b41), (.bool (!b41)), (.bool (!b41)), bf, (.agg [(iz x45), (iz x46)]), (.bool b47), (.bool (!b47)), (.bool (!b47)), tz, tz, tz, tz, tz, tz, tz, tz, tz, tz, tz, tz, tz, tz, tz, tz, tz, tz, tz, tz, tz, tz, tz, tz, tz, tz, tz, tz, tz, tz, tz, tz, tz, tz, tz, tz, tz, tz, tz, tz, tz, tz, tz, tz, tz, tz, tz, tz, tz, tz, tz, tz, tz, tz, tz, tz, tz, tz, tz, tz, tz, tz, tz, tz, tz, tz, tz, tz, tz, tz, tz, tz, tz, tz, tz, tz, tz, tz, tz, tz, tz, tz, tz, tz, tz, tz, tz, tz, tz, tz, tz, tz, tz, tz, tz, tz, tz, tz], h43⟩)))
 (none)))
 (none)))
 (none)
def r6X0_0 (C : Cb) (d : Nat) (a0 : List AV) (a1 a2 a3 a4 : Int) (v0 v2 : AV) : St → Ans := fun s48 =>
 cnd ((List.length s48.env) == 133)
 (C.same s48.env[0]? (.lst a0) <|
 C.same s48.env[1]? (.agg [(iz a1), (iz a2)]) <|
 C.same s48.env[2]? (.agg [(iz a3), (iz a4)]) <|
 C.same s48.env[3]? tz <|
 C.same s48.env[4]? v0 <|
 C.same s48.env[5]? v2 <|
 C.same s48.env[6]? bf <|
 C.same s48.env[7]? tz <|
 C.same s48.env[8]? tz <|
 C.same s48.env[9]? tz <|
 C.same s48.env[10]? tz <|
 C.same s48.env[11]? tz <|
 C.same s48.env[12]? tz <|
 C.bool s48.env[13]? fun b49 =>
 C.bool s48.env[14]? fun b50 =>
 C.bool s48.env[15]? fun b51 =>
 C.any s48.env[16]? fun v52 =>
 C.any s48.env[17]? fun v53 =>
 C.any s48.env[18]? fun v54 =>
 C.bool s48.env[19]? fun b55 =>
 C.bool s48.env[20]? fun b56 =>
 C.any s48.env[21]? fun v57 =>
 C.any s48.env[22]? fun v58 =>
 C.any s48.env[23]? fun v59 =>
 C.bool s48.env[24]? fun b60 =>
 C.bool s48.env[25]? fun b61 =>
 C.any s48.env[26]? fun v62 =>
 C.any s48.env[27]? fun v63 =>
 C.any s48.env[28]? fun v64 =>
 C.bool s48.env[29]? fun b65 =>
 C.bool s48.env[30]? fun b66 =>
 C.any s48.env[31]? fun v67 =>
 C.any s48.env[32]? fun v68 =>
 C.any s48.env[33]? fun v69 =>
 C.bool s48.env[34]? fun b70 =>
 C.same s48.env[35]? tz <|
 C.same s48.env[36]? tz <|
 C.same s48.env[37]? tz <|
 C.same s48.env[38]? tz <|
 C.same s48.env[39]? tz <|
 C.same s48.env[40]? tz <|
 C.same s48.env[41]? tz <|
 C.same s48.env[42]? tz <|
 C.same s48.env[43]? tz <|
 C.same s48.env[44]? tz <|
 C.same s48.env[45]? tz <|
 C.same s48.env[46]? tz <|
 C.same s48.env[47]? tz <|
 C.same s48.env[48]? tz <|
 C.same s48.env[49]? tz <|
 C.same s48.env[50]? tz <|
 C.same s48.env[51]? tz <|
 C.same s48.env[52]? tz <|
 C.same s48.env[53]? tz <|
 C.same s48.env[54]? tz <|
 C.same s48.env[55]? tz <|
 C.same s48.env[56]? tz <|
 C.same s48.env[57]? tz <|
 C.same s48.env[58]? tz <|
 C.same s48.env[59]? tz <|
 C.same s48.env[60]? tz <|
 C.same s48.env[61]? tz <|
 C.same s48.env[62]? tz <|
 C.same s48.env[63]? tz <|
 C.same s48.env[64]? tz <|
 C.same s48.env[65]? tz <|
 C.same s48.env[66]? tz <|
 C.same s48.env[67]? tz <|
 C.same s48.env[68]? tz <|
 C.same s48.env[69]? tz <|
 C.same s48.env[70]? tz <|
 C.same s48.env[71]? tz <|
 C.same s48.env[72]? tz <|
 C.same s48.env[73]? tz <|
 C.same s48.env[74]? tz <|
 C.same s48.env[75]? tz <|
 C.same s48.env[76]? tz <|
 C.same s48.env[77]? tz <|
 C.same s48.env[78]? tz <|
 C.same s48.env[79]? tz <|
 C.same s48.env[80]? tz <|
 C.same s48.env[81]? tz <|
 C.same s48.env[82]? tz <|
 C.same s48.env[83]? tz <|
 C.same s48.env[84]? tz <|
 C.same s48.env[85]? tz <|
 C.same s48.env[86]? tz <|
 C.same s48.env[87]? tz <|
 C.same s48.env[88]? tz <|
 C.same s48.env[89]? tz <|
 C.same s48.env[90]? tz <|
 C.same s48.env[91]? tz <|
 C.same s48.env[92]? tz <|
 C.same s48.env[93]? tz <|
 C.same s48.env[94]? tz <|
 C.same s48.env[95]? tz <|
 C.same s48.env[96]? tz <|
 C.same s48.env[97]? tz <|
 C.same s48.env[98]? tz <|
 C.same s48.env[99]? tz <|
 C.same s48.env[100]? tz <|
 C.same s48.env[101]? tz <|
 C.same s48.env[102]? tz <|
 C.same s48.env[103]? tz <|
 C.same s48.env[104]? tz <|
 C.same s48.env[105]? tz <|
 C.same s48.env[106]? tz <|
 C.same s48.env[107]? tz <|
 C.same s48.env[108]? tz <|
 C.same s48.env[109]? tz <|
 C.same s48.env[110]? tz <|
 C.same s48.env[111]? tz <|
 C.same s48.env[112]? tz <|
 C.same s48.env[113]? tz <|
 C.same s48.env[114]? tz <|
 C.same s48.env[115]? tz <|
 C.same s48.env[116]? tz <|
 C.same s48.env[117]? tz <|
 C.same s48.env[118]? tz <|
 C.same s48.env[119]? tz <|
 C.same s48.env[120]? tz <|
 C.same s48.env[121]? tz <|
 C.same s48.env[122]? tz <|
 C.same s48.env[123]? tz <|
 C.same s48.env[124]? tz <|
 C.same s48.env[125]? tz <|
 C.same s48.env[126]? tz <|
 C.same s48.env[127]? tz <|
 C.same s48.env[128]? tz <|
 C.same s48.env[129]? tz <|
 C.same s48.env[130]? tz <|
 C.same s48.env[131]? tz <|
 C.same s48.env[132]? tz <|
 cnd b70
 (C.bool (pcall M d 9 []) fun b71 =>
 C.fin (St.H s48) (.bool b71))
 (C.snp (St.H s48) [(.lst a0)] fun l72 b73 =>
 C.tup 2 (pcall M d 11 l72) fun l74 =>
 C.agg 4 l74[0]? fun l75 =>
 C.int .i64 l75[0]? fun x76 =>
 C.int .i64 l75[1]? fun x77 =>
 C.int .i64 l75[2]? fun x78 =>
 C.int .i64 l75[3]? fun x79 =>
 C.bool l74[1]? fun b80 =>
 cnd (b73 || true)
 (C.hop (St.H s48) (.alloc E28) fun v81 h82 =>
 C.hop h82 (.store 4 (.v v81) (.v (.agg [(iz x76), (iz x77), (iz x78), (iz x79)]))) fun v83 h84 =>
 C.iter (r6R1 C d a0 a1 a2 a3 a4 v0 v2 b49 b50 b51 v52 v53 v54 b55 b56 v57 v58 v59 b60 b61 v62 v63 v64 b65 b66 v67 v68 v69 x76 x77 x78 x79 b80 v81) 1 ⟨[(.lst a0), (.agg [(iz a1), (iz a2)]), (.agg [(iz a3), (iz a4)]), tz, v0, v2, bf, v81, (.bool b80), tz, tz, tz, tz, (.bool b49), (.bool b50), (.bool b51), v52, v53, v54, (.bool b55), (.bool b56), v57, v58, v59, (.bool b60), (.bool b61), v62, v63, v64, (.bool b65), (.bool b66), v67, v68, v69, bf, tz, (.tup [(.agg [(iz x76), (iz x77), (iz x78), (iz x79)]), (.bool b80)]), (.lst a0), (.tup [(.agg [(iz x76), (iz x77), (iz x78), (iz x79)]), (.bool b80)]), (.agg [(iz x76), (iz x77), (iz x78), (iz x79)]), (.bool b80), tz, tz, tz, tz, tz, tz, tz, tz, tz, tz, tz, tz, tz, tz, tz, tz, tz, tz, tz, tz, tz, tz, tz, tz, tz, tz, tz, tz, tz, tz, tz, tz, tz, tz, tz, tz, tz, tz, tz, tz, tz, tz, tz, tz, tz, tz, tz, tz, tz, tz, tz, tz, tz, tz, tz, tz, tz, tz, tz, tz, tz, tz, tz, tz, tz, tz, tz, tz, tz, tz, tz, tz, tz, tz, tz, tz, tz, tz, tz, tz, tz, tz, tz, tz, tz, tz, tz, tz, tz, tz, tz, tz], h84⟩ [2000000] [r6X1_0 C d a0 a1 a2 a3 a4 v0 v2 b49 b50 b51 v52 v53 v54 b55 b56 v57 v58 v59 b60 b61 v62 v63 v64 b65 b66 v67 v68 v69 x76 x77 x78 x79 b80 v81] (r6E1 C d a0 a1 a2 a3 a4 v0 v2 b49 b50 b51 v52 v53 v54 b55 b56 v57 v58 v59 b60 b61 v62 v63 v64 b65 b66 v67 v68 v69 x76 x77 x78 x79 b80 v81))
 (none)))
 (none)
def r6E0 (C : Cb) (d : Nat) (a0 : List AV) (a1 a2 a3 a4 : Int) (v0 v2 : AV) : St → Ans := fun s6 =>
 cnd ((List.length s6.env) == 133)
 (C.same s6.env[0]? (.lst a0) <|
 C.same s6.env[1]? (.agg [(iz a1), (iz a2)]) <|
 C.same s6.env[2]? (.agg [(iz a3), (iz a4)]) <|
 C.same s6.env[3]? tz <|
 C.same s6.env[4]? v0 <|
 C.same s6.env[5]? v2 <|
 C.same s6.env[6]? bf <|
 C.same s6.env[7]? tz <|
 C.same s6.env[8]? tz <|
 C.same s6.env[9]? tz <|
 C.same s6.env[10]? tz <|
 C.same s6.env[11]? tz <|
 C.same s6.env[12]? tz <|
 C.any s6.env[13]? fun v766 =>
 C.any s6.env[14]? fun v767 =>
 C.any s6.env[15]? fun v768 =>
 C.any s6.env[16]? fun v769 =>
 C.any s6.env[17]? fun v770 =>
 C.any s6.env[18]? fun v771 =>
 C.any s6.env[19]? fun v772 =>
 C.any s6.env[20]? fun v773 =>
 C.any s6.env[21]? fun v774 =>
 C.any s6.env[22]? fun v775 =>
 C.any s6.env[23]? fun v776 =>
 C.any s6.env[24]? fun v777 =>
 C.any s6.env[25]? fun v778 =>
 C.any s6.env[26]? fun v779 =>
 C.any s6.env[27]? fun v780 =>
 C.any s6.env[28]? fun v781 =>
 C.any s6.env[29]? fun v782 =>
 C.any s6.env[30]? fun v783 =>
 C.any s6.env[31]? fun v784 =>
 C.any s6.env[32]? fun v785 =>
 C.any s6.env[33]? fun v786 =>
 C.any s6.env[34]? fun v787 =>
 C.same s6.env[35]? tz <|
 C.same s6.env[36]? tz <|
 C.same s6.env[37]? tz <|
 C.same s6.env[38]? tz <|
 C.same s6.env[39]? tz <|
 C.same s6.env[40]? tz <|
 C.same s6.env[41]? tz <|
 C.same s6.env[42]? tz <|
 C.same s6.env[43]? tz <|
 C.same s6.env[44]? tz <|
 C.same s6.env[45]? tz <|
 C.same s6.env[46]? tz <|
 C.same s6.env[47]? tz <|
 C.same s6.env[48]? tz <|
 C.same s6.env[49]? tz <|
 C.same s6.env[50]? tz <|
 C.same s6.env[51]? tz <|
 C.same s6.env[52]? tz <|
 C.same s6.env[53]? tz <|
 C.same s6.env[54]? tz <|
 C.same s6.env[55]? tz <|
 C.same s6.env[56]? tz <|
 C.same s6.env[57]? tz <|
 C.same s6.env[58]? tz <|
 C.same s6.env[59]? tz <|
 C.same s6.env[60]? tz <|
 C.same s6.env[61]? tz <|
 C.same s6.env[62]? tz <|
 C.same s6.env[63]? tz <|
 C.same s6.env[64]? tz <|
 C.same s6.env[65]? tz <|
 C.same s6.env[66]? tz <|
 C.same s6.env[67]? tz <|
 C.same s6.env[68]? tz <|
 C.same s6.env[69]? tz <|
 C.same s6.env[70]? tz <|
 C.same s6.env[71]? tz <|
 C.same s6.env[72]? tz <|
 C.same s6.env[73]? tz <|
 C.same s6.env[74]? tz <|
 C.same s6.env[75]? tz <|
 C.same s6.env[76]? tz <|
 C.same s6.env[77]? tz <|
 C.same s6.env[78]? tz <|
 C.same s6.env[79]? tz <|
 C.same s6.env[80]? tz <|
 C.same s6.env[81]? tz <|
 C.same s6.env[82]? tz <|
 C.same s6.env[83]? tz <|
 C.same s6.env[84]? tz <|
 C.same s6.env[85]? tz <|
 C.same s6.env[86]? tz <|
 C.same s6.env[87]? tz <|
 C.same s6.env[88]? tz <|
 C.same s6.env[89]? tz <|
 C.same s6.env[90]? tz <|
 C.same s6.env[91]? tz <|
 C.same s6.env[92]? tz <|
 C.same s6.env[93]? tz <|
 C.same s6.env[94]? tz <|
 C.same s6.env[95]? tz <|
 C.same s6.env[96]? tz <|
 C.same s6.env[97]? tz <|
 C.same s6.env[98]? tz <|
 C.same s6.env[99]? tz <|
 C.same s6.env[100]? tz <|
 C.same s6.env[101]? tz <|
 C.same s6.env[102]? tz <|
 C.same s6.env[103]? tz <|
 C.same s6.env[104]? tz <|
 C.same s6.env[105]? tz <|
 C.same s6.env[106]? tz <|
 C.same s6.env[107]? tz <|
 C.same s6.env[108]? tz <|
 C.same s6.env[109]? tz <|
 C.same s6.env[110]? tz <|
 C.same s6.env[111]? tz <|
 C.same s6.env[112]? tz <|
 C.same s6.env[113]? tz <|
 C.same s6.env[114]? tz <|
 C.same s6.env[115]? tz <|
 C.same s6.env[116]? tz <|
 C.same s6.env[117]? tz <|
 C.same s6.env[118]? tz <|
 C.same s6.env[119]? tz <|
 C.same s6.env[120]? tz <|
 C.same s6.env[121]? tz <|
 C.same s6.env[122]? tz <|
 C.same s6.env[123]? tz <|
 C.same s6.env[124]? tz <|
 C.same s6.env[125]? tz <|
 C.same s6.env[126]? tz <|
 C.same s6.env[127]? tz <|
 C.same s6.env[128]? tz <|
 C.same s6.env[129]? tz <|
 C.same s6.env[130]? tz <|
 C.same s6.env[131]? tz <|
 C.same s6.env[132]? tz <|
 none)
 (none)
/-- apogee/apogeelaw11.PolyWays -/
theorem r6 (C : Cb) (d : Nat) (a0 : List AV) (a1 a2 a3 a4 : Int) : xcall C M unr d 6 [(.lst a0), (.agg [(iz a1), (iz a2)]), (.agg [(iz a3), (iz a4)])] =
 C.hop [] (.box E24 (.v (.agg [(iz a1), (iz a2)]))) fun v0 h1 =>
 C.hop h1 (.box E24 (.v (.agg [(iz a3), (iz a4)]))) fun v2 h3 =>
 C.iter (r6R0 C d a0 a1 a2 a3 a4 v0 v2) 1 ⟨[(.lst a0), (.agg [(iz a1), (iz a2)]), (.agg [(iz a3), (iz a4)]), tz, v0, v2, bf, tz, tz, tz, tz, tz, tz, tz, tz, tz, tz, tz, tz, tz, tz, tz, tz, tz, tz, tz, tz, tz, tz, tz, tz, tz, tz, tz, tz, tz, tz, tz, tz, tz, tz, tz, tz, tz, tz, tz, tz, tz, tz, tz, tz, tz, tz, tz, tz, tz, tz, tz, tz, tz, tz, tz, tz, tz, tz, tz, tz, tz, tz, tz, tz, tz, tz, tz, tz, tz, tz, tz, tz, tz, tz, tz, tz, tz, tz, tz, tz, tz, tz, tz, tz, tz, tz, tz, tz, tz, tz, tz, tz, tz, tz, tz, tz, tz, tz, tz, tz, tz, tz, tz, tz, tz, tz, tz, tz, tz, tz, tz, tz, tz, tz, tz, tz, tz, tz, tz, tz, tz, tz, tz, tz, tz, tz], h3⟩ [2000000] [r6X0_0 C d a0 a1 a2 a3 a4 v0 v2] (r6E0 C d a0 a1 a2 a3 a4 v0 v2) := by kernel_rfl
end Go.Proofs.Ytkfppigcjdapnaa.AE

namespace Go.Proofs.Ytkfppigcjdapnaa.AE
set_option linter.unusedVariables false
set_option linter.unusedSimpArgs false
set_option linter.constructorNameAsVariable false
open Go
set_option maxRecDepth 100000
set_option maxHeartbeats 0
noncomputable def X6_4_0 (d : Nat) (a0 : List AV) (v0 v2 : AV) (b294 : Bool) (v340 v354 : AV) (k291R : Bool → Heap → Ans) (k291X0 : Bool → Heap → Ans) (b427 : Bool) (H : Heap) : Ans :=
  cnd b427
   (k291R false H)
   (cnd b294
   (k291X0 true H)
   (C0.hop H (.load true 2 (.v v0)) fun v428 h429 =>
   C0.agg 2 (some v428) fun l430 =>
   C0.int .i64 l430[0]? fun x431 =>
   C0.int .i64 l430[1]? fun x432 =>
   C0.hop h429 (.load true 2 (.v v2)) fun v433 h434 =>
   C0.agg 2 (some v433) fun l435 =>
   C0.int .i64 l435[0]? fun x436 =>
   C0.int .i64 l435[1]? fun x437 =>
   C0.hop h434 (.load true 2 (.v v340)) fun v438 h439 =>
   C0.agg 2 (some v438) fun l440 =>
   C0.int .i64 l440[0]? fun x441 =>
   C0.int .i64 l440[1]? fun x442 =>
   C0.hop h439 (.load true 2 (.v v354)) fun v443 h444 =>
   C0.agg 2 (some v443) fun l445 =>
   C0.int .i64 l445[0]? fun x446 =>
   C0.int .i64 l445[1]? fun x447 =>
   C0.bool (pcall M d 28 [(.agg [(iz x431), (iz x432)]), (.agg [(iz x436), (iz x437)]), (.agg [(iz x441), (iz x442)]), (.agg [(iz x446), (iz x447)])]) fun b448 =>
   k291X0 b448 h444))
theorem X6_4_0_ok (d : Nat) (a0 : List AV) (a1 a2 a3 a4 : Int) (v0 v2 : AV) (b49 b50 b51 : Bool) (v52 v53 v54 : AV) (b55 b56 : Bool) (v57 v58 v59 : AV) (b60 b61 : Bool) (v62 v63 v64 : AV) (b65 b66 : Bool) (v67 v68 v69 : AV) (x76 x77 x78 x79 : Int) (b80 : Bool) (v81 v205 : AV) (x206 : Int) (v207 v208 : AV) (x209 : Int) (b210 b211 : Bool) (v212 v213 v214 v215 v216 v217 : AV) (b218 b219 : Bool) (v220 v221 v222 v223 v224 v225 : AV) (b226 b227 : Bool) (v228 v229 v230 v231 v232 v233 : AV) (b234 b235 : Bool) (v236 v237 v238 v239 : AV) (x243 x252 : Int) (v289 : AV) (k291 : Ex → St → Ans) (b293 b294 : Bool) (v325 v326 v327 v328 v329 v330 v331 v332 v333 : AV) (x338 x339 : Int) (v340 : AV) (x346 : Int) (v347 : AV) (x352 x353 : Int) (v354 : AV) (k291R : Bool → Heap → Ans) (k291X0 : Bool → Heap → Ans) (hk291R : ∀ (b512 b513 : Bool) (x514 : Int) (v515 v516 : AV) (x517 : Int) (v518 : AV) (x520 x521 : Int) (v522 : AV) (x523 x524 : Int) (v525 : AV) (x526 x527 : Int) (v528 : AV) (x530 x531 : Int) (v532 : AV) (x534 x535 x536 : Int) (b537 b538 : Bool) (v539 v540 v541 v542 v543 v544 v545 v546 v547 v548 : AV) (b549 : Bool) (v550 v551 v552 v553 v554 v555 v556 v557 : AV) (H : Heap), k291 .ret ⟨[(.lst a0), (.agg [(iz a1), (iz a2)]), (.agg [(iz a3), (iz a4)]), tz, v0, v2, (.bool b512), v81, (.bool b80), (.bool b513), (iz x514), v515, v516, (.bool b49), (.bool b50), (.bool b51), v52, v53, v54, (.bool b55), (.bool b56), v57, v58, v59, (.bool b60), (.bool b61), v62, v63, v64, (.bool b65), (.bool b66), v67, v68, v69, bf, tz, (.tup [(.agg [(iz x76), (iz x77), (iz x78), (iz x79)]), (.bool b80)]), (.lst a0), (.tup [(.agg [(iz x76), (iz x77), (iz x78), (iz x79)]), (.bool b80)]), (.agg [(iz x76), (iz x77), (iz x78), (iz x79)]), (.bool b80), v205, (iz x206), v207, v208, (iz x209), (.bool b210), (.bool b211), v212, v213, v214, v215, v216, v217, (.bool b218), (.bool b219), v220, v221, v222, v223, v224, v225, (.bool b226), (.bool b227), v228, v229, v230, v231, v232, v233, (.bool b234), (.bool b235), v236, v237, v238, v239, bf, (.lst a0), (iz x243), (iz x252), bt, (iz x517), v518, (.agg [(iz x520), (iz x521)]), v522, (iz x523), (iz x524), v525, (iz x526), (iz x527), v528, (.agg [(iz x530), (iz x531)]), v532, (.agg [(iz x534), (iz x535)]), (iz x536), (.bool b537), (.bool b538), v539, v540, v541, v542, v543, v544, v545, v546, v547, v548, (.bool b549), v550, v551, v552, v553, v554, v555, v556, v557, v289, tz, tz, tz, tz, tz, tz, tz, tz, tz, tz, tz, tz, tz, tz, tz, tz], H⟩ = k291R b512 H) (hk291X0 : ∀ (b466 b467 : Bool) (x468 : Int) (v469 v470 : AV) (x471 : Int) (v472 : AV) (x474 x475 : Int) (v476 : AV) (x477 x478 : Int) (v479 : AV) (x480 x481 : Int) (v482 : AV) (x484 x485 : Int) (v486 : AV) (x488 x489 x490 : Int) (b491 b492 : Bool) (v493 v494 v495 v496 v497 v498 v499 v500 v501 v502 : AV) (b503 b504 b505 : Bool) (v506 v507 v508 v509 v510 : AV) (b511 : Bool) (H : Heap), k291 (.exit 2000000) ⟨[(.lst a0), (.agg [(iz a1), (iz a2)]), (.agg [(iz a3), (iz a4)]), tz, v0, v2, (.bool b466), v81, (.bool b80), (.bool b467), (iz x468), v469, v470, (.bool b49), (.bool b50), (.bool b51), v52, v53, v54, (.bool b55), (.bool b56), v57, v58, v59, (.bool b60), (.bool b61), v62, v63, v64, (.bool b65), (.bool b66), v67, v68, v69, bf, tz, (.tup [(.agg [(iz x76), (iz x77), (iz x78), (iz x79)]), (.bool b80)]), (.lst a0), (.tup [(.agg [(iz x76), (iz x77), (iz x78), (iz x79)]), (.bool b80)]), (.agg [(iz x76), (iz x77), (iz x78), (iz x79)]), (.bool b80), v205, (iz x206), v207, v208, (iz x209), (.bool b210), (.bool b211), v212, v213, v214, v215, v216, v217, (.bool b218), (.bool b219), v220, v221, v222, v223, v224, v225, (.bool b226), (.bool b227), v228, v229, v230, v231, v232, v233, (.bool b234), (.bool b235), v236, v237, v238, v239, bf, (.lst a0), (iz x243), (iz x252), bt, (iz x471), v472, (.agg [(iz x474), (iz x475)]), v476, (iz x477), (iz x478), v479, (iz x480), (iz x481), v482, (.agg [(iz x484), (iz x485)]), v486, (.agg [(iz x488), (iz x489)]), (iz x490), (.bool b491), (.bool b492), v493, v494, v495, v496, v497, v498, v499, v500, v501, v502, (.bool b503), (.bool b504), (.bool b505), v506, v507, v508, v509, v510, (.bool b511), v289, tz, tz, tz, tz, tz, tz, tz, tz, tz, tz, tz, tz, tz, tz, tz, tz], H⟩ = k291X0 b467 H) (v410 : AV) (x412 x413 x414 : Int) (b415 b416 : Bool) (v417 v418 v419 v420 v421 v422 v423 v424 v425 v426 : AV) (b427 : Bool) (H : Heap) : r6X4_0 C0 d a0 a1 a2 a3 a4 v0 v2 b49 b50 b51 v52 v53 v54 b55 b56 v57 v58 v59 b60 b61 v62 v63 v64 b65 b66 v67 v68 v69 x76 x77 x78 x79 b80 v81 v205 x206 v207 v208 x209 b210 b211 v212 v213 v214 v215 v216 v217 b218 b219 v220 v221 v222 v223 v224 v225 b226 b227 v228 v229 v230 v231 v232 v233 b234 b235 v236 v237 v238 v239 x243 x252 v289 k291 b293 b294 v325 v326 v327 v328 v329 v330 v331 v332 v333 x338 x339 v340 x346 v347 x352 x353 v354 ⟨[(.lst a0), (.agg [(iz a1), (iz a2)]), (.agg [(iz a3), (iz a4)]), tz, v0, v2, (.bool b293), v81, (.bool b80), (.bool b294), (iz x252), v340, v354, (.bool b49), (.bool b50), (.bool b51), v52, v53, v54, (.bool b55), (.bool b56), v57, v58, v59, (.bool b60), (.bool b61), v62, v63, v64, (.bool b65), (.bool b66), v67, v68, v69, bf, tz, (.tup [(.agg [(iz x76), (iz x77), (iz x78), (iz x79)]), (.bool b80)]), (.lst a0), (.tup [(.agg [(iz x76), (iz x77), (iz x78), (iz x79)]), (.bool b80)]), (.agg [(iz x76), (iz x77), (iz x78), (iz x79)]), (.bool b80), v205, (iz x206), v207, v208, (iz x209), (.bool b210), (.bool b211), v212, v213, v214, v215, v216, v217, (.bool b218), (.bool b219), v220, v221, v222, v223, v224, v225, (.bool b226), (.bool b227), v228, v229, v230, v231, v232, v233, (.bool b234), (.bool b235), v236, v237, v238, v239, bf, (.lst a0), (iz x243), (iz x252), bt, (iz x252), v333, (.agg [(iz x338), (iz x339)]), (.lst a0), (iz x252), (iz (IntKind.wrap .i64 (x252 + 1))), (.lst a0), (iz x346), (iz (Int.tmod (IntKind.wrap .i64 (x252 + 1)) x346)), v347, (.agg [(iz x352), (iz x353)]), v410, (.agg [(iz x412), (iz x413)]), (iz x414), (.bool b415), (.bool b416), v417, v418, v419, v420, v421, v422, v423, v424, v425, v426, (.bool b427), v325, v326, v327, v328, v329, v330, v331, v332, v289, tz, tz, tz, tz, tz, tz, tz, tz, tz, tz, tz, tz, tz, tz, tz, tz], H⟩ = X6_4_0 d a0 v0 v2 b294 v340 v354 k291R k291X0 b427 H := by
  try dsimp only at hk291R
  try dsimp only at hk291X0
  unfold r6X4_0; refine Eq.trans (pl_len (by rfl)) ?_; (iterate 92 (refine yt yS ?_)); refine yt yA ?_; refine yt yG ?_; (iterate 3 (refine yt yI ?_)); (iterate 2 (refine yt yB ?_)); (iterate 10 (refine yt yA ?_)); refine yt yB ?_; (iterate 25 (refine yt yS ?_))
  first | (simp only [hk291R, hk291X0] <;> rfl) | rfl
noncomputable def E6_4 (d : Nat) (a0 : List AV) (v0 v2 : AV) (b294 : Bool) (v340 v354 : AV) (k291R : Bool → Heap → Ans) (k291X0 : Bool → Heap → Ans) (H : Heap) : Ans :=
  none
theorem E6_4_ok (d : Nat) (a0 : List AV) (a1 a2 a3 a4 : Int) (v0 v2 : AV) (b49 b50 b51 : Bool) (v52 v53 v54 : AV) (b55 b56 : Bool) (v57 v58 v59 : AV) (b60 b61 : Bool) (v62 v63 v64 : AV) (b65 b66 : Bool) (v67 v68 v69 : AV) (x76 x77 x78 x79 : Int) (b80 : Bool) (v81 v205 : AV) (x206 : Int) (v207 v208 : AV) (x209 : Int) (b210 b211 : Bool) (v212 v213 v214 v215 v216 v217 : AV) (b218 b219 : Bool) (v220 v221 v222 v223 v224 v225 : AV) (b226 b227 : Bool) (v228 v229 v230 v231 v232 v233 : AV) (b234 b235 : Bool) (v236 v237 v238 v239 : AV) (x243 x252 : Int) (v289 : AV) (k291 : Ex → St → Ans) (b293 b294 : Bool) (v325 v326 v327 v328 v329 v330 v331 v332 v333 : AV) (x338 x339 : Int) (v340 : AV) (x346 : Int) (v347 : AV) (x352 x353 : Int) (v354 : AV) (k291R : Bool → Heap → Ans) (k291X0 : Bool → Heap → Ans) (hk291R : ∀ (b512 b513 : Bool) (x514 : Int) (v515 v516 : AV) (x517 : Int) (v518 : AV) (x520 x521 : Int) (v522 : AV) (x523 x524 : Int) (v525 : AV) (x526 x527 : Int) (v528 : AV) (x530 x531 : Int) (v532 : AV) (x534 x535 x536 : Int) (b537 b538 : Bool) (v539 v540 v541 v542 v543 v544 v545 v546 v547 v548 : AV) (b549 : Bool) (v550 v551 v552 v553 v554 v555 v556 v557 : AV) (H : Heap), k291 .ret ⟨[(.lst a0), (.agg [(iz a1), (iz a2)]), (.agg [(iz a3), (iz a4)]), tz, v0, v2, (.bool b512), v81, (.bool b80), (.bool b513), (iz x514), v515, v516, (.bool b49), (.bool b50), (.bool b51), v52, v53, v54, (.bool b55), (.bool b56), v57, v58, v59, (.bool b60), (.bool b61), v62, v63, v64, (.bool b65), (.bool b66), v67, v68, v69, bf, tz, (.tup [(.agg [(iz x76), (iz x77), (iz x78), (iz x79)]), (.bool b80)]), (.lst a0), (.tup [(.agg [(iz x76), (iz x77), (iz x78), (iz x79)]), (.bool b80)]), (.agg [(iz x76), (iz x77), (iz x78), (iz x79)]), (.bool b80), v205, (iz x206), v207, v208, (iz x209), (.bool b210), (.bool b211), v212, v213, v214, v215, v216, v217, (.bool b218), (.bool b219), v220, v221, v222, v223, v224, v225, (.bool b226), (.bool b227), v228, v229, v230, v231, v232, v233, (.bool b234), (.bool b235), v236, v237, v238, v239, bf, (.lst a0), (iz x243), (iz x252), bt, (iz x517), v518, (.agg [(iz x520), (iz x521)]), v522, (iz x523), (iz x524), v525, (iz x526), (iz x527), v528, (.agg [(iz x530), (iz x531)]), v532, (.agg [(iz x534), (iz x535)]), (iz x536), (.bool b537), (.bool b538), v539, v540, v541, v542, v543, v544, v545, v546, v547, v548, (.bool b549), v550, v551, v552, v553, v554, v555, v556, v557, v289, tz, tz, tz, tz, tz, tz, tz, tz, tz, tz, tz, tz, tz, tz, tz, tz], H⟩ = k291R b512 H) (hk291X0 : ∀ (b466 b467 : Bool) (x468 : Int) (v469 v470 : AV) (x471 : Int) (v472 : AV) (x474 x475 : Int) (v476 : AV) (x477 x478 : Int) (v479 : AV) (x480 x481 : Int) (v482 : AV) (x484 x485 : Int) (v486 : AV) (x488 x489 x490 : Int) (b491 b492 : Bool) (v493 v494 v495 v496 v497 v498 v499 v500 v501 v502 : AV) (b503 b504 b505 : Bool) (v506 v507 v508 v509 v510 : AV) (b511 : Bool) (H : Heap), k291 (.exit 2000000) ⟨[(.lst a0), (.agg [(iz a1), (iz a2)]), (.agg [(iz a3), (iz a4)]), tz, v0, v2, (.bool b466), v81, (.bool b80), (.bool b467), (iz x468), v469, v470, (.bool b49), (.bool b50), (.bool b51), v52, v53, v54, (.bool b55), (.bool b56), v57, v58, v59, (.bool b60), (.bool b61), v62, v63, v64, (.bool b65), (.bool b66), v67, v68, v69, bf, tz, (.tup [(.agg [(iz x76), (iz x77), (iz x78), (iz x79)]), (.bool b80)]), (.lst a0), (.tup [(.agg [(iz x76), (iz x77), (iz x78), (iz x79)]), (.bool b80)]), (.agg [(iz x76), (iz x77), (iz x78), (iz x79)]), (.bool b80), v205, (iz x206), v207, v208, (iz x209), (.bool b210), (.bool b211), v212, v213, v214, v215, v216, v217, (.bool b218), (.bool b219), v220, v221, v222, v223, v224, v225, (.bool b226), (.bool b227), v228, v229, v230, v231, v232, v233, (.bool b234), (.bool b235), v236, v237, v238, v239, bf, (.lst a0), (iz x243), (iz x252), bt, (iz x471), v472, (.agg [(iz x474), (iz x475)]), v476, (iz x477), (iz x478), v479, (iz x480), (iz x481), v482, (.agg [(iz x484), (iz x485)]), v486, (.agg [(iz x488), (iz x489)]), (iz x490), (.bool b491), (.bool b492), v493, v494, v495, v496, v497, v498, v499, v500, v501, v502, (.bool b503), (.bool b504), (.bool b505), v506, v507, v508, v509, v510, (.bool b511), v289, tz, tz, tz, tz, tz, tz, tz, tz, tz, tz, tz, tz, tz, tz, tz, tz], H⟩ = k291X0 b467 H) (v449 v450 v451 v452 v453 v454 v455 v456 v457 v458 v459 v460 v461 v462 v463 v464 : AV) (H : Heap) : r6E4 C0 d a0 a1 a2 a3 a4 v0 v2 b49 b50 b51 v52 v53 v54 b55 b56 v57 v58 v59 b60 b61 v62 v63 v64 b65 b66 v67 v68 v69 x76 x77 x78 x79 b80 v81 v205 x206 v207 v208 x209 b210 b211 v212 v213 v214 v215 v216 v217 b218 b219 v220 v221 v222 v223 v224 v225 b226 b227 v228 v229 v230 v231 v232 v233 b234 b235 v236 v237 v238 v239 x243 x252 v289 k291 b293 b294 v325 v326 v327 v328 v329 v330 v331 v332 v333 x338 x339 v340 x346 v347 x352 x353 v354 ⟨[(.lst a0), (.agg [(iz a1), (iz a2)]), (.agg [(iz a3), (iz a4)]), tz, v0, v2, (.bool b293), v81, (.bool b80), (.bool b294), (iz x252), v340, v354, (.bool b49), (.bool b50), (.bool b51), v52, v53, v54, (.bool b55), (.bool b56), v57, v58, v59, (.bool b60), (.bool b61), v62, v63, v64, (.bool b65), (.bool b66), v67, v68, v69, bf, tz, (.tup [(.agg [(iz x76), (iz x77), (iz x78), (iz x79)]), (.bool b80)]), (.lst a0), (.tup [(.agg [(iz x76), (iz x77), (iz x78), (iz x79)]), (.bool b80)]), (.agg [(iz x76), (iz x77), (iz x78), (iz x79)]), (.bool b80), v205, (iz x206), v207, v208, (iz x209), (.bool b210), (.bool b211), v212, v213, v214, v215, v216, v217, (.bool b218), (.bool b219), v220, v221, v222, v223, v224, v225, (.bool b226), (.bool b227), v228, v229, v230, v231, v232, v233, (.bool b234), (.bool b235), v236, v237, v238, v239, bf, (.lst a0), (iz x243), (iz x252), bt, (iz x252), v333, (.agg [(iz x338), (iz x339)]), (.lst a0), (iz x252), (iz (IntKind.wrap .i64 (x252 + 1))), (.lst a0), (iz x346), (iz (Int.tmod (IntKind.wrap .i64 (x252 + 1)) x346)), v347, (.agg [(iz x352), (iz x353)]), v449, v450, v451, v452, v453, v454, v455, v456, v457, v458, v459, v460, v461, v462, v463, v464, v325, v326, v327, v328, v329, v330, v331, v332, v289, tz, tz, tz, tz, tz, tz, tz, tz, tz, tz, tz, tz, tz, tz, tz, tz], H⟩ = E6_4 d a0 v0 v2 b294 v340 v354 k291R k291X0 H := by
  try dsimp only at hk291R
  try dsimp only at hk291X0
  unfold r6E4; refine Eq.trans (pl_len (by rfl)) ?_; (iterate 92 (refine yt yS ?_)); (iterate 16 (refine yt yA ?_)); (iterate 25 (refine yt yS ?_))
  first | (simp only [hk291R, hk291X0] <;> rfl) | rfl
noncomputable def L6_4 (d : Nat) (a0 : List AV) (v0 v2 : AV) (b294 : Bool) (v340 v354 : AV) (k291R : Bool → Heap → Ans) (k291X0 : Bool → Heap → Ans) : Nat → Heap → Ans
  | 0, _ => none
  | n + 1, H =>
  C0.hop H (.load true 2 (.v v340)) fun v377 h378 =>
   C0.agg 2 (some v377) fun l379 =>
   C0.int .i64 l379[0]? fun x380 =>
   C0.int .i64 l379[1]? fun x381 =>
   C0.snp h378 [(.lst a0), (.agg [(iz x380), (iz x381)])] fun l382 b383 =>
   C0.int .i64 (pcall M d 16 l382) fun x384 =>
   cnd (b383 || true)
   (cnd (x384 != 0)
   (X6_4_0 d a0 v0 v2 b294 v340 v354 k291R k291X0 true h378)
   (C0.hop h378 (.load true 2 (.v v0)) fun v385 h386 =>
   C0.agg 2 (some v385) fun l387 =>
   C0.int .i64 l387[0]? fun x388 =>
   C0.int .i64 l387[1]? fun x389 =>
   C0.hop h386 (.load true 2 (.v v340)) fun v390 h391 =>
   C0.agg 2 (some v390) fun l392 =>
   C0.int .i64 l392[0]? fun x393 =>
   C0.int .i64 l392[1]? fun x394 =>
   C0.hop h391 (.load true 2 (.v v354)) fun v395 h396 =>
   C0.agg 2 (some v395) fun l397 =>
   C0.int .i64 l397[0]? fun x398 =>
   C0.int .i64 l397[1]? fun x399 =>
   C0.bool (pcall M d 27 [(.agg [(iz x388), (iz x389)]), (.agg [(iz x393), (iz x394)]), (.agg [(iz x398), (iz x399)])]) fun b400 =>
   cnd b400
   (C0.hop h396 (.load true 2 (.v v0)) fun v401 h402 =>
   C0.agg 2 (some v401) fun l403 =>
   C0.int .i64 l403[0]? fun x404 =>
   C0.int .i64 l403[1]? fun x405 =>
   C0.snp h402 [(.lst a0), (.agg [(iz x404), (iz x405)])] fun l406 b407 =>
   C0.int .i64 (pcall M d 16 l406) fun x408 =>
   cnd (b407 || true)
   (X6_4_0 d a0 v0 v2 b294 v340 v354 k291R k291X0 (x408 != 0) h402)
   (none))
   (X6_4_0 d a0 v0 v2 b294 v340 v354 k291R k291X0 false h396)))
   (none)
theorem it6_4 (d : Nat) (a0 : List AV) (a1 a2 a3 a4 : Int) (v0 v2 : AV) (b49 b50 b51 : Bool) (v52 v53 v54 : AV) (b55 b56 : Bool) (v57 v58 v59 : AV) (b60 b61 : Bool) (v62 v63 v64 : AV) (b65 b66 : Bool) (v67 v68 v69 : AV) (x76 x77 x78 x79 : Int) (b80 : Bool) (v81 v205 : AV) (x206 : Int) (v207 v208 : AV) (x209 : Int) (b210 b211 : Bool) (v212 v213 v214 v215 v216 v217 : AV) (b218 b219 : Bool) (v220 v221 v222 v223 v224 v225 : AV) (b226 b227 : Bool) (v228 v229 v230 v231 v232 v233 : AV) (b234 b235 : Bool) (v236 v237 v238 v239 : AV) (x243 x252 : Int) (v289 : AV) (k291 : Ex → St → Ans) (b293 b294 : Bool) (v325 v326 v327 v328 v329 v330 v331 v332 v333 : AV) (x338 x339 : Int) (v340 : AV) (x346 : Int) (v347 : AV) (x352 x353 : Int) (v354 : AV) (k291R : Bool → Heap → Ans) (k291X0 : Bool → Heap → Ans) (hk291R : ∀ (b512 b513 : Bool) (x514 : Int) (v515 v516 : AV) (x517 : Int) (v518 : AV) (x520 x521 : Int) (v522 : AV) (x523 x524 : Int) (v525 : AV) (x526 x527 : Int) (v528 : AV) (x530 x531 : Int) (v532 : AV) (x534 x535 x536 : Int) (b537 b538 : Bool) (v539 v540 v541 v542 v543 v544 v545 v546 v547 v548 : AV) (b549 : Bool) (v550 v551 v552 v553 v554 v555 v556 v557 : AV) (H : Heap), k291 .ret ⟨[(.lst a0), (.agg [(iz a1), (iz a2)]), (.agg [(iz a3), (iz a4)]), tz, v0, v2, (.bool b512), v81, (.bool b80), (.bool b513), (iz x514), v515, v516, (.bool b49), (.bool b50), (.bool b51), v52, v53, v54, (.bool b55), (.bool b56), v57, v58, v59, (.bool b60), (.bool b61), v62, v63, v64, (.bool b65), (.bool b66), v67, v68, v69, bf, tz, (.tup [(.agg [(iz x76), (iz x77), (iz x78), (iz x79)]), (.bool b80)]), (.lst a0), (.tup [(.agg [(iz x76), (iz x77), (iz x78), (iz x79)]), (.bool b80)]), (.agg [(iz x76), (iz x77), (iz x78), (iz x79)]), (.bool b80), v205, (iz x206), v207, v208, (iz x209), (.bool b210), (.bool b211), v212, v213, v214, v215, v216, v217, (.bool b218), (.bool b219), v220, v221, v222, v223, v224, v225, (.bool b226), (.bool b227), v228, v229, v230, v231, v232, v233, (.bool b234), (.bool b235), v236, v237, v238, v239, bf, (.lst a0), (iz x243), (iz x252), bt, (iz x517), v518, (.agg [(iz x520), (iz x521)]), v522, (iz x523), (iz x524), v525, (iz x526), (iz x527), v528, (.agg [(iz x530), (iz x531)]), v532, (.agg [(iz x534), (iz x535)]), (iz x536), (.bool b537), (.bool b538), v539, v540, v541, v542, v543, v544, v545, v546, v547, v548, (.bool b549), v550, v551, v552, v553, v554, v555, v556, v557, v289, tz, tz, tz, tz, tz, tz, tz, tz, tz, tz, tz, tz, tz, tz, tz, tz], H⟩ = k291R b512 H) (hk291X0 : ∀ (b466 b467 : Bool) (x468 : Int) (v469 v470 : AV) (x471 : Int) (v472 : AV) (x474 x475 : Int) (v476 : AV) (x477 x478 : Int) (v479 : AV) (x480 x481 : Int) (v482 : AV) (x484 x485 : Int) (v486 : AV) (x488 x489 x490 : Int) (b491 b492 : Bool) (v493 v494 v495 v496 v497 v498 v499 v500 v501 v502 : AV) (b503 b504 b505 : Bool) (v506 v507 v508 v509 v510 : AV) (b511 : Bool) (H : Heap), k291 (.exit 2000000) ⟨[(.lst a0), (.agg [(iz a1), (iz a2)]), (.agg [(iz a3), (iz a4)]), tz, v0, v2, (.bool b466), v81, (.bool b80), (.bool b467), (iz x468), v469, v470, (.bool b49), (.bool b50), (.bool b51), v52, v53, v54, (.bool b55), (.bool b56), v57, v58, v59, (.bool b60), (.bool b61), v62, v63, v64, (.bool b65), (.bool b66), v67, v68, v69, bf, tz, (.tup [(.agg [(iz x76), (iz x77), (iz x78), (iz x79)]), (.bool b80)]), (.lst a0), (.tup [(.agg [(iz x76), (iz x77), (iz x78), (iz x79)]), (.bool b80)]), (.agg [(iz x76), (iz x77), (iz x78), (iz x79)]), (.bool b80), v205, (iz x206), v207, v208, (iz x209), (.bool b210), (.bool b211), v212, v213, v214, v215, v216, v217, (.bool b218), (.bool b219), v220, v221, v222, v223, v224, v225, (.bool b226), (.bool b227), v228, v229, v230, v231, v232, v233, (.bool b234), (.bool b235), v236, v237, v238, v239, bf, (.lst a0), (iz x243), (iz x252), bt, (iz x471), v472, (.agg [(iz x474), (iz x475)]), v476, (iz x477), (iz x478), v479, (iz x480), (iz x481), v482, (.agg [(iz x484), (iz x485)]), v486, (.agg [(iz x488), (iz x489)]), (iz x490), (.bool b491), (.bool b492), v493, v494, v495, v496, v497, v498, v499, v500, v501, v502, (.bool b503), (.bool b504), (.bool b505), v506, v507, v508, v509, v510, (.bool b511), v289, tz, tz, tz, tz, tz, tz, tz, tz, tz, tz, tz, tz, tz, tz, tz, tz], H⟩ = k291X0 b467 H) : ∀ (n : Nat) (v361 v362 v363 v364 v365 v366 v367 v368 v369 v370 v371 v372 v373 v374 v375 v376 : AV) (H : Heap), C0.iter (r6R4 C0 d a0 a1 a2 a3 a4 v0 v2 b49 b50 b51 v52 v53 v54 b55 b56 v57 v58 v59 b60 b61 v62 v63 v64 b65 b66 v67 v68 v69 x76 x77 x78 x79 b80 v81 v205 x206 v207 v208 x209 b210 b211 v212 v213 v214 v215 v216 v217 b218 b219 v220 v221 v222 v223 v224 v225 b226 b227 v228 v229 v230 v231 v232 v233 b234 b235 v236 v237 v238 v239 x243 x252 v289 k291 b293 b294 v325 v326 v327 v328 v329 v330 v331 v332 v333 x338 x339 v340 x346 v347 x352 x353 v354) n ⟨[(.lst a0), (.agg [(iz a1), (iz a2)]), (.agg [(iz a3), (iz a4)]), tz, v0, v2, (.bool b293), v81, (.bool b80), (.bool b294), (iz x252), v340, v354, (.bool b49), (.bool b50), (.bool b51), v52, v53, v54, (.bool b55), (.bool b56), v57, v58, v59, (.bool b60), (.bool b61), v62, v63, v64, (.bool b65), (.bool b66), v67, v68, v69, bf, tz, (.tup [(.agg [(iz x76), (iz x77), (iz x78), (iz x79)]), (.bool b80)]), (.lst a0), (.tup [(.agg [(iz x76), (iz x77), (iz x78), (iz x79)]), (.bool b80)]), (.agg [(iz x76), (iz x77), (iz x78), (iz x79)]), (.bool b80), v205, (iz x206), v207, v208, (iz x209), (.bool b210), (.bool b211), v212, v213, v214, v215, v216, v217, (.bool b218), (.bool b219), v220, v221, v222, v223, v224, v225, (.bool b226), (.bool b227), v228, v229, v230, v231, v232, v233, (.bool b234), (.bool b235), v236, v237, v238, v239, bf, (.lst a0), (iz x243), (iz x252), bt, (iz x252), v333, (.agg [(iz x338), (iz x339)]), (.lst a0), (iz x252), (iz (IntKind.wrap .i64 (x252 + 1))), (.lst a0), (iz x346), (iz (Int.tmod (IntKind.wrap .i64 (x252 + 1)) x346)), v347, (.agg [(iz x352), (iz x353)]), v361, v362, v363, v364, v365, v366, v367, v368, v369, v370, v371, v372, v373, v374, v375, v376, v325, v326, v327, v328, v329, v330, v331, v332, v289, tz, tz, tz, tz, tz, tz, tz, tz, tz, tz, tz, tz, tz, tz, tz, tz], H⟩ [2000000] [r6X4_0 C0 d a0 a1 a2 a3 a4 v0 v2 b49 b50 b51 v52 v53 v54 b55 b56 v57 v58 v59 b60 b61 v62 v63 v64 b65 b66 v67 v68 v69 x76 x77 x78 x79 b80 v81 v205 x206 v207 v208 x209 b210 b211 v212 v213 v214 v215 v216 v217 b218 b219 v220 v221 v222 v223 v224 v225 b226 b227 v228 v229 v230 v231 v232 v233 b234 b235 v236 v237 v238 v239 x243 x252 v289 k291 b293 b294 v325 v326 v327 v328 v329 v330 v331 v332 v333 x338 x339 v340 x346 v347 x352 x353 v354] (r6E4 C0 d a0 a1 a2 a3 a4 v0 v2 b49 b50 b51 v52 v53 v54 b55 b56 v57 v58 v59 b60 b61 v62 v63 v64 b65 b66 v67 v68 v69 x76 x77 x78 x79 b80 v81 v205 x206 v207 v208 x209 b210 b211 v212 v213 v214 v215 v216 v217 b218 b219 v220 v221 v222 v223 v224 v225 b226 b227 v228 v229 v230 v231 v232 v233 b234 b235 v236 v237 v238 v239 x243 x252 v289 k291 b293 b294 v325 v326 v327 v328 v329 v330 v331 v332 v333 x338 x339 v340 x346 v347 x352 x353 v354) = L6_4 d a0 v0 v2 b294 v340 v354 k291R k291X0 n H := by
  generalize hR : r6R4 C0 d a0 a1 a2 a3 a4 v0 v2 b49 b50 b51 v52 v53 v54 b55 b56 v57 v58 v59 b60 b61 v62 v63 v64 b65 b66 v67 v68 v69 x76 x77 x78 x79 b80 v81 v205 x206 v207 v208 x209 b210 b211 v212 v213 v214 v215 v216 v217 b218 b219 v220 v221 v222 v223 v224 v225 b226 b227 v228 v229 v230 v231 v232 v233 b234 b235 v236 v237 v238 v239 x243 x252 v289 k291 b293 b294 v325 v326 v327 v328 v329 v330 v331 v332 v333 x338 x339 v340 x346 v347 x352 x353 v354 = R
  intro n
  induction n with
  | zero => intros; rfl
  | succ n ih =>
    intro v361 v362 v363 v364 v365 v366 v367 v368 v369 v370 v371 v372 v373 v374 v375 v376 H
    simp only [it_ret] at ih
    rw [it_ret, xiter_s]
    refine Eq.trans (congrFun (congrFun hR.symm _) _) ?_
    unfold r6R4
    refine Eq.trans (pl_len (by rfl)) ?_; (iterate 92 (refine yt yS ?_)); (iterate 16 (refine yt yA ?_)); (iterate 25 (refine yt yS ?_))
    simp only [L6_4, kIter_n, kIter_x, kIter_r, kOut_x, kOut_r, xgo_hit, xgo_miss, ih, X6_4_0_ok d a0 a1 a2 a3 a4 v0 v2 b49 b50 b51 v52 v53 v54 b55 b56 v57 v58 v59 b60 b61 v62 v63 v64 b65 b66 v67 v68 v69 x76 x77 x78 x79 b80 v81 v205 x206 v207 v208 x209 b210 b211 v212 v213 v214 v215 v216 v217 b218 b219 v220 v221 v222 v223 v224 v225 b226 b227 v228 v229 v230 v231 v232 v233 b234 b235 v236 v237 v238 v239 x243 x252 v289 k291 b293 b294 v325 v326 v327 v328 v329 v330 v331 v332 v333 x338 x339 v340 x346 v347 x352 x353 v354 k291R k291X0 hk291R hk291X0, E6_4_ok d a0 a1 a2 a3 a4 v0 v2 b49 b50 b51 v52 v53 v54 b55 b56 v57 v58 v59 b60 b61 v62 v63 v64 b65 b66 v67 v68 v69 x76 x77 x78 x79 b80 v81 v205 x206 v207 v208 x209 b210 b211 v212 v213 v214 v215 v216 v217 b218 b219 v220 v221 v222 v223 v224 v225 b226 b227 v228 v229 v230 v231 v232 v233 b234 b235 v236 v237 v238 v239 x243 x252 v289 k291 b293 b294 v325 v326 v327 v328 v329 v330 v331 v332 v333 x338 x339 v340 x346 v347 x352 x353 v354 k291R k291X0 hk291R hk291X0]
noncomputable def X6_3_0 (d : Nat) (a0 : List AV) (v0 v2 : AV) (x252 : Int) (k245N : Bool → Int → Heap → Ans) (k245R : Bool → Heap → Ans) (b467 : Bool) (H : Heap) : Ans :=
  k245N b467 (IntKind.wrap .i64 (x252 + 1)) H
theorem X6_3_0_ok (d : Nat) (a0 : List AV) (a1 a2 a3 a4 : Int) (v0 v2 : AV) (b49 b50 b51 : Bool) (v52 v53 v54 : AV) (b55 b56 : Bool) (v57 v58 v59 : AV) (b60 b61 : Bool) (v62 v63 v64 : AV) (b65 b66 : Bool) (v67 v68 v69 : AV) (x76 x77 x78 x79 : Int) (b80 : Bool) (v81 v205 : AV) (x206 : Int) (v207 v208 : AV) (x209 : Int) (b210 b211 : Bool) (v212 v213 v214 v215 v216 v217 : AV) (b218 b219 : Bool) (v220 v221 v222 v223 v224 v225 : AV) (b226 b227 : Bool) (v228 v229 v230 v231 v232 v233 : AV) (b234 b235 : Bool) (v236 v237 v238 v239 : AV) (x243 : Int) (k245 : Ex → St → Ans) (x252 : Int) (v289 : AV) (k245N : Bool → Int → Heap → Ans) (k245R : Bool → Heap → Ans) (hk245N : ∀ (b247 b248 : Bool) (v249 v250 v251 : AV) (x252 : Int) (v253 v254 v255 v256 v257 v258 v259 v260 v261 v262 v263 v264 v265 v266 v267 v268 v269 v270 v271 v272 v273 v274 v275 v276 v277 v278 v279 v280 v281 v282 v283 v284 v285 v286 v287 v288 v289 : AV) (H : Heap), k245 .normal ⟨[(.lst a0), (.agg [(iz a1), (iz a2)]), (.agg [(iz a3), (iz a4)]), tz, v0, v2, (.bool b247), v81, (.bool b80), (.bool b248), v249, v250, v251, (.bool b49), (.bool b50), (.bool b51), v52, v53, v54, (.bool b55), (.bool b56), v57, v58, v59, (.bool b60), (.bool b61), v62, v63, v64, (.bool b65), (.bool b66), v67, v68, v69, bf, tz, (.tup [(.agg [(iz x76), (iz x77), (iz x78), (iz x79)]), (.bool b80)]), (.lst a0), (.tup [(.agg [(iz x76), (iz x77), (iz x78), (iz x79)]), (.bool b80)]), (.agg [(iz x76), (iz x77), (iz x78), (iz x79)]), (.bool b80), v205, (iz x206), v207, v208, (iz x209), (.bool b210), (.bool b211), v212, v213, v214, v215, v216, v217, (.bool b218), (.bool b219), v220, v221, v222, v223, v224, v225, (.bool b226), (.bool b227), v228, v229, v230, v231, v232, v233, (.bool b234), (.bool b235), v236, v237, v238, v239, bf, (.lst a0), (iz x243), (iz x252), v253, v254, v255, v256, v257, v258, v259, v260, v261, v262, v263, v264, v265, v266, v267, v268, v269, v270, v271, v272, v273, v274, v275, v276, v277, v278, v279, v280, v281, v282, v283, v284, v285, v286, v287, v288, v289, tz, tz, tz, tz, tz, tz, tz, tz, tz, tz, tz, tz, tz, tz, tz, tz], H⟩ = k245N b248 x252 H) (hk245R : ∀ (b681 b682 : Bool) (x683 : Int) (v684 v685 : AV) (x686 : Int) (v687 : AV) (x688 : Int) (v689 : AV) (x691 x692 : Int) (v693 : AV) (x694 x695 : Int) (v696 : AV) (x697 x698 : Int) (v699 : AV) (x701 x702 : Int) (v703 : AV) (x705 x706 x707 : Int) (b708 b709 : Bool) (v710 v711 v712 v713 v714 v715 v716 v717 v718 v719 : AV) (b720 : Bool) (v721 v722 v723 v724 v725 v726 v727 v728 v729 : AV) (H : Heap), k245 .ret ⟨[(.lst a0), (.agg [(iz a1), (iz a2)]), (.agg [(iz a3), (iz a4)]), tz, v0, v2, (.bool b681), v81, (.bool b80), (.bool b682), (iz x683), v684, v685, (.bool b49), (.bool b50), (.bool b51), v52, v53, v54, (.bool b55), (.bool b56), v57, v58, v59, (.bool b60), (.bool b61), v62, v63, v64, (.bool b65), (.bool b66), v67, v68, v69, bf, tz, (.tup [(.agg [(iz x76), (iz x77), (iz x78), (iz x79)]), (.bool b80)]), (.lst a0), (.tup [(.agg [(iz x76), (iz x77), (iz x78), (iz x79)]), (.bool b80)]), (.agg [(iz x76), (iz x77), (iz x78), (iz x79)]), (.bool b80), v205, (iz x206), v207, v208, (iz x209), (.bool b210), (.bool b211), v212, v213, v214, v215, v216, v217, (.bool b218), (.bool b219), v220, v221, v222, v223, v224, v225, (.bool b226), (.bool b227), v228, v229, v230, v231, v232, v233, (.bool b234), (.bool b235), v236, v237, v238, v239, bf, (.lst a0), (iz x243), (iz x686), v687, (iz x688), v689, (.agg [(iz x691), (iz x692)]), v693, (iz x694), (iz x695), v696, (iz x697), (iz x698), v699, (.agg [(iz x701), (iz x702)]), v703, (.agg [(iz x705), (iz x706)]), (iz x707), (.bool b708), (.bool b709), v710, v711, v712, v713, v714, v715, v716, v717, v718, v719, (.bool b720), v721, v722, v723, v724, v725, v726, v727, v728, v729, tz, tz, tz, tz, tz, tz, tz, tz, tz, tz, tz, tz, tz, tz, tz, tz], H⟩ = k245R b681 H) (b466 b467 : Bool) (x468 : Int) (v469 v470 : AV) (x471 : Int) (v472 : AV) (x474 x475 : Int) (v476 : AV) (x477 x478 : Int) (v479 : AV) (x480 x481 : Int) (v482 : AV) (x484 x485 : Int) (v486 : AV) (x488 x489 x490 : Int) (b491 b492 : Bool) (v493 v494 v495 v496 v497 v498 v499 v500 v501 v502 : AV) (b503 b504 b505 : Bool) (v506 v507 v508 v509 v510 : AV) (b511 : Bool) (H : Heap) : r6X3_0 C0 d a0 a1 a2 a3 a4 v0 v2 b49 b50 b51 v52 v53 v54 b55 b56 v57 v58 v59 b60 b61 v62 v63 v64 b65 b66 v67 v68 v69 x76 x77 x78 x79 b80 v81 v205 x206 v207 v208 x209 b210 b211 v212 v213 v214 v215 v216 v217 b218 b219 v220 v221 v222 v223 v224 v225 b226 b227 v228 v229 v230 v231 v232 v233 b234 b235 v236 v237 v238 v239 x243 k245 x252 v289 ⟨[(.lst a0), (.agg [(iz a1), (iz a2)]), (.agg [(iz a3), (iz a4)]), tz, v0, v2, (.bool b466), v81, (.bool b80), (.bool b467), (iz x468), v469, v470, (.bool b49), (.bool b50), (.bool b51), v52, v53, v54, (.bool b55), (.bool b56), v57, v58, v59, (.bool b60), (.bool b61), v62, v63, v64, (.bool b65), (.bool b66), v67, v68, v69, bf, tz, (.tup [(.agg [(iz x76), (iz x77), (iz x78), (iz x79)]), (.bool b80)]), (.lst a0), (.tup [(.agg [(iz x76), (iz x77), (iz x78), (iz x79)]), (.bool b80)]), (.agg [(iz x76), (iz x77), (iz x78), (iz x79)]), (.bool b80), v205, (iz x206), v207, v208, (iz x209), (.bool b210), (.bool b211), v212, v213, v214, v215, v216, v217, (.bool b218), (.bool b219), v220, v221, v222, v223, v224, v225, (.bool b226), (.bool b227), v228, v229, v230, v231, v232, v233, (.bool b234), (.bool b235), v236, v237, v238, v239, bf, (.lst a0), (iz x243), (iz x252), bt, (iz x471), v472, (.agg [(iz x474), (iz x475)]), v476, (iz x477), (iz x478), v479, (iz x480), (iz x481), v482, (.agg [(iz x484), (iz x485)]), v486, (.agg [(iz x488), (iz x489)]), (iz x490), (.bool b491), (.bool b492), v493, v494, v495, v496, v497, v498, v499, v500, v501, v502, (.bool b503), (.bool b504), (.bool b505), v506, v507, v508, v509, v510, (.bool b511), v289, tz, tz, tz, tz, tz, tz, tz, tz, tz, tz, tz, tz, tz, tz, tz, tz], H⟩ = X6_3_0 d a0 v0 v2 x252 k245N k245R b467 H := by
  try dsimp only at hk245N
  try dsimp only at hk245R
  unfold r6X3_0; refine Eq.trans (pl_len (by rfl)) ?_; (iterate 6 (refine yt yS ?_)); refine yt yB ?_; (iterate 2 (refine yt yS ?_)); refine yt yB ?_; refine yt yI ?_; (iterate 2 (refine yt yA ?_)); (iterate 68 (refine yt yS ?_)); refine yt yI ?_; refine yt yA ?_; refine yt yG ?_; (iterate 2 (refine yt yI ?_)); refine yt yA ?_; (iterate 2 (refine yt yI ?_)); refine yt yA ?_; (iterate 2 (refine yt yI ?_)); refine yt yA ?_; refine yt yG ?_; (iterate 2 (refine yt yI ?_)); refine yt yA ?_; refine yt yG ?_; (iterate 3 (refine yt yI ?_)); (iterate 2 (refine yt yB ?_)); (iterate 10 (refine yt yA ?_)); (iterate 3 (refine yt yB ?_)); (iterate 5 (refine yt yA ?_)); refine yt yB ?_; (iterate 17 (refine yt yS ?_))
  first | (simp only [hk245N, hk245R] <;> rfl) | rfl
noncomputable def E6_3 (d : Nat) (a0 : List AV) (v0 v2 : AV) (x252 : Int) (k245N : Bool → Int → Heap → Ans) (k245R : Bool → Heap → Ans) (b512 : Bool) (H : Heap) : Ans :=
  k245R b512 H
theorem E6_3_ok (d : Nat) (a0 : List AV) (a1 a2 a3 a4 : Int) (v0 v2 : AV) (b49 b50 b51 : Bool) (v52 v53 v54 : AV) (b55 b56 : Bool) (v57 v58 v59 : AV) (b60 b61 : Bool) (v62 v63 v64 : AV) (b65 b66 : Bool) (v67 v68 v69 : AV) (x76 x77 x78 x79 : Int) (b80 : Bool) (v81 v205 : AV) (x206 : Int) (v207 v208 : AV) (x209 : Int) (b210 b211 : Bool) (v212 v213 v214 v215 v216 v217 : AV) (b218 b219 : Bool) (v220 v221 v222 v223 v224 v225 : AV) (b226 b227 : Bool) (v228 v229 v230 v231 v232 v233 : AV) (b234 b235 : Bool) (v236 v237 v238 v239 : AV) (x243 : Int) (k245 : Ex → St → Ans) (x252 : Int) (v289 : AV) (k245N : Bool → Int → Heap → Ans) (k245R : Bool → Heap → Ans) (hk245N : ∀ (b247 b248 : Bool) (v249 v250 v251 : AV) (x252 : Int) (v253 v254 v255 v256 v257 v258 v259 v260 v261 v262 v263 v264 v265 v266 v267 v268 v269 v270 v271 v272 v273 v274 v275 v276 v277 v278 v279 v280 v281 v282 v283 v284 v285 v286 v287 v288 v289 : AV) (H : Heap), k245 .normal ⟨[(.lst a0), (.agg [(iz a1), (iz a2)]), (.agg [(iz a3), (iz a4)]), tz, v0, v2, (.bool b247), v81, (.bool b80), (.bool b248), v249, v250, v251, (.bool b49), (.bool b50), (.bool b51), v52, v53, v54, (.bool b55), (.bool b56), v57, v58, v59, (.bool b60), (.bool b61), v62, v63, v64, (.bool b65), (.bool b66), v67, v68, v69, bf, tz, (.tup [(.agg [(iz x76), (iz x77), (iz x78), (iz x79)]), (.bool b80)]), (.lst a0), (.tup [(.agg [(iz x76), (iz x77), (iz x78), (iz x79)]), (.bool b80)]), (.agg [(iz x76), (iz x77), (iz x78), (iz x79)]), (.bool b80), v205, (iz x206), v207, v208, (iz x209), (.bool b210), (.bool b211), v212, v213, v214, v215, v216, v217, (.bool b218), (.bool b219), v220, v221, v222, v223, v224, v225, (.bool b226), (.bool b227), v228, v229, v230, v231, v232, v233, (.bool b234), (.bool b235), v236, v237, v238, v239, bf, (.lst a0), (iz x243), (iz x252), v253, v254, v255, v256, v257, v258, v259, v260, v261, v262, v263, v264, v265, v266, v267, v268, v269, v270, v271, v272, v273, v274, v275, v276, v277, v278, v279, v280, v281, v282, v283, v284, v285, v286, v287, v288, v289, tz, tz, tz, tz, tz, tz, tz, tz, tz, tz, tz, tz, tz, tz, tz, tz], H⟩ = k245N b248 x252 H) (hk245R : ∀ (b681 b682 : Bool) (x683 : Int) (v684 v685 : AV) (x686 : Int) (v687 : AV) (x688 : Int) (v689 : AV) (x691 x692 : Int) (v693 : AV) (x694 x695 : Int) (v696 : AV) (x697 x698 : Int) (v699 : AV) (x701 x702 : Int) (v703 : AV) (x705 x706 x707 : Int) (b708 b709 : Bool) (v710 v711 v712 v713 v714 v715 v716 v717 v718 v719 : AV) (b720 : Bool) (v721 v722 v723 v724 v725 v726 v727 v728 v729 : AV) (H : Heap), k245 .ret ⟨[(.lst a0), (.agg [(iz a1), (iz a2)]), (.agg [(iz a3), (iz a4)]), tz, v0, v2, (.bool b681), v81, (.bool b80), (.bool b682), (iz x683), v684, v685, (.bool b49), (.bool b50), (.bool b51), v52, v53, v54, (.bool b55), (.bool b56), v57, v58, v59, (.bool b60), (.bool b61), v62, v63, v64, (.bool b65), (.bool b66), v67, v68, v69, bf, tz, (.tup [(.agg [(iz x76), (iz x77), (iz x78), (iz x79)]), (.bool b80)]), (.lst a0), (.tup [(.agg [(iz x76), (iz x77), (iz x78), (iz x79)]), (.bool b80)]), (.agg [(iz x76), (iz x77), (iz x78), (iz x79)]), (.bool b80), v205, (iz x206), v207, v208, (iz x209), (.bool b210), (.bool b211), v212, v213, v214, v215, v216, v217, (.bool b218), (.bool b219), v220, v221, v222, v223, v224, v225, (.bool b226), (.bool b227), v228, v229, v230, v231, v232, v233, (.bool b234), (.bool b235), v236, v237, v238, v239, bf, (.lst a0), (iz x243), (iz x686), v687, (iz x688), v689, (.agg [(iz x691), (iz x692)]), v693, (iz x694), (iz x695), v696, (iz x697), (iz x698), v699, (.agg [(iz x701), (iz x702)]), v703, (.agg [(iz x705), (iz x706)]), (iz x707), (.bool b708), (.bool b709), v710, v711, v712, v713, v714, v715, v716, v717, v718, v719, (.bool b720), v721, v722, v723, v724, v725, v726, v727, v728, v729, tz, tz, tz, tz, tz, tz, tz, tz, tz, tz, tz, tz, tz, tz, tz, tz], H⟩ = k245R b681 H) (b512 b513 : Bool) (x514 : Int) (v515 v516 : AV) (x517 : Int) (v518 : AV) (x520 x521 : Int) (v522 : AV) (x523 x524 : Int) (v525 : AV) (x526 x527 : Int) (v528 : AV) (x530 x531 : Int) (v532 : AV) (x534 x535 x536 : Int) (b537 b538 : Bool) (v539 v540 v541 v542 v543 v544 v545 v546 v547 v548 : AV) (b549 : Bool) (v550 v551 v552 v553 v554 v555 v556 v557 : AV) (H : Heap) : r6E3 C0 d a0 a1 a2 a3 a4 v0 v2 b49 b50 b51 v52 v53 v54 b55 b56 v57 v58 v59 b60 b61 v62 v63 v64 b65 b66 v67 v68 v69 x76 x77 x78 x79 b80 v81 v205 x206 v207 v208 x209 b210 b211 v212 v213 v214 v215 v216 v217 b218 b219 v220 v221 v222 v223 v224 v225 b226 b227 v228 v229 v230 v231 v232 v233 b234 b235 v236 v237 v238 v239 x243 k245 x252 v289 ⟨[(.lst a0), (.agg [(iz a1), (iz a2)]), (.agg [(iz a3), (iz a4)]), tz, v0, v2, (.bool b512), v81, (.bool b80), (.bool b513), (iz x514), v515, v516, (.bool b49), (.bool b50), (.bool b51), v52, v53, v54, (.bool b55), (.bool b56), v57, v58, v59, (.bool b60), (.bool b61), v62, v63, v64, (.bool b65), (.bool b66), v67, v68, v69, bf, tz, (.tup [(.agg [(iz x76), (iz x77), (iz x78), (iz x79)]), (.bool b80)]), (.lst a0), (.tup [(.agg [(iz x76), (iz x77), (iz x78), (iz x79)]), (.bool b80)]), (.agg [(iz x76), (iz x77), (iz x78), (iz x79)]), (.bool b80), v205, (iz x206), v207, v208, (iz x209), (.bool b210), (.bool b211), v212, v213, v214, v215, v216, v217, (.bool b218), (.bool b219), v220, v221, v222, v223, v224, v225, (.bool b226), (.bool b227), v228, v229, v230, v231, v232, v233, (.bool b234), (.bool b235), v236, v237, v238, v239, bf, (.lst a0), (iz x243), (iz x252), bt, (iz x517), v518, (.agg [(iz x520), (iz x521)]), v522, (iz x523), (iz x524), v525, (iz x526), (iz x527), v528, (.agg [(iz x530), (iz x531)]), v532, (.agg [(iz x534), (iz x535)]), (iz x536), (.bool b537), (.bool b538), v539, v540, v541, v542, v543, v544, v545, v546, v547, v548, (.bool b549), v550, v551, v552, v553, v554, v555, v556, v557, v289, tz, tz, tz, tz, tz, tz, tz, tz, tz, tz, tz, tz, tz, tz, tz, tz], H⟩ = E6_3 d a0 v0 v2 x252 k245N k245R b512 H := by
  try dsimp only at hk245N
  try dsimp only at hk245R
  unfold r6E3; refine Eq.trans (pl_len (by rfl)) ?_; (iterate 6 (refine yt yS ?_)); refine yt yB ?_; (iterate 2 (refine yt yS ?_)); refine yt yB ?_; refine yt yI ?_; (iterate 2 (refine yt yA ?_)); (iterate 68 (refine yt yS ?_)); refine yt yI ?_; refine yt yA ?_; refine yt yG ?_; (iterate 2 (refine yt yI ?_)); refine yt yA ?_; (iterate 2 (refine yt yI ?_)); refine yt yA ?_; (iterate 2 (refine yt yI ?_)); refine yt yA ?_; refine yt yG ?_; (iterate 2 (refine yt yI ?_)); refine yt yA ?_; refine yt yG ?_; (iterate 3 (refine yt yI ?_)); (iterate 2 (refine yt yB ?_)); (iterate 10 (refine yt yA ?_)); refine yt yB ?_; (iterate 8 (refine yt yA ?_)); (iterate 17 (refine yt yS ?_))
  first | (simp only [hk245N, hk245R] <;> rfl) | rfl
noncomputable def L6_3 (d : Nat) (a0 : List AV) (v0 v2 : AV) (x252 : Int) (k245N : Bool → Int → Heap → Ans) (k245R : Bool → Heap → Ans) : Nat → Bool → Heap → Ans
  | 0, _, _ => none
  | n + 1, b294, H =>
  C0.hop H (.ixAS .any 2 (.v (.lst a0)) (.v (iz x252))) fun v333 h334 =>
   C0.hop h334 (.load true 2 (.v v333)) fun v335 h336 =>
   C0.agg 2 (some v335) fun l337 =>
   C0.int .i64 l337[0]? fun x338 =>
   C0.int .i64 l337[1]? fun x339 =>
   C0.hop h336 (.alloc E24) fun v340 h341 =>
   C0.hop h341 (.store 2 (.v v340) (.v (.agg [(iz x338), (iz x339)]))) fun v342 h343 =>
   C0.hop h343 (.bk .lenV [(.v (.lst a0))]) fun v344 h345 =>
   C0.int .i64 (some v344) fun x346 =>
   cnd (decide (x346 = 0))
   (none)
   (C0.hop h345 (.ixAS .any 2 (.v (.lst a0)) (.v (iz (Int.tmod (IntKind.wrap .i64 (x252 + 1)) x346)))) fun v347 h348 =>
   C0.hop h348 (.load true 2 (.v v347)) fun v349 h350 =>
   C0.agg 2 (some v349) fun l351 =>
   C0.int .i64 l351[0]? fun x352 =>
   C0.int .i64 l351[1]? fun x353 =>
   C0.hop h350 (.alloc E24) fun v354 h355 =>
   C0.hop h355 (.store 2 (.v v354) (.v (.agg [(iz x352), (iz x353)]))) fun v356 h357 =>
   L6_4 d a0 v0 v2 b294 v340 v354 (fun b512 H => E6_3 d a0 v0 v2 x252 k245N k245R b512 H) (fun b467 H => X6_3_0 d a0 v0 v2 x252 k245N k245R b467 H) 1 h357)
theorem it6_3 (d : Nat) (a0 : List AV) (a1 a2 a3 a4 : Int) (v0 v2 : AV) (b49 b50 b51 : Bool) (v52 v53 v54 : AV) (b55 b56 : Bool) (v57 v58 v59 : AV) (b60 b61 : Bool) (v62 v63 v64 : AV) (b65 b66 : Bool) (v67 v68 v69 : AV) (x76 x77 x78 x79 : Int) (b80 : Bool) (v81 v205 : AV) (x206 : Int) (v207 v208 : AV) (x209 : Int) (b210 b211 : Bool) (v212 v213 v214 v215 v216 v217 : AV) (b218 b219 : Bool) (v220 v221 v222 v223 v224 v225 : AV) (b226 b227 : Bool) (v228 v229 v230 v231 v232 v233 : AV) (b234 b235 : Bool) (v236 v237 v238 v239 : AV) (x243 : Int) (k245 : Ex → St → Ans) (x252 : Int) (v289 : AV) (k245N : Bool → Int → Heap → Ans) (k245R : Bool → Heap → Ans) (hk245N : ∀ (b247 b248 : Bool) (v249 v250 v251 : AV) (x252 : Int) (v253 v254 v255 v256 v257 v258 v259 v260 v261 v262 v263 v264 v265 v266 v267 v268 v269 v270 v271 v272 v273 v274 v275 v276 v277 v278 v279 v280 v281 v282 v283 v284 v285 v286 v287 v288 v289 : AV) (H : Heap), k245 .normal ⟨[(.lst a0), (.agg [(iz a1), (iz a2)]), (.agg [(iz a3), (iz a4)]), tz, v0, v2, (.bool b247), v81, (.bool b80), (.bool b248), v249, v250, v251, (.bool b49), (.bool b50), (.bool b51), v52, v53, v54, (.bool b55), (.bool b56), v57, v58, v59, (.bool b60), (.bool b61), v62, v63, v64, (.bool b65), (.bool b66), v67, v68, v69, bf, tz, (.tup [(.agg [(iz x76), (iz x77), (iz x78), (iz x79)]), (.bool b80)]), (.lst a0), (.tup [(.agg [(iz x76), (iz x77), (iz x78), (iz x79)]), (.bool b80)]), (.agg [(iz x76), (iz x77), (iz x78), (iz x79)]), (.bool b80), v205, (iz x206), v207, v208, (iz x209), (.bool b210), (.bool b211), v212, v213, v214, v215, v216, v217, (.bool b218), (.bool b219), v220, v221, v222, v223, v224, v225, (.bool b226), (.bool b227), v228, v229, v230, v231, v232, v233, (.bool b234), (.bool b235), v236, v237, v238, v239, bf, (.lst a0), (iz x243), (iz x252), v253, v254, v255, v256, v257, v258, v259, v260, v261, v262, v263, v264, v265, v266, v267, v268, v269, v270, v271, v272, v273, v274, v275, v276, v277, v278, v279, v280, v281, v282, v283, v284, v285, v286, v287, v288, v289, tz, tz, tz, tz, tz, tz, tz, tz, tz, tz, tz, tz, tz, tz, tz, tz], H⟩ = k245N b248 x252 H) (hk245R : ∀ (b681 b682 : Bool) (x683 : Int) (v684 v685 : AV) (x686 : Int) (v687 : AV) (x688 : Int) (v689 : AV) (x691 x692 : Int) (v693 : AV) (x694 x695 : Int) (v696 : AV) (x697 x698 : Int) (v699 : AV) (x701 x702 : Int) (v703 : AV) (x705 x706 x707 : Int) (b708 b709 : Bool) (v710 v711 v712 v713 v714 v715 v716 v717 v718 v719 : AV) (b720 : Bool) (v721 v722 v723 v724 v725 v726 v727 v728 v729 : AV) (H : Heap), k245 .ret ⟨[(.lst a0), (.agg [(iz a1), (iz a2)]), (.agg [(iz a3), (iz a4)]), tz, v0, v2, (.bool b681), v81, (.bool b80), (.bool b682), (iz x683), v684, v685, (.bool b49), (.bool b50), (.bool b51), v52, v53, v54, (.bool b55), (.bool b56), v57, v58, v59, (.bool b60), (.bool b61), v62, v63, v64, (.bool b65), (.bool b66), v67, v68, v69, bf, tz, (.tup [(.agg [(iz x76), (iz x77), (iz x78), (iz x79)]), (.bool b80)]), (.lst a0), (.tup [(.agg [(iz x76), (iz x77), (iz x78), (iz x79)]), (.bool b80)]), (.agg [(iz x76), (iz x77), (iz x78), (iz x79)]), (.bool b80), v205, (iz x206), v207, v208, (iz x209), (.bool b210), (.bool b211), v212, v213, v214, v215, v216, v217, (.bool b218), (.bool b219), v220, v221, v222, v223, v224, v225, (.bool b226), (.bool b227), v228, v229, v230, v231, v232, v233, (.bool b234), (.bool b235), v236, v237, v238, v239, bf, (.lst a0), (iz x243), (iz x686), v687, (iz x688), v689, (.agg [(iz x691), (iz x692)]), v693, (iz x694), (iz x695), v696, (iz x697), (iz x698), v699, (.agg [(iz x701), (iz x702)]), v703, (.agg [(iz x705), (iz x706)]), (iz x707), (.bool b708), (.bool b709), v710, v711, v712, v713, v714, v715, v716, v717, v718, v719, (.bool b720), v721, v722, v723, v724, v725, v726, v727, v728, v729, tz, tz, tz, tz, tz, tz, tz, tz, tz, tz, tz, tz, tz, tz, tz, tz], H⟩ = k245R b681 H) : ∀ (n : Nat) (b293 b294 : Bool) (v295 v296 v297 v298 v299 v300 v301 v302 v303 v304 v305 v306 v307 v308 v309 v310 v311 v312 v313 v314 v315 v316 v317 v318 v319 v320 v321 v322 v323 v324 v325 v326 v327 v328 v329 v330 v331 v332 : AV) (H : Heap), C0.iter (r6R3 C0 d a0 a1 a2 a3 a4 v0 v2 b49 b50 b51 v52 v53 v54 b55 b56 v57 v58 v59 b60 b61 v62 v63 v64 b65 b66 v67 v68 v69 x76 x77 x78 x79 b80 v81 v205 x206 v207 v208 x209 b210 b211 v212 v213 v214 v215 v216 v217 b218 b219 v220 v221 v222 v223 v224 v225 b226 b227 v228 v229 v230 v231 v232 v233 b234 b235 v236 v237 v238 v239 x243 k245 x252 v289) n ⟨[(.lst a0), (.agg [(iz a1), (iz a2)]), (.agg [(iz a3), (iz a4)]), tz, v0, v2, (.bool b293), v81, (.bool b80), (.bool b294), v295, v296, v297, (.bool b49), (.bool b50), (.bool b51), v52, v53, v54, (.bool b55), (.bool b56), v57, v58, v59, (.bool b60), (.bool b61), v62, v63, v64, (.bool b65), (.bool b66), v67, v68, v69, bf, tz, (.tup [(.agg [(iz x76), (iz x77), (iz x78), (iz x79)]), (.bool b80)]), (.lst a0), (.tup [(.agg [(iz x76), (iz x77), (iz x78), (iz x79)]), (.bool b80)]), (.agg [(iz x76), (iz x77), (iz x78), (iz x79)]), (.bool b80), v205, (iz x206), v207, v208, (iz x209), (.bool b210), (.bool b211), v212, v213, v214, v215, v216, v217, (.bool b218), (.bool b219), v220, v221, v222, v223, v224, v225, (.bool b226), (.bool b227), v228, v229, v230, v231, v232, v233, (.bool b234), (.bool b235), v236, v237, v238, v239, bf, (.lst a0), (iz x243), (iz x252), bt, v298, v299, v300, v301, v302, v303, v304, v305, v306, v307, v308, v309, v310, v311, v312, v313, v314, v315, v316, v317, v318, v319, v320, v321, v322, v323, v324, v325, v326, v327, v328, v329, v330, v331, v332, v289, tz, tz, tz, tz, tz, tz, tz, tz, tz, tz, tz, tz, tz, tz, tz, tz], H⟩ [2000000] [r6X3_0 C0 d a0 a1 a2 a3 a4 v0 v2 b49 b50 b51 v52 v53 v54 b55 b56 v57 v58 v59 b60 b61 v62 v63 v64 b65 b66 v67 v68 v69 x76 x77 x78 x79 b80 v81 v205 x206 v207 v208 x209 b210 b211 v212 v213 v214 v215 v216 v217 b218 b219 v220 v221 v222 v223 v224 v225 b226 b227 v228 v229 v230 v231 v232 v233 b234 b235 v236 v237 v238 v239 x243 k245 x252 v289] (r6E3 C0 d a0 a1 a2 a3 a4 v0 v2 b49 b50 b51 v52 v53 v54 b55 b56 v57 v58 v59 b60 b61 v62 v63 v64 b65 b66 v67 v68 v69 x76 x77 x78 x79 b80 v81 v205 x206 v207 v208 x209 b210 b211 v212 v213 v214 v215 v216 v217 b218 b219 v220 v221 v222 v223 v224 v225 b226 b227 v228 v229 v230 v231 v232 v233 b234 b235 v236 v237 v238 v239 x243 k245 x252 v289) = L6_3 d a0 v0 v2 x252 k245N k245R n b294 H := by
  generalize hR : r6R3 C0 d a0 a1 a2 a3 a4 v0 v2 b49 b50 b51 v52 v53 v54 b55 b56 v57 v58 v59 b60 b61 v62 v63 v64 b65 b66 v67 v68 v69 x76 x77 x78 x79 b80 v81 v205 x206 v207 v208 x209 b210 b211 v212 v213 v214 v215 v216 v217 b218 b219 v220 v221 v222 v223 v224 v225 b226 b227 v228 v229 v230 v231 v232 v233 b234 b235 v236 v237 v238 v239 x243 k245 x252 v289 = R
  intro n
  induction n with
  | zero => intros; rfl
  | succ n ih =>
    intro b293 b294 v295 v296 v297 v298 v299 v300 v301 v302 v303 v304 v305 v306 v307 v308 v309 v310 v311 v312 v313 v314 v315 v316 v317 v318 v319 v320 v321 v322 v323 v324 v325 v326 v327 v328 v329 v330 v331 v332 H
    simp only [it_ret] at ih
    rw [it_ret, xiter_s]
    refine Eq.trans (congrFun (congrFun hR.symm _) _) ?_
    unfold r6R3
    refine Eq.trans (pl_len (by rfl)) ?_; (iterate 6 (refine yt yS ?_)); refine yt yB ?_; (iterate 2 (refine yt yS ?_)); refine yt yB ?_; (iterate 3 (refine yt yA ?_)); (iterate 68 (refine yt yS ?_)); (iterate 35 (refine yt yA ?_)); (iterate 17 (refine yt yS ?_))
    have I0 := fun (v333 : AV) (x338 x339 : Int) (v340 : AV) (x346 : Int) (v347 : AV) (x352 x353 : Int) (v354 : AV) => it6_4 d a0 a1 a2 a3 a4 v0 v2 b49 b50 b51 v52 v53 v54 b55 b56 v57 v58 v59 b60 b61 v62 v63 v64 b65 b66 v67 v68 v69 x76 x77 x78 x79 b80 v81 v205 x206 v207 v208 x209 b210 b211 v212 v213 v214 v215 v216 v217 b218 b219 v220 v221 v222 v223 v224 v225 b226 b227 v228 v229 v230 v231 v232 v233 b234 b235 v236 v237 v238 v239 x243 x252 v289 (kIter R n (kOut [2000000] [r6X3_0 C0 d a0 a1 a2 a3 a4 v0 v2 b49 b50 b51 v52 v53 v54 b55 b56 v57 v58 v59 b60 b61 v62 v63 v64 b65 b66 v67 v68 v69 x76 x77 x78 x79 b80 v81 v205 x206 v207 v208 x209 b210 b211 v212 v213 v214 v215 v216 v217 b218 b219 v220 v221 v222 v223 v224 v225 b226 b227 v228 v229 v230 v231 v232 v233 b234 b235 v236 v237 v238 v239 x243 k245 x252 v289] (r6E3 C0 d a0 a1 a2 a3 a4 v0 v2 b49 b50 b51 v52 v53 v54 b55 b56 v57 v58 v59 b60 b61 v62 v63 v64 b65 b66 v67 v68 v69 x76 x77 x78 x79 b80 v81 v205 x206 v207 v208 x209 b210 b211 v212 v213 v214 v215 v216 v217 b218 b219 v220 v221 v222 v223 v224 v225 b226 b227 v228 v229 v230 v231 v232 v233 b234 b235 v236 v237 v238 v239 x243 k245 x252 v289))) b293 b294 v325 v326 v327 v328 v329 v330 v331 v332 v333 x338 x339 v340 x346 v347 x352 x353 v354 (fun b512 H => E6_3 d a0 v0 v2 x252 k245N k245R b512 H) (fun b467 H => X6_3_0 d a0 v0 v2 x252 k245N k245R b467 H) (fun b512 b513 x514 v515 v516 x517 v518 x520 x521 v522 x523 x524 v525 x526 x527 v528 x530 x531 v532 x534 x535 x536 b537 b538 v539 v540 v541 v542 v543 v544 v545 v546 v547 v548 b549 v550 v551 v552 v553 v554 v555 v556 v557 H => E6_3_ok d a0 a1 a2 a3 a4 v0 v2 b49 b50 b51 v52 v53 v54 b55 b56 v57 v58 v59 b60 b61 v62 v63 v64 b65 b66 v67 v68 v69 x76 x77 x78 x79 b80 v81 v205 x206 v207 v208 x209 b210 b211 v212 v213 v214 v215 v216 v217 b218 b219 v220 v221 v222 v223 v224 v225 b226 b227 v228 v229 v230 v231 v232 v233 b234 b235 v236 v237 v238 v239 x243 k245 x252 v289 k245N k245R hk245N hk245R b512 b513 x514 v515 v516 x517 v518 x520 x521 v522 x523 x524 v525 x526 x527 v528 x530 x531 v532 x534 x535 x536 b537 b538 v539 v540 v541 v542 v543 v544 v545 v546 v547 v548 b549 v550 v551 v552 v553 v554 v555 v556 v557 H) (fun b466 b467 x468 v469 v470 x471 v472 x474 x475 v476 x477 x478 v479 x480 x481 v482 x484 x485 v486 x488 x489 x490 b491 b492 v493 v494 v495 v496 v497 v498 v499 v500 v501 v502 b503 b504 b505 v506 v507 v508 v509 v510 b511 H => (by simp only [kIter_x, kOut_x, xgo_hit, xgo_miss]; exact X6_3_0_ok d a0 a1 a2 a3 a4 v0 v2 b49 b50 b51 v52 v53 v54 b55 b56 v57 v58 v59 b60 b61 v62 v63 v64 b65 b66 v67 v68 v69 x76 x77 x78 x79 b80 v81 v205 x206 v207 v208 x209 b210 b211 v212 v213 v214 v215 v216 v217 b218 b219 v220 v221 v222 v223 v224 v225 b226 b227 v228 v229 v230 v231 v232 v233 b234 b235 v236 v237 v238 v239 x243 k245 x252 v289 k245N k245R hk245N hk245R b466 b467 x468 v469 v470 x471 v472 x474 x475 v476 x477 x478 v479 x480 x481 v482 x484 x485 v486 x488 x489 x490 b491 b492 v493 v494 v495 v496 v497 v498 v499 v500 v501 v502 b503 b504 b505 v506 v507 v508 v509 v510 b511 H))
    try dsimp only at I0
    simp only [L6_3, kIter_n, kIter_x, kIter_r, kOut_x, kOut_r, xgo_hit, xgo_miss, ih, I0, X6_3_0_ok d a0 a1 a2 a3 a4 v0 v2 b49 b50 b51 v52 v53 v54 b55 b56 v57 v58 v59 b60 b61 v62 v63 v64 b65 b66 v67 v68 v69 x76 x77 x78 x79 b80 v81 v205 x206 v207 v208 x209 b210 b211 v212 v213 v214 v215 v216 v217 b218 b219 v220 v221 v222 v223 v224 v225 b226 b227 v228 v229 v230 v231 v232 v233 b234 b235 v236 v237 v238 v239 x243 k245 x252 v289 k245N k245R hk245N hk245R, E6_3_ok d a0 a1 a2 a3 a4 v0 v2 b49 b50 b51 v52 v53 v54 b55 b56 v57 v58 v59 b60 b61 v62 v63 v64 b65 b66 v67 v68 v69 x76 x77 x78 x79 b80 v81 v205 x206 v207 v208 x209 b210 b211 v212 v213 v214 v215 v216 v217 b218 b219 v220 v221 v222 v223 v224 v225 b226 b227 v228 v229 v230 v231 v232 v233 b234 b235 v236 v237 v238 v239 x243 k245 x252 v289 k245N k245R hk245N hk245R]
noncomputable def X6_7_0 (d : Nat) (a0 : List AV) (v0 v2 : AV) (b560 b647 : Bool) (H : Heap) : Ans :=
  C0.fin H (.bool b647)
theorem X6_7_0_ok (d : Nat) (a0 : List AV) (a1 a2 a3 a4 : Int) (v0 v2 : AV) (b49 b50 b51 : Bool) (v52 v53 v54 : AV) (b55 b56 : Bool) (v57 v58 v59 : AV) (b60 b61 : Bool) (v62 v63 v64 : AV) (b65 b66 : Bool) (v67 v68 v69 : AV) (x76 x77 x78 x79 : Int) (b80 : Bool) (v81 v205 : AV) (x206 : Int) (v207 v208 : AV) (x209 : Int) (b210 b211 : Bool) (v212 v213 v214 v215 v216 v217 : AV) (b218 b219 : Bool) (v220 v221 v222 v223 v224 v225 : AV) (b226 b227 : Bool) (v228 v229 v230 v231 v232 v233 : AV) (b234 b235 : Bool) (v236 v237 v238 v239 : AV) (x243 : Int) (b560 : Bool) (v561 v562 v563 : AV) (x564 : Int) (v565 v566 v567 v568 v569 v570 v571 v572 v573 v574 v575 v576 v577 v578 v579 v580 v581 v582 v583 v584 v585 v586 v587 v588 v589 v590 v591 v592 v593 v594 v595 v596 v597 v598 v599 v600 v601 : AV) (b647 b648 b649 : Bool) (v650 v651 v652 v653 v654 v655 v656 v657 v658 v659 v660 v661 v662 : AV) (b663 : Bool) (H : Heap) : r6X7_0 C0 d a0 a1 a2 a3 a4 v0 v2 b49 b50 b51 v52 v53 v54 b55 b56 v57 v58 v59 b60 b61 v62 v63 v64 b65 b66 v67 v68 v69 x76 x77 x78 x79 b80 v81 v205 x206 v207 v208 x209 b210 b211 v212 v213 v214 v215 v216 v217 b218 b219 v220 v221 v222 v223 v224 v225 b226 b227 v228 v229 v230 v231 v232 v233 b234 b235 v236 v237 v238 v239 x243 b560 v561 v562 v563 x564 v565 v566 v567 v568 v569 v570 v571 v572 v573 v574 v575 v576 v577 v578 v579 v580 v581 v582 v583 v584 v585 v586 v587 v588 v589 v590 v591 v592 v593 v594 v595 v596 v597 v598 v599 v600 v601 ⟨[(.lst a0), (.agg [(iz a1), (iz a2)]), (.agg [(iz a3), (iz a4)]), tz, v0, v2, (.bool b647), v81, (.bool b80), (.bool b560), v561, v562, v563, (.bool b49), (.bool b50), (.bool b51), v52, v53, v54, (.bool b55), (.bool b56), v57, v58, v59, (.bool b60), (.bool b61), v62, v63, v64, (.bool b65), (.bool b66), v67, v68, v69, bf, tz, (.tup [(.agg [(iz x76), (iz x77), (iz x78), (iz x79)]), (.bool b80)]), (.lst a0), (.tup [(.agg [(iz x76), (iz x77), (iz x78), (iz x79)]), (.bool b80)]), (.agg [(iz x76), (iz x77), (iz x78), (iz x79)]), (.bool b80), v205, (iz x206), v207, v208, (iz x209), (.bool b210), (.bool b211), v212, v213, v214, v215, v216, v217, (.bool b218), (.bool b219), v220, v221, v222, v223, v224, v225, (.bool b226), (.bool b227), v228, v229, v230, v231, v232, v233, (.bool b234), (.bool b235), v236, v237, v238, v239, bf, (.lst a0), (iz x243), (iz x564), v565, v566, v567, v568, v569, v570, v571, v572, v573, v574, v575, v576, v577, v578, v579, v580, v581, v582, v583, v584, v585, v586, v587, v588, v589, v590, v591, v592, v593, v594, v595, v596, v597, v598, v599, v600, v601, (.bool b648), (.bool b649), v650, v651, v652, v653, v654, v655, v656, v657, v658, v659, v660, v661, v662, (.bool b663)], H⟩ = X6_7_0 d a0 v0 v2 b560 b647 H := by
  unfold r6X7_0; refine Eq.trans (pl_len (by rfl)) ?_; (iterate 6 (refine yt yS ?_)); refine yt yB ?_; (iterate 110 (refine yt yS ?_)); (iterate 2 (refine yt yB ?_)); (iterate 13 (refine yt yA ?_)); refine yt yB ?_
  rfl
noncomputable def E6_7 (d : Nat) (a0 : List AV) (v0 v2 : AV) (b560 : Bool) (H : Heap) : Ans :=
  none
theorem E6_7_ok (d : Nat) (a0 : List AV) (a1 a2 a3 a4 : Int) (v0 v2 : AV) (b49 b50 b51 : Bool) (v52 v53 v54 : AV) (b55 b56 : Bool) (v57 v58 v59 : AV) (b60 b61 : Bool) (v62 v63 v64 : AV) (b65 b66 : Bool) (v67 v68 v69 : AV) (x76 x77 x78 x79 : Int) (b80 : Bool) (v81 v205 : AV) (x206 : Int) (v207 v208 : AV) (x209 : Int) (b210 b211 : Bool) (v212 v213 v214 v215 v216 v217 : AV) (b218 b219 : Bool) (v220 v221 v222 v223 v224 v225 : AV) (b226 b227 : Bool) (v228 v229 v230 v231 v232 v233 : AV) (b234 b235 : Bool) (v236 v237 v238 v239 : AV) (x243 : Int) (b560 : Bool) (v561 v562 v563 : AV) (x564 : Int) (v565 v566 v567 v568 v569 v570 v571 v572 v573 v574 v575 v576 v577 v578 v579 v580 v581 v582 v583 v584 v585 v586 v587 v588 v589 v590 v591 v592 v593 v594 v595 v596 v597 v598 v599 v600 v601 : AV) (b664 : Bool) (v665 v666 v667 v668 v669 v670 v671 v672 v673 v674 v675 v676 v677 v678 v679 v680 : AV) (H : Heap) : r6E7 C0 d a0 a1 a2 a3 a4 v0 v2 b49 b50 b51 v52 v53 v54 b55 b56 v57 v58 v59 b60 b61 v62 v63 v64 b65 b66 v67 v68 v69 x76 x77 x78 x79 b80 v81 v205 x206 v207 v208 x209 b210 b211 v212 v213 v214 v215 v216 v217 b218 b219 v220 v221 v222 v223 v224 v225 b226 b227 v228 v229 v230 v231 v232 v233 b234 b235 v236 v237 v238 v239 x243 b560 v561 v562 v563 x564 v565 v566 v567 v568 v569 v570 v571 v572 v573 v574 v575 v576 v577 v578 v579 v580 v581 v582 v583 v584 v585 v586 v587 v588 v589 v590 v591 v592 v593 v594 v595 v596 v597 v598 v599 v600 v601 ⟨[(.lst a0), (.agg [(iz a1), (iz a2)]), (.agg [(iz a3), (iz a4)]), tz, v0, v2, (.bool b664), v81, (.bool b80), (.bool b560), v561, v562, v563, (.bool b49), (.bool b50), (.bool b51), v52, v53, v54, (.bool b55), (.bool b56), v57, v58, v59, (.bool b60), (.bool b61), v62, v63, v64, (.bool b65), (.bool b66), v67, v68, v69, bf, tz, (.tup [(.agg [(iz x76), (iz x77), (iz x78), (iz x79)]), (.bool b80)]), (.lst a0), (.tup [(.agg [(iz x76), (iz x77), (iz x78), (iz x79)]), (.bool b80)]), (.agg [(iz x76), (iz x77), (iz x78), (iz x79)]), (.bool b80), v205, (iz x206), v207, v208, (iz x209), (.bool b210), (.bool b211), v212, v213, v214, v215, v216, v217, (.bool b218), (.bool b219), v220, v221, v222, v223, v224, v225, (.bool b226), (.bool b227), v228, v229, v230, v231, v232, v233, (.bool b234), (.bool b235), v236, v237, v238, v239, bf, (.lst a0), (iz x243), (iz x564), v565, v566, v567, v568, v569, v570, v571, v572, v573, v574, v575, v576, v577, v578, v579, v580, v581, v582, v583, v584, v585, v586, v587, v588, v589, v590, v591, v592, v593, v594, v595, v596, v597, v598, v599, v600, v601, v665, v666, v667, v668, v669, v670, v671, v672, v673, v674, v675, v676, v677, v678, v679, v680], H⟩ = E6_7 d a0 v0 v2 b560 H := by
  unfold r6E7; refine Eq.trans (pl_len (by rfl)) ?_; (iterate 6 (refine yt yS ?_)); refine yt yB ?_; (iterate 110 (refine yt yS ?_)); (iterate 16 (refine yt yA ?_))
  rfl
noncomputable def L6_7 (d : Nat) (a0 : List AV) (v0 v2 : AV) (b560 : Bool) : Nat → Heap → Ans
  | 0, _ => none
  | n + 1, H =>
  cnd b560
   (X6_7_0 d a0 v0 v2 b560 true H)
   (C0.hop H (.load true 2 (.v v0)) fun v622 h623 =>
   C0.agg 2 (some v622) fun l624 =>
   C0.int .i64 l624[0]? fun x625 =>
   C0.int .i64 l624[1]? fun x626 =>
   C0.snp h623 [(.lst a0), (.agg [(iz x625), (iz x626)])] fun l627 b628 =>
   C0.int .i64 (pcall M d 16 l627) fun x629 =>
   cnd (b628 || true)
   (C0.hop h623 (.load true 2 (.v v2)) fun v630 h631 =>
   C0.agg 2 (some v630) fun l632 =>
   C0.int .i64 l632[0]? fun x633 =>
   C0.int .i64 l632[1]? fun x634 =>
   C0.snp h631 [(.lst a0), (.agg [(iz x633), (iz x634)])] fun l635 b636 =>
   C0.int .i64 (pcall M d 16 l635) fun x637 =>
   cnd (b636 || true)
   (cnd (x629 == x637)
   (C0.hop h631 (.load true 2 (.v v0)) fun v638 h639 =>
   C0.agg 2 (some v638) fun l640 =>
   C0.int .i64 l640[0]? fun x641 =>
   C0.int .i64 l640[1]? fun x642 =>
   C0.snp h639 [(.lst a0), (.agg [(iz x641), (iz x642)])] fun l643 b644 =>
   C0.int .i64 (pcall M d 16 l643) fun x645 =>
   cnd (b644 || true)
   (X6_7_0 d a0 v0 v2 b560 (x645 != 0) h639)
   (none))
   (X6_7_0 d a0 v0 v2 b560 false h631))
   (none))
   (none))
theorem it6_7 (d : Nat) (a0 : List AV) (a1 a2 a3 a4 : Int) (v0 v2 : AV) (b49 b50 b51 : Bool) (v52 v53 v54 : AV) (b55 b56 : Bool) (v57 v58 v59 : AV) (b60 b61 : Bool) (v62 v63 v64 : AV) (b65 b66 : Bool) (v67 v68 v69 : AV) (x76 x77 x78 x79 : Int) (b80 : Bool) (v81 v205 : AV) (x206 : Int) (v207 v208 : AV) (x209 : Int) (b210 b211 : Bool) (v212 v213 v214 v215 v216 v217 : AV) (b218 b219 : Bool) (v220 v221 v222 v223 v224 v225 : AV) (b226 b227 : Bool) (v228 v229 v230 v231 v232 v233 : AV) (b234 b235 : Bool) (v236 v237 v238 v239 : AV) (x243 : Int) (b560 : Bool) (v561 v562 v563 : AV) (x564 : Int) (v565 v566 v567 v568 v569 v570 v571 v572 v573 v574 v575 v576 v577 v578 v579 v580 v581 v582 v583 v584 v585 v586 v587 v588 v589 v590 v591 v592 v593 v594 v595 v596 v597 v598 v599 v600 v601 : AV)   : ∀ (n : Nat) (b605 : Bool) (v606 v607 v608 v609 v610 v611 v612 v613 v614 v615 v616 v617 v618 v619 v620 v621 : AV) (H : Heap), C0.iter (r6R7 C0 d a0 a1 a2 a3 a4 v0 v2 b49 b50 b51 v52 v53 v54 b55 b56 v57 v58 v59 b60 b61 v62 v63 v64 b65 b66 v67 v68 v69 x76 x77 x78 x79 b80 v81 v205 x206 v207 v208 x209 b210 b211 v212 v213 v214 v215 v216 v217 b218 b219 v220 v221 v222 v223 v224 v225 b226 b227 v228 v229 v230 v231 v232 v233 b234 b235 v236 v237 v238 v239 x243 b560 v561 v562 v563 x564 v565 v566 v567 v568 v569 v570 v571 v572 v573 v574 v575 v576 v577 v578 v579 v580 v581 v582 v583 v584 v585 v586 v587 v588 v589 v590 v591 v592 v593 v594 v595 v596 v597 v598 v599 v600 v601) n ⟨[(.lst a0), (.agg [(iz a1), (iz a2)]), (.agg [(iz a3), (iz a4)]), tz, v0, v2, (.bool b605), v81, (.bool b80), (.bool b560), v561, v562, v563, (.bool b49), (.bool b50), (.bool b51), v52, v53, v54, (.bool b55), (.bool b56), v57, v58, v59, (.bool b60), (.bool b61), v62, v63, v64, (.bool b65), (.bool b66), v67, v68, v69, bf, tz, (.tup [(.agg [(iz x76), (iz x77), (iz x78), (iz x79)]), (.bool b80)]), (.lst a0), (.tup [(.agg [(iz x76), (iz x77), (iz x78), (iz x79)]), (.bool b80)]), (.agg [(iz x76), (iz x77), (iz x78), (iz x79)]), (.bool b80), v205, (iz x206), v207, v208, (iz x209), (.bool b210), (.bool b211), v212, v213, v214, v215, v216, v217, (.bool b218), (.bool b219), v220, v221, v222, v223, v224, v225, (.bool b226), (.bool b227), v228, v229, v230, v231, v232, v233, (.bool b234), (.bool b235), v236, v237, v238, v239, bf, (.lst a0), (iz x243), (iz x564), v565, v566, v567, v568, v569, v570, v571, v572, v573, v574, v575, v576, v577, v578, v579, v580, v581, v582, v583, v584, v585, v586, v587, v588, v589, v590, v591, v592, v593, v594, v595, v596, v597, v598, v599, v600, v601, v606, v607, v608, v609, v610, v611, v612, v613, v614, v615, v616, v617, v618, v619, v620, v621], H⟩ [2000000] [r6X7_0 C0 d a0 a1 a2 a3 a4 v0 v2 b49 b50 b51 v52 v53 v54 b55 b56 v57 v58 v59 b60 b61 v62 v63 v64 b65 b66 v67 v68 v69 x76 x77 x78 x79 b80 v81 v205 x206 v207 v208 x209 b210 b211 v212 v213 v214 v215 v216 v217 b218 b219 v220 v221 v222 v223 v224 v225 b226 b227 v228 v229 v230 v231 v232 v233 b234 b235 v236 v237 v238 v239 x243 b560 v561 v562 v563 x564 v565 v566 v567 v568 v569 v570 v571 v572 v573 v574 v575 v576 v577 v578 v579 v580 v581 v582 v583 v584 v585 v586 v587 v588 v589 v590 v591 v592 v593 v594 v595 v596 v597 v598 v599 v600 v601] (r6E7 C0 d a0 a1 a2 a3 a4 v0 v2 b49 b50 b51 v52 v53 v54 b55 b56 v57 v58 v59 b60 b61 v62 v63 v64 b65 b66 v67 v68 v69 x76 x77 x78 x79 b80 v81 v205 x206 v207 v208 x209 b210 b211 v212 v213 v214 v215 v216 v217 b218 b219 v220 v221 v222 v223 v224 v225 b226 b227 v228 v229 v230 v231 v232 v233 b234 b235 v236 v237 v238 v239 x243 b560 v561 v562 v563 x564 v565 v566 v567 v568 v569 v570 v571 v572 v573 v574 v575 v576 v577 v578 v579 v580 v581 v582 v583 v584 v585 v586 v587 v588 v589 v590 v591 v592 v593 v594 v595 v596 v597 v598 v599 v600 v601) = L6_7 d a0 v0 v2 b560 n H := by
  generalize hR : r6R7 C0 d a0 a1 a2 a3 a4 v0 v2 b49 b50 b51 v52 v53 v54 b55 b56 v57 v58 v59 b60 b61 v62 v63 v64 b65 b66 v67 v68 v69 x76 x77 x78 x79 b80 v81 v205 x206 v207 v208 x209 b210 b211 v212 v213 v214 v215 v216 v217 b218 b219 v220 v221 v222 v223 v224 v225 b226 b227 v228 v229 v230 v231 v232 v233 b234 b235 v236 v237 v238 v239 x243 b560 v561 v562 v563 x564 v565 v566 v567 v568 v569 v570 v571 v572 v573 v574 v575 v576 v577 v578 v579 v580 v581 v582 v583 v584 v585 v586 v587 v588 v589 v590 v591 v592 v593 v594 v595 v596 v597 v598 v599 v600 v601 = R
  intro n
  induction n with
  | zero => intros; rfl
  | succ n ih =>
    intro b605 v606 v607 v608 v609 v610 v611 v612 v613 v614 v615 v616 v617 v618 v619 v620 v621 H
    simp only [it_ret] at ih
    rw [it_ret, xiter_s]
    refine Eq.trans (congrFun (congrFun hR.symm _) _) ?_
    unfold r6R7
    refine Eq.trans (pl_len (by rfl)) ?_; (iterate 6 (refine yt yS ?_)); refine yt yB ?_; (iterate 110 (refine yt yS ?_)); (iterate 16 (refine yt yA ?_))
    simp only [L6_7, kIter_n, kIter_x, kIter_r, kOut_x, kOut_r, xgo_hit, xgo_miss, ih, X6_7_0_ok d a0 a1 a2 a3 a4 v0 v2 b49 b50 b51 v52 v53 v54 b55 b56 v57 v58 v59 b60 b61 v62 v63 v64 b65 b66 v67 v68 v69 x76 x77 x78 x79 b80 v81 v205 x206 v207 v208 x209 b210 b211 v212 v213 v214 v215 v216 v217 b218 b219 v220 v221 v222 v223 v224 v225 b226 b227 v228 v229 v230 v231 v232 v233 b234 b235 v236 v237 v238 v239 x243 b560 v561 v562 v563 x564 v565 v566 v567 v568 v569 v570 v571 v572 v573 v574 v575 v576 v577 v578 v579 v580 v581 v582 v583 v584 v585 v586 v587 v588 v589 v590 v591 v592 v593 v594 v595 v596 v597 v598 v599 v600 v601  , E6_7_ok d a0 a1 a2 a3 a4 v0 v2 b49 b50 b51 v52 v53 v54 b55 b56 v57 v58 v59 b60 b61 v62 v63 v64 b65 b66 v67 v68 v69 x76 x77 x78 x79 b80 v81 v205 x206 v207 v208 x209 b210 b211 v212 v213 v214 v215 v216 v217 b218 b219 v220 v221 v222 v223 v224 v225 b226 b227 v228 v229 v230 v231 v232 v233 b234 b235 v236 v237 v238 v239 x243 b560 v561 v562 v563 x564 v565 v566 v567 v568 v569 v570 v571 v572 v573 v574 v575 v576 v577 v578 v579 v580 v581 v582 v583 v584 v585 v586 v587 v588 v589 v590 v591 v592 v593 v594 v595 v596 v597 v598 v599 v600 v601  ]
noncomputable def X6_2_0 (d : Nat) (a0 : List AV) (v0 v2 : AV) (x243 : Int) (b560 : Bool) (H : Heap) : Ans :=
  L6_7 d a0 v0 v2 b560 1 H
theorem X6_2_0_ok (d : Nat) (a0 : List AV) (a1 a2 a3 a4 : Int) (v0 v2 : AV) (b49 b50 b51 : Bool) (v52 v53 v54 : AV) (b55 b56 : Bool) (v57 v58 v59 : AV) (b60 b61 : Bool) (v62 v63 v64 : AV) (b65 b66 : Bool) (v67 v68 v69 : AV) (x76 x77 x78 x79 : Int) (b80 : Bool) (v81 v205 : AV) (x206 : Int) (v207 v208 : AV) (x209 : Int) (b210 b211 : Bool) (v212 v213 v214 v215 v216 v217 : AV) (b218 b219 : Bool) (v220 v221 v222 v223 v224 v225 : AV) (b226 b227 : Bool) (v228 v229 v230 v231 v232 v233 : AV) (b234 b235 : Bool) (v236 v237 v238 v239 : AV) (x243 : Int) (b559 b560 : Bool) (v561 v562 v563 : AV) (x564 : Int) (v565 v566 v567 v568 v569 v570 v571 v572 v573 v574 v575 v576 v577 v578 v579 v580 v581 v582 v583 v584 v585 v586 v587 v588 v589 v590 v591 v592 v593 v594 v595 v596 v597 v598 v599 v600 v601 : AV) (H : Heap) : r6X2_0 C0 d a0 a1 a2 a3 a4 v0 v2 b49 b50 b51 v52 v53 v54 b55 b56 v57 v58 v59 b60 b61 v62 v63 v64 b65 b66 v67 v68 v69 x76 x77 x78 x79 b80 v81 v205 x206 v207 v208 x209 b210 b211 v212 v213 v214 v215 v216 v217 b218 b219 v220 v221 v222 v223 v224 v225 b226 b227 v228 v229 v230 v231 v232 v233 b234 b235 v236 v237 v238 v239 x243 ⟨[(.lst a0), (.agg [(iz a1), (iz a2)]), (.agg [(iz a3), (iz a4)]), tz, v0, v2, (.bool b559), v81, (.bool b80), (.bool b560), v561, v562, v563, (.bool b49), (.bool b50), (.bool b51), v52, v53, v54, (.bool b55), (.bool b56), v57, v58, v59, (.bool b60), (.bool b61), v62, v63, v64, (.bool b65), (.bool b66), v67, v68, v69, bf, tz, (.tup [(.agg [(iz x76), (iz x77), (iz x78), (iz x79)]), (.bool b80)]), (.lst a0), (.tup [(.agg [(iz x76), (iz x77), (iz x78), (iz x79)]), (.bool b80)]), (.agg [(iz x76), (iz x77), (iz x78), (iz x79)]), (.bool b80), v205, (iz x206), v207, v208, (iz x209), (.bool b210), (.bool b211), v212, v213, v214, v215, v216, v217, (.bool b218), (.bool b219), v220, v221, v222, v223, v224, v225, (.bool b226), (.bool b227), v228, v229, v230, v231, v232, v233, (.bool b234), (.bool b235), v236, v237, v238, v239, bf, (.lst a0), (iz x243), (iz x564), v565, v566, v567, v568, v569, v570, v571, v572, v573, v574, v575, v576, v577, v578, v579, v580, v581, v582, v583, v584, v585, v586, v587, v588, v589, v590, v591, v592, v593, v594, v595, v596, v597, v598, v599, v600, v601, tz, tz, tz, tz, tz, tz, tz, tz, tz, tz, tz, tz, tz, tz, tz, tz], H⟩ = X6_2_0 d a0 v0 v2 x243 b560 H := by
  unfold r6X2_0; refine Eq.trans (pl_len (by rfl)) ?_; (iterate 6 (refine yt yS ?_)); refine yt yB ?_; (iterate 2 (refine yt yS ?_)); refine yt yB ?_; (iterate 3 (refine yt yA ?_)); (iterate 66 (refine yt yS ?_)); refine yt yI ?_; (iterate 37 (refine yt yA ?_)); (iterate 16 (refine yt yS ?_))
  first | (simp only [it6_7] <;> rfl) | rfl
noncomputable def E6_2 (d : Nat) (a0 : List AV) (v0 v2 : AV) (x243 : Int) (b681 : Bool) (H : Heap) : Ans :=
  C0.fin H (.bool b681)
theorem E6_2_ok (d : Nat) (a0 : List AV) (a1 a2 a3 a4 : Int) (v0 v2 : AV) (b49 b50 b51 : Bool) (v52 v53 v54 : AV) (b55 b56 : Bool) (v57 v58 v59 : AV) (b60 b61 : Bool) (v62 v63 v64 : AV) (b65 b66 : Bool) (v67 v68 v69 : AV) (x76 x77 x78 x79 : Int) (b80 : Bool) (v81 v205 : AV) (x206 : Int) (v207 v208 : AV) (x209 : Int) (b210 b211 : Bool) (v212 v213 v214 v215 v216 v217 : AV) (b218 b219 : Bool) (v220 v221 v222 v223 v224 v225 : AV) (b226 b227 : Bool) (v228 v229 v230 v231 v232 v233 : AV) (b234 b235 : Bool) (v236 v237 v238 v239 : AV) (x243 : Int) (b681 b682 : Bool) (x683 : Int) (v684 v685 : AV) (x686 : Int) (v687 : AV) (x688 : Int) (v689 : AV) (x691 x692 : Int) (v693 : AV) (x694 x695 : Int) (v696 : AV) (x697 x698 : Int) (v699 : AV) (x701 x702 : Int) (v703 : AV) (x705 x706 x707 : Int) (b708 b709 : Bool) (v710 v711 v712 v713 v714 v715 v716 v717 v718 v719 : AV) (b720 : Bool) (v721 v722 v723 v724 v725 v726 v727 v728 v729 : AV) (H : Heap) : r6E2 C0 d a0 a1 a2 a3 a4 v0 v2 b49 b50 b51 v52 v53 v54 b55 b56 v57 v58 v59 b60 b61 v62 v63 v64 b65 b66 v67 v68 v69 x76 x77 x78 x79 b80 v81 v205 x206 v207 v208 x209 b210 b211 v212 v213 v214 v215 v216 v217 b218 b219 v220 v221 v222 v223 v224 v225 b226 b227 v228 v229 v230 v231 v232 v233 b234 b235 v236 v237 v238 v239 x243 ⟨[(.lst a0), (.agg [(iz a1), (iz a2)]), (.agg [(iz a3), (iz a4)]), tz, v0, v2, (.bool b681), v81, (.bool b80), (.bool b682), (iz x683), v684, v685, (.bool b49), (.bool b50), (.bool b51), v52, v53, v54, (.bool b55), (.bool b56), v57, v58, v59, (.bool b60), (.bool b61), v62, v63, v64, (.bool b65), (.bool b66), v67, v68, v69, bf, tz, (.tup [(.agg [(iz x76), (iz x77), (iz x78), (iz x79)]), (.bool b80)]), (.lst a0), (.tup [(.agg [(iz x76), (iz x77), (iz x78), (iz x79)]), (.bool b80)]), (.agg [(iz x76), (iz x77), (iz x78), (iz x79)]), (.bool b80), v205, (iz x206), v207, v208, (iz x209), (.bool b210), (.bool b211), v212, v213, v214, v215, v216, v217, (.bool b218), (.bool b219), v220, v221, v222, v223, v224, v225, (.bool b226), (.bool b227), v228, v229, v230, v231, v232, v233, (.bool b234), (.bool b235), v236, v237, v238, v239, bf, (.lst a0), (iz x243), (iz x686), v687, (iz x688), v689, (.agg [(iz x691), (iz x692)]), v693, (iz x694), (iz x695), v696, (iz x697), (iz x698), v699, (.agg [(iz x701), (iz x702)]), v703, (.agg [(iz x705), (iz x706)]), (iz x707), (.bool b708), (.bool b709), v710, v711, v712, v713, v714, v715, v716, v717, v718, v719, (.bool b720), v721, v722, v723, v724, v725, v726, v727, v728, v729, tz, tz, tz, tz, tz, tz, tz, tz, tz, tz, tz, tz, tz, tz, tz, tz], H⟩ = E6_2 d a0 v0 v2 x243 b681 H := by
  unfold r6E2; refine Eq.trans (pl_len (by rfl)) ?_; (iterate 6 (refine yt yS ?_)); refine yt yB ?_; (iterate 2 (refine yt yS ?_)); refine yt yB ?_; refine yt yI ?_; (iterate 2 (refine yt yA ?_)); (iterate 66 (refine yt yS ?_)); refine yt yI ?_; refine yt yA ?_; refine yt yI ?_; refine yt yA ?_; refine yt yG ?_; (iterate 2 (refine yt yI ?_)); refine yt yA ?_; (iterate 2 (refine yt yI ?_)); refine yt yA ?_; (iterate 2 (refine yt yI ?_)); refine yt yA ?_; refine yt yG ?_; (iterate 2 (refine yt yI ?_)); refine yt yA ?_; refine yt yG ?_; (iterate 3 (refine yt yI ?_)); (iterate 2 (refine yt yB ?_)); (iterate 10 (refine yt yA ?_)); refine yt yB ?_; (iterate 9 (refine yt yA ?_)); (iterate 16 (refine yt yS ?_))
  rfl
noncomputable def L6_2 (d : Nat) (a0 : List AV) (v0 v2 : AV) (x243 : Int) : Nat → Bool → Int → Heap → Ans
  | 0, _, _, _ => none
  | n + 1, b248, x252, H =>
  cnd (decide (x252 < x243))
   (L6_3 d a0 v0 v2 x252 (fun b248 x252 H => L6_2 d a0 v0 v2 x243 n b248 x252 H) (fun b681 H => E6_2 d a0 v0 v2 x243 b681 H) 1 b248 H)
   (X6_2_0 d a0 v0 v2 x243 b248 H)
theorem it6_2 (d : Nat) (a0 : List AV) (a1 a2 a3 a4 : Int) (v0 v2 : AV) (b49 b50 b51 : Bool) (v52 v53 v54 : AV) (b55 b56 : Bool) (v57 v58 v59 : AV) (b60 b61 : Bool) (v62 v63 v64 : AV) (b65 b66 : Bool) (v67 v68 v69 : AV) (x76 x77 x78 x79 : Int) (b80 : Bool) (v81 v205 : AV) (x206 : Int) (v207 v208 : AV) (x209 : Int) (b210 b211 : Bool) (v212 v213 v214 v215 v216 v217 : AV) (b218 b219 : Bool) (v220 v221 v222 v223 v224 v225 : AV) (b226 b227 : Bool) (v228 v229 v230 v231 v232 v233 : AV) (b234 b235 : Bool) (v236 v237 v238 v239 : AV) (x243 : Int)   : ∀ (n : Nat) (b247 b248 : Bool) (v249 v250 v251 : AV) (x252 : Int) (v253 v254 v255 v256 v257 v258 v259 v260 v261 v262 v263 v264 v265 v266 v267 v268 v269 v270 v271 v272 v273 v274 v275 v276 v277 v278 v279 v280 v281 v282 v283 v284 v285 v286 v287 v288 v289 : AV) (H : Heap), C0.iter (r6R2 C0 d a0 a1 a2 a3 a4 v0 v2 b49 b50 b51 v52 v53 v54 b55 b56 v57 v58 v59 b60 b61 v62 v63 v64 b65 b66 v67 v68 v69 x76 x77 x78 x79 b80 v81 v205 x206 v207 v208 x209 b210 b211 v212 v213 v214 v215 v216 v217 b218 b219 v220 v221 v222 v223 v224 v225 b226 b227 v228 v229 v230 v231 v232 v233 b234 b235 v236 v237 v238 v239 x243) n ⟨[(.lst a0), (.agg [(iz a1), (iz a2)]), (.agg [(iz a3), (iz a4)]), tz, v0, v2, (.bool b247), v81, (.bool b80), (.bool b248), v249, v250, v251, (.bool b49), (.bool b50), (.bool b51), v52, v53, v54, (.bool b55), (.bool b56), v57, v58, v59, (.bool b60), (.bool b61), v62, v63, v64, (.bool b65), (.bool b66), v67, v68, v69, bf, tz, (.tup [(.agg [(iz x76), (iz x77), (iz x78), (iz x79)]), (.bool b80)]), (.lst a0), (.tup [(.agg [(iz x76), (iz x77), (iz x78), (iz x79)]), (.bool b80)]), (.agg [(iz x76), (iz x77), (iz x78), (iz x79)]), (.bool b80), v205, (iz x206), v207, v208, (iz x209), (.bool b210), (.bool b211), v212, v213, v214, v215, v216, v217, (.bool b218), (.bool b219), v220, v221, v222, v223, v224, v225, (.bool b226), (.bool b227), v228, v229, v230, v231, v232, v233, (.bool b234), (.bool b235), v236, v237, v238, v239, bf, (.lst a0), (iz x243), (iz x252), v253, v254, v255, v256, v257, v258, v259, v260, v261, v262, v263, v264, v265, v266, v267, v268, v269, v270, v271, v272, v273, v274, v275, v276, v277, v278, v279, v280, v281, v282, v283, v284, v285, v286, v287, v288, v289, tz, tz, tz, tz, tz, tz, tz, tz, tz, tz, tz, tz, tz, tz, tz, tz], H⟩ [0] [r6X2_0 C0 d a0 a1 a2 a3 a4 v0 v2 b49 b50 b51 v52 v53 v54 b55 b56 v57 v58 v59 b60 b61 v62 v63 v64 b65 b66 v67 v68 v69 x76 x77 x78 x79 b80 v81 v205 x206 v207 v208 x209 b210 b211 v212 v213 v214 v215 v216 v217 b218 b219 v220 v221 v222 v223 v224 v225 b226 b227 v228 v229 v230 v231 v232 v233 b234 b235 v236 v237 v238 v239 x243] (r6E2 C0 d a0 a1 a2 a3 a4 v0 v2 b49 b50 b51 v52 v53 v54 b55 b56 v57 v58 v59 b60 b61 v62 v63 v64 b65 b66 v67 v68 v69 x76 x77 x78 x79 b80 v81 v205 x206 v207 v208 x209 b210 b211 v212 v213 v214 v215 v216 v217 b218 b219 v220 v221 v222 v223 v224 v225 b226 b227 v228 v229 v230 v231 v232 v233 b234 b235 v236 v237 v238 v239 x243) = L6_2 d a0 v0 v2 x243 n b248 x252 H := by
  generalize hR : r6R2 C0 d a0 a1 a2 a3 a4 v0 v2 b49 b50 b51 v52 v53 v54 b55 b56 v57 v58 v59 b60 b61 v62 v63 v64 b65 b66 v67 v68 v69 x76 x77 x78 x79 b80 v81 v205 x206 v207 v208 x209 b210 b211 v212 v213 v214 v215 v216 v217 b218 b219 v220 v221 v222 v223 v224 v225 b226 b227 v228 v229 v230 v231 v232 v233 b234 b235 v236 v237 v238 v239 x243 = R
  intro n
  induction n with
  | zero => intros; rfl
  | succ n ih =>
    intro b247 b248 v249 v250 v251 x252 v253 v254 v255 v256 v257 v258 v259 v260 v261 v262 v263 v264 v265 v266 v267 v268 v269 v270 v271 v272 v273 v274 v275 v276 v277 v278 v279 v280 v281 v282 v283 v284 v285 v286 v287 v288 v289 H
    simp only [it_ret] at ih
    rw [it_ret, xiter_s]
    refine Eq.trans (congrFun (congrFun hR.symm _) _) ?_
    unfold r6R2
    refine Eq.trans (pl_len (by rfl)) ?_; (iterate 6 (refine yt yS ?_)); refine yt yB ?_; (iterate 2 (refine yt yS ?_)); refine yt yB ?_; (iterate 3 (refine yt yA ?_)); (iterate 66 (refine yt yS ?_)); refine yt yI ?_; (iterate 37 (refine yt yA ?_)); (iterate 16 (refine yt yS ?_))
    have I0 := it6_3 d a0 a1 a2 a3 a4 v0 v2 b49 b50 b51 v52 v53 v54 b55 b56 v57 v58 v59 b60 b61 v62 v63 v64 b65 b66 v67 v68 v69 x76 x77 x78 x79 b80 v81 v205 x206 v207 v208 x209 b210 b211 v212 v213 v214 v215 v216 v217 b218 b219 v220 v221 v222 v223 v224 v225 b226 b227 v228 v229 v230 v231 v232 v233 b234 b235 v236 v237 v238 v239 x243 (kIter R n (kOut [0] [r6X2_0 C0 d a0 a1 a2 a3 a4 v0 v2 b49 b50 b51 v52 v53 v54 b55 b56 v57 v58 v59 b60 b61 v62 v63 v64 b65 b66 v67 v68 v69 x76 x77 x78 x79 b80 v81 v205 x206 v207 v208 x209 b210 b211 v212 v213 v214 v215 v216 v217 b218 b219 v220 v221 v222 v223 v224 v225 b226 b227 v228 v229 v230 v231 v232 v233 b234 b235 v236 v237 v238 v239 x243] (r6E2 C0 d a0 a1 a2 a3 a4 v0 v2 b49 b50 b51 v52 v53 v54 b55 b56 v57 v58 v59 b60 b61 v62 v63 v64 b65 b66 v67 v68 v69 x76 x77 x78 x79 b80 v81 v205 x206 v207 v208 x209 b210 b211 v212 v213 v214 v215 v216 v217 b218 b219 v220 v221 v222 v223 v224 v225 b226 b227 v228 v229 v230 v231 v232 v233 b234 b235 v236 v237 v238 v239 x243))) x252 v289 (fun b248 x252 H => L6_2 d a0 v0 v2 x243 n b248 x252 H) (fun b681 H => E6_2 d a0 v0 v2 x243 b681 H) (fun b247 b248 v249 v250 v251 x252 v253 v254 v255 v256 v257 v258 v259 v260 v261 v262 v263 v264 v265 v266 v267 v268 v269 v270 v271 v272 v273 v274 v275 v276 v277 v278 v279 v280 v281 v282 v283 v284 v285 v286 v287 v288 v289 H => ih b247 b248 v249 v250 v251 x252 v253 v254 v255 v256 v257 v258 v259 v260 v261 v262 v263 v264 v265 v266 v267 v268 v269 v270 v271 v272 v273 v274 v275 v276 v277 v278 v279 v280 v281 v282 v283 v284 v285 v286 v287 v288 v289 H) (fun b681 b682 x683 v684 v685 x686 v687 x688 v689 x691 x692 v693 x694 x695 v696 x697 x698 v699 x701 x702 v703 x705 x706 x707 b708 b709 v710 v711 v712 v713 v714 v715 v716 v717 v718 v719 b720 v721 v722 v723 v724 v725 v726 v727 v728 v729 H => E6_2_ok d a0 a1 a2 a3 a4 v0 v2 b49 b50 b51 v52 v53 v54 b55 b56 v57 v58 v59 b60 b61 v62 v63 v64 b65 b66 v67 v68 v69 x76 x77 x78 x79 b80 v81 v205 x206 v207 v208 x209 b210 b211 v212 v213 v214 v215 v216 v217 b218 b219 v220 v221 v222 v223 v224 v225 b226 b227 v228 v229 v230 v231 v232 v233 b234 b235 v236 v237 v238 v239 x243   b681 b682 x683 v684 v685 x686 v687 x688 v689 x691 x692 v693 x694 x695 v696 x697 x698 v699 x701 x702 v703 x705 x706 x707 b708 b709 v710 v711 v712 v713 v714 v715 v716 v717 v718 v719 b720 v721 v722 v723 v724 v725 v726 v727 v728 v729 H)
    try dsimp only at I0
    simp only [L6_2, kIter_n, kIter_x, kIter_r, kOut_x, kOut_r, xgo_hit, xgo_miss, ih, I0, X6_2_0_ok d a0 a1 a2 a3 a4 v0 v2 b49 b50 b51 v52 v53 v54 b55 b56 v57 v58 v59 b60 b61 v62 v63 v64 b65 b66 v67 v68 v69 x76 x77 x78 x79 b80 v81 v205 x206 v207 v208 x209 b210 b211 v212 v213 v214 v215 v216 v217 b218 b219 v220 v221 v222 v223 v224 v225 b226 b227 v228 v229 v230 v231 v232 v233 b234 b235 v236 v237 v238 v239 x243  , E6_2_ok d a0 a1 a2 a3 a4 v0 v2 b49 b50 b51 v52 v53 v54 b55 b56 v57 v58 v59 b60 b61 v62 v63 v64 b65 b66 v67 v68 v69 x76 x77 x78 x79 b80 v81 v205 x206 v207 v208 x209 b210 b211 v212 v213 v214 v215 v216 v217 b218 b219 v220 v221 v222 v223 v224 v225 b226 b227 v228 v229 v230 v231 v232 v233 b234 b235 v236 v237 v238 v239 x243  ]
noncomputable def X6_1_0 (d : Nat) (a0 : List AV) (v0 v2 v81 : AV) (b240 : Bool) (H : Heap) : Ans :=
  cnd b240
   (C0.fin H bf)
   (C0.hop H (.bk .lenV [(.v (.lst a0))]) fun v241 h242 =>
   C0.int .i64 (some v241) fun x243 =>
   L6_2 d a0 v0 v2 x243 1000000000000000000 false 0 h242)
theorem X6_1_0_ok (d : Nat) (a0 : List AV) (a1 a2 a3 a4 : Int) (v0 v2 : AV) (b49 b50 b51 : Bool) (v52 v53 v54 : AV) (b55 b56 : Bool) (v57 v58 v59 : AV) (b60 b61 : Bool) (v62 v63 v64 : AV) (b65 b66 : Bool) (v67 v68 v69 : AV) (x76 x77 x78 x79 : Int) (b80 : Bool) (v81 v205 : AV) (x206 : Int) (v207 v208 : AV) (x209 : Int) (b210 b211 : Bool) (v212 v213 v214 v215 v216 v217 : AV) (b218 b219 : Bool) (v220 v221 v222 v223 v224 v225 : AV) (b226 b227 : Bool) (v228 v229 v230 v231 v232 v233 : AV) (b234 b235 : Bool) (v236 v237 v238 v239 : AV) (b240 : Bool) (H : Heap) : r6X1_0 C0 d a0 a1 a2 a3 a4 v0 v2 b49 b50 b51 v52 v53 v54 b55 b56 v57 v58 v59 b60 b61 v62 v63 v64 b65 b66 v67 v68 v69 x76 x77 x78 x79 b80 v81 ⟨[(.lst a0), (.agg [(iz a1), (iz a2)]), (.agg [(iz a3), (iz a4)]), tz, v0, v2, bf, v81, (.bool b80), tz, tz, tz, tz, (.bool b49), (.bool b50), (.bool b51), v52, v53, v54, (.bool b55), (.bool b56), v57, v58, v59, (.bool b60), (.bool b61), v62, v63, v64, (.bool b65), (.bool b66), v67, v68, v69, bf, tz, (.tup [(.agg [(iz x76), (iz x77), (iz x78), (iz x79)]), (.bool b80)]), (.lst a0), (.tup [(.agg [(iz x76), (iz x77), (iz x78), (iz x79)]), (.bool b80)]), (.agg [(iz x76), (iz x77), (iz x78), (iz x79)]), (.bool b80), v205, (iz x206), v207, v208, (iz x209), (.bool b210), (.bool b211), v212, v213, v214, v215, v216, v217, (.bool b218), (.bool b219), v220, v221, v222, v223, v224, v225, (.bool b226), (.bool b227), v228, v229, v230, v231, v232, v233, (.bool b234), (.bool b235), v236, v237, v238, v239, (.bool b240), tz, tz, tz, tz, tz, tz, tz, tz, tz, tz, tz, tz, tz, tz, tz, tz, tz, tz, tz, tz, tz, tz, tz, tz, tz, tz, tz, tz, tz, tz, tz, tz, tz, tz, tz, tz, tz, tz, tz, tz, tz, tz, tz, tz, tz, tz, tz, tz, tz, tz, tz, tz, tz, tz, tz, tz], H⟩ = X6_1_0 d a0 v0 v2 v81 b240 H := by
  unfold r6X1_0; refine Eq.trans (pl_len (by rfl)) ?_; (iterate 41 (refine yt yS ?_)); refine yt yA ?_; refine yt yI ?_; (iterate 2 (refine yt yA ?_)); refine yt yI ?_; (iterate 2 (refine yt yB ?_)); (iterate 6 (refine yt yA ?_)); (iterate 2 (refine yt yB ?_)); (iterate 6 (refine yt yA ?_)); (iterate 2 (refine yt yB ?_)); (iterate 6 (refine yt yA ?_)); (iterate 2 (refine yt yB ?_)); (iterate 4 (refine yt yA ?_)); refine yt yB ?_; (iterate 56 (refine yt yS ?_))
  first | (simp only [it6_2] <;> rfl) | rfl
noncomputable def E6_1 (d : Nat) (a0 : List AV) (v0 v2 v81 : AV) (H : Heap) : Ans :=
  none
theorem E6_1_ok (d : Nat) (a0 : List AV) (a1 a2 a3 a4 : Int) (v0 v2 : AV) (b49 b50 b51 : Bool) (v52 v53 v54 : AV) (b55 b56 : Bool) (v57 v58 v59 : AV) (b60 b61 : Bool) (v62 v63 v64 : AV) (b65 b66 : Bool) (v67 v68 v69 : AV) (x76 x77 x78 x79 : Int) (b80 : Bool) (v81 v730 v731 v732 v733 v734 v735 v736 v737 v738 v739 v740 v741 v742 v743 v744 v745 v746 v747 v748 v749 v750 v751 v752 v753 v754 v755 v756 v757 v758 v759 v760 v761 v762 v763 v764 v765 : AV) (H : Heap) : r6E1 C0 d a0 a1 a2 a3 a4 v0 v2 b49 b50 b51 v52 v53 v54 b55 b56 v57 v58 v59 b60 b61 v62 v63 v64 b65 b66 v67 v68 v69 x76 x77 x78 x79 b80 v81 ⟨[(.lst a0), (.agg [(iz a1), (iz a2)]), (.agg [(iz a3), (iz a4)]), tz, v0, v2, bf, v81, (.bool b80), tz, tz, tz, tz, (.bool b49), (.bool b50), (.bool b51), v52, v53, v54, (.bool b55), (.bool b56), v57, v58, v59, (.bool b60), (.bool b61), v62, v63, v64, (.bool b65), (.bool b66), v67, v68, v69, bf, tz, (.tup [(.agg [(iz x76), (iz x77), (iz x78), (iz x79)]), (.bool b80)]), (.lst a0), (.tup [(.agg [(iz x76), (iz x77), (iz x78), (iz x79)]), (.bool b80)]), (.agg [(iz x76), (iz x77), (iz x78), (iz x79)]), (.bool b80), v730, v731, v732, v733, v734, v735, v736, v737, v738, v739, v740, v741, v742, v743, v744, v745, v746, v747, v748, v749, v750, v751, v752, v753, v754, v755, v756, v757, v758, v759, v760, v761, v762, v763, v764, v765, tz, tz, tz, tz, tz, tz, tz, tz, tz, tz, tz, tz, tz, tz, tz, tz, tz, tz, tz, tz, tz, tz, tz, tz, tz, tz, tz, tz, tz, tz, tz, tz, tz, tz, tz, tz, tz, tz, tz, tz, tz, tz, tz, tz, tz, tz, tz, tz, tz, tz, tz, tz, tz, tz, tz, tz], H⟩ = E6_1 d a0 v0 v2 v81 H := by
  unfold r6E1; refine Eq.trans (pl_len (by rfl)) ?_; (iterate 41 (refine yt yS ?_)); (iterate 36 (refine yt yA ?_)); (iterate 56 (refine yt yS ?_))
  rfl
noncomputable def L6_1 (d : Nat) (a0 : List AV) (v0 v2 v81 : AV) : Nat → Heap → Ans
  | 0, _ => none
  | n + 1, H =>
  C0.hop H (.fldA 0 (.v v0)) fun v124 h125 =>
   C0.hop h125 (.load false 1 (.v v124)) fun v126 h127 =>
   C0.int .i64 (some v126) fun x128 =>
   C0.hop h127 (.fldA 0 (.v v81)) fun v129 h130 =>
   C0.hop h130 (.fldA 0 (.v v129)) fun v131 h132 =>
   C0.hop h132 (.load false 1 (.v v131)) fun v133 h134 =>
   C0.int .i64 (some v133) fun x135 =>
   cnd (decide (x128 < x135))
   (C0.hop h134 (.load true 2 (.v v0)) fun v136 h137 =>
   C0.agg 2 (some v136) fun l138 =>
   C0.int .i64 l138[0]? fun x139 =>
   C0.int .i64 l138[1]? fun x140 =>
   C0.snp h137 [(.lst a0), (.agg [(iz x139), (iz x140)])] fun l141 b142 =>
   C0.int .i64 (pcall M d 16 l141) fun x143 =>
   cnd (b142 || true)
   (X6_1_0 d a0 v0 v2 v81 (x143 != (-1)) h137)
   (none))
   (C0.hop h134 (.fldA 0 (.v v0)) fun v144 h145 =>
   C0.hop h145 (.load false 1 (.v v144)) fun v146 h147 =>
   C0.int .i64 (some v146) fun x148 =>
   C0.hop h147 (.fldA 2 (.v v81)) fun v149 h150 =>
   C0.hop h150 (.fldA 0 (.v v149)) fun v151 h152 =>
   C0.hop h152 (.load false 1 (.v v151)) fun v153 h154 =>
   C0.int .i64 (some v153) fun x155 =>
   cnd (decide (x148 > x155))
   (C0.hop h154 (.load true 2 (.v v0)) fun v156 h157 =>
   C0.agg 2 (some v156) fun l158 =>
   C0.int .i64 l158[0]? fun x159 =>
   C0.int .i64 l158[1]? fun x160 =>
   C0.snp h157 [(.lst a0), (.agg [(iz x159), (iz x160)])] fun l161 b162 =>
   C0.int .i64 (pcall M d 16 l161) fun x163 =>
   cnd (b162 || true)
   (X6_1_0 d a0 v0 v2 v81 (x163 != (-1)) h157)
   (none))
   (C0.hop h154 (.fldA 1 (.v v0)) fun v164 h165 =>
   C0.hop h165 (.load false 1 (.v v164)) fun v166 h167 =>
   C0.int .i64 (some v166) fun x168 =>
   C0.hop h167 (.fldA 0 (.v v81)) fun v169 h170 =>
   C0.hop h170 (.fldA 1 (.v v169)) fun v171 h172 =>
   C0.hop h172 (.load false 1 (.v v171)) fun v173 h174 =>
   C0.int .i64 (some v173) fun x175 =>
   cnd (decide (x168 < x175))
   (C0.hop h174 (.load true 2 (.v v0)) fun v176 h177 =>
   C0.agg 2 (some v176) fun l178 =>
   C0.int .i64 l178[0]? fun x179 =>
   C0.int .i64 l178[1]? fun x180 =>
   C0.snp h177 [(.lst a0), (.agg [(iz x179), (iz x180)])] fun l181 b182 =>
   C0.int .i64 (pcall M d 16 l181) fun x183 =>
   cnd (b182 || true)
   (X6_1_0 d a0 v0 v2 v81 (x183 != (-1)) h177)
   (none))
   (C0.hop h174 (.fldA 1 (.v v0)) fun v184 h185 =>
   C0.hop h185 (.load false 1 (.v v184)) fun v186 h187 =>
   C0.int .i64 (some v186) fun x188 =>
   C0.hop h187 (.fldA 2 (.v v81)) fun v189 h190 =>
   C0.hop h190 (.fldA 1 (.v v189)) fun v191 h192 =>
   C0.hop h192 (.load false 1 (.v v191)) fun v193 h194 =>
   C0.int .i64 (some v193) fun x195 =>
   cnd (decide (x188 > x195))
   (C0.hop h194 (.load true 2 (.v v0)) fun v196 h197 =>
   C0.agg 2 (some v196) fun l198 =>
   C0.int .i64 l198[0]? fun x199 =>
   C0.int .i64 l198[1]? fun x200 =>
   C0.snp h197 [(.lst a0), (.agg [(iz x199), (iz x200)])] fun l201 b202 =>
   C0.int .i64 (pcall M d 16 l201) fun x203 =>
   cnd (b202 || true)
   (X6_1_0 d a0 v0 v2 v81 (x203 != (-1)) h197)
   (none))
   (X6_1_0 d a0 v0 v2 v81 false h194))))
theorem it6_1 (d : Nat) (a0 : List AV) (a1 a2 a3 a4 : Int) (v0 v2 : AV) (b49 b50 b51 : Bool) (v52 v53 v54 : AV) (b55 b56 : Bool) (v57 v58 v59 : AV) (b60 b61 : Bool) (v62 v63 v64 : AV) (b65 b66 : Bool) (v67 v68 v69 : AV) (x76 x77 x78 x79 : Int) (b80 : Bool) (v81 : AV)   : ∀ (n : Nat) (v88 v89 v90 v91 v92 v93 v94 v95 v96 v97 v98 v99 v100 v101 v102 v103 v104 v105 v106 v107 v108 v109 v110 v111 v112 v113 v114 v115 v116 v117 v118 v119 v120 v121 v122 v123 : AV) (H : Heap), C0.iter (r6R1 C0 d a0 a1 a2 a3 a4 v0 v2 b49 b50 b51 v52 v53 v54 b55 b56 v57 v58 v59 b60 b61 v62 v63 v64 b65 b66 v67 v68 v69 x76 x77 x78 x79 b80 v81) n ⟨[(.lst a0), (.agg [(iz a1), (iz a2)]), (.agg [(iz a3), (iz a4)]), tz, v0, v2, bf, v81, (.bool b80), tz, tz, tz, tz, (.bool b49), (.bool b50), (.bool b51), v52, v53, v54, (.bool b55), (.bool b56), v57, v58, v59, (.bool b60), (.bool b61), v62, v63, v64, (.bool b65), (.bool b66), v67, v68, v69, bf, tz, (.tup [(.agg [(iz x76), (iz x77), (iz x78), (iz x79)]), (.bool b80)]), (.lst a0), (.tup [(.agg [(iz x76), (iz x77), (iz x78), (iz x79)]), (.bool b80)]), (.agg [(iz x76), (iz x77), (iz x78), (iz x79)]), (.bool b80), v88, v89, v90, v91, v92, v93, v94, v95, v96, v97, v98, v99, v100, v101, v102, v103, v104, v105, v106, v107, v108, v109, v110, v111, v112, v113, v114, v115, v116, v117, v118, v119, v120, v121, v122, v123, tz, tz, tz, tz, tz, tz, tz, tz, tz, tz, tz, tz, tz, tz, tz, tz, tz, tz, tz, tz, tz, tz, tz, tz, tz, tz, tz, tz, tz, tz, tz, tz, tz, tz, tz, tz, tz, tz, tz, tz, tz, tz, tz, tz, tz, tz, tz, tz, tz, tz, tz, tz, tz, tz, tz, tz], H⟩ [2000000] [r6X1_0 C0 d a0 a1 a2 a3 a4 v0 v2 b49 b50 b51 v52 v53 v54 b55 b56 v57 v58 v59 b60 b61 v62 v63 v64 b65 b66 v67 v68 v69 x76 x77 x78 x79 b80 v81] (r6E1 C0 d a0 a1 a2 a3 a4 v0 v2 b49 b50 b51 v52 v53 v54 b55 b56 v57 v58 v59 b60 b61 v62 v63 v64 b65 b66 v67 v68 v69 x76 x77 x78 x79 b80 v81) = L6_1 d a0 v0 v2 v81 n H := by
  generalize hR : r6R1 C0 d a0 a1 a2 a3 a4 v0 v2 b49 b50 b51 v52 v53 v54 b55 b56 v57 v58 v59 b60 b61 v62 v63 v64 b65 b66 v67 v68 v69 x76 x77 x78 x79 b80 v81 = R
  intro n
  induction n with
  | zero => intros; rfl
  | succ n ih =>
    intro v88 v89 v90 v91 v92 v93 v94 v95 v96 v97 v98 v99 v100 v101 v102 v103 v104 v105 v106 v107 v108 v109 v110 v111 v112 v113 v114 v115 v116 v117 v118 v119 v120 v121 v122 v123 H
    simp only [it_ret] at ih
    rw [it_ret, xiter_s]
    refine Eq.trans (congrFun (congrFun hR.symm _) _) ?_
    unfold r6R1
    refine Eq.trans (pl_len (by rfl)) ?_; (iterate 41 (refine yt yS ?_)); (iterate 36 (refine yt yA ?_)); (iterate 56 (refine yt yS ?_))
    simp only [L6_1, kIter_n, kIter_x, kIter_r, kOut_x, kOut_r, xgo_hit, xgo_miss, ih, X6_1_0_ok d a0 a1 a2 a3 a4 v0 v2 b49 b50 b51 v52 v53 v54 b55 b56 v57 v58 v59 b60 b61 v62 v63 v64 b65 b66 v67 v68 v69 x76 x77 x78 x79 b80 v81  , E6_1_ok d a0 a1 a2 a3 a4 v0 v2 b49 b50 b51 v52 v53 v54 b55 b56 v57 v58 v59 b60 b61 v62 v63 v64 b65 b66 v67 v68 v69 x76 x77 x78 x79 b80 v81  ]
noncomputable def X6_0_0 (d : Nat) (a0 : List AV) (v0 v2 : AV) (b70 : Bool) (H : Heap) : Ans :=
  cnd b70
   (C0.bool (pcall M d 9 []) fun b71 =>
   C0.fin H (.bool b71))
   (C0.snp H [(.lst a0)] fun l72 b73 =>
   C0.tup 2 (pcall M d 11 l72) fun l74 =>
   C0.agg 4 l74[0]? fun l75 =>
   C0.int .i64 l75[0]? fun x76 =>
   C0.int .i64 l75[1]? fun x77 =>
   C0.int .i64 l75[2]? fun x78 =>
   C0.int .i64 l75[3]? fun x79 =>
   C0.bool l74[1]? fun b80 =>
   cnd (b73 || true)
   (C0.hop H (.alloc E28) fun v81 h82 =>
   C0.hop h82 (.store 4 (.v v81) (.v (.agg [(iz x76), (iz x77), (iz x78), (iz x79)]))) fun v83 h84 =>
   L6_1 d a0 v0 v2 v81 1 h84)
   (none))
theorem X6_0_0_ok (d : Nat) (a0 : List AV) (a1 a2 a3 a4 : Int) (v0 v2 : AV) (b49 b50 b51 : Bool) (v52 v53 v54 : AV) (b55 b56 : Bool) (v57 v58 v59 : AV) (b60 b61 : Bool) (v62 v63 v64 : AV) (b65 b66 : Bool) (v67 v68 v69 : AV) (b70 : Bool) (H : Heap) : r6X0_0 C0 d a0 a1 a2 a3 a4 v0 v2 ⟨[(.lst a0), (.agg [(iz a1), (iz a2)]), (.agg [(iz a3), (iz a4)]), tz, v0, v2, bf, tz, tz, tz, tz, tz, tz, (.bool b49), (.bool b50), (.bool b51), v52, v53, v54, (.bool b55), (.bool b56), v57, v58, v59, (.bool b60), (.bool b61), v62, v63, v64, (.bool b65), (.bool b66), v67, v68, v69, (.bool b70), tz, tz, tz, tz, tz, tz, tz, tz, tz, tz, tz, tz, tz, tz, tz, tz, tz, tz, tz, tz, tz, tz, tz, tz, tz, tz, tz, tz, tz, tz, tz, tz, tz, tz, tz, tz, tz, tz, tz, tz, tz, tz, tz, tz, tz, tz, tz, tz, tz, tz, tz, tz, tz, tz, tz, tz, tz, tz, tz, tz, tz, tz, tz, tz, tz, tz, tz, tz, tz, tz, tz, tz, tz, tz, tz, tz, tz, tz, tz, tz, tz, tz, tz, tz, tz, tz, tz, tz, tz, tz, tz, tz, tz, tz, tz, tz, tz, tz], H⟩ = X6_0_0 d a0 v0 v2 b70 H := by
  unfold r6X0_0; refine Eq.trans (pl_len (by rfl)) ?_; (iterate 13 (refine yt yS ?_)); (iterate 3 (refine yt yB ?_)); (iterate 3 (refine yt yA ?_)); (iterate 2 (refine yt yB ?_)); (iterate 3 (refine yt yA ?_)); (iterate 2 (refine yt yB ?_)); (iterate 3 (refine yt yA ?_)); (iterate 2 (refine yt yB ?_)); (iterate 3 (refine yt yA ?_)); refine yt yB ?_; (iterate 98 (refine yt yS ?_))
  first | (simp only [it6_1] <;> rfl) | rfl
noncomputable def E6_0 (d : Nat) (a0 : List AV) (v0 v2 : AV) (H : Heap) : Ans :=
  none
theorem E6_0_ok (d : Nat) (a0 : List AV) (a1 a2 a3 a4 : Int) (v0 v2 v766 v767 v768 v769 v770 v771 v772 v773 v774 v775 v776 v777 v778 v779 v780 v781 v782 v783 v784 v785 v786 v787 : AV) (H : Heap) : r6E0 C0 d a0 a1 a2 a3 a4 v0 v2 ⟨[(.lst a0), (.agg [(iz a1), (iz a2)]), (.agg [(iz a3), (iz a4)]), tz, v0, v2, bf, tz, tz, tz, tz, tz, tz, v766, v767, v768, v769, v770, v771, v772, v773, v774, v775, v776, v777, v778, v779, v780, v781, v782, v783, v784, v785, v786, v787, tz, tz, tz, tz, tz, tz, tz, tz, tz, tz, tz, tz, tz, tz, tz, tz, tz, tz, tz, tz, tz, tz, tz, tz, tz, tz, tz, tz, tz, tz, tz, tz, tz, tz, tz, tz, tz, tz, tz, tz, tz, tz, tz, tz, tz, tz, tz, tz, tz, tz, tz, tz, tz, tz, tz, tz, tz, tz, tz, tz, tz, tz, tz, tz, tz, tz, tz, tz, tz, tz, tz, tz, tz, tz, tz, tz, tz, tz, tz, tz, tz, tz, tz, tz, tz, tz, tz, tz, tz, tz, tz, tz, tz, tz, tz, tz, tz, tz], H⟩ = E6_0 d a0 v0 v2 H := by
  unfold r6E0; refine Eq.trans (pl_len (by rfl)) ?_; (iterate 13 (refine yt yS ?_)); (iterate 22 (refine yt yA ?_)); (iterate 98 (refine yt yS ?_))
  rfl
noncomputable def L6_0 (d : Nat) (a0 : List AV) (v0 v2 : AV) : Nat → Heap → Ans
  | 0, _ => none
  | n + 1, H =>
  C0.bool (pcall M d 9 []) fun b29 =>
   cnd (!b29)
   (X6_0_0 d a0 v0 v2 true H)
   (C0.snp H [(.lst a0)] fun l30 b31 =>
   C0.bool (pcall M d 10 l30) fun b32 =>
   cnd (b31 || true)
   (cnd (!b32)
   (X6_0_0 d a0 v0 v2 true H)
   (C0.snp H [(.lst a0)] fun l33 b34 =>
   C0.bool (pcall M d 12 l33) fun b35 =>
   cnd (b34 || true)
   (cnd (!b35)
   (X6_0_0 d a0 v0 v2 true H)
   (C0.hop H (.load true 2 (.v v0)) fun v36 h37 =>
   C0.agg 2 (some v36) fun l38 =>
   C0.int .i64 l38[0]? fun x39 =>
   C0.int .i64 l38[1]? fun x40 =>
   C0.bool (pcall M d 26 [(.agg [(iz x39), (iz x40)])]) fun b41 =>
   cnd (!b41)
   (X6_0_0 d a0 v0 v2 true h37)
   (C0.hop h37 (.load true 2 (.v v2)) fun v42 h43 =>
   C0.agg 2 (some v42) fun l44 =>
   C0.int .i64 l44[0]? fun x45 =>
   C0.int .i64 l44[1]? fun x46 =>
   C0.bool (pcall M d 26 [(.agg [(iz x45), (iz x46)])]) fun b47 =>
   X6_0_0 d a0 v0 v2 (!b47) h43)))
   (none)))
   (none))
theorem it6_0 (d : Nat) (a0 : List AV) (a1 a2 a3 a4 : Int) (v0 v2 : AV)   : ∀ (n : Nat) (v7 v8 v9 v10 v11 v12 v13 v14 v15 v16 v17 v18 v19 v20 v21 v22 v23 v24 v25 v26 v27 v28 : AV) (H : Heap), C0.iter (r6R0 C0 d a0 a1 a2 a3 a4 v0 v2) n ⟨[(.lst a0), (.agg [(iz a1), (iz a2)]), (.agg [(iz a3), (iz a4)]), tz, v0, v2, bf, tz, tz, tz, tz, tz, tz, v7, v8, v9, v10, v11, v12, v13, v14, v15, v16, v17, v18, v19, v20, v21, v22, v23, v24, v25, v26, v27, v28, tz, tz, tz, tz, tz, tz, tz, tz, tz, tz, tz, tz, tz, tz, tz, tz, tz, tz, tz, tz, tz, tz, tz, tz, tz, tz, tz, tz, tz, tz, tz, tz, tz, tz, tz, tz, tz, tz, tz, tz, tz, tz, tz, tz, tz, tz, tz, tz, tz, tz, tz, tz, tz, tz, tz, tz, tz, tz, tz, tz, tz, tz, tz, tz, tz, tz, tz, tz, tz, tz, tz, tz, tz, tz, tz, tz, tz, tz, tz, tz, tz, tz, tz, tz, tz, tz, tz, tz, tz, tz, tz, tz, tz, tz, tz, tz, tz, tz], H⟩ [2000000] [r6X0_0 C0 d a0 a1 a2 a3 a4 v0 v2] (r6E0 C0 d a0 a1 a2 a3 a4 v0 v2) = L6_0 d a0 v0 v2 n H := by
  generalize hR : r6R0 C0 d a0 a1 a2 a3 a4 v0 v2 = R
  intro n
  induction n with
  | zero => intros; rfl
  | succ n ih =>
    intro v7 v8 v9 v10 v11 v12 v13 v14 v15 v16 v17 v18 v19 v20 v21 v22 v23 v24 v25 v26 v27 v28 H
    simp only [it_ret] at ih
    rw [it_ret, xiter_s]
    refine Eq.trans (congrFun (congrFun hR.symm _) _) ?_
    unfold r6R0
    refine Eq.trans (pl_len (by rfl)) ?_; (iterate 13 (refine yt yS ?_)); (iterate 22 (refine yt yA ?_)); (iterate 98 (refine yt yS ?_))
    simp only [L6_0, kIter_n, kIter_x, kIter_r, kOut_x, kOut_r, xgo_hit, xgo_miss, ih, X6_0_0_ok d a0 a1 a2 a3 a4 v0 v2  , E6_0_ok d a0 a1 a2 a3 a4 v0 v2  ]
/-- apogee/apogeelaw11.PolyWays -/
theorem q6 (d : Nat) (a0 : List AV) (a1 a2 a3 a4 : Int) : xcall C0 M unr d 6 [(.lst a0), (.agg [(iz a1), (iz a2)]), (.agg [(iz a3), (iz a4)])] =
  C0.hop [] (.box E24 (.v (.agg [(iz a1), (iz a2)]))) fun v0 h1 =>
  C0.hop h1 (.box E24 (.v (.agg [(iz a3), (iz a4)]))) fun v2 h3 =>
  L6_0 d a0 v0 v2 1 h3 := (r6 C0 d a0 a1 a2 a3 a4).trans (by simp only [it6_0])
end Go.Proofs.Ytkfppigcjdapnaa.AE

namespace Go.Proofs.Ytkfppigcjdapnaa.AE
set_option linter.unusedVariables false
set_option linter.unusedSimpArgs false
set_option linter.constructorNameAsVariable false
open Go Go.WideShapes

/-- The form of a cell. -/
inductive CT where
  | i (k : IntKind)
  | b
  | s
  | sl (ag : Bool) (es : List CT)
mutual
def CTok : CT → AV → Prop
  | .i k, v => ∃ n, v = .int k n ∧ (Lit.int k n).wf = true
  | .b, v => ∃ x, v = .bool x
  | .s, v => ∃ x, v = .str x ∧ x.length ≤ maxLen
  | .sl ag es, v => ∃ l, v = .lst l ∧ l.length ≤ maxLen ∧ ∀ x ∈ l, ∃ cs, (match ag with
    | true => x = .agg cs
    | false => cs = [x]) ∧ CTall es cs
def CTall : List CT → List AV → Prop
  | [], l => l = []
  | c :: cs, l => ∃ x t, l = x :: t ∧ CTok c x ∧ CTall cs t
end
/-- An argument of a form: is it a struct or an array; its cells. -/
def TyOK (ag : Bool) (cs : List CT) (v : AV) : Prop := ∃ l, (match ag with
  | true => v = .agg l
  | false => l = [v]) ∧ CTall cs l
theorem CTall_len : ∀ {cs : List CT} {l : List AV}, CTall cs l → l.length = cs.length
  | [], l, h => by simp only [CTall] at h; subst h; rfl
  | c :: cs, l, h => by
    simp only [CTall] at h
    obtain ⟨x, t, rfl, _, h⟩ := h
    simp [CTall_len h]
theorem CTall_app : ∀ {a b : List CT} {l m : List AV}, CTall a l → CTall b m → CTall (a ++ b) (l ++ m)
  | [], b, l, m, h, h' => by simp only [CTall] at h; subst h; exact h'
  | c :: cs, b, l, m, h, h' => by
    simp only [CTall] at h
    obtain ⟨x, t, rfl, h1, h⟩ := h
    simp only [List.cons_append, CTall]
    exact ⟨x, t ++ m, rfl, h1, CTall_app h h'⟩

section
variable (P : Program)
def ctFs (g : TypeId → Option (List CT)) : List Field → Nat → Option (List CT)
  | [], _ => some []
  | f :: fs, off => if f.offset = off then match g f.type with
      | some l => if P.cellsOf f.type = l.length then match ctFs g fs (off + l.length) with
          | some m => some (l ++ m)
          | none => none
        else none
      | none => none
    else none
def ctOf : Nat → TypeId → Option (List CT)
  | 0, _ => none
  | d + 1, t => match P.underlying t with
    | some (.int k) => some [.i k]
    | some .bool => some [.b]
    | some .string => some [.s]
    | some (.slice e) => match ctOf d e, agB P e with
      | some l, some ag => if P.cellsOf e = l.length ∧ 0 < l.length ∧ (ag || l.length == 1) = true then some [.sl ag l] else none
      | _, _ => none
    | some (.struct fs) => match ctFs P (ctOf d) fs.toList 0 with
      | some l => if P.cellsOf t = l.length then some l else none
      | none => none
    | some (.array n e) => match ctOf d e with
      | some l => if P.cellsOf e = l.length ∧ P.cellsOf t = n * l.length then some (List.replicate n l).flatten else none
      | none => none
    | _ => none
end

section
variable {H : Type} {enc : TypeId × Value → H} {P : Program} {w : World} {base : Nat} {spare : Nat → Bool} {held : Bool}
abbrev noBad : Nat → Prop := fun _ => False

/-- Each cell is told. -/
def Cells (w : World) (avs : List AV) (cs : List Value) : Prop := ∀ (i : Nat) (c : AV) (u : Value), avs[i]? = some c → cs[i]? = some u → FRep w noBad c u

theorem cells_one {c : AV} {u : Value} (h : FRep w noBad c u) : Cells w [c] [u] := by
  intro i a b ha hb
  match i with
  | 0 => cases ha; cases hb; exact h
  | i + 1 => cases ha

theorem ctFs_open {g : TypeId → Option (List CT)} {cs : List Value} (hg : ∀ t l (ds : List Value) fuel x, g t = some l → DataW.trod enc P w base spare held fuel t ds = some x → ∃ avs, avs.length = ds.length ∧ CTall l avs ∧ Cells w avs ds) :
    ∀ (fs : List Field) (off : Nat) (l : List CT), ctFs P g fs off = some l → (∀ f ∈ fs, ∃ fuel y, DataW.trod enc P w base spare held fuel f.type ((cs.drop f.offset).take (P.cellsOf f.type)) = some y) →
      ∃ avs, CTall l avs ∧ Cells w avs (cs.drop off)
  | [], off, l, h, _ => by
    simp only [ctFs] at h; cases h
    exact ⟨[], rfl, fun i c u hc _ => by cases hc⟩
  | f :: fs, off, l, h, ht => by
    simp only [ctFs] at h
    split at h
    · rename_i ho
      split at h <;> (try (cases h; done))
      rename_i l1 h1
      split at h
      · rename_i hn
        split at h <;> (try (cases h; done))
        rename_i m hm
        cases h
        obtain ⟨fuel, y, hy⟩ := ht f (List.mem_cons_self ..)
        obtain ⟨a1, e1, e2, e3⟩ := hg _ _ _ _ _ h1 hy
        obtain ⟨a2, q1, q2⟩ := ctFs_open hg fs (off + l1.length) m hm (fun f hf => ht f (List.mem_cons_of_mem _ hf))
        refine ⟨a1 ++ a2, CTall_app e2 q1, ?_⟩
        have hl : a1.length = l1.length := CTall_len e2
        intro i c u hc hu
        by_cases hi : i < a1.length
        · rw [List.getElem?_append_left hi] at hc
          refine e3 i c u hc ?_
          rw [ho, hn, List.getElem?_take, if_pos (by omega)]; exact hu
        · rw [List.getElem?_append_right (by omega)] at hc
          refine q2 (i - a1.length) c u hc ?_
          rw [List.getElem?_drop] at hu ⊢
          rw [← hu]; congr 1; omega
      · cases h
    · cases h

theorem cells?_at {a : Addr} {n : Nat} {cs : List Value} (h : w.cells? base a n = some cs) : cs.length = n ∧ ∀ j u, cs[j]? = some u → w.cell? (a.add j) = some u := by
  unfold World.cells? at h
  split at h
  · have hl : cs.length = n := by simpa using mapM_some_length h
    refine ⟨hl, fun j u hu => ?_⟩
    have hj : j < n := by
      rcases Nat.lt_or_ge j n with h1 | h1
      · exact h1
      · rw [List.getElem?_eq_none (by omega)] at hu; cases hu
    have := mapM_some_get h j j (by simp [hj])
    rw [hu] at this
    exact this
  · cases h

theorem rng_at {n i j : Nat} (h : (List.range n)[i]? = some j) : i < n ∧ i = j := by
  rcases Nat.lt_or_ge i n with h1 | h1
  · rw [List.getElem?_range h1] at h; exact ⟨h1, Option.some.inj h⟩
  · rw [List.getElem?_eq_none (by simpa using h1)] at h; cases h
theorem add_pl (b o n : Nat) : (⟨b, o, none⟩ : Addr).add n = ⟨b, o + n, none⟩ := by
  unfold Addr.add; split <;> simp_all

theorem open_cells : ∀ (d : Nat) (t : TypeId) (l : List CT) (cs : List Value) (fuel : Nat) (x : DataW H × List MemPlace), ctOf P d t = some l → DataW.trod enc P w base spare held fuel t cs = some x →
    ∃ avs, avs.length = cs.length ∧ CTall l avs ∧ Cells w avs cs
  | 0, t, l, cs, fuel, x, h, _ => by cases h
  | d + 1, t, l, cs, fuel, x, h, ht => by
    simp only [ctOf] at h
    split at h <;> (try (cases h; done))
    · rename_i k hu
      cases h
      obtain ⟨n, rfl, _, hw⟩ := DataW.trod_int hu ht
      exact ⟨[.int k n], rfl, ⟨_, _, rfl, ⟨n, rfl, hw⟩, rfl⟩, cells_one (.int k n)⟩
    · rename_i hu
      cases h
      obtain ⟨b, rfl, _⟩ := DataW.trod_bool hu ht
      exact ⟨[.bool b], rfl, ⟨_, _, rfl, ⟨b, rfl⟩, rfl⟩, cells_one (.bool b)⟩
    · rename_i hu
      cases h
      obtain ⟨s, rfl, _, hs⟩ := DataW.trod_string hu ht
      refine ⟨[.str s.data.toList], rfl, ⟨_, _, rfl, ⟨_, rfl, by simpa using hs⟩, rfl⟩, cells_one ?_⟩
      have := FRep.str (w := w) (bad := noBad) s.data.toList
      simpa using this
    · rename_i e hu
      split at h <;> (try (cases h; done))
      rename_i le ag hle hag
      split at h
      · rename_i hc
        obtain ⟨hc1, hc2, hc3⟩ := hc
        cases h
        rcases DataW.trod_slice hu ht with ⟨rfl, _⟩ | ⟨a, len, cap, elems, rest, n, _, rfl, _, hb, hl, hm, hel, hat, _, _⟩
        · exact ⟨[.lst []], rfl, ⟨_, _, rfl, ⟨[], rfl, by simp, fun x hx => by cases hx⟩, rfl⟩, cells_one (.lst0 none 0 fun _ => rfl)⟩
        · have each : ∀ i, i < len → ∃ ex : List AV × List Value, w.cells? base (a.add (i * P.cellsOf e)) (P.cellsOf e) = some ex.2 ∧ CTall le ex.1 ∧ Cells w ex.1 ex.2 := by
            intro i hi
            have h1 := hat i hi
            rw [List.getElem?_eq_getElem (by omega)] at h1
            obtain ⟨ds, h2, h3⟩ := Option.bind_eq_some_iff.mp h1
            obtain ⟨avs, _, q2, q3⟩ := open_cells d e le ds n _ hle h3
            exact ⟨(avs, ds), h2, q2, q3⟩
          obtain ⟨f, hf⟩ := Go.Deep.choose_lt each
          let el : List AV → AV := fun cs => match ag with
            | true => .agg cs
            | false => cs.headD .undef
          have elc : ∀ cs, CTall le cs → (el cs).cells = cs ∨ (ag = false ∧ ∃ v, cs = [v] ∧ el cs = v) := by
            intro cs hcs
            cases ag with
            | true => exact .inl rfl
            | false =>
              have hl1 : le.length = 1 := by simpa using hc3
              have := CTall_len hcs
              match cs, this.trans hl1 with
              | [v], _ => exact .inr ⟨rfl, v, rfl, rfl⟩
          have scal : ∀ cs, CTall le cs → (el cs).cells = cs := by
            intro cs hcs
            rcases elc cs hcs with h1 | ⟨hag', v, rfl, h2⟩
            · exact h1
            · rw [h2]
              match v, hcs with
              | .agg l', hcs =>
                exfalso
                cases le with
                | nil => simp only [CTall] at hcs; cases hcs
                | cons c cs' =>
                  simp only [CTall] at hcs
                  obtain ⟨x', t', hx', hok, _⟩ := hcs
                  injection hx' with hx1 _
                  subst hx1
                  cases c <;> simp [CTok] at hok
              | .int .., _ | .bool _, _ | .str _, _ | .nilp, _ | .zsl _, _ | .ptr .., _ | .slc .., _ | .lst _, _ | .fptr .., _ | .tup _, _ | .fn .., _ | .nilf, _ | .undef, _ | .emp, _ => rfl
          have hlen : ∀ i, i < len → ((f i).1).length = P.cellsOf e := fun i hi => by rw [CTall_len (hf i hi).2.1, hc1]
          refine ⟨[.lst ((List.range len).map fun i => el (f i).1)], rfl, ⟨_, _, rfl, ⟨_, rfl, by simp; omega, ?_⟩, rfl⟩, cells_one ?_⟩
          · intro y hy
            obtain ⟨i, hi, rfl⟩ := List.mem_map.mp hy
            have hi := List.mem_range.mp hi
            refine ⟨(f i).1, ?_, (hf i hi).2.1⟩
            cases ag with
            | true => rfl
            | false =>
              rcases elc _ (hf i hi).2.1 with h1 | ⟨_, v, h1, h2⟩
              · have h3 := scal _ (hf i hi).2.1
                have hl1 : le.length = 1 := by simpa using hc3
                have h4 := (CTall_len (hf i hi).2.1).trans hl1
                show (f i).1 = [(f i).1.headD .undef]
                match (f i).1, h4 with
                | [v], _ => rfl
              · show (f i).1 = [(f i).1.headD .undef]
                rw [h1]; rfl
          · by_cases h0 : len = 0
            · subst h0; exact .lst0 (some a) cap (fun h => by cases h)
            · have hsp : a.spot = none ∧ a.block < w.heap.size := by
                obtain ⟨g1, g2, g3⟩ := hf 0 (by omega)
                obtain ⟨g4, g5⟩ := cells?_at g1
                have h6 : ∃ u, (f 0).2[0]? = some u := ⟨_, List.getElem?_eq_getElem (by omega)⟩
                obtain ⟨u, hu0⟩ := h6
                have := g5 0 u hu0
                rw [Nat.zero_mul, show (a.add 0).add 0 = a by simp [Addr.add]] at this
                unfold World.cell? at this
                split at this
                · rename_i c _ _ hh
                  split at this
                  · cases this
                  · rename_i hs
                    refine ⟨by simpa using hs, ?_⟩
                    rcases Nat.lt_or_ge a.block w.heap.size with h7 | h7
                    · exact h7
                    · rw [Array.getElem?_eq_none h7] at hh; cases hh
                · cases this
              obtain ⟨b, o, sp⟩ := a
              obtain ⟨hsp1, hsp2⟩ := hsp
              simp only at hsp1 hsp2
              subst hsp1
              have hlm : ((List.range len).map fun i => el (f i).1).length = len := by simp
              have key := FRep.lst (w := w) (bad := noBad) ((List.range len).map fun i => el (f i).1) b o (P.cellsOf e) cap (fun i j => (f i).2.getD j (.bool false)) (by rw [hlm]; exact hl) (by omega) (fun h => h) hsp2 ?_ ?_ ?_
              · rw [hlm] at key; exact key
              · intro i y hy
                rw [List.getElem?_map] at hy
                obtain ⟨i', h1, rfl⟩ := Option.map_eq_some_iff.mp hy
                obtain ⟨h2, rfl⟩ := rng_at h1
                rw [scal _ (hf _ h2).2.1, hlen _ h2]
              · intro i y j c hy hc
                rw [List.getElem?_map] at hy
                obtain ⟨i', h1, rfl⟩ := Option.map_eq_some_iff.mp hy
                obtain ⟨h2, rfl⟩ := rng_at h1
                rw [scal _ (hf _ h2).2.1] at hc
                obtain ⟨g4, g5⟩ := cells?_at (hf _ h2).1
                have hj : j < (f i).2.length := by
                  rw [g4, ← hlen _ h2]
                  rcases Nat.lt_or_ge j (f i).1.length with h7 | h7
                  · exact h7
                  · rw [List.getElem?_eq_none h7] at hc; cases hc
                have := g5 j _ (List.getElem?_eq_getElem hj)
                rw [add_pl, add_pl] at this
                rw [List.getD_eq_getElem?_getD, List.getElem?_eq_getElem hj]
                simp only [Option.getD_some]
                rw [← Nat.add_assoc]; exact this
              · intro i y j c hy hc
                rw [List.getElem?_map] at hy
                obtain ⟨i', h1, rfl⟩ := Option.map_eq_some_iff.mp hy
                obtain ⟨h2, rfl⟩ := rng_at h1
                rw [scal _ (hf _ h2).2.1] at hc
                obtain ⟨g4, g5⟩ := cells?_at (hf _ h2).1
                have hj : j < (f i).2.length := by
                  rw [g4, ← hlen _ h2]
                  rcases Nat.lt_or_ge j (f i).1.length with h7 | h7
                  · exact h7
                  · rw [List.getElem?_eq_none h7] at hc; cases hc
                refine (hf _ h2).2.2 j c _ hc ?_
                rw [List.getD_eq_getElem?_getD, List.getElem?_eq_getElem hj]; rfl
      · cases h
    · rename_i fs hu
      split at h <;> (try (cases h; done))
      rename_i l' hl'
      split at h
      · rename_i hc
        cases h
        obtain ⟨xs, n, _, _, hlen, hxs, hf⟩ := DataW.trod_struct hu ht
        obtain ⟨avs, q1, q2⟩ := ctFs_open (cs := cs) (enc := enc) (base := base) (spare := spare) (held := held) (fun t l ds fuel x => open_cells d t l ds fuel x) fs.toList 0 l hl' (fun f hfm => by
          obtain ⟨i, hi⟩ := List.getElem?_of_mem hfm
          have h1 := hf i f (by simpa using hi)
          have hi' : i < xs.length := by
            rw [hxs]
            rcases Nat.lt_or_ge i fs.size with h7 | h7
            · exact h7
            · rw [List.getElem?_eq_none (by simpa using h7)] at hi; cases hi
          exact ⟨n, _, h1.trans (List.getElem?_eq_getElem hi')⟩)
        exact ⟨avs, by rw [CTall_len q1, hlen, hc], q1, by simpa using q2⟩
      · cases h
    · rename_i n e hu
      split at h <;> (try (cases h; done))
      rename_i le hle
      split at h
      · rename_i hc
        obtain ⟨hc1, hc2⟩ := hc
        cases h
        obtain ⟨xs, m, _, _, hlen, hxs, hf⟩ := DataW.trod_array hu ht
        have key : ∀ k, k ≤ n → ∃ avs, CTall (List.replicate k le).flatten avs ∧ Cells w avs (cs.drop ((n - k) * le.length)) := by
          intro k
          induction k with
          | zero => intro _; exact ⟨[], rfl, fun i c u hc _ => by cases hc⟩
          | succ k ih =>
            intro hk
            obtain ⟨a2, q1, q2⟩ := ih (by omega)
            have h1 := hf (n - (k + 1)) (by omega)
            rw [List.getElem?_eq_getElem (by omega)] at h1
            obtain ⟨a1, e1, e2, e3⟩ := open_cells d e le _ m _ hle h1
            refine ⟨a1 ++ a2, by rw [List.replicate_succ, List.flatten_cons]; exact CTall_app e2 q1, ?_⟩
            have hl : a1.length = le.length := CTall_len e2
            intro i c u hc hu
            by_cases hi : i < a1.length
            · rw [List.getElem?_append_left hi] at hc
              refine e3 i c u hc ?_
              rw [hc1, List.getElem?_take, if_pos (by omega)]; exact hu
            · rw [List.getElem?_append_right (by omega)] at hc
              refine q2 (i - a1.length) c u hc ?_
              rw [List.getElem?_drop] at hu ⊢
              rw [← hu]; congr 1
              have : n - k = n - (k + 1) + 1 := by omega
              rw [this, Nat.add_mul]; omega
        obtain ⟨avs, q1, q2⟩ := key n (Nat.le_refl _)
        refine ⟨avs, ?_, q1, by simpa using q2⟩
        rw [CTall_len q1, hlen, hc2]; simp
      · cases h

theorem okWide_array {r : Reach} {n : Nat} {t e : TypeId} {v : Value} (ht : P.underlying t = some (.array n e)) (h : Value.okWide P w r base t v) : ∃ cs, v = .agg cs ∧ cs.size = P.cellsOf t := by
  simp only [Value.okWide, ht] at h
  obtain ⟨cs, h1, h2, _⟩ := h
  exact ⟨cs, h1, h2⟩
/-- A scalar argument. -/
theorem open_sc {t : TypeId} {v : Value} {d : DataW H} {ps : List MemPlace} {l : List CT} (hv : v.cells.toList = [v]) (hl : ctOf P 9 t = some l) (h : DataW.Trod enc P w base spare held t v d ps) :
    ∃ a, TyOK false l a ∧ FRep w noBad a v := by
  obtain ⟨fuel, h⟩ := h
  obtain ⟨avs, h1, h2, h3⟩ := open_cells 9 t l _ fuel _ hl h
  rw [hv] at h1 h3
  match avs, h1 with
  | [a], _ => exact ⟨a, ⟨_, rfl, h2⟩, h3 0 a v rfl rfl⟩
/-- A struct, or an array. -/
theorem open_ag {t : TypeId} {cs : Array Value} {d : DataW H} {ps : List MemPlace} {l : List CT} (hl : ctOf P 9 t = some l) (h : DataW.Trod enc P w base spare held t (.agg cs) d ps) :
    ∃ a, TyOK true l a ∧ FRep w noBad a (.agg cs) := by
  obtain ⟨fuel, h⟩ := h
  obtain ⟨avs, h1, h2, h3⟩ := open_cells 9 t l _ fuel _ hl h
  refine ⟨.agg avs, ⟨_, rfl, h2⟩, ?_⟩
  have := FRep.agg (w := w) (bad := noBad) avs cs.toList h1 h3
  simpa using this
end
end Go.Proofs.Ytkfppigcjdapnaa.AE

namespace Go.Proofs.Ytkfppigcjdapnaa.AE
set_option linter.unusedVariables false
set_option linter.unusedSimpArgs false
set_option linter.constructorNameAsVariable false
open Go Go.Proofs.Ytkfppigcjdapnaa.Geo
theorem maxLen_eq : Go.maxLen = 9223372036854775807 := by decide
theorem rows_pts : ∀ l : List AV, (∀ x ∈ l, ∃ cs, x = .agg cs ∧ CTall [(.i .i64), (.i .i64)] cs) → ∃ ps : List Pt, l = ps.map pt
  | [], _ => ⟨[], rfl⟩
  | x :: l, h => by
    obtain ⟨ps, rfl⟩ := rows_pts l fun y hy => h y (List.mem_cons_of_mem _ hy)
    obtain ⟨_, rfl, _, _, rfl, ⟨a, rfl, _⟩, _, _, rfl, ⟨b, rfl, _⟩, rfl⟩ := h x (List.mem_cons_self ..)
    exact ⟨(a, b) :: ps, rfl⟩
theorem ty_pts {v : AV} (h : TyOK false [(.sl true [(.i .i64), (.i .i64)])] v) : ∃ ps : List Pt, v = .lst (ps.map pt) ∧ ps.length ≤ 9223372036854775807 := by
  obtain ⟨_, rfl, _, _, e, ⟨l, rfl, hl, hx⟩, rfl⟩ := h
  injection e with e _
  subst e
  obtain ⟨ps, rfl⟩ := rows_pts l hx
  exact ⟨ps, rfl, by rw [← maxLen_eq]; simpa using hl⟩
end Go.Proofs.Ytkfppigcjdapnaa.AE
