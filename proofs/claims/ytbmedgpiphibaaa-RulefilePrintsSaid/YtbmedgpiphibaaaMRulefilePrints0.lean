/- The texts that the law RulefilePrints needs, part 0. No conditions. -/
import Derived.Test.YtbmedgpiphibaaaMc5
namespace Go.Proofs.Ytbmedgpiphibaaa.AE
set_option linter.unusedVariables false
set_option linter.unusedSimpArgs false
open Go Go.Proofs.Ytbmedgpiphibaaa.Geo
attribute [local irreducible] pcall C0
theorem by8e (n:Int):UInt8.ofNat (Int.toNat (IntKind.wrap .u8 n))=by8 n:=by rw [u8w]; rfl
theorem sealF_len (s:List UInt8):(sealF s).length=s.length+4:=by simp [sealF,be4_len]
end Go.Proofs.Ytbmedgpiphibaaa.AE

namespace Go.Proofs.Ytbmedgpiphibaaa.AE
set_option linter.unusedVariables false
set_option linter.unusedSimpArgs false
set_option linter.constructorNameAsVariable false
open Go
set_option maxRecDepth 100000
set_option maxHeartbeats 0
def r14R1 (C:Cb) (d:Nat) (a0:List AV) (a1 a2 a3 a4 a5 a6 a7 a8:Int) (v0 v2 v4:AV) (x8:Int) (v9:AV) (x13:Int) (v14:AV) (x18:Int) (v19:AV) (x23:Int) (v24:AV) (x28:Int) (v29:AV) (x33:Int) (v34:AV) (s38:List UInt8) (v39:AV) (x43:Int) (s44:List UInt8) (v45:AV) (x49:Int) (s50:List UInt8) (v51:AV) (x55:Int) (s56:List UInt8) (k58:Ex→St→Ans) (s60:List UInt8) (x61:Int) (v69 v70 v123 v125:AV) (x129:Int) (v130 v132 v134 v139:AV) (x140 x141 x142 x143:Int) (v144 v148 v150:AV) (x154:Int) (v155:AV) (x159:Int) (v160:AV) (s164:List UInt8) (v165:AV) (x169:Int) (s170:List UInt8) (v171:AV) (x175:Int) (s176:List UInt8) (v177:AV) (x181:Int) (s182:List UInt8):St→(Ex→St→Ans)→Ans:=fun s183 k184 =>
 cnd ((List.length s183.env) == 106)
 (sames C s183.env 0 [(.agg [(.lst a0),(iz a1),(iz a2),(iz a3),(iz a4),(iz a5),(iz a6),(iz a7),(iz a8)]),v0,(.str [])] <|
 C.str s183.env[3]? fun s186 =>
 sames C s183.env 4 [(iz x61),v144] <|
 C.int .i64 s183.env[6]? fun x187 =>
 sames C s183.env 7 [v2,v4,(iz x8),(.int .u8 (IntKind.wrap .u8 x8)),v9,(iz x13),(.int .u8 (IntKind.wrap .u8 x13)),v14,(iz x18),(.int .u8 (IntKind.wrap .u8 x18)),v19,(iz x23),(.int .u8 (IntKind.wrap .u8 x23)),v24,(iz x28),(.int .u8 (IntKind.wrap .u8 x28)),v29,(iz x33),(.int .u8 (IntKind.wrap .u8 x33)),v34,(.str s38),(.str (65::70::84::85::s38)),v39,(iz x43),(.str s44),(.str (65::70::84::85::(s38 ++ s44))),v45,(iz x49),(.str s50),(.str (65::70::84::85::((s38 ++ s44) ++ s50))),v51,(iz x55),(.str s56),(.str (65::70::84::85::(((s38 ++ s44) ++ s50) ++ s56))),(iz x61),v123,v125,(iz x129),bt,v69,v70,v130,v132,(iz x61),v134,(.agg [v139,(iz x140),(iz x141),(iz x142),(iz x143)]),(.str s60),v148,v150,(iz x154),(.int .u8 (IntKind.wrap .u8 x154)),v155,(iz x159),(.int .u8 (IntKind.wrap .u8 x159)),v160,(.str s164),v165,(iz x169),(.str s170),(.str (s164 ++ s170)),v171,(iz x175),(.str s176),(.str ((s164 ++ s170) ++ s176)),v177,(iz x181),(.str s182),(.str (((s164 ++ s170) ++ s176) ++ s182)),(.str (s60 ++ (((s164 ++ s170) ++ s176) ++ s182)))] <|
 anys C s183.env 76 5 <|
 C.any s183.env[81]? fun v193 =>
 C.any s183.env[82]? fun v194 =>
 C.any s183.env[83]? fun v195 =>
 C.any s183.env[84]? fun v196 =>
 C.any s183.env[85]? fun v197 =>
 C.any s183.env[86]? fun v198 =>
 C.any s183.env[87]? fun v199 =>
 C.any s183.env[88]? fun v200 =>
 C.any s183.env[89]? fun v201 =>
 C.any s183.env[90]? fun v202 =>
 C.any s183.env[91]? fun v203 =>
 C.any s183.env[92]? fun v204 =>
 C.any s183.env[93]? fun v205 =>
 C.any s183.env[94]? fun v206 =>
 C.any s183.env[95]? fun v207 =>
 C.any s183.env[96]? fun v208 =>
 C.any s183.env[97]? fun v209 =>
 C.any s183.env[98]? fun v210 =>
 C.any s183.env[99]? fun v211 =>
 sames C s183.env 100 [tz,tz,tz,tz,tz,tz] <|
 C.hop (St.H s183) (.fldA 0 (.v v144)) fun v212 h213 =>
 C.hop h213 (.load false 1 (.v v212)) fun v214 h215 =>
 C.hop h215 (.bk .lenV [(.v v214)]) fun v216 h217 =>
 C.int .i64 (some v216) fun x218 =>
 cnd (decide (x187 < x218))
 (C.hop h217 (.fldA 0 (.v v144)) fun v219 h220 =>
 C.hop h220 (.load false 1 (.v v219)) fun v221 h222 =>
 C.hop h222 (.ixAS .any 2 (.v v221) (.v (iz x187))) fun v223 h224 =>
 C.hop h224 (.fldA 0 (.v v223)) fun v225 h226 =>
 C.hop h226 (.load false 1 (.v v225)) fun v227 h228 =>
 C.int .i64 (some v227) fun x229 =>
 C.str (pcall M d 28 [(iz x229)]) fun s230 =>
 C.hop h228 (.fldA 0 (.v v144)) fun v231 h232 =>
 C.hop h232 (.load false 1 (.v v231)) fun v233 h234 =>
 C.hop h234 (.ixAS .any 2 (.v v233) (.v (iz x187))) fun v235 h236 =>
 C.hop h236 (.fldA 1 (.v v235)) fun v237 h238 =>
 C.hop h238 (.load false 1 (.v v237)) fun v239 h240 =>
 C.int .i64 (some v239) fun x241 =>
 C.str (pcall M d 28 [(iz x241)]) fun s242 =>
 cnd (decide (((List.length s230)+(List.length s242))≤9223372036854775807))
 (cnd (decide (((List.length s186)+(List.length (s230 ++ s242)))≤9223372036854775807))
 (k184 .normal ⟨[(.agg [(.lst a0),(iz a1),(iz a2),(iz a3),(iz a4),(iz a5),(iz a6),(iz a7),(iz a8)]),v0,(.str []),(.str (s186 ++ (s230 ++ s242))),(iz x61),v144,(iz (IntKind.wrap .i64 (x187+1))),v2,v4,(iz x8),(.int .u8 (IntKind.wrap .u8 x8)),v9,(iz x13),(.int .u8 (IntKind.wrap .u8 x13)),v14,(iz x18),(.int .u8 (IntKind.wrap .u8 x18)),v19,(iz x23),(.int .u8 (IntKind.wrap .u8 x23)),v24,(iz x28),(.int .u8 (IntKind.wrap .u8 x28)),v29,(iz x33),(.int .u8 (IntKind.wrap .u8 x33)),v34,(.str s38),(.str (65::70::84::85::s38)),v39,(iz x43),(.str s44),(.str (65::70::84::85::(s38 ++ s44))),v45,(iz x49),(.str s50),(.str (65::70::84::85::((s38 ++ s44) ++ s50))),v51,(iz x55),(.str s56),(.str (65::70::84::85::(((s38 ++ s44) ++ s50) ++ s56))),(iz x61),v123,v125,(iz x129),bt,v69,v70,v130,v132,(iz x61),v134,(.agg [v139,(iz x140),(iz x141),(iz x142),(iz x143)]),(.str s60),v148,v150,(iz x154),(.int .u8 (IntKind.wrap .u8 x154)),v155,(iz x159),(.int .u8 (IntKind.wrap .u8 x159)),v160,(.str s164),v165,(iz x169),(.str s170),(.str (s164 ++ s170)),v171,(iz x175),(.str s176),(.str ((s164 ++ s170) ++ s176)),v177,(iz x181),(.str s182),(.str (((s164 ++ s170) ++ s176) ++ s182)),(.str (s60 ++ (((s164 ++ s170) ++ s176) ++ s182))),(iz x187),v212,v214,(iz x218),bt,(iz x187),(iz (IntKind.wrap .i64 (x187+1))),(.str s186),v219,v221,(iz x187),v223,v225,(iz x229),(.str s230),v231,v233,(iz x187),v235,v237,(iz x241),(.str s242),(.str (s230 ++ s242)),(.str (s186 ++ (s230 ++ s242))),tz,tz,tz,tz,tz,tz],h240⟩)
 (none))
 (none))
 (k184 (.exit 2) ⟨[(.agg [(.lst a0),(iz a1),(iz a2),(iz a3),(iz a4),(iz a5),(iz a6),(iz a7),(iz a8)]),v0,(.str []),(.str s186),(iz x61),v144,(iz x187),v2,v4,(iz x8),(.int .u8 (IntKind.wrap .u8 x8)),v9,(iz x13),(.int .u8 (IntKind.wrap .u8 x13)),v14,(iz x18),(.int .u8 (IntKind.wrap .u8 x18)),v19,(iz x23),(.int .u8 (IntKind.wrap .u8 x23)),v24,(iz x28),(.int .u8 (IntKind.wrap .u8 x28)),v29,(iz x33),(.int .u8 (IntKind.wrap .u8 x33)),v34,(.str s38),(.str (65::70::84::85::s38)),v39,(iz x43),(.str s44),(.str (65::70::84::85::(s38 ++ s44))),v45,(iz x49),(.str s50),(.str (65::70::84::85::((s38 ++ s44) ++ s50))),v51,(iz x55),(.str s56),(.str (65::70::84::85::(((s38 ++ s44) ++ s50) ++ s56))),(iz x61),v123,v125,(iz x129),bt,v69,v70,v130,v132,(iz x61),v134,(.agg [v139,(iz x140),(iz x141),(iz x142),(iz x143)]),(.str s60),v148,v150,(iz x154),(.int .u8 (IntKind.wrap .u8 x154)),v155,(iz x159),(.int .u8 (IntKind.wrap .u8 x159)),v160,(.str s164),v165,(iz x169),(.str s170),(.str (s164 ++ s170)),v171,(iz x175),(.str s176),(.str ((s164 ++ s170) ++ s176)),v177,(iz x181),(.str s182),(.str (((s164 ++ s170) ++ s176) ++ s182)),(.str (s60 ++ (((s164 ++ s170) ++ s176) ++ s182))),(iz x187),v212,v214,(iz x218),bf,v193,v194,v195,v196,v197,v198,v199,v200,v201,v202,v203,v204,v205,v206,v207,v208,v209,v210,v211,tz,tz,tz,tz,tz,tz],h217⟩))
 (none)
def r14X1_0 (C:Cb) (d:Nat) (a0:List AV) (a1 a2 a3 a4 a5 a6 a7 a8:Int) (v0 v2 v4:AV) (x8:Int) (v9:AV) (x13:Int) (v14:AV) (x18:Int) (v19:AV) (x23:Int) (v24:AV) (x28:Int) (v29:AV) (x33:Int) (v34:AV) (s38:List UInt8) (v39:AV) (x43:Int) (s44:List UInt8) (v45:AV) (x49:Int) (s50:List UInt8) (v51:AV) (x55:Int) (s56:List UInt8) (k58:Ex→St→Ans) (s60:List UInt8) (x61:Int) (v69 v70 v123 v125:AV) (x129:Int) (v130 v132 v134 v139:AV) (x140 x141 x142 x143:Int) (v144 v148 v150:AV) (x154:Int) (v155:AV) (x159:Int) (v160:AV) (s164:List UInt8) (v165:AV) (x169:Int) (s170:List UInt8) (v171:AV) (x175:Int) (s176:List UInt8) (v177:AV) (x181:Int) (s182:List UInt8):St→Ans:=fun s243 =>
 cnd ((List.length s243.env) == 106)
 (sames C s243.env 0 [(.agg [(.lst a0),(iz a1),(iz a2),(iz a3),(iz a4),(iz a5),(iz a6),(iz a7),(iz a8)]),v0,(.str [])] <|
 C.str s243.env[3]? fun s244 =>
 sames C s243.env 4 [(iz x61),v144] <|
 C.int .i64 s243.env[6]? fun x245 =>
 sames C s243.env 7 [v2,v4,(iz x8),(.int .u8 (IntKind.wrap .u8 x8)),v9,(iz x13),(.int .u8 (IntKind.wrap .u8 x13)),v14,(iz x18),(.int .u8 (IntKind.wrap .u8 x18)),v19,(iz x23),(.int .u8 (IntKind.wrap .u8 x23)),v24,(iz x28),(.int .u8 (IntKind.wrap .u8 x28)),v29,(iz x33),(.int .u8 (IntKind.wrap .u8 x33)),v34,(.str s38),(.str (65::70::84::85::s38)),v39,(iz x43),(.str s44),(.str (65::70::84::85::(s38 ++ s44))),v45,(iz x49),(.str s50),(.str (65::70::84::85::((s38 ++ s44) ++ s50))),v51,(iz x55),(.str s56),(.str (65::70::84::85::(((s38 ++ s44) ++ s50) ++ s56))),(iz x61),v123,v125,(iz x129),bt,v69,v70,v130,v132,(iz x61),v134,(.agg [v139,(iz x140),(iz x141),(iz x142),(iz x143)]),(.str s60),v148,v150,(iz x154),(.int .u8 (IntKind.wrap .u8 x154)),v155,(iz x159),(.int .u8 (IntKind.wrap .u8 x159)),v160,(.str s164),v165,(iz x169),(.str s170),(.str (s164 ++ s170)),v171,(iz x175),(.str s176),(.str ((s164 ++ s170) ++ s176)),v177,(iz x181),(.str s182),(.str (((s164 ++ s170) ++ s176) ++ s182)),(.str (s60 ++ (((s164 ++ s170) ++ s176) ++ s182)))] <|
 C.int .i64 s243.env[76]? fun x246 =>
 C.any s243.env[77]? fun v247 =>
 C.any s243.env[78]? fun v248 =>
 C.int .i64 s243.env[79]? fun x249 =>
 C.bool s243.env[80]? fun b250 =>
 C.any s243.env[81]? fun v251 =>
 C.any s243.env[82]? fun v252 =>
 C.any s243.env[83]? fun v253 =>
 C.any s243.env[84]? fun v254 =>
 C.any s243.env[85]? fun v255 =>
 C.any s243.env[86]? fun v256 =>
 C.any s243.env[87]? fun v257 =>
 C.any s243.env[88]? fun v258 =>
 C.any s243.env[89]? fun v259 =>
 C.any s243.env[90]? fun v260 =>
 C.any s243.env[91]? fun v261 =>
 C.any s243.env[92]? fun v262 =>
 C.any s243.env[93]? fun v263 =>
 C.any s243.env[94]? fun v264 =>
 C.any s243.env[95]? fun v265 =>
 C.any s243.env[96]? fun v266 =>
 C.any s243.env[97]? fun v267 =>
 C.any s243.env[98]? fun v268 =>
 C.any s243.env[99]? fun v269 =>
 sames C s243.env 100 [tz,tz,tz,tz,tz,tz] <|
 k58 .normal ⟨[(.agg [(.lst a0),(iz a1),(iz a2),(iz a3),(iz a4),(iz a5),(iz a6),(iz a7),(iz a8)]),v0,(.str []),(.str s244),(iz (IntKind.wrap .i64 (x61+1))),v144,(iz x245),v2,v4,(iz x8),(.int .u8 (IntKind.wrap .u8 x8)),v9,(iz x13),(.int .u8 (IntKind.wrap .u8 x13)),v14,(iz x18),(.int .u8 (IntKind.wrap .u8 x18)),v19,(iz x23),(.int .u8 (IntKind.wrap .u8 x23)),v24,(iz x28),(.int .u8 (IntKind.wrap .u8 x28)),v29,(iz x33),(.int .u8 (IntKind.wrap .u8 x33)),v34,(.str s38),(.str (65::70::84::85::s38)),v39,(iz x43),(.str s44),(.str (65::70::84::85::(s38 ++ s44))),v45,(iz x49),(.str s50),(.str (65::70::84::85::((s38 ++ s44) ++ s50))),v51,(iz x55),(.str s56),(.str (65::70::84::85::(((s38 ++ s44) ++ s50) ++ s56))),(iz x61),v123,v125,(iz x129),bt,(iz x61),(iz (IntKind.wrap .i64 (x61+1))),v130,v132,(iz x61),v134,(.agg [v139,(iz x140),(iz x141),(iz x142),(iz x143)]),(.str s60),v148,v150,(iz x154),(.int .u8 (IntKind.wrap .u8 x154)),v155,(iz x159),(.int .u8 (IntKind.wrap .u8 x159)),v160,(.str s164),v165,(iz x169),(.str s170),(.str (s164 ++ s170)),v171,(iz x175),(.str s176),(.str ((s164 ++ s170) ++ s176)),v177,(iz x181),(.str s182),(.str (((s164 ++ s170) ++ s176) ++ s182)),(.str (s60 ++ (((s164 ++ s170) ++ s176) ++ s182))),(iz x246),v247,v248,(iz x249),(bz b250),v251,v252,v253,v254,v255,v256,v257,v258,v259,v260,v261,v262,v263,v264,v265,v266,v267,v268,v269,tz,tz,tz,tz,tz,tz],(St.H s243)⟩)
 (none)
def r14E1 (C:Cb) (d:Nat) (a0:List AV) (a1 a2 a3 a4 a5 a6 a7 a8:Int) (v0 v2 v4:AV) (x8:Int) (v9:AV) (x13:Int) (v14:AV) (x18:Int) (v19:AV) (x23:Int) (v24:AV) (x28:Int) (v29:AV) (x33:Int) (v34:AV) (s38:List UInt8) (v39:AV) (x43:Int) (s44:List UInt8) (v45:AV) (x49:Int) (s50:List UInt8) (v51:AV) (x55:Int) (s56:List UInt8) (k58:Ex→St→Ans) (s60:List UInt8) (x61:Int) (v69 v70 v123 v125:AV) (x129:Int) (v130 v132 v134 v139:AV) (x140 x141 x142 x143:Int) (v144 v148 v150:AV) (x154:Int) (v155:AV) (x159:Int) (v160:AV) (s164:List UInt8) (v165:AV) (x169:Int) (s170:List UInt8) (v171:AV) (x175:Int) (s176:List UInt8) (v177:AV) (x181:Int) (s182:List UInt8):St→Ans:=fun s185 =>
 cnd ((List.length s185.env) == 106)
 (sames C s185.env 0 [(.agg [(.lst a0),(iz a1),(iz a2),(iz a3),(iz a4),(iz a5),(iz a6),(iz a7),(iz a8)]),v0,(.str [])] <|
 C.str s185.env[3]? fun s270 =>
 sames C s185.env 4 [(iz x61),v144] <|
 C.int .i64 s185.env[6]? fun x271 =>
 sames C s185.env 7 [v2,v4,(iz x8),(.int .u8 (IntKind.wrap .u8 x8)),v9,(iz x13),(.int .u8 (IntKind.wrap .u8 x13)),v14,(iz x18),(.int .u8 (IntKind.wrap .u8 x18)),v19,(iz x23),(.int .u8 (IntKind.wrap .u8 x23)),v24,(iz x28),(.int .u8 (IntKind.wrap .u8 x28)),v29,(iz x33),(.int .u8 (IntKind.wrap .u8 x33)),v34,(.str s38),(.str (65::70::84::85::s38)),v39,(iz x43),(.str s44),(.str (65::70::84::85::(s38 ++ s44))),v45,(iz x49),(.str s50),(.str (65::70::84::85::((s38 ++ s44) ++ s50))),v51,(iz x55),(.str s56),(.str (65::70::84::85::(((s38 ++ s44) ++ s50) ++ s56))),(iz x61),v123,v125,(iz x129),bt,v69,v70,v130,v132,(iz x61),v134,(.agg [v139,(iz x140),(iz x141),(iz x142),(iz x143)]),(.str s60),v148,v150,(iz x154),(.int .u8 (IntKind.wrap .u8 x154)),v155,(iz x159),(.int .u8 (IntKind.wrap .u8 x159)),v160,(.str s164),v165,(iz x169),(.str s170),(.str (s164 ++ s170)),v171,(iz x175),(.str s176),(.str ((s164 ++ s170) ++ s176)),v177,(iz x181),(.str s182),(.str (((s164 ++ s170) ++ s176) ++ s182)),(.str (s60 ++ (((s164 ++ s170) ++ s176) ++ s182)))] <|
 C.any s185.env[76]? fun v272 =>
 C.any s185.env[77]? fun v273 =>
 C.any s185.env[78]? fun v274 =>
 C.any s185.env[79]? fun v275 =>
 C.any s185.env[80]? fun v276 =>
 C.any s185.env[81]? fun v277 =>
 C.any s185.env[82]? fun v278 =>
 C.any s185.env[83]? fun v279 =>
 C.any s185.env[84]? fun v280 =>
 C.any s185.env[85]? fun v281 =>
 C.any s185.env[86]? fun v282 =>
 C.any s185.env[87]? fun v283 =>
 C.any s185.env[88]? fun v284 =>
 C.any s185.env[89]? fun v285 =>
 C.any s185.env[90]? fun v286 =>
 C.any s185.env[91]? fun v287 =>
 C.any s185.env[92]? fun v288 =>
 C.any s185.env[93]? fun v289 =>
 C.any s185.env[94]? fun v290 =>
 C.any s185.env[95]? fun v291 =>
 C.any s185.env[96]? fun v292 =>
 C.any s185.env[97]? fun v293 =>
 C.any s185.env[98]? fun v294 =>
 C.any s185.env[99]? fun v295 =>
 sames C s185.env 100 [tz,tz,tz,tz,tz,tz] <|
 k58 .ret ⟨[(.agg [(.lst a0),(iz a1),(iz a2),(iz a3),(iz a4),(iz a5),(iz a6),(iz a7),(iz a8)]),v0,(.str []),(.str s270),(iz x61),v144,(iz x271),v2,v4,(iz x8),(.int .u8 (IntKind.wrap .u8 x8)),v9,(iz x13),(.int .u8 (IntKind.wrap .u8 x13)),v14,(iz x18),(.int .u8 (IntKind.wrap .u8 x18)),v19,(iz x23),(.int .u8 (IntKind.wrap .u8 x23)),v24,(iz x28),(.int .u8 (IntKind.wrap .u8 x28)),v29,(iz x33),(.int .u8 (IntKind.wrap .u8 x33)),v34,(.str s38),(.str (65::70::84::85::s38)),v39,(iz x43),(.str s44),(.str (65::70::84::85::(s38 ++ s44))),v45,(iz x49),(.str s50),(.str (65::70::84::85::((s38 ++ s44) ++ s50))),v51,(iz x55),(.str s56),(.str (65::70::84::85::(((s38 ++ s44) ++ s50) ++ s56))),(iz x61),v123,v125,(iz x129),bt,v69,v70,v130,v132,(iz x61),v134,(.agg [v139,(iz x140),(iz x141),(iz x142),(iz x143)]),(.str s60),v148,v150,(iz x154),(.int .u8 (IntKind.wrap .u8 x154)),v155,(iz x159),(.int .u8 (IntKind.wrap .u8 x159)),v160,(.str s164),v165,(iz x169),(.str s170),(.str (s164 ++ s170)),v171,(iz x175),(.str s176),(.str ((s164 ++ s170) ++ s176)),v177,(iz x181),(.str s182),(.str (((s164 ++ s170) ++ s176) ++ s182)),(.str (s60 ++ (((s164 ++ s170) ++ s176) ++ s182))),v272,v273,v274,v275,v276,v277,v278,v279,v280,v281,v282,v283,v284,v285,v286,v287,v288,v289,v290,v291,v292,v293,v294,v295,tz,tz,tz,tz,tz,tz],(St.H s185)⟩)
 (none)
def r14R0 (C:Cb) (d:Nat) (a0:List AV) (a1 a2 a3 a4 a5 a6 a7 a8:Int) (v0 v2 v4:AV) (x8:Int) (v9:AV) (x13:Int) (v14:AV) (x18:Int) (v19:AV) (x23:Int) (v24:AV) (x28:Int) (v29:AV) (x33:Int) (v34:AV) (s38:List UInt8) (v39:AV) (x43:Int) (s44:List UInt8) (v45:AV) (x49:Int) (s50:List UInt8) (v51:AV) (x55:Int) (s56:List UInt8):St→(Ex→St→Ans)→Ans:=fun s57 k58 =>
 cnd ((List.length s57.env) == 106)
 (sames C s57.env 0 [(.agg [(.lst a0),(iz a1),(iz a2),(iz a3),(iz a4),(iz a5),(iz a6),(iz a7),(iz a8)]),v0,(.str [])] <|
 C.str s57.env[3]? fun s60 =>
 C.int .i64 s57.env[4]? fun x61 =>
 C.any s57.env[5]? fun v62 =>
 C.any s57.env[6]? fun v63 =>
 sames C s57.env 7 [v2,v4,(iz x8),(.int .u8 (IntKind.wrap .u8 x8)),v9,(iz x13),(.int .u8 (IntKind.wrap .u8 x13)),v14,(iz x18),(.int .u8 (IntKind.wrap .u8 x18)),v19,(iz x23),(.int .u8 (IntKind.wrap .u8 x23)),v24,(iz x28),(.int .u8 (IntKind.wrap .u8 x28)),v29,(iz x33),(.int .u8 (IntKind.wrap .u8 x33)),v34,(.str s38),(.str (65::70::84::85::s38)),v39,(iz x43),(.str s44),(.str (65::70::84::85::(s38 ++ s44))),v45,(iz x49),(.str s50),(.str (65::70::84::85::((s38 ++ s44) ++ s50))),v51,(iz x55),(.str s56),(.str (65::70::84::85::(((s38 ++ s44) ++ s50) ++ s56)))] <|
 anys C s57.env 41 5 <|
 C.any s57.env[46]? fun v69 =>
 C.any s57.env[47]? fun v70 =>
 C.any s57.env[48]? fun v71 =>
 C.any s57.env[49]? fun v72 =>
 C.any s57.env[50]? fun v73 =>
 C.any s57.env[51]? fun v74 =>
 C.any s57.env[52]? fun v75 =>
 C.any s57.env[53]? fun v76 =>
 C.any s57.env[54]? fun v77 =>
 C.any s57.env[55]? fun v78 =>
 C.any s57.env[56]? fun v79 =>
 C.any s57.env[57]? fun v80 =>
 C.any s57.env[58]? fun v81 =>
 C.any s57.env[59]? fun v82 =>
 C.any s57.env[60]? fun v83 =>
 C.any s57.env[61]? fun v84 =>
 C.any s57.env[62]? fun v85 =>
 C.any s57.env[63]? fun v86 =>
 C.any s57.env[64]? fun v87 =>
 C.any s57.env[65]? fun v88 =>
 C.any s57.env[66]? fun v89 =>
 C.any s57.env[67]? fun v90 =>
 C.any s57.env[68]? fun v91 =>
 C.any s57.env[69]? fun v92 =>
 C.any s57.env[70]? fun v93 =>
 C.any s57.env[71]? fun v94 =>
 C.any s57.env[72]? fun v95 =>
 C.any s57.env[73]? fun v96 =>
 C.any s57.env[74]? fun v97 =>
 C.any s57.env[75]? fun v98 =>
 C.any s57.env[76]? fun v99 =>
 C.any s57.env[77]? fun v100 =>
 C.any s57.env[78]? fun v101 =>
 C.any s57.env[79]? fun v102 =>
 C.any s57.env[80]? fun v103 =>
 C.any s57.env[81]? fun v104 =>
 C.any s57.env[82]? fun v105 =>
 C.any s57.env[83]? fun v106 =>
 C.any s57.env[84]? fun v107 =>
 C.any s57.env[85]? fun v108 =>
 C.any s57.env[86]? fun v109 =>
 C.any s57.env[87]? fun v110 =>
 C.any s57.env[88]? fun v111 =>
 C.any s57.env[89]? fun v112 =>
 C.any s57.env[90]? fun v113 =>
 C.any s57.env[91]? fun v114 =>
 C.any s57.env[92]? fun v115 =>
 C.any s57.env[93]? fun v116 =>
 C.any s57.env[94]? fun v117 =>
 C.any s57.env[95]? fun v118 =>
 C.any s57.env[96]? fun v119 =>
 C.any s57.env[97]? fun v120 =>
 C.any s57.env[98]? fun v121 =>
 C.any s57.env[99]? fun v122 =>
 sames C s57.env 100 [tz,tz,tz,tz,tz,tz] <|
 C.hop (St.H s57) (.fldA 0 (.v v0)) fun v123 h124 =>
 C.hop h124 (.load false 1 (.v v123)) fun v125 h126 =>
 C.hop h126 (.bk .lenV [(.v v125)]) fun v127 h128 =>
 C.int .i64 (some v127) fun x129 =>
 cnd (decide (x61 < x129))
 (C.hop h128 (.fldA 0 (.v v0)) fun v130 h131 =>
 C.hop h131 (.load false 1 (.v v130)) fun v132 h133 =>
 C.hop h133 (.ixAS .any 5 (.v v132) (.v (iz x61))) fun v134 h135 =>
 C.hop h135 (.load true 5 (.v v134)) fun v136 h137 =>
 C.agg 5 (some v136) fun l138 =>
 C.any l138[0]? fun v139 =>
 C.int .i64 l138[1]? fun x140 =>
 C.int .i64 l138[2]? fun x141 =>
 C.int .i64 l138[3]? fun x142 =>
 C.int .i64 l138[4]? fun x143 =>
 C.hop h137 (.alloc E46) fun v144 h145 =>
 C.hop h145 (.store 5 (.v v144) (.v (.agg [v139,(iz x140),(iz x141),(iz x142),(iz x143)]))) fun v146 h147 =>
 C.hop h147 (.fldA 0 (.v v144)) fun v148 h149 =>
 C.hop h149 (.load false 1 (.v v148)) fun v150 h151 =>
 C.hop h151 (.bk .lenV [(.v v150)]) fun v152 h153 =>
 C.int .i64 (some v152) fun x154 =>
 C.hop h153 (.fldA 1 (.v v144)) fun v155 h156 =>
 C.hop h156 (.load false 1 (.v v155)) fun v157 h158 =>
 C.int .i64 (some v157) fun x159 =>
 C.hop h158 (.mkrow E5 2 [(0,(.v (.int .u8 (IntKind.wrap .u8 x154)))),(1,(.v (.int .u8 (IntKind.wrap .u8 x159))))]) fun v160 h161 =>
 C.hop h161 (.b2s (.v v160)) fun v162 h163 =>
 C.str (some v162) fun s164 =>
 C.hop h163 (.fldA 2 (.v v144)) fun v165 h166 =>
 C.hop h166 (.load false 1 (.v v165)) fun v167 h168 =>
 C.int .i64 (some v167) fun x169 =>
 C.str (pcall M d 28 [(iz x169)]) fun s170 =>
 cnd (decide (((List.length s164)+(List.length s170))≤9223372036854775807))
 (C.hop h168 (.fldA 3 (.v v144)) fun v171 h172 =>
 C.hop h172 (.load false 1 (.v v171)) fun v173 h174 =>
 C.int .i64 (some v173) fun x175 =>
 C.str (pcall M d 28 [(iz x175)]) fun s176 =>
 cnd (decide (((List.length (s164 ++ s170))+(List.length s176))≤9223372036854775807))
 (C.hop h174 (.fldA 4 (.v v144)) fun v177 h178 =>
 C.hop h178 (.load false 1 (.v v177)) fun v179 h180 =>
 C.int .i64 (some v179) fun x181 =>
 C.str (pcall M d 28 [(iz x181)]) fun s182 =>
 cnd (decide (((List.length ((s164 ++ s170) ++ s176))+(List.length s182))≤9223372036854775807))
 (cnd (decide (((List.length s60)+(List.length (((s164 ++ s170) ++ s176) ++ s182)))≤9223372036854775807))
 (C.iter (r14R1 C d a0 a1 a2 a3 a4 a5 a6 a7 a8 v0 v2 v4 x8 v9 x13 v14 x18 v19 x23 v24 x28 v29 x33 v34 s38 v39 x43 s44 v45 x49 s50 v51 x55 s56 k58 s60 x61 v69 v70 v123 v125 x129 v130 v132 v134 v139 x140 x141 x142 x143 v144 v148 v150 x154 v155 x159 v160 s164 v165 x169 s170 v171 x175 s176 v177 x181 s182) 10000000000000000000 ⟨[(.agg [(.lst a0),(iz a1),(iz a2),(iz a3),(iz a4),(iz a5),(iz a6),(iz a7),(iz a8)]),v0,(.str []),(.str (s60 ++ (((s164 ++ s170) ++ s176) ++ s182))),(iz x61),v144,(iz 0),v2,v4,(iz x8),(.int .u8 (IntKind.wrap .u8 x8)),v9,(iz x13),(.int .u8 (IntKind.wrap .u8 x13)),v14,(iz x18),(.int .u8 (IntKind.wrap .u8 x18)),v19,(iz x23),(.int .u8 (IntKind.wrap .u8 x23)),v24,(iz x28),(.int .u8 (IntKind.wrap .u8 x28)),v29,(iz x33),(.int .u8 (IntKind.wrap .u8 x33)),v34,(.str s38),(.str (65::70::84::85::s38)),v39,(iz x43),(.str s44),(.str (65::70::84::85::(s38 ++ s44))),v45,(iz x49),(.str s50),(.str (65::70::84::85::((s38 ++ s44) ++ s50))),v51,(iz x55),(.str s56),(.str (65::70::84::85::(((s38 ++ s44) ++ s50) ++ s56))),(iz x61),v123,v125,(iz x129),bt,v69,v70,v130,v132,(iz x61),v134,(.agg [v139,(iz x140),(iz x141),(iz x142),(iz x143)]),(.str s60),v148,v150,(iz x154),(.int .u8 (IntKind.wrap .u8 x154)),v155,(iz x159),(.int .u8 (IntKind.wrap .u8 x159)),v160,(.str s164),v165,(iz x169),(.str s170),(.str (s164 ++ s170)),v171,(iz x175),(.str s176),(.str ((s164 ++ s170) ++ s176)),v177,(iz x181),(.str s182),(.str (((s164 ++ s170) ++ s176) ++ s182)),(.str (s60 ++ (((s164 ++ s170) ++ s176) ++ s182))),v99,v100,v101,v102,v103,v104,v105,v106,v107,v108,v109,v110,v111,v112,v113,v114,v115,v116,v117,v118,v119,v120,v121,v122,tz,tz,tz,tz,tz,tz],h180⟩ [2] [r14X1_0 C d a0 a1 a2 a3 a4 a5 a6 a7 a8 v0 v2 v4 x8 v9 x13 v14 x18 v19 x23 v24 x28 v29 x33 v34 s38 v39 x43 s44 v45 x49 s50 v51 x55 s56 k58 s60 x61 v69 v70 v123 v125 x129 v130 v132 v134 v139 x140 x141 x142 x143 v144 v148 v150 x154 v155 x159 v160 s164 v165 x169 s170 v171 x175 s176 v177 x181 s182] (r14E1 C d a0 a1 a2 a3 a4 a5 a6 a7 a8 v0 v2 v4 x8 v9 x13 v14 x18 v19 x23 v24 x28 v29 x33 v34 s38 v39 x43 s44 v45 x49 s50 v51 x55 s56 k58 s60 x61 v69 v70 v123 v125 x129 v130 v132 v134 v139 x140 x141 x142 x143 v144 v148 v150 x154 v155 x159 v160 s164 v165 x169 s170 v171 x175 s176 v177 x181 s182))
 (none))
 (none))
 (none))
 (none))
 (k58 (.exit 0) ⟨[(.agg [(.lst a0),(iz a1),(iz a2),(iz a3),(iz a4),(iz a5),(iz a6),(iz a7),(iz a8)]),v0,(.str []),(.str s60),(iz x61),v62,v63,v2,v4,(iz x8),(.int .u8 (IntKind.wrap .u8 x8)),v9,(iz x13),(.int .u8 (IntKind.wrap .u8 x13)),v14,(iz x18),(.int .u8 (IntKind.wrap .u8 x18)),v19,(iz x23),(.int .u8 (IntKind.wrap .u8 x23)),v24,(iz x28),(.int .u8 (IntKind.wrap .u8 x28)),v29,(iz x33),(.int .u8 (IntKind.wrap .u8 x33)),v34,(.str s38),(.str (65::70::84::85::s38)),v39,(iz x43),(.str s44),(.str (65::70::84::85::(s38 ++ s44))),v45,(iz x49),(.str s50),(.str (65::70::84::85::((s38 ++ s44) ++ s50))),v51,(iz x55),(.str s56),(.str (65::70::84::85::(((s38 ++ s44) ++ s50) ++ s56))),(iz x61),v123,v125,(iz x129),bf,v69,v70,v71,v72,v73,v74,v75,v76,v77,v78,v79,v80,v81,v82,v83,v84,v85,v86,v87,v88,v89,v90,v91,v92,v93,v94,v95,v96,v97,v98,v99,v100,v101,v102,v103,v104,v105,v106,v107,v108,v109,v110,v111,v112,v113,v114,v115,v116,v117,v118,v119,v120,v121,v122,tz,tz,tz,tz,tz,tz],h128⟩))
 (none)
def r14X0_0 (C:Cb) (d:Nat) (a0:List AV) (a1 a2 a3 a4 a5 a6 a7 a8:Int) (v0 v2 v4:AV) (x8:Int) (v9:AV) (x13:Int) (v14:AV) (x18:Int) (v19:AV) (x23:Int) (v24:AV) (x28:Int) (v29:AV) (x33:Int) (v34:AV) (s38:List UInt8) (v39:AV) (x43:Int) (s44:List UInt8) (v45:AV) (x49:Int) (s50:List UInt8) (v51:AV) (x55:Int) (s56:List UInt8):St→Ans:=fun s296 =>
 cnd ((List.length s296.env) == 106)
 (sames C s296.env 0 [(.agg [(.lst a0),(iz a1),(iz a2),(iz a3),(iz a4),(iz a5),(iz a6),(iz a7),(iz a8)]),v0,(.str [])] <|
 C.str s296.env[3]? fun s297 =>
 C.int .i64 s296.env[4]? fun x298 =>
 anys C s296.env 5 2 <|
 sames C s296.env 7 [v2,v4,(iz x8),(.int .u8 (IntKind.wrap .u8 x8)),v9,(iz x13),(.int .u8 (IntKind.wrap .u8 x13)),v14,(iz x18),(.int .u8 (IntKind.wrap .u8 x18)),v19,(iz x23),(.int .u8 (IntKind.wrap .u8 x23)),v24,(iz x28),(.int .u8 (IntKind.wrap .u8 x28)),v29,(iz x33),(.int .u8 (IntKind.wrap .u8 x33)),v34,(.str s38),(.str (65::70::84::85::s38)),v39,(iz x43),(.str s44),(.str (65::70::84::85::(s38 ++ s44))),v45,(iz x49),(.str s50),(.str (65::70::84::85::((s38 ++ s44) ++ s50))),v51,(iz x55),(.str s56),(.str (65::70::84::85::(((s38 ++ s44) ++ s50) ++ s56)))] <|
 C.int .i64 s296.env[41]? fun x301 =>
 anys C s296.env 42 2 <|
 C.int .i64 s296.env[44]? fun x304 =>
 C.bool s296.env[45]? fun b305 =>
 anys C s296.env 46 54 <|
 sames C s296.env 100 [tz,tz,tz,tz,tz,tz] <|
 C.int .u32 (pcall M d 19 [(.str s297)]) fun x360 =>
 C.str (pcall M d 28 [(iz (IntKind.wrap .i64 x360))]) fun s361 =>
 cnd (decide (((List.length s297)+(List.length s361))≤9223372036854775807))
 (C.fin (St.H s296) (.str (s297 ++ s361)))
 (none))
 (none)
def r14E0 (C:Cb) (d:Nat) (a0:List AV) (a1 a2 a3 a4 a5 a6 a7 a8:Int) (v0 v2 v4:AV) (x8:Int) (v9:AV) (x13:Int) (v14:AV) (x18:Int) (v19:AV) (x23:Int) (v24:AV) (x28:Int) (v29:AV) (x33:Int) (v34:AV) (s38:List UInt8) (v39:AV) (x43:Int) (s44:List UInt8) (v45:AV) (x49:Int) (s50:List UInt8) (v51:AV) (x55:Int) (s56:List UInt8):St→Ans:=fun s59 =>
 cnd ((List.length s59.env) == 106)
 (sames C s59.env 0 [(.agg [(.lst a0),(iz a1),(iz a2),(iz a3),(iz a4),(iz a5),(iz a6),(iz a7),(iz a8)]),v0,(.str [])] <|
 C.str s59.env[3]? fun s362 =>
 C.int .i64 s59.env[4]? fun x363 =>
 anys C s59.env 5 2 <|
 sames C s59.env 7 [v2,v4,(iz x8),(.int .u8 (IntKind.wrap .u8 x8)),v9,(iz x13),(.int .u8 (IntKind.wrap .u8 x13)),v14,(iz x18),(.int .u8 (IntKind.wrap .u8 x18)),v19,(iz x23),(.int .u8 (IntKind.wrap .u8 x23)),v24,(iz x28),(.int .u8 (IntKind.wrap .u8 x28)),v29,(iz x33),(.int .u8 (IntKind.wrap .u8 x33)),v34,(.str s38),(.str (65::70::84::85::s38)),v39,(iz x43),(.str s44),(.str (65::70::84::85::(s38 ++ s44))),v45,(iz x49),(.str s50),(.str (65::70::84::85::((s38 ++ s44) ++ s50))),v51,(iz x55),(.str s56),(.str (65::70::84::85::(((s38 ++ s44) ++ s50) ++ s56)))] <|
 anys C s59.env 41 59 <|
 sames C s59.env 100 [tz,tz,tz,tz,tz,tz] <|
 C.fin (St.H s59) (.str []))
 (none)
theorem r14 (C:Cb) (d:Nat) (a0:List AV) (a1 a2 a3 a4 a5 a6 a7 a8:Int):xcall C M unr d 14 [(.agg [(.lst a0),(iz a1),(iz a2),(iz a3),(iz a4),(iz a5),(iz a6),(iz a7),(iz a8)])] =
 C.hop [] (.box E24 (.v (.agg [(.lst a0),(iz a1),(iz a2),(iz a3),(iz a4),(iz a5),(iz a6),(iz a7),(iz a8)]))) fun v0 h1 =>
 C.hop h1 (.fldA 0 (.v v0)) fun v2 h3 =>
 C.hop h3 (.load false 1 (.v v2)) fun v4 h5 =>
 C.hop h5 (.bk .lenV [(.v v4)]) fun v6 h7 =>
 C.int .i64 (some v6) fun x8 =>
 C.hop h7 (.fldA 1 (.v v0)) fun v9 h10 =>
 C.hop h10 (.load false 1 (.v v9)) fun v11 h12 =>
 C.int .i64 (some v11) fun x13 =>
 C.hop h12 (.fldA 2 (.v v0)) fun v14 h15 =>
 C.hop h15 (.load false 1 (.v v14)) fun v16 h17 =>
 C.int .i64 (some v16) fun x18 =>
 C.hop h17 (.fldA 3 (.v v0)) fun v19 h20 =>
 C.hop h20 (.load false 1 (.v v19)) fun v21 h22 =>
 C.int .i64 (some v21) fun x23 =>
 C.hop h22 (.fldA 6 (.v v0)) fun v24 h25 =>
 C.hop h25 (.load false 1 (.v v24)) fun v26 h27 =>
 C.int .i64 (some v26) fun x28 =>
 C.hop h27 (.fldA 8 (.v v0)) fun v29 h30 =>
 C.hop h30 (.load false 1 (.v v29)) fun v31 h32 =>
 C.int .i64 (some v31) fun x33 =>
 C.hop h32 (.mkrow E5 6 [(0,(.v (.int .u8 (IntKind.wrap .u8 x8)))),(1,(.v (.int .u8 (IntKind.wrap .u8 x13)))),(2,(.v (.int .u8 (IntKind.wrap .u8 x18)))),(3,(.v (.int .u8 (IntKind.wrap .u8 x23)))),(4,(.v (.int .u8 (IntKind.wrap .u8 x28)))),(5,(.v (.int .u8 (IntKind.wrap .u8 x33))))]) fun v34 h35 =>
 C.hop h35 (.b2s (.v v34)) fun v36 h37 =>
 C.str (some v36) fun s38 =>
 cnd (decide ((4+(List.length s38))≤9223372036854775807))
 (C.hop h37 (.fldA 4 (.v v0)) fun v39 h40 =>
 C.hop h40 (.load false 1 (.v v39)) fun v41 h42 =>
 C.int .i64 (some v41) fun x43 =>
 C.str (pcall M d 28 [(iz x43)]) fun s44 =>
 cnd (decide (((List.length (65::70::84::85::s38))+(List.length s44))≤9223372036854775807))
 (C.hop h42 (.fldA 5 (.v v0)) fun v45 h46 =>
 C.hop h46 (.load false 1 (.v v45)) fun v47 h48 =>
 C.int .i64 (some v47) fun x49 =>
 C.str (pcall M d 28 [(iz x49)]) fun s50 =>
 cnd (decide (((List.length (65::70::84::85::(s38 ++ s44)))+(List.length s50))≤9223372036854775807))
 (C.hop h48 (.fldA 7 (.v v0)) fun v51 h52 =>
 C.hop h52 (.load false 1 (.v v51)) fun v53 h54 =>
 C.int .i64 (some v53) fun x55 =>
 C.str (pcall M d 28 [(iz x55)]) fun s56 =>
 cnd (decide (((List.length (65::70::84::85::((s38 ++ s44) ++ s50)))+(List.length s56))≤9223372036854775807))
 (C.iter (r14R0 C d a0 a1 a2 a3 a4 a5 a6 a7 a8 v0 v2 v4 x8 v9 x13 v14 x18 v19 x23 v24 x28 v29 x33 v34 s38 v39 x43 s44 v45 x49 s50 v51 x55 s56) 10000000000000000000 ⟨[(.agg [(.lst a0),(iz a1),(iz a2),(iz a3),(iz a4),(iz a5),(iz a6),(iz a7),(iz a8)]),v0,(.str []),(.str (65::70::84::85::(((s38 ++ s44) ++ s50) ++ s56))),(iz 0),tz,tz,v2,v4,(iz x8),(.int .u8 (IntKind.wrap .u8 x8)),v9,(iz x13),(.int .u8 (IntKind.wrap .u8 x13)),v14,(iz x18),(.int .u8 (IntKind.wrap .u8 x18)),v19,(iz x23),(.int .u8 (IntKind.wrap .u8 x23)),v24,(iz x28),(.int .u8 (IntKind.wrap .u8 x28)),v29,(iz x33),(.int .u8 (IntKind.wrap .u8 x33)),v34,(.str s38),(.str (65::70::84::85::s38)),v39,(iz x43),(.str s44),(.str (65::70::84::85::(s38 ++ s44))),v45,(iz x49),(.str s50),(.str (65::70::84::85::((s38 ++ s44) ++ s50))),v51,(iz x55),(.str s56),(.str (65::70::84::85::(((s38 ++ s44) ++ s50) ++ s56))),tz,tz,tz,tz,tz,tz,tz,tz,tz,tz,tz,tz,tz,tz,tz,tz,tz,tz,tz,tz,tz,tz,tz,tz,tz,tz,tz,tz,tz,tz,tz,tz,tz,tz,tz,tz,tz,tz,tz,tz,tz,tz,tz,tz,tz,tz,tz,tz,tz,tz,tz,tz,tz,tz,tz,tz,tz,tz,tz,tz,tz,tz,tz,tz,tz],h54⟩ [0] [r14X0_0 C d a0 a1 a2 a3 a4 a5 a6 a7 a8 v0 v2 v4 x8 v9 x13 v14 x18 v19 x23 v24 x28 v29 x33 v34 s38 v39 x43 s44 v45 x49 s50 v51 x55 s56] (r14E0 C d a0 a1 a2 a3 a4 a5 a6 a7 a8 v0 v2 v4 x8 v9 x13 v14 x18 v19 x23 v24 x28 v29 x33 v34 s38 v39 x43 s44 v45 x49 s50 v51 x55 s56))
 (none))
 (none))
 (none))
 (none):=by kernel_rfl
theorem r28 (C:Cb) (d:Nat) (a0:Int):xcall C M unr d 28 [(iz a0)] =
 some (.str [(UInt8.ofNat (Int.toNat (IntKind.wrap .u8 (Int.fdiv a0 (2 ^ (min (Int.toNat 24) 64)))))),(UInt8.ofNat (Int.toNat (IntKind.wrap .u8 (Int.fdiv a0 (2 ^ (min (Int.toNat 16) 64)))))),(UInt8.ofNat (Int.toNat (IntKind.wrap .u8 (Int.fdiv a0 (2 ^ (min (Int.toNat 8) 64)))))),(UInt8.ofNat (Int.toNat (IntKind.wrap .u8 a0)))]):=by kernel_rfl
noncomputable def X14_1_0 (d:Nat) (x61:Int) (v144:AV) (k58N:List UInt8→Int→Heap→Ans) (s244:List UInt8) (H:Heap):Ans :=
 k58N s244 (IntKind.wrap .i64 (x61+1)) H
theorem X14_1_0_ok (d:Nat) (a0:List AV) (a1 a2 a3 a4 a5 a6 a7 a8:Int) (v0 v2 v4:AV) (x8:Int) (v9:AV) (x13:Int) (v14:AV) (x18:Int) (v19:AV) (x23:Int) (v24:AV) (x28:Int) (v29:AV) (x33:Int) (v34:AV) (s38:List UInt8) (v39:AV) (x43:Int) (s44:List UInt8) (v45:AV) (x49:Int) (s50:List UInt8) (v51:AV) (x55:Int) (s56:List UInt8) (k58:Ex→St→Ans) (s60:List UInt8) (x61:Int) (v69 v70 v123 v125:AV) (x129:Int) (v130 v132 v134 v139:AV) (x140 x141 x142 x143:Int) (v144 v148 v150:AV) (x154:Int) (v155:AV) (x159:Int) (v160:AV) (s164:List UInt8) (v165:AV) (x169:Int) (s170:List UInt8) (v171:AV) (x175:Int) (s176:List UInt8) (v177:AV) (x181:Int) (s182:List UInt8) (k58N:List UInt8→Int→Heap→Ans) (hk58N:∀ (s60:List UInt8) (x61:Int) (v62 v63 v64 v65 v66 v67 v68 v69 v70 v71 v72 v73 v74 v75 v76 v77 v78 v79 v80 v81 v82 v83 v84 v85 v86 v87 v88 v89 v90 v91 v92 v93 v94 v95 v96 v97 v98 v99 v100 v101 v102 v103 v104 v105 v106 v107 v108 v109 v110 v111 v112 v113 v114 v115 v116 v117 v118 v119 v120 v121 v122:AV) (H:Heap),k58 .normal ⟨[(.agg [(.lst a0),(iz a1),(iz a2),(iz a3),(iz a4),(iz a5),(iz a6),(iz a7),(iz a8)]),v0,(.str []),(.str s60),(iz x61),v62,v63,v2,v4,(iz x8),(.int .u8 (IntKind.wrap .u8 x8)),v9,(iz x13),(.int .u8 (IntKind.wrap .u8 x13)),v14,(iz x18),(.int .u8 (IntKind.wrap .u8 x18)),v19,(iz x23),(.int .u8 (IntKind.wrap .u8 x23)),v24,(iz x28),(.int .u8 (IntKind.wrap .u8 x28)),v29,(iz x33),(.int .u8 (IntKind.wrap .u8 x33)),v34,(.str s38),(.str (65::70::84::85::s38)),v39,(iz x43),(.str s44),(.str (65::70::84::85::(s38 ++ s44))),v45,(iz x49),(.str s50),(.str (65::70::84::85::((s38 ++ s44) ++ s50))),v51,(iz x55),(.str s56),(.str (65::70::84::85::(((s38 ++ s44) ++ s50) ++ s56))),v64,v65,v66,v67,v68,v69,v70,v71,v72,v73,v74,v75,v76,v77,v78,v79,v80,v81,v82,v83,v84,v85,v86,v87,v88,v89,v90,v91,v92,v93,v94,v95,v96,v97,v98,v99,v100,v101,v102,v103,v104,v105,v106,v107,v108,v109,v110,v111,v112,v113,v114,v115,v116,v117,v118,v119,v120,v121,v122,tz,tz,tz,tz,tz,tz],H⟩=k58N s60 x61 H) (s244:List UInt8) (x245 x246:Int) (v247 v248:AV) (x249:Int) (b250:Bool) (v251 v252 v253 v254 v255 v256 v257 v258 v259 v260 v261 v262 v263 v264 v265 v266 v267 v268 v269:AV) (H:Heap):r14X1_0 C0 d a0 a1 a2 a3 a4 a5 a6 a7 a8 v0 v2 v4 x8 v9 x13 v14 x18 v19 x23 v24 x28 v29 x33 v34 s38 v39 x43 s44 v45 x49 s50 v51 x55 s56 k58 s60 x61 v69 v70 v123 v125 x129 v130 v132 v134 v139 x140 x141 x142 x143 v144 v148 v150 x154 v155 x159 v160 s164 v165 x169 s170 v171 x175 s176 v177 x181 s182 ⟨[(.agg [(.lst a0),(iz a1),(iz a2),(iz a3),(iz a4),(iz a5),(iz a6),(iz a7),(iz a8)]),v0,(.str []),(.str s244),(iz x61),v144,(iz x245),v2,v4,(iz x8),(.int .u8 (IntKind.wrap .u8 x8)),v9,(iz x13),(.int .u8 (IntKind.wrap .u8 x13)),v14,(iz x18),(.int .u8 (IntKind.wrap .u8 x18)),v19,(iz x23),(.int .u8 (IntKind.wrap .u8 x23)),v24,(iz x28),(.int .u8 (IntKind.wrap .u8 x28)),v29,(iz x33),(.int .u8 (IntKind.wrap .u8 x33)),v34,(.str s38),(.str (65::70::84::85::s38)),v39,(iz x43),(.str s44),(.str (65::70::84::85::(s38 ++ s44))),v45,(iz x49),(.str s50),(.str (65::70::84::85::((s38 ++ s44) ++ s50))),v51,(iz x55),(.str s56),(.str (65::70::84::85::(((s38 ++ s44) ++ s50) ++ s56))),(iz x61),v123,v125,(iz x129),bt,v69,v70,v130,v132,(iz x61),v134,(.agg [v139,(iz x140),(iz x141),(iz x142),(iz x143)]),(.str s60),v148,v150,(iz x154),(.int .u8 (IntKind.wrap .u8 x154)),v155,(iz x159),(.int .u8 (IntKind.wrap .u8 x159)),v160,(.str s164),v165,(iz x169),(.str s170),(.str (s164 ++ s170)),v171,(iz x175),(.str s176),(.str ((s164 ++ s170) ++ s176)),v177,(iz x181),(.str s182),(.str (((s164 ++ s170) ++ s176) ++ s182)),(.str (s60 ++ (((s164 ++ s170) ++ s176) ++ s182))),(iz x246),v247,v248,(iz x249),(bz b250),v251,v252,v253,v254,v255,v256,v257,v258,v259,v260,v261,v262,v263,v264,v265,v266,v267,v268,v269,tz,tz,tz,tz,tz,tz],H⟩=X14_1_0 d x61 v144 k58N s244 H:=by
 try dsimp only at hk58N
 unfold r14X1_0; refine Eq.trans (pl_len (by rfl)) ?_; refine yt ySs ?_; refine Eq.trans (pl_str (by rfl)) ?_; refine yt ySs ?_; refine yt yI ?_; refine yt ySs ?_; refine yt yI ?_; (iterate 2 (refine yt yA ?_)); refine yt yI ?_; refine yt yB ?_; (iterate 19 (refine yt yA ?_)); refine yt ySs ?_
 first | (simp only [hk58N] <;> rfl) | rfl
noncomputable def L14_1 (d:Nat) (x61:Int) (v144:AV) (k58N:List UInt8→Int→Heap→Ans):Nat→List UInt8→Int→Heap→Ans
 | 0,_,_,_=>none
 | n+1,s186,x187,H =>
 C0.hop H (.fldA 0 (.v v144)) fun v212 h213 =>
  C0.hop h213 (.load false 1 (.v v212)) fun v214 h215 =>
  C0.hop h215 (.bk .lenV [(.v v214)]) fun v216 h217 =>
  C0.int .i64 (some v216) fun x218 =>
  cnd (decide (x187 < x218))
  (C0.hop h217 (.fldA 0 (.v v144)) fun v219 h220 =>
  C0.hop h220 (.load false 1 (.v v219)) fun v221 h222 =>
  C0.hop h222 (.ixAS .any 2 (.v v221) (.v (iz x187))) fun v223 h224 =>
  C0.hop h224 (.fldA 0 (.v v223)) fun v225 h226 =>
  C0.hop h226 (.load false 1 (.v v225)) fun v227 h228 =>
  C0.int .i64 (some v227) fun x229 =>
  C0.str (pcall M d 28 [(iz x229)]) fun s230 =>
  C0.hop h228 (.fldA 0 (.v v144)) fun v231 h232 =>
  C0.hop h232 (.load false 1 (.v v231)) fun v233 h234 =>
  C0.hop h234 (.ixAS .any 2 (.v v233) (.v (iz x187))) fun v235 h236 =>
  C0.hop h236 (.fldA 1 (.v v235)) fun v237 h238 =>
  C0.hop h238 (.load false 1 (.v v237)) fun v239 h240 =>
  C0.int .i64 (some v239) fun x241 =>
  C0.str (pcall M d 28 [(iz x241)]) fun s242 =>
  cnd (decide (((List.length s230)+(List.length s242))≤9223372036854775807))
  (cnd (decide (((List.length s186)+(List.length (s230 ++ s242)))≤9223372036854775807))
  (L14_1 d x61 v144 k58N n (s186 ++ (s230 ++ s242)) (IntKind.wrap .i64 (x187+1)) h240)
  (none))
  (none))
  (X14_1_0 d x61 v144 k58N s186 h217)
theorem L14_1_s (d:Nat) (x61:Int) (v144:AV) (k58N:List UInt8→Int→Heap→Ans) (n:Nat) (s186:List UInt8) (x187:Int) (H:Heap):L14_1 d x61 v144 k58N (n+1) s186 x187 H=(C0.hop H (.fldA 0 (.v v144)) fun v212 h213 =>
 C0.hop h213 (.load false 1 (.v v212)) fun v214 h215 =>
 C0.hop h215 (.bk .lenV [(.v v214)]) fun v216 h217 =>
 C0.int .i64 (some v216) fun x218 =>
 cnd (decide (x187 < x218))
 (C0.hop h217 (.fldA 0 (.v v144)) fun v219 h220 =>
 C0.hop h220 (.load false 1 (.v v219)) fun v221 h222 =>
 C0.hop h222 (.ixAS .any 2 (.v v221) (.v (iz x187))) fun v223 h224 =>
 C0.hop h224 (.fldA 0 (.v v223)) fun v225 h226 =>
 C0.hop h226 (.load false 1 (.v v225)) fun v227 h228 =>
 C0.int .i64 (some v227) fun x229 =>
 C0.str (pcall M d 28 [(iz x229)]) fun s230 =>
 C0.hop h228 (.fldA 0 (.v v144)) fun v231 h232 =>
 C0.hop h232 (.load false 1 (.v v231)) fun v233 h234 =>
 C0.hop h234 (.ixAS .any 2 (.v v233) (.v (iz x187))) fun v235 h236 =>
 C0.hop h236 (.fldA 1 (.v v235)) fun v237 h238 =>
 C0.hop h238 (.load false 1 (.v v237)) fun v239 h240 =>
 C0.int .i64 (some v239) fun x241 =>
 C0.str (pcall M d 28 [(iz x241)]) fun s242 =>
 cnd (decide (((List.length s230)+(List.length s242))≤9223372036854775807))
 (cnd (decide (((List.length s186)+(List.length (s230 ++ s242)))≤9223372036854775807))
 (L14_1 d x61 v144 k58N n (s186 ++ (s230 ++ s242)) (IntKind.wrap .i64 (x187+1)) h240)
 (none))
 (none))
 (X14_1_0 d x61 v144 k58N s186 h217)):=by kernel_rfl
theorem it14_1 (d:Nat) (a0:List AV) (a1 a2 a3 a4 a5 a6 a7 a8:Int) (v0 v2 v4:AV) (x8:Int) (v9:AV) (x13:Int) (v14:AV) (x18:Int) (v19:AV) (x23:Int) (v24:AV) (x28:Int) (v29:AV) (x33:Int) (v34:AV) (s38:List UInt8) (v39:AV) (x43:Int) (s44:List UInt8) (v45:AV) (x49:Int) (s50:List UInt8) (v51:AV) (x55:Int) (s56:List UInt8) (k58:Ex→St→Ans) (s60:List UInt8) (x61:Int) (v69 v70 v123 v125:AV) (x129:Int) (v130 v132 v134 v139:AV) (x140 x141 x142 x143:Int) (v144 v148 v150:AV) (x154:Int) (v155:AV) (x159:Int) (v160:AV) (s164:List UInt8) (v165:AV) (x169:Int) (s170:List UInt8) (v171:AV) (x175:Int) (s176:List UInt8) (v177:AV) (x181:Int) (s182:List UInt8) (k58N:List UInt8→Int→Heap→Ans) (hk58N:∀ (s60:List UInt8) (x61:Int) (v62 v63 v64 v65 v66 v67 v68 v69 v70 v71 v72 v73 v74 v75 v76 v77 v78 v79 v80 v81 v82 v83 v84 v85 v86 v87 v88 v89 v90 v91 v92 v93 v94 v95 v96 v97 v98 v99 v100 v101 v102 v103 v104 v105 v106 v107 v108 v109 v110 v111 v112 v113 v114 v115 v116 v117 v118 v119 v120 v121 v122:AV) (H:Heap),k58 .normal ⟨[(.agg [(.lst a0),(iz a1),(iz a2),(iz a3),(iz a4),(iz a5),(iz a6),(iz a7),(iz a8)]),v0,(.str []),(.str s60),(iz x61),v62,v63,v2,v4,(iz x8),(.int .u8 (IntKind.wrap .u8 x8)),v9,(iz x13),(.int .u8 (IntKind.wrap .u8 x13)),v14,(iz x18),(.int .u8 (IntKind.wrap .u8 x18)),v19,(iz x23),(.int .u8 (IntKind.wrap .u8 x23)),v24,(iz x28),(.int .u8 (IntKind.wrap .u8 x28)),v29,(iz x33),(.int .u8 (IntKind.wrap .u8 x33)),v34,(.str s38),(.str (65::70::84::85::s38)),v39,(iz x43),(.str s44),(.str (65::70::84::85::(s38 ++ s44))),v45,(iz x49),(.str s50),(.str (65::70::84::85::((s38 ++ s44) ++ s50))),v51,(iz x55),(.str s56),(.str (65::70::84::85::(((s38 ++ s44) ++ s50) ++ s56))),v64,v65,v66,v67,v68,v69,v70,v71,v72,v73,v74,v75,v76,v77,v78,v79,v80,v81,v82,v83,v84,v85,v86,v87,v88,v89,v90,v91,v92,v93,v94,v95,v96,v97,v98,v99,v100,v101,v102,v103,v104,v105,v106,v107,v108,v109,v110,v111,v112,v113,v114,v115,v116,v117,v118,v119,v120,v121,v122,tz,tz,tz,tz,tz,tz],H⟩=k58N s60 x61 H):∀ (n:Nat) (s186:List UInt8) (x187:Int) (v188 v189 v190 v191 v192 v193 v194 v195 v196 v197 v198 v199 v200 v201 v202 v203 v204 v205 v206 v207 v208 v209 v210 v211:AV) (H:Heap),C0.iter (r14R1 C0 d a0 a1 a2 a3 a4 a5 a6 a7 a8 v0 v2 v4 x8 v9 x13 v14 x18 v19 x23 v24 x28 v29 x33 v34 s38 v39 x43 s44 v45 x49 s50 v51 x55 s56 k58 s60 x61 v69 v70 v123 v125 x129 v130 v132 v134 v139 x140 x141 x142 x143 v144 v148 v150 x154 v155 x159 v160 s164 v165 x169 s170 v171 x175 s176 v177 x181 s182) n ⟨[(.agg [(.lst a0),(iz a1),(iz a2),(iz a3),(iz a4),(iz a5),(iz a6),(iz a7),(iz a8)]),v0,(.str []),(.str s186),(iz x61),v144,(iz x187),v2,v4,(iz x8),(.int .u8 (IntKind.wrap .u8 x8)),v9,(iz x13),(.int .u8 (IntKind.wrap .u8 x13)),v14,(iz x18),(.int .u8 (IntKind.wrap .u8 x18)),v19,(iz x23),(.int .u8 (IntKind.wrap .u8 x23)),v24,(iz x28),(.int .u8 (IntKind.wrap .u8 x28)),v29,(iz x33),(.int .u8 (IntKind.wrap .u8 x33)),v34,(.str s38),(.str (65::70::84::85::s38)),v39,(iz x43),(.str s44),(.str (65::70::84::85::(s38 ++ s44))),v45,(iz x49),(.str s50),(.str (65::70::84::85::((s38 ++ s44) ++ s50))),v51,(iz x55),(.str s56),(.str (65::70::84::85::(((s38 ++ s44) ++ s50) ++ s56))),(iz x61),v123,v125,(iz x129),bt,v69,v70,v130,v132,(iz x61),v134,(.agg [v139,(iz x140),(iz x141),(iz x142),(iz x143)]),(.str s60),v148,v150,(iz x154),(.int .u8 (IntKind.wrap .u8 x154)),v155,(iz x159),(.int .u8 (IntKind.wrap .u8 x159)),v160,(.str s164),v165,(iz x169),(.str s170),(.str (s164 ++ s170)),v171,(iz x175),(.str s176),(.str ((s164 ++ s170) ++ s176)),v177,(iz x181),(.str s182),(.str (((s164 ++ s170) ++ s176) ++ s182)),(.str (s60 ++ (((s164 ++ s170) ++ s176) ++ s182))),v188,v189,v190,v191,v192,v193,v194,v195,v196,v197,v198,v199,v200,v201,v202,v203,v204,v205,v206,v207,v208,v209,v210,v211,tz,tz,tz,tz,tz,tz],H⟩ [2] [r14X1_0 C0 d a0 a1 a2 a3 a4 a5 a6 a7 a8 v0 v2 v4 x8 v9 x13 v14 x18 v19 x23 v24 x28 v29 x33 v34 s38 v39 x43 s44 v45 x49 s50 v51 x55 s56 k58 s60 x61 v69 v70 v123 v125 x129 v130 v132 v134 v139 x140 x141 x142 x143 v144 v148 v150 x154 v155 x159 v160 s164 v165 x169 s170 v171 x175 s176 v177 x181 s182] (r14E1 C0 d a0 a1 a2 a3 a4 a5 a6 a7 a8 v0 v2 v4 x8 v9 x13 v14 x18 v19 x23 v24 x28 v29 x33 v34 s38 v39 x43 s44 v45 x49 s50 v51 x55 s56 k58 s60 x61 v69 v70 v123 v125 x129 v130 v132 v134 v139 x140 x141 x142 x143 v144 v148 v150 x154 v155 x159 v160 s164 v165 x169 s170 v171 x175 s176 v177 x181 s182)=L14_1 d x61 v144 k58N n s186 x187 H:=by
 generalize hR:r14R1 C0 d a0 a1 a2 a3 a4 a5 a6 a7 a8 v0 v2 v4 x8 v9 x13 v14 x18 v19 x23 v24 x28 v29 x33 v34 s38 v39 x43 s44 v45 x49 s50 v51 x55 s56 k58 s60 x61 v69 v70 v123 v125 x129 v130 v132 v134 v139 x140 x141 x142 x143 v144 v148 v150 x154 v155 x159 v160 s164 v165 x169 s170 v171 x175 s176 v177 x181 s182=R
 intro n
 induction n with
 | zero=>intros; rfl
 | succ n ih =>
   intro s186 x187 v188 v189 v190 v191 v192 v193 v194 v195 v196 v197 v198 v199 v200 v201 v202 v203 v204 v205 v206 v207 v208 v209 v210 v211 H
   simp only [it_ret] at ih
   rw [it_ret,xiter_s]
   refine Eq.trans (congrFun (congrFun hR.symm _) _) ?_
   unfold r14R1
   refine Eq.trans (pl_len (by rfl)) ?_; refine yt ySs ?_; refine Eq.trans (pl_str (by rfl)) ?_; refine yt ySs ?_; refine yt yI ?_; refine yt ySs ?_; refine yt yAs ?_; (iterate 19 (refine yt yA ?_)); refine yt ySs ?_
   simp only [kIter_n,kIter_x,kIter_r,kOut_x,kOut_r,xgo_hit,xgo_miss,ih,X14_1_0_ok d a0 a1 a2 a3 a4 a5 a6 a7 a8 v0 v2 v4 x8 v9 x13 v14 x18 v19 x23 v24 x28 v29 x33 v34 s38 v39 x43 s44 v45 x49 s50 v51 x55 s56 k58 s60 x61 v69 v70 v123 v125 x129 v130 v132 v134 v139 x140 x141 x142 x143 v144 v148 v150 x154 v155 x159 v160 s164 v165 x169 s170 v171 x175 s176 v177 x181 s182 k58N hk58N]
   exact (L14_1_s d x61 v144 k58N n s186 x187 H).symm
noncomputable def X14_0_0 (d:Nat) (v0:AV) (s297:List UInt8) (H:Heap):Ans :=
 C0.int .u32 (pcall M d 19 [(.str s297)]) fun x360 =>
  C0.str (pcall M d 28 [(iz (IntKind.wrap .i64 x360))]) fun s361 =>
  cnd (decide (((List.length s297)+(List.length s361))≤9223372036854775807))
  (C0.fin H (.str (s297 ++ s361)))
  (none)
theorem X14_0_0_ok (d:Nat) (a0:List AV) (a1 a2 a3 a4 a5 a6 a7 a8:Int) (v0 v2 v4:AV) (x8:Int) (v9:AV) (x13:Int) (v14:AV) (x18:Int) (v19:AV) (x23:Int) (v24:AV) (x28:Int) (v29:AV) (x33:Int) (v34:AV) (s38:List UInt8) (v39:AV) (x43:Int) (s44:List UInt8) (v45:AV) (x49:Int) (s50:List UInt8) (v51:AV) (x55:Int) (s56:List UInt8)   (s297:List UInt8) (x298:Int) (v299 v300:AV) (x301:Int) (v302 v303:AV) (x304:Int) (b305:Bool) (v306 v307 v308 v309 v310 v311 v312 v313 v314 v315 v316 v317 v318 v319 v320 v321 v322 v323 v324 v325 v326 v327 v328 v329 v330 v331 v332 v333 v334 v335 v336 v337 v338 v339 v340 v341 v342 v343 v344 v345 v346 v347 v348 v349 v350 v351 v352 v353 v354 v355 v356 v357 v358 v359:AV) (H:Heap):r14X0_0 C0 d a0 a1 a2 a3 a4 a5 a6 a7 a8 v0 v2 v4 x8 v9 x13 v14 x18 v19 x23 v24 x28 v29 x33 v34 s38 v39 x43 s44 v45 x49 s50 v51 x55 s56 ⟨[(.agg [(.lst a0),(iz a1),(iz a2),(iz a3),(iz a4),(iz a5),(iz a6),(iz a7),(iz a8)]),v0,(.str []),(.str s297),(iz x298),v299,v300,v2,v4,(iz x8),(.int .u8 (IntKind.wrap .u8 x8)),v9,(iz x13),(.int .u8 (IntKind.wrap .u8 x13)),v14,(iz x18),(.int .u8 (IntKind.wrap .u8 x18)),v19,(iz x23),(.int .u8 (IntKind.wrap .u8 x23)),v24,(iz x28),(.int .u8 (IntKind.wrap .u8 x28)),v29,(iz x33),(.int .u8 (IntKind.wrap .u8 x33)),v34,(.str s38),(.str (65::70::84::85::s38)),v39,(iz x43),(.str s44),(.str (65::70::84::85::(s38 ++ s44))),v45,(iz x49),(.str s50),(.str (65::70::84::85::((s38 ++ s44) ++ s50))),v51,(iz x55),(.str s56),(.str (65::70::84::85::(((s38 ++ s44) ++ s50) ++ s56))),(iz x301),v302,v303,(iz x304),(bz b305),v306,v307,v308,v309,v310,v311,v312,v313,v314,v315,v316,v317,v318,v319,v320,v321,v322,v323,v324,v325,v326,v327,v328,v329,v330,v331,v332,v333,v334,v335,v336,v337,v338,v339,v340,v341,v342,v343,v344,v345,v346,v347,v348,v349,v350,v351,v352,v353,v354,v355,v356,v357,v358,v359,tz,tz,tz,tz,tz,tz],H⟩=X14_0_0 d v0 s297 H:=by
 unfold r14X0_0; refine Eq.trans (pl_len (by rfl)) ?_; refine yt ySs ?_; refine Eq.trans (pl_str (by rfl)) ?_; refine yt yI ?_; refine yt yAs ?_; refine yt ySs ?_; refine yt yI ?_; refine yt yAs ?_; refine yt yI ?_; refine yt yB ?_; refine yt yAs ?_; refine yt ySs ?_
 rfl
noncomputable def L14_0 (d:Nat) (v0:AV):Nat→List UInt8→Int→Heap→Ans
 | 0,_,_,_=>none
 | n+1,s60,x61,H =>
 C0.hop H (.fldA 0 (.v v0)) fun v123 h124 =>
  C0.hop h124 (.load false 1 (.v v123)) fun v125 h126 =>
  C0.hop h126 (.bk .lenV [(.v v125)]) fun v127 h128 =>
  C0.int .i64 (some v127) fun x129 =>
  cnd (decide (x61 < x129))
  (C0.hop h128 (.fldA 0 (.v v0)) fun v130 h131 =>
  C0.hop h131 (.load false 1 (.v v130)) fun v132 h133 =>
  C0.hop h133 (.ixAS .any 5 (.v v132) (.v (iz x61))) fun v134 h135 =>
  C0.hop h135 (.load true 5 (.v v134)) fun v136 h137 =>
  C0.agg 5 (some v136) fun l138 =>
  C0.any l138[0]? fun v139 =>
  C0.int .i64 l138[1]? fun x140 =>
  C0.int .i64 l138[2]? fun x141 =>
  C0.int .i64 l138[3]? fun x142 =>
  C0.int .i64 l138[4]? fun x143 =>
  C0.hop h137 (.alloc E46) fun v144 h145 =>
  C0.hop h145 (.store 5 (.v v144) (.v (.agg [v139,(iz x140),(iz x141),(iz x142),(iz x143)]))) fun v146 h147 =>
  C0.hop h147 (.fldA 0 (.v v144)) fun v148 h149 =>
  C0.hop h149 (.load false 1 (.v v148)) fun v150 h151 =>
  C0.hop h151 (.bk .lenV [(.v v150)]) fun v152 h153 =>
  C0.int .i64 (some v152) fun x154 =>
  C0.hop h153 (.fldA 1 (.v v144)) fun v155 h156 =>
  C0.hop h156 (.load false 1 (.v v155)) fun v157 h158 =>
  C0.int .i64 (some v157) fun x159 =>
  C0.hop h158 (.mkrow E5 2 [(0,(.v (.int .u8 (IntKind.wrap .u8 x154)))),(1,(.v (.int .u8 (IntKind.wrap .u8 x159))))]) fun v160 h161 =>
  C0.hop h161 (.b2s (.v v160)) fun v162 h163 =>
  C0.str (some v162) fun s164 =>
  C0.hop h163 (.fldA 2 (.v v144)) fun v165 h166 =>
  C0.hop h166 (.load false 1 (.v v165)) fun v167 h168 =>
  C0.int .i64 (some v167) fun x169 =>
  C0.str (pcall M d 28 [(iz x169)]) fun s170 =>
  cnd (decide (((List.length s164)+(List.length s170))≤9223372036854775807))
  (C0.hop h168 (.fldA 3 (.v v144)) fun v171 h172 =>
  C0.hop h172 (.load false 1 (.v v171)) fun v173 h174 =>
  C0.int .i64 (some v173) fun x175 =>
  C0.str (pcall M d 28 [(iz x175)]) fun s176 =>
  cnd (decide (((List.length (s164 ++ s170))+(List.length s176))≤9223372036854775807))
  (C0.hop h174 (.fldA 4 (.v v144)) fun v177 h178 =>
  C0.hop h178 (.load false 1 (.v v177)) fun v179 h180 =>
  C0.int .i64 (some v179) fun x181 =>
  C0.str (pcall M d 28 [(iz x181)]) fun s182 =>
  cnd (decide (((List.length ((s164 ++ s170) ++ s176))+(List.length s182))≤9223372036854775807))
  (cnd (decide (((List.length s60)+(List.length (((s164 ++ s170) ++ s176) ++ s182)))≤9223372036854775807))
  (L14_1 d x61 v144 (fun s60 x61 H=>L14_0 d v0 n s60 x61 H) 10000000000000000000 (s60 ++ (((s164 ++ s170) ++ s176) ++ s182)) 0 h180)
  (none))
  (none))
  (none))
  (none))
  (X14_0_0 d v0 s60 h128)
theorem L14_0_s (d:Nat) (v0:AV) (n:Nat) (s60:List UInt8) (x61:Int) (H:Heap):L14_0 d v0 (n+1) s60 x61 H=(C0.hop H (.fldA 0 (.v v0)) fun v123 h124 =>
 C0.hop h124 (.load false 1 (.v v123)) fun v125 h126 =>
 C0.hop h126 (.bk .lenV [(.v v125)]) fun v127 h128 =>
 C0.int .i64 (some v127) fun x129 =>
 cnd (decide (x61 < x129))
 (C0.hop h128 (.fldA 0 (.v v0)) fun v130 h131 =>
 C0.hop h131 (.load false 1 (.v v130)) fun v132 h133 =>
 C0.hop h133 (.ixAS .any 5 (.v v132) (.v (iz x61))) fun v134 h135 =>
 C0.hop h135 (.load true 5 (.v v134)) fun v136 h137 =>
 C0.agg 5 (some v136) fun l138 =>
 C0.any l138[0]? fun v139 =>
 C0.int .i64 l138[1]? fun x140 =>
 C0.int .i64 l138[2]? fun x141 =>
 C0.int .i64 l138[3]? fun x142 =>
 C0.int .i64 l138[4]? fun x143 =>
 C0.hop h137 (.alloc E46) fun v144 h145 =>
 C0.hop h145 (.store 5 (.v v144) (.v (.agg [v139,(iz x140),(iz x141),(iz x142),(iz x143)]))) fun v146 h147 =>
 C0.hop h147 (.fldA 0 (.v v144)) fun v148 h149 =>
 C0.hop h149 (.load false 1 (.v v148)) fun v150 h151 =>
 C0.hop h151 (.bk .lenV [(.v v150)]) fun v152 h153 =>
 C0.int .i64 (some v152) fun x154 =>
 C0.hop h153 (.fldA 1 (.v v144)) fun v155 h156 =>
 C0.hop h156 (.load false 1 (.v v155)) fun v157 h158 =>
 C0.int .i64 (some v157) fun x159 =>
 C0.hop h158 (.mkrow E5 2 [(0,(.v (.int .u8 (IntKind.wrap .u8 x154)))),(1,(.v (.int .u8 (IntKind.wrap .u8 x159))))]) fun v160 h161 =>
 C0.hop h161 (.b2s (.v v160)) fun v162 h163 =>
 C0.str (some v162) fun s164 =>
 C0.hop h163 (.fldA 2 (.v v144)) fun v165 h166 =>
 C0.hop h166 (.load false 1 (.v v165)) fun v167 h168 =>
 C0.int .i64 (some v167) fun x169 =>
 C0.str (pcall M d 28 [(iz x169)]) fun s170 =>
 cnd (decide (((List.length s164)+(List.length s170))≤9223372036854775807))
 (C0.hop h168 (.fldA 3 (.v v144)) fun v171 h172 =>
 C0.hop h172 (.load false 1 (.v v171)) fun v173 h174 =>
 C0.int .i64 (some v173) fun x175 =>
 C0.str (pcall M d 28 [(iz x175)]) fun s176 =>
 cnd (decide (((List.length (s164 ++ s170))+(List.length s176))≤9223372036854775807))
 (C0.hop h174 (.fldA 4 (.v v144)) fun v177 h178 =>
 C0.hop h178 (.load false 1 (.v v177)) fun v179 h180 =>
 C0.int .i64 (some v179) fun x181 =>
 C0.str (pcall M d 28 [(iz x181)]) fun s182 =>
 cnd (decide (((List.length ((s164 ++ s170) ++ s176))+(List.length s182))≤9223372036854775807))
 (cnd (decide (((List.length s60)+(List.length (((s164 ++ s170) ++ s176) ++ s182)))≤9223372036854775807))
 (L14_1 d x61 v144 (fun s60 x61 H=>L14_0 d v0 n s60 x61 H) 10000000000000000000 (s60 ++ (((s164 ++ s170) ++ s176) ++ s182)) 0 h180)
 (none))
 (none))
 (none))
 (none))
 (X14_0_0 d v0 s60 h128)):=by kernel_rfl
theorem it14_0 (d:Nat) (a0:List AV) (a1 a2 a3 a4 a5 a6 a7 a8:Int) (v0 v2 v4:AV) (x8:Int) (v9:AV) (x13:Int) (v14:AV) (x18:Int) (v19:AV) (x23:Int) (v24:AV) (x28:Int) (v29:AV) (x33:Int) (v34:AV) (s38:List UInt8) (v39:AV) (x43:Int) (s44:List UInt8) (v45:AV) (x49:Int) (s50:List UInt8) (v51:AV) (x55:Int) (s56:List UInt8)  :∀ (n:Nat) (s60:List UInt8) (x61:Int) (v62 v63 v64 v65 v66 v67 v68 v69 v70 v71 v72 v73 v74 v75 v76 v77 v78 v79 v80 v81 v82 v83 v84 v85 v86 v87 v88 v89 v90 v91 v92 v93 v94 v95 v96 v97 v98 v99 v100 v101 v102 v103 v104 v105 v106 v107 v108 v109 v110 v111 v112 v113 v114 v115 v116 v117 v118 v119 v120 v121 v122:AV) (H:Heap),C0.iter (r14R0 C0 d a0 a1 a2 a3 a4 a5 a6 a7 a8 v0 v2 v4 x8 v9 x13 v14 x18 v19 x23 v24 x28 v29 x33 v34 s38 v39 x43 s44 v45 x49 s50 v51 x55 s56) n ⟨[(.agg [(.lst a0),(iz a1),(iz a2),(iz a3),(iz a4),(iz a5),(iz a6),(iz a7),(iz a8)]),v0,(.str []),(.str s60),(iz x61),v62,v63,v2,v4,(iz x8),(.int .u8 (IntKind.wrap .u8 x8)),v9,(iz x13),(.int .u8 (IntKind.wrap .u8 x13)),v14,(iz x18),(.int .u8 (IntKind.wrap .u8 x18)),v19,(iz x23),(.int .u8 (IntKind.wrap .u8 x23)),v24,(iz x28),(.int .u8 (IntKind.wrap .u8 x28)),v29,(iz x33),(.int .u8 (IntKind.wrap .u8 x33)),v34,(.str s38),(.str (65::70::84::85::s38)),v39,(iz x43),(.str s44),(.str (65::70::84::85::(s38 ++ s44))),v45,(iz x49),(.str s50),(.str (65::70::84::85::((s38 ++ s44) ++ s50))),v51,(iz x55),(.str s56),(.str (65::70::84::85::(((s38 ++ s44) ++ s50) ++ s56))),v64,v65,v66,v67,v68,v69,v70,v71,v72,v73,v74,v75,v76,v77,v78,v79,v80,v81,v82,v83,v84,v85,v86,v87,v88,v89,v90,v91,v92,v93,v94,v95,v96,v97,v98,v99,v100,v101,v102,v103,v104,v105,v106,v107,v108,v109,v110,v111,v112,v113,v114,v115,v116,v117,v118,v119,v120,v121,v122,tz,tz,tz,tz,tz,tz],H⟩ [0] [r14X0_0 C0 d a0 a1 a2 a3 a4 a5 a6 a7 a8 v0 v2 v4 x8 v9 x13 v14 x18 v19 x23 v24 x28 v29 x33 v34 s38 v39 x43 s44 v45 x49 s50 v51 x55 s56] (r14E0 C0 d a0 a1 a2 a3 a4 a5 a6 a7 a8 v0 v2 v4 x8 v9 x13 v14 x18 v19 x23 v24 x28 v29 x33 v34 s38 v39 x43 s44 v45 x49 s50 v51 x55 s56)=L14_0 d v0 n s60 x61 H:=by
 generalize hR:r14R0 C0 d a0 a1 a2 a3 a4 a5 a6 a7 a8 v0 v2 v4 x8 v9 x13 v14 x18 v19 x23 v24 x28 v29 x33 v34 s38 v39 x43 s44 v45 x49 s50 v51 x55 s56=R
 intro n
 induction n with
 | zero=>intros; rfl
 | succ n ih =>
   intro s60 x61 v62 v63 v64 v65 v66 v67 v68 v69 v70 v71 v72 v73 v74 v75 v76 v77 v78 v79 v80 v81 v82 v83 v84 v85 v86 v87 v88 v89 v90 v91 v92 v93 v94 v95 v96 v97 v98 v99 v100 v101 v102 v103 v104 v105 v106 v107 v108 v109 v110 v111 v112 v113 v114 v115 v116 v117 v118 v119 v120 v121 v122 H
   simp only [it_ret] at ih
   rw [it_ret,xiter_s]
   refine Eq.trans (congrFun (congrFun hR.symm _) _) ?_
   unfold r14R0
   refine Eq.trans (pl_len (by rfl)) ?_; refine yt ySs ?_; refine Eq.trans (pl_str (by rfl)) ?_; refine yt yI ?_; (iterate 2 (refine yt yA ?_)); refine yt ySs ?_; refine yt yAs ?_; (iterate 54 (refine yt yA ?_)); refine yt ySs ?_
   have I0:=fun (v123 v125:AV) (x129:Int) (v130 v132 v134 v139:AV) (x140 x141 x142 x143:Int) (v144 v148 v150:AV) (x154:Int) (v155:AV) (x159:Int) (v160:AV) (s164:List UInt8) (v165:AV) (x169:Int) (s170:List UInt8) (v171:AV) (x175:Int) (s176:List UInt8) (v177:AV) (x181:Int) (s182:List UInt8)=>it14_1 d a0 a1 a2 a3 a4 a5 a6 a7 a8 v0 v2 v4 x8 v9 x13 v14 x18 v19 x23 v24 x28 v29 x33 v34 s38 v39 x43 s44 v45 x49 s50 v51 x55 s56 (kIter R n (kOut [0] [r14X0_0 C0 d a0 a1 a2 a3 a4 a5 a6 a7 a8 v0 v2 v4 x8 v9 x13 v14 x18 v19 x23 v24 x28 v29 x33 v34 s38 v39 x43 s44 v45 x49 s50 v51 x55 s56] (r14E0 C0 d a0 a1 a2 a3 a4 a5 a6 a7 a8 v0 v2 v4 x8 v9 x13 v14 x18 v19 x23 v24 x28 v29 x33 v34 s38 v39 x43 s44 v45 x49 s50 v51 x55 s56))) s60 x61 v69 v70 v123 v125 x129 v130 v132 v134 v139 x140 x141 x142 x143 v144 v148 v150 x154 v155 x159 v160 s164 v165 x169 s170 v171 x175 s176 v177 x181 s182 (fun s60 x61 H=>L14_0 d v0 n s60 x61 H) (fun s60 x61 v62 v63 v64 v65 v66 v67 v68 v69 v70 v71 v72 v73 v74 v75 v76 v77 v78 v79 v80 v81 v82 v83 v84 v85 v86 v87 v88 v89 v90 v91 v92 v93 v94 v95 v96 v97 v98 v99 v100 v101 v102 v103 v104 v105 v106 v107 v108 v109 v110 v111 v112 v113 v114 v115 v116 v117 v118 v119 v120 v121 v122 H=>ih s60 x61 v62 v63 v64 v65 v66 v67 v68 v69 v70 v71 v72 v73 v74 v75 v76 v77 v78 v79 v80 v81 v82 v83 v84 v85 v86 v87 v88 v89 v90 v91 v92 v93 v94 v95 v96 v97 v98 v99 v100 v101 v102 v103 v104 v105 v106 v107 v108 v109 v110 v111 v112 v113 v114 v115 v116 v117 v118 v119 v120 v121 v122 H)
   try dsimp only at I0
   simp only [kIter_n,kIter_x,kIter_r,kOut_x,kOut_r,xgo_hit,xgo_miss,ih,I0,X14_0_0_ok d a0 a1 a2 a3 a4 a5 a6 a7 a8 v0 v2 v4 x8 v9 x13 v14 x18 v19 x23 v24 x28 v29 x33 v34 s38 v39 x43 s44 v45 x49 s50 v51 x55 s56  ]
   exact (L14_0_s d v0 n s60 x61 H).symm
theorem q14 (d:Nat) (a0:List AV) (a1 a2 a3 a4 a5 a6 a7 a8:Int):xcall C0 M unr d 14 [(.agg [(.lst a0),(iz a1),(iz a2),(iz a3),(iz a4),(iz a5),(iz a6),(iz a7),(iz a8)])] =
 C0.hop [] (.box E24 (.v (.agg [(.lst a0),(iz a1),(iz a2),(iz a3),(iz a4),(iz a5),(iz a6),(iz a7),(iz a8)]))) fun v0 h1 =>
 C0.hop h1 (.fldA 0 (.v v0)) fun v2 h3 =>
 C0.hop h3 (.load false 1 (.v v2)) fun v4 h5 =>
 C0.hop h5 (.bk .lenV [(.v v4)]) fun v6 h7 =>
 C0.int .i64 (some v6) fun x8 =>
 C0.hop h7 (.fldA 1 (.v v0)) fun v9 h10 =>
 C0.hop h10 (.load false 1 (.v v9)) fun v11 h12 =>
 C0.int .i64 (some v11) fun x13 =>
 C0.hop h12 (.fldA 2 (.v v0)) fun v14 h15 =>
 C0.hop h15 (.load false 1 (.v v14)) fun v16 h17 =>
 C0.int .i64 (some v16) fun x18 =>
 C0.hop h17 (.fldA 3 (.v v0)) fun v19 h20 =>
 C0.hop h20 (.load false 1 (.v v19)) fun v21 h22 =>
 C0.int .i64 (some v21) fun x23 =>
 C0.hop h22 (.fldA 6 (.v v0)) fun v24 h25 =>
 C0.hop h25 (.load false 1 (.v v24)) fun v26 h27 =>
 C0.int .i64 (some v26) fun x28 =>
 C0.hop h27 (.fldA 8 (.v v0)) fun v29 h30 =>
 C0.hop h30 (.load false 1 (.v v29)) fun v31 h32 =>
 C0.int .i64 (some v31) fun x33 =>
 C0.hop h32 (.mkrow E5 6 [(0,(.v (.int .u8 (IntKind.wrap .u8 x8)))),(1,(.v (.int .u8 (IntKind.wrap .u8 x13)))),(2,(.v (.int .u8 (IntKind.wrap .u8 x18)))),(3,(.v (.int .u8 (IntKind.wrap .u8 x23)))),(4,(.v (.int .u8 (IntKind.wrap .u8 x28)))),(5,(.v (.int .u8 (IntKind.wrap .u8 x33))))]) fun v34 h35 =>
 C0.hop h35 (.b2s (.v v34)) fun v36 h37 =>
 C0.str (some v36) fun s38 =>
 cnd (decide ((4+(List.length s38))≤9223372036854775807))
  (C0.hop h37 (.fldA 4 (.v v0)) fun v39 h40 =>
  C0.hop h40 (.load false 1 (.v v39)) fun v41 h42 =>
  C0.int .i64 (some v41) fun x43 =>
  C0.str (pcall M d 28 [(iz x43)]) fun s44 =>
  cnd (decide (((List.length (65::70::84::85::s38))+(List.length s44))≤9223372036854775807))
  (C0.hop h42 (.fldA 5 (.v v0)) fun v45 h46 =>
  C0.hop h46 (.load false 1 (.v v45)) fun v47 h48 =>
  C0.int .i64 (some v47) fun x49 =>
  C0.str (pcall M d 28 [(iz x49)]) fun s50 =>
  cnd (decide (((List.length (65::70::84::85::(s38 ++ s44)))+(List.length s50))≤9223372036854775807))
  (C0.hop h48 (.fldA 7 (.v v0)) fun v51 h52 =>
  C0.hop h52 (.load false 1 (.v v51)) fun v53 h54 =>
  C0.int .i64 (some v53) fun x55 =>
  C0.str (pcall M d 28 [(iz x55)]) fun s56 =>
  cnd (decide (((List.length (65::70::84::85::((s38 ++ s44) ++ s50)))+(List.length s56))≤9223372036854775807))
  (L14_0 d v0 10000000000000000000 (65::70::84::85::(((s38 ++ s44) ++ s50) ++ s56)) 0 h54)
  (none))
  (none))
  (none))
  (none):=(r14 C0 d a0 a1 a2 a3 a4 a5 a6 a7 a8).trans (by simp only [it14_0])
end Go.Proofs.Ytbmedgpiphibaaa.AE

namespace Go.Proofs.Ytbmedgpiphibaaa.AE
set_option linter.unusedVariables false
set_option linter.unusedSimpArgs false
set_option linter.constructorNameAsVariable false
open Go Go.Proofs.Ytbmedgpiphibaaa.Geo
attribute [local irreducible] pcall C0
set_option maxRecDepth 100000
theorem s28 (d:Nat) (n:Int):pcall M (d+1) 28 [.int .i64 n]=some (.str (be4 n)):=told (r28 C0 d _) (by
 simp only [by8e,fe24,fe16,fe8]; rfl)
end Go.Proofs.Ytbmedgpiphibaaa.AE

namespace Go.Proofs.Ytbmedgpiphibaaa.AE
set_option linter.unusedVariables false
set_option linter.unusedSimpArgs false
set_option linter.constructorNameAsVariable false
open Go Go.Proofs.Ytbmedgpiphibaaa.Geo
theorem maxLen_eq:Go.maxLen=9223372036854775807:=by decide
theorem rows_pts:∀ l:List AV,(∀ x ∈ l,∃ cs,x=.agg cs∧CTall [(.i .i64),(.i .i64)] cs)→∃ ps:List Pt,l=ps.map pt
 | [],_=>⟨[],rfl⟩
 | x::l,h=>by
   obtain ⟨ps,rfl⟩:=rows_pts l fun y hy=>h y (List.mem_cons_of_mem _ hy)
   obtain ⟨_,rfl,_,_,rfl,⟨a,rfl,_⟩,_,_,rfl,⟨b,rfl,_⟩,rfl⟩:=h x (List.mem_cons_self ..)
   exact ⟨(a,b)::ps,rfl⟩
end Go.Proofs.Ytbmedgpiphibaaa.AE

namespace Go.Proofs.Ytbmedgpiphibaaa.AE
set_option linter.unusedVariables false
set_option linter.unusedSimpArgs false
set_option linter.constructorNameAsVariable false
open Go Go.Proofs.Ytbmedgpiphibaaa.Geo
attribute [local irreducible] pcall C0
set_option maxRecDepth 100000
theorem rows_phs:∀ l:List AV,(∀ x ∈ l,∃ cs,x=.agg cs∧CTall [(.sl true [(.i .i64),(.i .i64)]),(.i .i64),(.i .i64),(.i .i64),(.i .i64)] cs)→∃ ps:List Phs,l=ps.map phA
 | [],_=>⟨[],rfl⟩
 | x::l,h=>by
   obtain ⟨ps,rfl⟩:=rows_phs l fun y hy=>h y (List.mem_cons_of_mem _ hy)
   obtain ⟨_,rfl,_,_,rfl,⟨r,rfl,hl,hx⟩,_,_,rfl,⟨g,rfl,_⟩,_,_,rfl,⟨w,rfl,_⟩,_,_,rfl,⟨m,rfl,_⟩,_,_,rfl,⟨u,rfl,_⟩,rfl⟩:=h x (List.mem_cons_self ..)
   obtain ⟨qs,rfl⟩:=rows_pts r hx
   exact ⟨⟨qs,g,w,m,u⟩::ps,rfl⟩
theorem ty_rul {v:AV} (h:TyOK true [(.sl true [(.sl true [(.i .i64),(.i .i64)]),(.i .i64),(.i .i64),(.i .i64),(.i .i64)]),(.i .i64),(.i .i64),(.i .i64),(.i .i64),(.i .i64),(.i .i64),(.i .i64),(.i .i64)] v):∃ r,v=rl r∧r.phs.length≤9223372036854775807:=by
 obtain ⟨l,rfl,_,_,rfl,⟨r,rfl,hl,hx⟩,_,_,rfl,⟨a,rfl,_⟩,_,_,rfl,⟨b,rfl,_⟩,_,_,rfl,⟨c,rfl,_⟩,_,_,rfl,⟨d,rfl,_⟩,_,_,rfl,⟨e,rfl,_⟩,_,_,rfl,⟨f,rfl,_⟩,_,_,rfl,⟨g,rfl,_⟩,_,_,rfl,⟨i,rfl,_⟩,rfl⟩:=h
 obtain ⟨ps,rfl⟩:=rows_phs r hx
 exact ⟨⟨ps,a,b,c,d,e,f,g,i⟩,rfl,by rw [← maxLen_eq]; simpa using hl⟩
def fewX (l:List Phs):Bool:=l.all (fun p=>decide (p.ps.length≤12)) && decide (l.length≤8)
theorem few_go (d:Nat) (l:List Phs) (hl:l.length≤9223372036854775807):∀ (k i:Nat),i+k=l.length→∀ f,k < f →
 L9_0 d (l.map phA) f (i:Nat)=some (.bool ((l.drop i).all (fun p=>decide (p.ps.length≤12)) && decide (l.length≤8)))
 | 0,i,h,f+1,_=>by
   rw [L9_0,decide_eq_false (by simp; omega),cnd_f,List.drop_of_length_le (by omega)]
   unfold X9_0_0
   simp
   omega
 | k+1,i,h,f+1,hf=>by
   have hi:i < l.length:=by omega
   rw [L9_0,decide_eq_true (by simp; omega),cnd_t,decide_eq_true (by omega),cnd_t,show (((i:Nat):Int)).toNat=i by omega,phs_at hi]
   repeat with_reducible first | refine tt sh_ptr ?_ | refine tt sh_fptr ?_ | refine tt w2 ?_ | refine tt w3 ?_ | refine tt w8 ?_ | refine tt w9 ?_ | refine tt wf ?_ | refine tt wg ?_ | refine tt wh ?_ | refine tt wi ?_ | refine tt wj ?_ | refine tt wk ?_ | refine tt wl ?_ | refine tt wn ?_ | refine tt c_ort ?_ | refine tt c_nt ?_ | refine tt c_nf ?_ | refine tt (cnd_t _ _) ?_ | refine tt (cnd_f _ _) ?_ | refine tt w6 ?_ | refine tt w4 ?_ | refine tt w5 ?_ | refine tt w7 ?_ | refine tt wm ?_ | refine tt wo ?_ | refine tt wx ?_ | refine tt nil_ptr ?_ | refine tt len_lst ?_ | refine tt len_zsl ?_
   rw [List.drop_eq_getElem_cons hi,List.all_cons,List.length_map]
   by_cases c:l[i].ps.length≤12
   ·rw [decide_eq_false (show ¬ ((l[i].ps.length:Nat):Int) > 12 by omega),cnd_f,decide_eq_true c,Bool.true_and,show IntKind.wrap .i64 (((i:Nat):Int)+1)=((i+1:Nat):Int) by rw [i64w]; omega]
    exact few_go d l hl k (i+1) (by omega) f (by omega)
   ·rw [decide_eq_true (show ((l[i].ps.length:Nat):Int) > 12 by omega),cnd_t,decide_eq_false c]; rfl
theorem s9 (d:Nat) (r:Rul) (hl:r.phs.length≤9223372036854775807):pcall M (d+1) 9 [rl r]=some (.bool (fewX r.phs)):=told (q9 d _ _ _ _ _ _ _ _ _) (by
 have:=few_go d r.phs hl r.phs.length 0 (by omega) 10000000000000000000 (by omega)
 rw [List.drop_zero] at this
 exact this)
theorem few_t {l:List Phs} (h:fewX l=true):(∀ p ∈ l,p.ps.length≤12)∧l.length≤8:=by
 unfold fewX at h
 simp only [Bool.and_eq_true,List.all_eq_true,decide_eq_true_iff] at h
 exact h
theorem mkB {H:Heap} {n:Nat} {ps:List (Nat × Opd)} {bs:List UInt8} {K:AV→Heap→Ans} (h:fillR E5 (List.replicate n (E5).zero) (ps.map fun p=>(p.1,evO [] p.2))=some (bytesAV bs)):C0.hop H (.mkrow E5 n ps) K=K (.slc H.length 0 n) (H ++ [some ⟨E5,bytesAV bs⟩]):=hop_eq (by
 simp only [aop]; rw [h])
theorem own_row {H:Heap} {n:Nat} {bs:List UInt8} (h:n=bs.length):OwnB (H ++ [some ⟨E5,bytesAV bs⟩]) (.slc H.length 0 n) bs:=.inr ⟨H.length,by rw [bytesAV_len,h],hget_new⟩
theorem rpts_go (d:Nat) (x61:Int) (a:Nat) (p:Phs) (hp:p.ps.length≤1000) (kN:List UInt8→Int→Heap→Ans) (H:Heap) (ha:hget H a=some ⟨E46,[phA p]⟩):∀ (k i:Nat),i+k=p.ps.length→∀ f,k < f→∀ l:List UInt8,l.length+8 * k≤1000000 →
 L14_1 (d+1) x61 (.ptr a 0 0) kN f l (i:Nat) H=kN (l ++ ptsB (p.ps.drop i)) (IntKind.wrap .i64 (x61+1)) H
 | 0,i,h,f+1,_,l,hl=>by
   rw [L14_1_s]
   refine Eq.trans sh_ptr ?_
   refine Eq.trans (ld_ptr ha rfl rfl) ?_
   refine Eq.trans len_lst ?_
   refine Eq.trans (pl_int rfl) ?_
   rw [List.length_map,decide_eq_false (by omega),cnd_f,List.drop_of_length_le (by omega)]
   unfold X14_1_0
   simp [ptsB]
 | k+1,i,h,f+1,hf,l,hl=>by
   have hi:i < p.ps.length:=by omega
   have e:(p.ps.map pt)[((i:Nat):Int).toNat]?=some (pt p.ps[i]):=by rw [Int.toNat_natCast,List.getElem?_map,List.getElem?_eq_getElem hi]; rfl
   rw [L14_1_s]
   refine Eq.trans sh_ptr ?_
   refine Eq.trans (ld_ptr ha rfl rfl) ?_
   refine Eq.trans len_lst ?_
   refine Eq.trans (pl_int rfl) ?_
   rw [List.length_map,decide_eq_true (by omega),cnd_t]
   refine Eq.trans sh_ptr ?_
   refine Eq.trans (ld_ptr ha rfl rfl) ?_
   refine Eq.trans (ix_lst (by omega) e rfl) ?_
   refine Eq.trans sh_fptr ?_
   refine Eq.trans (ld_fptr (v:=.int .i64 p.ps[i].1) rfl) ?_
   refine Eq.trans (pl_int rfl) ?_
   refine Eq.trans (pl_str (s28 d _)) ?_
   refine Eq.trans sh_ptr ?_
   refine Eq.trans (ld_ptr ha rfl rfl) ?_
   refine Eq.trans (ix_lst (by omega) e rfl) ?_
   refine Eq.trans sh_fptr ?_
   refine Eq.trans (ld_fptr (v:=.int .i64 p.ps[i].2) rfl) ?_
   refine Eq.trans (pl_int rfl) ?_
   refine Eq.trans (pl_str (s28 d _)) ?_
   refine Eq.trans (pl_len (by rw [be4_len,be4_len]; rfl)) ?_
   refine Eq.trans (pl_len (by rw [List.length_append,be4_len,be4_len,decide_eq_true_iff]; omega)) ?_
   rw [i64_up (by omega),rpts_go d x61 a p hp kN H ha k (i+1) (by omega) f (by omega) _ (by rw [List.length_append,List.length_append,be4_len,be4_len]; omega)]
   rw [List.drop_eq_getElem_cons hi,ptsB_cons]; unfold ptB; simp only [List.append_assoc]
theorem rphs_go (d:Nat) (r:Rul) (hp:r.phs.length≤1000) (hq:∀ p ∈ r.phs,p.ps.length≤8):∀ (k i:Nat),i+k=r.phs.length→∀ f,k < f→∀ (l:List UInt8) (H:Heap),hget H 0=some ⟨E24,[rl r]⟩→l.length+78 * k≤900000 →
 ∃ H',L14_0 (d+1) (.ptr 0 0 0) f l (i:Nat) H=X14_0_0 (d+1) (.ptr 0 0 0) (l ++ phsB (r.phs.drop i)) H'
 | 0,i,h,f+1,_,l,H,h0,hl=>by
   refine ⟨H,?_⟩
   rw [L14_0_s]
   refine Eq.trans sh_ptr ?_
   refine Eq.trans (ld_ptr h0 rfl rfl) ?_
   refine Eq.trans len_lst ?_
   refine Eq.trans (pl_int rfl) ?_
   rw [List.length_map,decide_eq_false (by omega),cnd_f,List.drop_of_length_le (by omega)]
   simp [phsB]
 | k+1,i,h,f+1,hf,l,H,h0,hl=>by
   have hi:i < r.phs.length:=by omega
   obtain ⟨p,hpt⟩:∃ p,p=r.phs[i]:=⟨_,rfl⟩
   have hp8:p.ps.length≤8:=by rw [hpt]; exact hq _ (List.getElem_mem _)
   have e:(r.phs.map phA)[((i:Nat):Int).toNat]?=some (phA p):=by rw [Int.toNat_natCast,phs_at hi,hpt]
   obtain ⟨bs,hbs⟩:∃ bs:List UInt8,bs=[by8 p.ps.length,by8 p.g]:=⟨_,rfl⟩
   have lb:bs.length=2:=by rw [hbs]; rfl
   have a1:hget (H ++ ([some ⟨E46,[phA p]⟩]:Heap)) H.length=some ⟨E46,[phA p]⟩:=hget_new
   have a2:hget ((H ++ ([some ⟨E46,[phA p]⟩]:Heap)) ++ ([some ⟨E5,bytesAV bs⟩]:Heap)) H.length=some ⟨E46,[phA p]⟩:=hget_app a1
   obtain ⟨H',t1⟩:=rphs_go d r hp hq k (i+1) (by omega) f (by omega) (l ++ (bs ++ be4 p.v ++ be4 p.m ++ be4 p.u) ++ ptsB p.ps) ((H ++ ([some ⟨E46,[phA p]⟩]:Heap)) ++ ([some ⟨E5,bytesAV bs⟩]:Heap)) (hget_app (hget_app h0)) (by simp only [List.length_append,be4_len,lb,ptsB_len]; omega)
   refine ⟨H',?_⟩
   rw [L14_0_s]
   refine Eq.trans sh_ptr ?_
   refine Eq.trans (ld_ptr h0 rfl rfl) ?_
   refine Eq.trans len_lst ?_
   refine Eq.trans (pl_int rfl) ?_
   rw [List.length_map,decide_eq_true (by omega),cnd_t]
   refine Eq.trans sh_ptr ?_
   refine Eq.trans (ld_ptr h0 rfl rfl) ?_
   refine Eq.trans (ix_lst (by omega) e rfl) ?_
   refine Eq.trans (ld_fptr (v:=phA p) rfl) ?_
   refine Eq.trans (pl_agg rfl rfl) ?_
   refine Eq.trans (pl_any rfl) ?_
   refine Eq.trans (pl_int rfl) ?_
   refine Eq.trans (pl_int rfl) ?_
   refine Eq.trans (pl_int rfl) ?_
   refine Eq.trans (pl_int rfl) ?_
   refine Eq.trans alc ?_
   refine Eq.trans (stl rfl) ?_
   refine Eq.trans sh_ptr ?_
   refine Eq.trans (ld_ptr a1 rfl rfl) ?_
   refine Eq.trans len_lst ?_
   refine Eq.trans (pl_int rfl) ?_
   refine Eq.trans sh_ptr ?_
   refine Eq.trans (ld_ptr a1 rfl rfl) ?_
   refine Eq.trans (pl_int rfl) ?_
   refine Eq.trans (mkB (bs:=bs) (by rw [hbs,List.length_map,put8,put8]; rfl)) ?_
   refine Eq.trans (b2s_o (own_row (by rw [lb]))) ?_
   refine Eq.trans (pl_str rfl) ?_
   refine Eq.trans sh_ptr ?_
   refine Eq.trans (ld_ptr a2 rfl rfl) ?_
   refine Eq.trans (pl_int rfl) ?_
   refine Eq.trans (pl_str (s28 d _)) ?_
   refine Eq.trans (pl_len (by rw [be4_len,lb]; rfl)) ?_
   refine Eq.trans sh_ptr ?_
   refine Eq.trans (ld_ptr a2 rfl rfl) ?_
   refine Eq.trans (pl_int rfl) ?_
   refine Eq.trans (pl_str (s28 d _)) ?_
   refine Eq.trans (pl_len (by simp only [List.length_append,be4_len,lb]; rfl)) ?_
   refine Eq.trans sh_ptr ?_
   refine Eq.trans (ld_ptr a2 rfl rfl) ?_
   refine Eq.trans (pl_int rfl) ?_
   refine Eq.trans (pl_str (s28 d _)) ?_
   refine Eq.trans (pl_len (by simp only [List.length_append,be4_len,lb]; rfl)) ?_
   refine Eq.trans (pl_len (by simp only [List.length_append,be4_len,lb,decide_eq_true_iff]; omega)) ?_
   refine Eq.trans (rpts_go d (i:Nat) H.length p (by omega) _ _ a2 p.ps.length 0 (by omega) 10000000000000000000 (by omega) _ (by simp only [List.length_append,be4_len,lb]; omega)) ?_
   rw [i64_up (by omega),List.drop_zero,t1,List.drop_eq_getElem_cons hi,phsB_cons,← hpt]
   simp [hbs,phB,List.append_assoc]
theorem s14 (d:Nat) (r:Rul) (hw:wrongX r=0):pcall M (d+3) 14 [rl r]=some (.str (printF r)):=told (q14 (d+2) _ _ _ _ _ _ _ _ _) (by
 obtain ⟨h1,h2,-⟩:=wrong_zero hw
 have hbl:=body_le hw
 refine Eq.trans (bx_n (H:=[]) (by rfl)) ?_
 rw [show ([] ++ [some (⟨E24,[rl r]⟩:Blk)]:Heap)=[some ⟨E24,[rl r]⟩] from rfl,show List.length ([]:Heap)+0=0 from rfl]
 have a1:hget [some (⟨E24,[rl r]⟩:Blk)] 0=some ⟨E24,[rl r]⟩:=rfl
 refine Eq.trans sh_ptr ?_
 refine Eq.trans (ld_ptr a1 rfl rfl) ?_
 refine Eq.trans len_lst ?_
 refine Eq.trans (pl_int rfl) ?_
 refine Eq.trans sh_ptr ?_
 refine Eq.trans (ld_ptr a1 rfl rfl) ?_
 refine Eq.trans (pl_int rfl) ?_
 refine Eq.trans sh_ptr ?_
 refine Eq.trans (ld_ptr a1 rfl rfl) ?_
 refine Eq.trans (pl_int rfl) ?_
 refine Eq.trans sh_ptr ?_
 refine Eq.trans (ld_ptr a1 rfl rfl) ?_
 refine Eq.trans (pl_int rfl) ?_
 refine Eq.trans sh_ptr ?_
 refine Eq.trans (ld_ptr a1 rfl rfl) ?_
 refine Eq.trans (pl_int rfl) ?_
 refine Eq.trans sh_ptr ?_
 refine Eq.trans (ld_ptr a1 rfl rfl) ?_
 refine Eq.trans (pl_int rfl) ?_
 rw [List.length_map]
 obtain ⟨bs,hbs⟩:∃ bs:List UInt8,bs=[by8 r.phs.length,by8 r.n,by8 r.d,by8 r.gr,by8 r.age,by8 r.saf]:=⟨_,rfl⟩
 have lb:bs.length=6:=by rw [hbs]; rfl
 generalize hX:([some ⟨E24,[rl r]⟩]:Heap)=X at a1
 refine Eq.trans (mkB (bs:=bs) (by rw [hbs,put8,put8,put8,put8,put8,put8]; rfl)) ?_
 refine Eq.trans (b2s_o (own_row (by rw [lb]))) ?_
 have a2:hget (X ++ ([some ⟨E5,bytesAV bs⟩]:Heap)) 0=some ⟨E24,[rl r]⟩:=hget_app a1
 refine Eq.trans (pl_str rfl) ?_
 refine Eq.trans (pl_len (by rw [lb]; rfl)) ?_
 refine Eq.trans sh_ptr ?_
 refine Eq.trans (ld_ptr a2 rfl rfl) ?_
 refine Eq.trans (pl_int rfl) ?_
 refine Eq.trans (pl_str (s28 (d+1) _)) ?_
 refine Eq.trans (pl_len (by simp only [List.length_append,List.length_cons,be4_len,lb]; rfl)) ?_
 refine Eq.trans sh_ptr ?_
 refine Eq.trans (ld_ptr a2 rfl rfl) ?_
 refine Eq.trans (pl_int rfl) ?_
 refine Eq.trans (pl_str (s28 (d+1) _)) ?_
 refine Eq.trans (pl_len (by simp only [List.length_append,List.length_cons,be4_len,lb]; rfl)) ?_
 refine Eq.trans sh_ptr ?_
 refine Eq.trans (ld_ptr a2 rfl rfl) ?_
 refine Eq.trans (pl_int rfl) ?_
 refine Eq.trans (pl_str (s28 (d+1) _)) ?_
 refine Eq.trans (pl_len (by simp only [List.length_append,List.length_cons,be4_len,lb]; rfl)) ?_
 have ehd:(65::70::84::85::(((bs ++ be4 r.eps) ++ be4 r.st) ++ be4 r.lift))=headB r:=by simp [hbs,headB]
 rw [ehd]
 obtain ⟨H5,g3⟩:=rphs_go (d+1) r (by omega) (fun p hp=>(rph_len (h2 p hp)).2) r.phs.length 0 (by omega) 10000000000000000000 (by omega) (headB r) _ a2 (by rw [headB_len]; omega)
 refine Eq.trans g3 ?_
 rw [List.drop_zero]
 change X14_0_0 (d+2) (.ptr 0 0 0) (bodyB r) H5=_
 unfold X14_0_0 printF
 rw [if_pos hw]
 refine Eq.trans (pl_int (s19 d (bodyB r) (by omega))) ?_
 have hb:=w32_bd (crcF (bodyB r))
 rw [i64_small (by omega) (by omega)]
 refine Eq.trans (pl_str (s28 (d+1) _)) ?_
 refine Eq.trans (pl_len (by rw [be4_len,decide_eq_true_iff]; omega)) ?_
 exact f_free rfl)
end Go.Proofs.Ytbmedgpiphibaaa.AE

namespace Go.Proofs.Ytbmedgpiphibaaa.AE
set_option linter.unusedVariables false
set_option linter.unusedSimpArgs false
set_option linter.constructorNameAsVariable false
open Go
set_option maxRecDepth 100000
set_option maxHeartbeats 0
theorem r3 (C:Cb) (d:Nat) (a0:List AV) (a1 a2 a3 a4 a5 a6 a7 a8:Int):xcall C M unr d 3 [(.agg [(.lst a0),(iz a1),(iz a2),(iz a3),(iz a4),(iz a5),(iz a6),(iz a7),(iz a8)])] =
 C.bool (pcall M d 8 []) fun b0 =>
 cnd (!b0)
 (C.bool (pcall M d 8 []) fun b1 =>
 some (.bool b1))
 (C.bool (pcall M d 9 [(.agg [(.lst a0),(iz a1),(iz a2),(iz a3),(iz a4),(iz a5),(iz a6),(iz a7),(iz a8)])]) fun b2 =>
 cnd (!b2)
 (C.bool (pcall M d 8 []) fun b3 =>
 some (.bool b3))
 (C.tup 2 (pcall M d 10 [(.agg [(.lst a0),(iz a1),(iz a2),(iz a3),(iz a4),(iz a5),(iz a6),(iz a7),(iz a8)])]) fun l4 =>
 C.str l4[0]? fun s5 =>
 C.int .i64 l4[1]? fun x6 =>
 C.int .i64 (pcall M d 11 [(.agg [(.lst a0),(iz a1),(iz a2),(iz a3),(iz a4),(iz a5),(iz a6),(iz a7),(iz a8)])]) fun x7 =>
 cnd (xor true ((x6 == 0) == (x7 == 0)))
 (some bf)
 (C.int .i64 (pcall M d 12 [(.agg [(.lst a0),(iz a1),(iz a2),(iz a3),(iz a4),(iz a5),(iz a6),(iz a7),(iz a8)])]) fun x8 =>
 cnd (x8 != (((List.length s5):Nat):Int))
 (some bf)
 (C.tup 2 (pcall M d 13 [(.str s5)]) fun l9 =>
 C.agg 9 l9[0]? fun l10 =>
 C.lst l10[0]? (fun l11 =>
 C.int .i64 l10[1]? fun x13 =>
 C.int .i64 l10[2]? fun x14 =>
 C.int .i64 l10[3]? fun x15 =>
 C.int .i64 l10[4]? fun x16 =>
 C.int .i64 l10[5]? fun x17 =>
 C.int .i64 l10[6]? fun x18 =>
 C.int .i64 l10[7]? fun x19 =>
 C.int .i64 l10[8]? fun x20 =>
 C.int .i64 l9[1]? fun x21 =>
 cnd (!(x7 == 0))
 (cnd (s5 == [])
 (cnd (x6 == 1)
 (some bt)
 (cnd (x7 == 0)
 (C.str (pcall M d 14 [(.agg [(.lst a0),(iz a1),(iz a2),(iz a3),(iz a4),(iz a5),(iz a6),(iz a7),(iz a8)])]) fun s22 =>
 cnd (s5 == s22)
 (cnd (x21 == 0)
 (C.bool (pcall M d 15 [(.agg [(.lst l11),(iz x13),(iz x14),(iz x15),(iz x16),(iz x17),(iz x18),(iz x19),(iz x20)]),(.agg [(.lst a0),(iz a1),(iz a2),(iz a3),(iz a4),(iz a5),(iz a6),(iz a7),(iz a8)])]) fun b23 =>
 some (.bool b23))
 (some bf))
 (some bf))
 (some bf)))
 (cnd (x7 == 0)
 (C.str (pcall M d 14 [(.agg [(.lst a0),(iz a1),(iz a2),(iz a3),(iz a4),(iz a5),(iz a6),(iz a7),(iz a8)])]) fun s24 =>
 cnd (s5 == s24)
 (cnd (x21 == 0)
 (C.bool (pcall M d 15 [(.agg [(.lst l11),(iz x13),(iz x14),(iz x15),(iz x16),(iz x17),(iz x18),(iz x19),(iz x20)]),(.agg [(.lst a0),(iz a1),(iz a2),(iz a3),(iz a4),(iz a5),(iz a6),(iz a7),(iz a8)])]) fun b25 =>
 some (.bool b25))
 (some bf))
 (some bf))
 (some bf)))
 (cnd (x7 == 0)
 (C.str (pcall M d 14 [(.agg [(.lst a0),(iz a1),(iz a2),(iz a3),(iz a4),(iz a5),(iz a6),(iz a7),(iz a8)])]) fun s26 =>
 cnd (s5 == s26)
 (cnd (x21 == 0)
 (C.bool (pcall M d 15 [(.agg [(.lst l11),(iz x13),(iz x14),(iz x15),(iz x16),(iz x17),(iz x18),(iz x19),(iz x20)]),(.agg [(.lst a0),(iz a1),(iz a2),(iz a3),(iz a4),(iz a5),(iz a6),(iz a7),(iz a8)])]) fun b27 =>
 some (.bool b27))
 (some bf))
 (some bf))
 (some bf)))
 (fun z12 =>
 none))))):=by kernel_rfl
end Go.Proofs.Ytbmedgpiphibaaa.AE

namespace Go.Proofs.Ytbmedgpiphibaaa.AE
set_option linter.unusedVariables false
set_option linter.unusedSimpArgs false
set_option linter.constructorNameAsVariable false
open Go Go.Proofs.Ytbmedgpiphibaaa.Geo
attribute [local irreducible] pcall C0
set_option maxRecDepth 100000
theorem prints_law (r:Rul) (hl:r.phs.length≤9223372036854775807):pcall M 41 3 [rl r]=some (.bool true):=told (r3 C0 40 _ _ _ _ _ _ _ _ _) (by
 refine Eq.trans (pl_bool awake14) ?_
 repeat with_reducible first | refine tt sh_ptr ?_ | refine tt sh_fptr ?_ | refine tt w2 ?_ | refine tt w3 ?_ | refine tt w8 ?_ | refine tt w9 ?_ | refine tt wf ?_ | refine tt wg ?_ | refine tt wh ?_ | refine tt wi ?_ | refine tt wj ?_ | refine tt wk ?_ | refine tt wl ?_ | refine tt wn ?_ | refine tt c_ort ?_ | refine tt c_nt ?_ | refine tt c_nf ?_ | refine tt (cnd_t _ _) ?_ | refine tt (cnd_f _ _) ?_ | refine tt w6 ?_ | refine tt w4 ?_ | refine tt w5 ?_ | refine tt w7 ?_ | refine tt wm ?_ | refine tt wo ?_ | refine tt wx ?_ | refine tt nil_ptr ?_ | refine tt len_lst ?_ | refine tt len_zsl ?_
 refine Eq.trans (pl_bool (s9 39 r hl)) ?_
 by_cases hf:fewX r.phs=true
 rotate_left
 ·refine Eq.trans (pl_len (by rw [Bool.eq_false_iff.mpr hf]; rfl)) ?_
  exact pl_bool awake14
 refine Eq.trans (pl_f (by rw [hf]; rfl)) ?_
 obtain ⟨f1,f2⟩:=few_t hf
 have ha:∀ p ∈ r.phs,p.ps.length≤140737488355328:=fun p hp=>by have:=f1 p hp; omega
 refine Eq.trans (pl_tup (s10 21 r (by omega) ha) rfl) ?_
 refine Eq.trans (pl_str rfl) ?_
 refine Eq.trans (pl_int rfl) ?_
 refine Eq.trans (pl_int (s11 29 r (by omega) ha)) ?_
 refine Eq.trans (pl_f (by by_cases h:wrongX r=0 <;> simp [h])) ?_
 refine Eq.trans (pl_int (s12 20 r (by omega) ha)) ?_
 refine Eq.trans (pl_f (by simp)) ?_
 by_cases h:wrongX r=0
 ·have hb:=body_le h
  have hlen:(printF r).length≤1000000:=by unfold printF; rw [if_pos h,sealF_len]; omega
  refine Eq.trans (pl_tup (s13 21 _ hlen) rfl) ?_
  rw [read_print h]
  repeat with_reducible first | refine tt sh_ptr ?_ | refine tt sh_fptr ?_ | refine tt w2 ?_ | refine tt w3 ?_ | refine tt w8 ?_ | refine tt w9 ?_ | refine tt wf ?_ | refine tt wg ?_ | refine tt wh ?_ | refine tt wi ?_ | refine tt wj ?_ | refine tt wk ?_ | refine tt wl ?_ | refine tt wn ?_ | refine tt c_ort ?_ | refine tt c_nt ?_ | refine tt c_nf ?_ | refine tt (cnd_t _ _) ?_ | refine tt (cnd_f _ _) ?_ | refine tt w6 ?_ | refine tt w4 ?_ | refine tt w5 ?_ | refine tt w7 ?_ | refine tt wm ?_ | refine tt wo ?_ | refine tt wx ?_ | refine tt nil_ptr ?_ | refine tt len_lst ?_ | refine tt len_zsl ?_
  refine Eq.trans (pl_f (by rw [h]; rfl)) ?_
  refine Eq.trans (pl_len (by rw [h]; rfl)) ?_
  refine Eq.trans (pl_str (s14 37 r h)) ?_
  refine Eq.trans (pl_len (by simp)) ?_
  refine Eq.trans (pl_len rfl) ?_
  refine Eq.trans (pl_bool (s15 37 r r (by omega) (by omega) ha ha)) ?_
  rw [sameX_r]
 ·have e:printF r=[]:=by unfold printF; rw [if_neg h]
  rw [e]
  refine Eq.trans (pl_tup (s13 21 [] (by simp)) rfl) ?_
  rw [show readF []=(zRul,5) from rfl]
  repeat with_reducible first | refine tt sh_ptr ?_ | refine tt sh_fptr ?_ | refine tt w2 ?_ | refine tt w3 ?_ | refine tt w8 ?_ | refine tt w9 ?_ | refine tt wf ?_ | refine tt wg ?_ | refine tt wh ?_ | refine tt wi ?_ | refine tt wj ?_ | refine tt wk ?_ | refine tt wl ?_ | refine tt wn ?_ | refine tt c_ort ?_ | refine tt c_nt ?_ | refine tt c_nf ?_ | refine tt (cnd_t _ _) ?_ | refine tt (cnd_f _ _) ?_ | refine tt w6 ?_ | refine tt w4 ?_ | refine tt w5 ?_ | refine tt w7 ?_ | refine tt wm ?_ | refine tt wo ?_ | refine tt wx ?_ | refine tt nil_ptr ?_ | refine tt len_lst ?_ | refine tt len_zsl ?_
  refine Eq.trans (pl_len (by rw [beq_eq_false_iff_ne.mpr h]; rfl)) ?_
  refine Eq.trans (pl_len rfl) ?_
  refine Eq.trans (pl_len (by rw [if_neg h]; rfl)) ?_
  rfl)
theorem law_RulefilePrints (a0:AV) (w0:TyOK true [(.sl true [(.sl true [(.i .i64),(.i .i64)]),(.i .i64),(.i .i64),(.i .i64),(.i .i64)]),(.i .i64),(.i .i64),(.i .i64),(.i .i64),(.i .i64),(.i .i64),(.i .i64),(.i .i64)] a0) :
 pcall M 41 3 [a0]=some (.bool true):=by
 obtain ⟨r,rfl,hl⟩:=ty_rul w0
 exact prints_law r hl
end Go.Proofs.Ytbmedgpiphibaaa.AE
