/- The texts that the law PeerBits needs, part 3. No conditions. -/
import Derived.Test.YtoceckjagfhfmaaMPeerBits2
namespace Go.Proofs.Ytoceckjagfhfmaa.AE
set_option linter.unusedVariables false
set_option linter.unusedSimpArgs false
set_option linter.constructorNameAsVariable false
open Go
set_option maxRecDepth 100000
set_option maxHeartbeats 0
def r6R4 (C : Cb) (d : Nat) (a0 a1 a2 a3 a4 a5 a6 a7 a8 a9 a10 a11 a12 a13 a14 a15 : Int) (v0 v2 : AV) (b59 b60 b61 : Bool) (v62 v63 v64 v65 : AV) (b66 b67 : Bool) (v68 v69 v70 v71 : AV) (x77 x78 x79 x80 : Int) (s81 : List UInt8) (x85 x86 x87 x88 x89 x90 x91 x92 x93 : Int) (s94 : List UInt8) (s95 : List UInt8) (v96 : AV) (x100 : Int) (b104 : Bool) (v114 v115 v116 : AV) (x117 : Int) (v163 v164 v165 v166 v167 v168 v169 v170 v171 v172 v173 v174 v175 v176 v177 v178 v179 v180 v181 v182 v183 v184 v185 v186 v187 v188 v189 v190 v191 v192 v193 v194 v195 v196 v197 v198 v199 v200 v201 v202 v203 v204 v205 v206 v207 v208 v209 v210 v211 v212 v213 v214 v215 v216 v217 v218 v219 v220 v221 v222 v223 v224 v225 v226 v227 v228 v229 v230 v231 v232 : AV) (s236 : List UInt8) (v237 v239 : AV) (x247 : Int) (v273 : AV) (k275 : Ex → St → Ans) (b277 : Bool) (v294 v295 v296 v297 v298 v299 v300 v301 v302 v303 : AV) : St → (Ex → St → Ans) → Ans := fun s304 k305 =>
 cnd ((List.length s304.env) == 167)
 (C.same s304.env[0]? (.agg [(iz a0), (iz a1), (iz a2), (iz a3)]) <|
 C.same s304.env[1]? (.agg [(iz a4), (iz a5), (iz a6), (iz a7), (iz a8), (iz a9), (iz a10), (iz a11), (iz a12)]) <|
 C.same s304.env[2]? (iz (IntKind.wrap .i64 (1 + (IntKind.wrap .i64 (Int.tmod (IntKind.wrap .u64 a13) 3))))) <|
 C.same s304.env[3]? (iz a14) <|
 C.same s304.env[4]? (.int .u32 a15) <|
 C.same s304.env[5]? v0 <|
 C.same s304.env[6]? v2 <|
 C.same s304.env[7]? tz <|
 C.same s304.env[8]? tz <|
 C.same s304.env[9]? tz <|
 C.same s304.env[10]? (.bool b104) <|
 C.same s304.env[11]? (iz x117) <|
 C.same s304.env[12]? (.str s236) <|
 C.same s304.env[13]? (iz (IntKind.wrap .i64 (8 * (IntKind.wrap .i64 ((((List.length s236) : Nat) : Int) - 4))))) <|
 C.same s304.env[14]? (iz (IntKind.wrap .i64 (Int.tmod (IntKind.wrap .u64 a14) (IntKind.wrap .u64 (IntKind.wrap .i64 (8 * (IntKind.wrap .i64 ((((List.length s236) : Nat) : Int) - 4)))))))) <|
 C.same s304.env[15]? v237 <|
 C.same s304.env[16]? v239 <|
 C.same s304.env[17]? (.bool b277) <|
 C.same s304.env[18]? (iz x247) <|
 C.same s304.env[19]? (iz (IntKind.wrap .i64 ((IntKind.wrap .i64 (Int.tmod (IntKind.wrap .u64 a14) (IntKind.wrap .u64 (IntKind.wrap .i64 (8 * (IntKind.wrap .i64 ((((List.length s236) : Nat) : Int) - 4))))))) + x247))) <|
 C.same s304.env[20]? v114 <|
 C.same s304.env[21]? tz <|
 C.same s304.env[22]? v115 <|
 C.same s304.env[23]? v116 <|
 C.same s304.env[24]? (.bool b59) <|
 C.same s304.env[25]? (.bool b60) <|
 C.same s304.env[26]? (.bool b61) <|
 C.same s304.env[27]? v62 <|
 C.same s304.env[28]? v63 <|
 C.same s304.env[29]? v64 <|
 C.same s304.env[30]? v65 <|
 C.same s304.env[31]? (.bool b66) <|
 C.same s304.env[32]? (.bool b67) <|
 C.same s304.env[33]? v68 <|
 C.same s304.env[34]? v69 <|
 C.same s304.env[35]? v70 <|
 C.same s304.env[36]? v71 <|
 C.same s304.env[37]? bf <|
 C.same s304.env[38]? tz <|
 C.same s304.env[39]? (iz a13) <|
 C.same s304.env[40]? (.int .u64 (IntKind.wrap .u64 a13)) <|
 C.same s304.env[41]? (.int .u64 (Int.tmod (IntKind.wrap .u64 a13) 3)) <|
 C.same s304.env[42]? (iz (IntKind.wrap .i64 (Int.tmod (IntKind.wrap .u64 a13) 3))) <|
 C.same s304.env[43]? (iz (IntKind.wrap .i64 (1 + (IntKind.wrap .i64 (Int.tmod (IntKind.wrap .u64 a13) 3))))) <|
 C.same s304.env[44]? (.agg [(iz x77), (iz x78), (iz x79), (iz x80)]) <|
 C.same s304.env[45]? (.str s81) <|
 C.same s304.env[46]? (.agg [(iz x85), (iz x86), (iz x87), (iz x88), (iz x89), (iz x90), (iz x91), (iz x92), (iz x93)]) <|
 C.same s304.env[47]? (.str s94) <|
 C.same s304.env[48]? (iz (IntKind.wrap .i64 (1 + (IntKind.wrap .i64 (Int.tmod (IntKind.wrap .u64 a13) 3))))) <|
 C.same s304.env[49]? (.str s95) <|
 C.same s304.env[50]? v96 <|
 C.same s304.env[51]? (iz x100) <|
 C.same s304.env[52]? (iz x117) <|
 C.same s304.env[53]? bt <|
 C.same s304.env[54]? (iz x117) <|
 C.same s304.env[55]? v232 <|
 C.same s304.env[56]? (.str s236) <|
 C.same s304.env[57]? (.str s236) <|
 C.same s304.env[58]? (iz (((List.length s236) : Nat) : Int)) <|
 C.same s304.env[59]? (iz (IntKind.wrap .i64 ((((List.length s236) : Nat) : Int) - 4))) <|
 C.same s304.env[60]? (iz (IntKind.wrap .i64 (8 * (IntKind.wrap .i64 ((((List.length s236) : Nat) : Int) - 4))))) <|
 C.same s304.env[61]? (iz a14) <|
 C.same s304.env[62]? (.int .u64 (IntKind.wrap .u64 a14)) <|
 C.same s304.env[63]? (iz (IntKind.wrap .i64 (8 * (IntKind.wrap .i64 ((((List.length s236) : Nat) : Int) - 4))))) <|
 C.same s304.env[64]? (.int .u64 (IntKind.wrap .u64 (IntKind.wrap .i64 (8 * (IntKind.wrap .i64 ((((List.length s236) : Nat) : Int) - 4)))))) <|
 C.same s304.env[65]? (.int .u64 (Int.tmod (IntKind.wrap .u64 a14) (IntKind.wrap .u64 (IntKind.wrap .i64 (8 * (IntKind.wrap .i64 ((((List.length s236) : Nat) : Int) - 4))))))) <|
 C.same s304.env[66]? (iz (IntKind.wrap .i64 (Int.tmod (IntKind.wrap .u64 a14) (IntKind.wrap .u64 (IntKind.wrap .i64 (8 * (IntKind.wrap .i64 ((((List.length s236) : Nat) : Int) - 4)))))))) <|
 C.same s304.env[67]? (.str s236) <|
 C.same s304.env[68]? v237 <|
 C.same s304.env[69]? (.str s236) <|
 C.same s304.env[70]? v239 <|
 C.same s304.env[71]? (iz x247) <|
 C.same s304.env[72]? bt <|
 C.same s304.env[73]? (iz x247) <|
 C.same s304.env[74]? (iz (IntKind.wrap .i64 (Int.tmod (IntKind.wrap .u64 a14) (IntKind.wrap .u64 (IntKind.wrap .i64 (8 * (IntKind.wrap .i64 ((((List.length s236) : Nat) : Int) - 4)))))))) <|
 C.same s304.env[75]? (iz x247) <|
 C.same s304.env[76]? (iz (IntKind.wrap .i64 ((IntKind.wrap .i64 (Int.tmod (IntKind.wrap .u64 a14) (IntKind.wrap .u64 (IntKind.wrap .i64 (8 * (IntKind.wrap .i64 ((((List.length s236) : Nat) : Int) - 4))))))) + x247))) <|
 C.any s304.env[77]? fun v307 =>
 C.any s304.env[78]? fun v308 =>
 C.any s304.env[79]? fun v309 =>
 C.any s304.env[80]? fun v310 =>
 C.any s304.env[81]? fun v311 =>
 C.any s304.env[82]? fun v312 =>
 C.any s304.env[83]? fun v313 =>
 C.any s304.env[84]? fun v314 =>
 C.any s304.env[85]? fun v315 =>
 C.any s304.env[86]? fun v316 =>
 C.same s304.env[87]? v294 <|
 C.same s304.env[88]? v295 <|
 C.same s304.env[89]? v296 <|
 C.same s304.env[90]? v297 <|
 C.same s304.env[91]? v298 <|
 C.same s304.env[92]? v299 <|
 C.same s304.env[93]? v300 <|
 C.same s304.env[94]? v301 <|
 C.same s304.env[95]? v302 <|
 C.same s304.env[96]? v303 <|
 C.same s304.env[97]? v273 <|
 C.same s304.env[98]? v163 <|
 C.same s304.env[99]? v164 <|
 C.same s304.env[100]? v165 <|
 C.same s304.env[101]? v166 <|
 C.same s304.env[102]? v167 <|
 C.same s304.env[103]? v168 <|
 C.same s304.env[104]? v169 <|
 C.same s304.env[105]? v170 <|
 C.same s304.env[106]? v171 <|
 C.same s304.env[107]? v172 <|
 C.same s304.env[108]? v173 <|
 C.same s304.env[109]? v174 <|
 C.same s304.env[110]? v175 <|
 C.same s304.env[111]? v176 <|
 C.same s304.env[112]? v177 <|
 C.same s304.env[113]? v178 <|
 C.same s304.env[114]? v179 <|
 C.same s304.env[115]? v180 <|
 C.same s304.env[116]? v181 <|
 C.same s304.env[117]? v182 <|
 C.same s304.env[118]? v183 <|
 C.same s304.env[119]? v184 <|
 C.same s304.env[120]? v185 <|
 C.same s304.env[121]? v186 <|
 C.same s304.env[122]? v187 <|
 C.same s304.env[123]? v188 <|
 C.same s304.env[124]? v189 <|
 C.same s304.env[125]? v190 <|
 C.same s304.env[126]? v191 <|
 C.same s304.env[127]? v192 <|
 C.same s304.env[128]? v193 <|
 C.same s304.env[129]? v194 <|
 C.same s304.env[130]? v195 <|
 C.same s304.env[131]? v196 <|
 C.same s304.env[132]? v197 <|
 C.same s304.env[133]? v198 <|
 C.same s304.env[134]? v199 <|
 C.same s304.env[135]? v200 <|
 C.same s304.env[136]? v201 <|
 C.same s304.env[137]? v202 <|
 C.same s304.env[138]? v203 <|
 C.same s304.env[139]? v204 <|
 C.same s304.env[140]? v205 <|
 C.same s304.env[141]? v206 <|
 C.same s304.env[142]? v207 <|
 C.same s304.env[143]? v208 <|
 C.same s304.env[144]? v209 <|
 C.same s304.env[145]? v210 <|
 C.same s304.env[146]? v211 <|
 C.same s304.env[147]? v212 <|
 C.same s304.env[148]? v213 <|
 C.same s304.env[149]? v214 <|
 C.same s304.env[150]? v215 <|
 C.same s304.env[151]? v216 <|
 C.same s304.env[152]? v217 <|
 C.same s304.env[153]? v218 <|
 C.same s304.env[154]? v219 <|
 C.same s304.env[155]? v220 <|
 C.same s304.env[156]? v221 <|
 C.same s304.env[157]? v222 <|
 C.same s304.env[158]? v223 <|
 C.same s304.env[159]? v224 <|
 C.same s304.env[160]? v225 <|
 C.same s304.env[161]? v226 <|
 C.same s304.env[162]? v227 <|
 C.same s304.env[163]? v228 <|
 C.same s304.env[164]? v229 <|
 C.same s304.env[165]? v230 <|
 C.same s304.env[166]? v231 <|
 cnd (decide (x247 < 0))
 (none)
 (cnd ((bits .and .u32 (Int.fdiv a15 (2 ^ (min (Int.toNat x247) 32))) 1) == 1)
 (k305 (.exit 2000000) ⟨[(.agg [(iz a0), (iz a1), (iz a2), (iz a3)]), (.agg [(iz a4), (iz a5), (iz a6), (iz a7), (iz a8), (iz a9), (iz a10), (iz a11), (iz a12)]), (iz (IntKind.wrap .i64 (1 + (IntKind.wrap .i64 (Int.tmod (IntKind.wrap .u64 a13) 3))))), (iz a14), (.int .u32 a15), v0, v2, tz, tz, tz, (.bool b104), (iz x117), (.str s236), (iz (IntKind.wrap .i64 (8 * (IntKind.wrap .i64 ((((List.length s236) : Nat) : Int) - 4))))), (iz (IntKind.wrap .i64 (Int.tmod (IntKind.wrap .u64 a14) (IntKind.wrap .u64 (IntKind.wrap .i64 (8 * (IntKind.wrap .i64 ((((List.length s236) : Nat) : Int) - 4)))))))), v237, v239, (.bool b277), (iz x247), (iz (IntKind.wrap .i64 ((IntKind.wrap .i64 (Int.tmod (IntKind.wrap .u64 a14) (IntKind.wrap .u64 (IntKind.wrap .i64 (8 * (IntKind.wrap .i64 ((((List.length s236) : Nat) : Int) - 4))))))) + x247))), v114, tz, v115, v116, (.bool b59), (.bool b60), (.bool b61), v62, v63, v64, v65, (.bool b66), (.bool b67), v68, v69, v70, v71, bf, tz, (iz a13), (.int .u64 (IntKind.wrap .u64 a13)), (.int .u64 (Int.tmod (IntKind.wrap .u64 a13) 3)), (iz (IntKind.wrap .i64 (Int.tmod (IntKind.wrap .u64 a13) 3))), (iz (IntKind.wrap .i64 (1 + (IntKind.wrap .i64 (Int.tmod (IntKind.wrap .u64 a13) 3))))), (.agg [(iz x77), (iz x78), (iz x79), (iz x80)]), (.str s81), (.agg [(iz x85), (iz x86), (iz x87), (iz x88), (iz x89), (iz x90), (iz x91), (iz x92), (iz x93)]), (.str s94), (iz (IntKind.wrap .i64 (1 + (IntKind.wrap .i64 (Int.tmod (IntKind.wrap .u64 a13) 3))))), (.str s95), v96, (iz x100), (iz x117), bt, (iz x117), v232, (.str s236), (.str s236), (iz (((List.length s236) : Nat) : Int)), (iz (IntKind.wrap .i64 ((((List.length s236) : Nat) : Int) - 4))), (iz (IntKind.wrap .i64 (8 * (IntKind.wrap .i64 ((((List.length s236) : Nat) : Int) - 4))))), (iz a14), (.int .u64 (IntKind.wrap .u64 a14)), (iz (IntKind.wrap .i64 (8 * (IntKind.wrap .i64 ((((List.length s236) : Nat) : Int) - 4))))), (.int .u64 (IntKind.wrap .u64 (IntKind.wrap .i64 (8 * (IntKind.wrap .i64 ((((List.length s236) : Nat) : Int) - 4)))))), (.int .u64 (Int.tmod (IntKind.wrap .u64 a14) (IntKind.wrap .u64 (IntKind.wrap .i64 (8 * (IntKind.wrap .i64 ((((List.length s236) : Nat) : Int) - 4))))))), (iz (IntKind.wrap .i64 (Int.tmod (IntKind.wrap .u64 a14) (IntKind.wrap .u64 (IntKind.wrap .i64 (8 * (IntKind.wrap .i64 ((((List.length s236) : Nat) : Int) - 4)))))))), (.str s236), v237, (.str s236), v239, (iz x247), bt, (iz x247), (iz (IntKind.wrap .i64 (Int.tmod (IntKind.wrap .u64 a14) (IntKind.wrap .u64 (IntKind.wrap .i64 (8 * (IntKind.wrap .i64 ((((List.length s236) : Nat) : Int) - 4)))))))), (iz x247), (iz (IntKind.wrap .i64 ((IntKind.wrap .i64 (Int.tmod (IntKind.wrap .u64 a14) (IntKind.wrap .u64 (IntKind.wrap .i64 (8 * (IntKind.wrap .i64 ((((List.length s236) : Nat) : Int) - 4))))))) + x247))), (.int .u32 a15), (iz x247), (.int .u32 (Int.fdiv a15 (2 ^ (min (Int.toNat x247) 32)))), (.int .u32 (bits .and .u32 (Int.fdiv a15 (2 ^ (min (Int.toNat x247) 32))) 1)), (.bool ((bits .and .u32 (Int.fdiv a15 (2 ^ (min (Int.toNat x247) 32))) 1) == 1)), bt, (iz (IntKind.wrap .i64 ((IntKind.wrap .i64 (Int.tmod (IntKind.wrap .u64 a14) (IntKind.wrap .u64 (IntKind.wrap .i64 (8 * (IntKind.wrap .i64 ((((List.length s236) : Nat) : Int) - 4))))))) + x247))), (iz (IntKind.wrap .i64 (8 * (IntKind.wrap .i64 ((((List.length s236) : Nat) : Int) - 4))))), (.bool (decide ((IntKind.wrap .i64 ((IntKind.wrap .i64 (Int.tmod (IntKind.wrap .u64 a14) (IntKind.wrap .u64 (IntKind.wrap .i64 (8 * (IntKind.wrap .i64 ((((List.length s236) : Nat) : Int) - 4))))))) + x247)) < (IntKind.wrap .i64 (8 * (IntKind.wrap .i64 ((((List.length s236) : Nat) : Int) - 4))))))), (.bool (decide ((IntKind.wrap .i64 ((IntKind.wrap .i64 (Int.tmod (IntKind.wrap .u64 a14) (IntKind.wrap .u64 (IntKind.wrap .i64 (8 * (IntKind.wrap .i64 ((((List.length s236) : Nat) : Int) - 4))))))) + x247)) < (IntKind.wrap .i64 (8 * (IntKind.wrap .i64 ((((List.length s236) : Nat) : Int) - 4))))))), v294, v295, v296, v297, v298, v299, v300, v301, v302, v303, v273, v163, v164, v165, v166, v167, v168, v169, v170, v171, v172, v173, v174, v175, v176, v177, v178, v179, v180, v181, v182, v183, v184, v185, v186, v187, v188, v189, v190, v191, v192, v193, v194, v195, v196, v197, v198, v199, v200, v201, v202, v203, v204, v205, v206, v207, v208, v209, v210, v211, v212, v213, v214, v215, v216, v217, v218, v219, v220, v221, v222, v223, v224, v225, v226, v227, v228, v229, v230, v231], (St.H s304)⟩)
 (k305 (.exit 2000000) ⟨[(.agg [(iz a0), (iz a1), (iz a2), (iz a3)]), (.agg [(iz a4), (iz a5), (iz a6), (iz a7), (iz a8), (iz a9), (iz a10), (iz a11), (iz a12)]), (iz (IntKind.wrap .i64 (1 + (IntKind.wrap .i64 (Int.tmod (IntKind.wrap .u64 a13) 3))))), (iz a14), (.int .u32 a15), v0, v2, tz, tz, tz, (.bool b104), (iz x117), (.str s236), (iz (IntKind.wrap .i64 (8 * (IntKind.wrap .i64 ((((List.length s236) : Nat) : Int) - 4))))), (iz (IntKind.wrap .i64 (Int.tmod (IntKind.wrap .u64 a14) (IntKind.wrap .u64 (IntKind.wrap .i64 (8 * (IntKind.wrap .i64 ((((List.length s236) : Nat) : Int) - 4)))))))), v237, v239, (.bool b277), (iz x247), (iz (IntKind.wrap .i64 ((IntKind.wrap .i64 (Int.tmod (IntKind.wrap .u64 a14) (IntKind.wrap .u64 (IntKind.wrap .i64 (8 * (IntKind.wrap .i64 ((((List.length s236) : Nat) : Int) - 4))))))) + x247))), v114, tz, v115, v116, (.bool b59), (.bool b60), (.bool b61), v62, v63, v64, v65, (.bool b66), (.bool b67), v68, v69, v70, v71, bf, tz, (iz a13), (.int .u64 (IntKind.wrap .u64 a13)), (.int .u64 (Int.tmod (IntKind.wrap .u64 a13) 3)), (iz (IntKind.wrap .i64 (Int.tmod (IntKind.wrap .u64 a13) 3))), (iz (IntKind.wrap .i64 (1 + (IntKind.wrap .i64 (Int.tmod (IntKind.wrap .u64 a13) 3))))), (.agg [(iz x77), (iz x78), (iz x79), (iz x80)]), (.str s81), (.agg [(iz x85), (iz x86), (iz x87), (iz x88), (iz x89), (iz x90), (iz x91), (iz x92), (iz x93)]), (.str s94), (iz (IntKind.wrap .i64 (1 + (IntKind.wrap .i64 (Int.tmod (IntKind.wrap .u64 a13) 3))))), (.str s95), v96, (iz x100), (iz x117), bt, (iz x117), v232, (.str s236), (.str s236), (iz (((List.length s236) : Nat) : Int)), (iz (IntKind.wrap .i64 ((((List.length s236) : Nat) : Int) - 4))), (iz (IntKind.wrap .i64 (8 * (IntKind.wrap .i64 ((((List.length s236) : Nat) : Int) - 4))))), (iz a14), (.int .u64 (IntKind.wrap .u64 a14)), (iz (IntKind.wrap .i64 (8 * (IntKind.wrap .i64 ((((List.length s236) : Nat) : Int) - 4))))), (.int .u64 (IntKind.wrap .u64 (IntKind.wrap .i64 (8 * (IntKind.wrap .i64 ((((List.length s236) : Nat) : Int) - 4)))))), (.int .u64 (Int.tmod (IntKind.wrap .u64 a14) (IntKind.wrap .u64 (IntKind.wrap .i64 (8 * (IntKind.wrap .i64 ((((List.length s236) : Nat) : Int) - 4))))))), (iz (IntKind.wrap .i64 (Int.tmod (IntKind.wrap .u64 a14) (IntKind.wrap .u64 (IntKind.wrap .i64 (8 * (IntKind.wrap .i64 ((((List.length s236) : Nat) : Int) - 4)))))))), (.str s236), v237, (.str s236), v239, (iz x247), bt, (iz x247), (iz (IntKind.wrap .i64 (Int.tmod (IntKind.wrap .u64 a14) (IntKind.wrap .u64 (IntKind.wrap .i64 (8 * (IntKind.wrap .i64 ((((List.length s236) : Nat) : Int) - 4)))))))), (iz x247), (iz (IntKind.wrap .i64 ((IntKind.wrap .i64 (Int.tmod (IntKind.wrap .u64 a14) (IntKind.wrap .u64 (IntKind.wrap .i64 (8 * (IntKind.wrap .i64 ((((List.length s236) : Nat) : Int) - 4))))))) + x247))), (.int .u32 a15), (iz x247), (.int .u32 (Int.fdiv a15 (2 ^ (min (Int.toNat x247) 32)))), (.int .u32 (bits .and .u32 (Int.fdiv a15 (2 ^ (min (Int.toNat x247) 32))) 1)), (.bool ((bits .and .u32 (Int.fdiv a15 (2 ^ (min (Int.toNat x247) 32))) 1) == 1)), bf, tz, tz, tz, bf, v294, v295, v296, v297, v298, v299, v300, v301, v302, v303, v273, v163, v164, v165, v166, v167, v168, v169, v170, v171, v172, v173, v174, v175, v176, v177, v178, v179, v180, v181, v182, v183, v184, v185, v186, v187, v188, v189, v190, v191, v192, v193, v194, v195, v196, v197, v198, v199, v200, v201, v202, v203, v204, v205, v206, v207, v208, v209, v210, v211, v212, v213, v214, v215, v216, v217, v218, v219, v220, v221, v222, v223, v224, v225, v226, v227, v228, v229, v230, v231], (St.H s304)⟩)))
 (none)
def r6X4_0 (C : Cb) (d : Nat) (a0 a1 a2 a3 a4 a5 a6 a7 a8 a9 a10 a11 a12 a13 a14 a15 : Int) (v0 v2 : AV) (b59 b60 b61 : Bool) (v62 v63 v64 v65 : AV) (b66 b67 : Bool) (v68 v69 v70 v71 : AV) (x77 x78 x79 x80 : Int) (s81 : List UInt8) (x85 x86 x87 x88 x89 x90 x91 x92 x93 : Int) (s94 : List UInt8) (s95 : List UInt8) (v96 : AV) (x100 : Int) (b104 : Bool) (v114 v115 v116 : AV) (x117 : Int) (v163 v164 v165 v166 v167 v168 v169 v170 v171 v172 v173 v174 v175 v176 v177 v178 v179 v180 v181 v182 v183 v184 v185 v186 v187 v188 v189 v190 v191 v192 v193 v194 v195 v196 v197 v198 v199 v200 v201 v202 v203 v204 v205 v206 v207 v208 v209 v210 v211 v212 v213 v214 v215 v216 v217 v218 v219 v220 v221 v222 v223 v224 v225 v226 v227 v228 v229 v230 v231 v232 : AV) (s236 : List UInt8) (v237 v239 : AV) (x247 : Int) (v273 : AV) (k275 : Ex → St → Ans) (b277 : Bool) (v294 v295 v296 v297 v298 v299 v300 v301 v302 v303 : AV) : St → Ans := fun s317 =>
 cnd ((List.length s317.env) == 167)
 (C.same s317.env[0]? (.agg [(iz a0), (iz a1), (iz a2), (iz a3)]) <|
 C.same s317.env[1]? (.agg [(iz a4), (iz a5), (iz a6), (iz a7), (iz a8), (iz a9), (iz a10), (iz a11), (iz a12)]) <|
 C.same s317.env[2]? (iz (IntKind.wrap .i64 (1 + (IntKind.wrap .i64 (Int.tmod (IntKind.wrap .u64 a13) 3))))) <|
 C.same s317.env[3]? (iz a14) <|
 C.same s317.env[4]? (.int .u32 a15) <|
 C.same s317.env[5]? v0 <|
 C.same s317.env[6]? v2 <|
 C.same s317.env[7]? tz <|
 C.same s317.env[8]? tz <|
 C.same s317.env[9]? tz <|
 C.same s317.env[10]? (.bool b104) <|
 C.same s317.env[11]? (iz x117) <|
 C.same s317.env[12]? (.str s236) <|
 C.same s317.env[13]? (iz (IntKind.wrap .i64 (8 * (IntKind.wrap .i64 ((((List.length s236) : Nat) : Int) - 4))))) <|
 C.same s317.env[14]? (iz (IntKind.wrap .i64 (Int.tmod (IntKind.wrap .u64 a14) (IntKind.wrap .u64 (IntKind.wrap .i64 (8 * (IntKind.wrap .i64 ((((List.length s236) : Nat) : Int) - 4)))))))) <|
 C.same s317.env[15]? v237 <|
 C.same s317.env[16]? v239 <|
 C.same s317.env[17]? (.bool b277) <|
 C.same s317.env[18]? (iz x247) <|
 C.same s317.env[19]? (iz (IntKind.wrap .i64 ((IntKind.wrap .i64 (Int.tmod (IntKind.wrap .u64 a14) (IntKind.wrap .u64 (IntKind.wrap .i64 (8 * (IntKind.wrap .i64 ((((List.length s236) : Nat) : Int) - 4))))))) + x247))) <|
 C.same s317.env[20]? v114 <|
 C.same s317.env[21]? tz <|
 C.same s317.env[22]? v115 <|
 C.same s317.env[23]? v116 <|
 C.same s317.env[24]? (.bool b59) <|
 C.same s317.env[25]? (.bool b60) <|
 C.same s317.env[26]? (.bool b61) <|
 C.same s317.env[27]? v62 <|
 C.same s317.env[28]? v63 <|
 C.same s317.env[29]? v64 <|
 C.same s317.env[30]? v65 <|
 C.same s317.env[31]? (.bool b66) <|
 C.same s317.env[32]? (.bool b67) <|
 C.same s317.env[33]? v68 <|
 C.same s317.env[34]? v69 <|
 C.same s317.env[35]? v70 <|
 C.same s317.env[36]? v71 <|
 C.same s317.env[37]? bf <|
 C.same s317.env[38]? tz <|
 C.same s317.env[39]? (iz a13) <|
 C.same s317.env[40]? (.int .u64 (IntKind.wrap .u64 a13)) <|
 C.same s317.env[41]? (.int .u64 (Int.tmod (IntKind.wrap .u64 a13) 3)) <|
 C.same s317.env[42]? (iz (IntKind.wrap .i64 (Int.tmod (IntKind.wrap .u64 a13) 3))) <|
 C.same s317.env[43]? (iz (IntKind.wrap .i64 (1 + (IntKind.wrap .i64 (Int.tmod (IntKind.wrap .u64 a13) 3))))) <|
 C.same s317.env[44]? (.agg [(iz x77), (iz x78), (iz x79), (iz x80)]) <|
 C.same s317.env[45]? (.str s81) <|
 C.same s317.env[46]? (.agg [(iz x85), (iz x86), (iz x87), (iz x88), (iz x89), (iz x90), (iz x91), (iz x92), (iz x93)]) <|
 C.same s317.env[47]? (.str s94) <|
 C.same s317.env[48]? (iz (IntKind.wrap .i64 (1 + (IntKind.wrap .i64 (Int.tmod (IntKind.wrap .u64 a13) 3))))) <|
 C.same s317.env[49]? (.str s95) <|
 C.same s317.env[50]? v96 <|
 C.same s317.env[51]? (iz x100) <|
 C.same s317.env[52]? (iz x117) <|
 C.same s317.env[53]? bt <|
 C.same s317.env[54]? (iz x117) <|
 C.same s317.env[55]? v232 <|
 C.same s317.env[56]? (.str s236) <|
 C.same s317.env[57]? (.str s236) <|
 C.same s317.env[58]? (iz (((List.length s236) : Nat) : Int)) <|
 C.same s317.env[59]? (iz (IntKind.wrap .i64 ((((List.length s236) : Nat) : Int) - 4))) <|
 C.same s317.env[60]? (iz (IntKind.wrap .i64 (8 * (IntKind.wrap .i64 ((((List.length s236) : Nat) : Int) - 4))))) <|
 C.same s317.env[61]? (iz a14) <|
 C.same s317.env[62]? (.int .u64 (IntKind.wrap .u64 a14)) <|
 C.same s317.env[63]? (iz (IntKind.wrap .i64 (8 * (IntKind.wrap .i64 ((((List.length s236) : Nat) : Int) - 4))))) <|
 C.same s317.env[64]? (.int .u64 (IntKind.wrap .u64 (IntKind.wrap .i64 (8 * (IntKind.wrap .i64 ((((List.length s236) : Nat) : Int) - 4)))))) <|
 C.same s317.env[65]? (.int .u64 (Int.tmod (IntKind.wrap .u64 a14) (IntKind.wrap .u64 (IntKind.wrap .i64 (8 * (IntKind.wrap .i64 ((((List.length s236) : Nat) : Int) - 4))))))) <|
 C.same s317.env[66]? (iz (IntKind.wrap .i64 (Int.tmod (IntKind.wrap .u64 a14) (IntKind.wrap .u64 (IntKind.wrap .i64 (8 * (IntKind.wrap .i64 ((((List.length s236) : Nat) : Int) - 4)))))))) <|
 C.same s317.env[67]? (.str s236) <|
 C.same s317.env[68]? v237 <|
 C.same s317.env[69]? (.str s236) <|
 C.same s317.env[70]? v239 <|
 C.same s317.env[71]? (iz x247) <|
 C.same s317.env[72]? bt <|
 C.same s317.env[73]? (iz x247) <|
 C.same s317.env[74]? (iz (IntKind.wrap .i64 (Int.tmod (IntKind.wrap .u64 a14) (IntKind.wrap .u64 (IntKind.wrap .i64 (8 * (IntKind.wrap .i64 ((((List.length s236) : Nat) : Int) - 4)))))))) <|
 C.same s317.env[75]? (iz x247) <|
 C.same s317.env[76]? (iz (IntKind.wrap .i64 ((IntKind.wrap .i64 (Int.tmod (IntKind.wrap .u64 a14) (IntKind.wrap .u64 (IntKind.wrap .i64 (8 * (IntKind.wrap .i64 ((((List.length s236) : Nat) : Int) - 4))))))) + x247))) <|
 C.int .u32 s317.env[77]? fun x318 =>
 C.int .i64 s317.env[78]? fun x319 =>
 C.int .u32 s317.env[79]? fun x320 =>
 C.int .u32 s317.env[80]? fun x321 =>
 C.bool s317.env[81]? fun b322 =>
 C.bool s317.env[82]? fun b323 =>
 C.any s317.env[83]? fun v324 =>
 C.any s317.env[84]? fun v325 =>
 C.any s317.env[85]? fun v326 =>
 C.bool s317.env[86]? fun b327 =>
 C.same s317.env[87]? v294 <|
 C.same s317.env[88]? v295 <|
 C.same s317.env[89]? v296 <|
 C.same s317.env[90]? v297 <|
 C.same s317.env[91]? v298 <|
 C.same s317.env[92]? v299 <|
 C.same s317.env[93]? v300 <|
 C.same s317.env[94]? v301 <|
 C.same s317.env[95]? v302 <|
 C.same s317.env[96]? v303 <|
 C.same s317.env[97]? v273 <|
 C.same s317.env[98]? v163 <|
 C.same s317.env[99]? v164 <|
 C.same s317.env[100]? v165 <|
 C.same s317.env[101]? v166 <|
 C.same s317.env[102]? v167 <|
 C.same s317.env[103]? v168 <|
 C.same s317.env[104]? v169 <|
 C.same s317.env[105]? v170 <|
 C.same s317.env[106]? v171 <|
 C.same s317.env[107]? v172 <|
 C.same s317.env[108]? v173 <|
 C.same s317.env[109]? v174 <|
 C.same s317.env[110]? v175 <|
 C.same s317.env[111]? v176 <|
 C.same s317.env[112]? v177 <|
 C.same s317.env[113]? v178 <|
 C.same s317.env[114]? v179 <|
 C.same s317.env[115]? v180 <|
 C.same s317.env[116]? v181 <|
 C.same s317.env[117]? v182 <|
 C.same s317.env[118]? v183 <|
 C.same s317.env[119]? v184 <|
 C.same s317.env[120]? v185 <|
 C.same s317.env[121]? v186 <|
 C.same s317.env[122]? v187 <|
 C.same s317.env[123]? v188 <|
 C.same s317.env[124]? v189 <|
 C.same s317.env[125]? v190 <|
 C.same s317.env[126]? v191 <|
 C.same s317.env[127]? v192 <|
 C.same s317.env[128]? v193 <|
 C.same s317.env[129]? v194 <|
 C.same s317.env[130]? v195 <|
 C.same s317.env[131]? v196 <|
 C.same s317.env[132]? v197 <|
 C.same s317.env[133]? v198 <|
 C.same s317.env[134]? v199 <|
 C.same s317.env[135]? v200 <|
 C.same s317.env[136]? v201 <|
 C.same s317.env[137]? v202 <|
 C.same s317.env[138]? v203 <|
 C.same s317.env[139]? v204 <|
 C.same s317.env[140]? v205 <|
 C.same s317.env[141]? v206 <|
 C.same s317.env[142]? v207 <|
 C.same s317.env[143]? v208 <|
 C.same s317.env[144]? v209 <|
 C.same s317.env[145]? v210 <|
 C.same s317.env[146]? v211 <|
 C.same s317.env[147]? v212 <|
 C.same s317.env[148]? v213 <|
 C.same s317.env[149]? v214 <|
 C.same s317.env[150]? v215 <|
 C.same s317.env[151]? v216 <|
 C.same s317.env[152]? v217 <|
 C.same s317.env[153]? v218 <|
 C.same s317.env[154]? v219 <|
 C.same s317.env[155]? v220 <|
 C.same s317.env[156]? v221 <|
 C.same s317.env[157]? v222 <|
 C.same s317.env[158]? v223 <|
 C.same s317.env[159]? v224 <|
 C.same s317.env[160]? v225 <|
 C.same s317.env[161]? v226 <|
 C.same s317.env[162]? v227 <|
 C.same s317.env[163]? v228 <|
 C.same s317.env[164]? v229 <|
 C.same s317.env[165]? v230 <|
 C.same s317.env[166]? v231 <|
 cnd b327
 (C.hop (St.H s317) (.ixAS .any 1 (.v v237) (.v (iz (IntKind.wrap .i64 (Int.tdiv (IntKind.wrap .i64 ((IntKind.wrap .i64 (Int.tmod (IntKind.wrap .u64 a14) (IntKind.wrap .u64 (IntKind.wrap .i64 (8 * (IntKind.wrap .i64 ((((List.length s236) : Nat) : Int) - 4))))))) + x247)) 8))))) fun v328 h329 =>
 C.hop h329 (.load false 1 (.v v328)) fun v330 h331 =>
 C.int .u8 (some v330) fun x332 =>
 cnd (decide ((Int.tmod (IntKind.wrap .i64 ((IntKind.wrap .i64 (Int.tmod (IntKind.wrap .u64 a14) (IntKind.wrap .u64 (IntKind.wrap .i64 (8 * (IntKind.wrap .i64 ((((List.length s236) : Nat) : Int) - 4))))))) + x247)) 8) < 0))
 (none)
 (C.hop h331 (.ixAS .any 1 (.v v237) (.v (iz (IntKind.wrap .i64 (Int.tdiv (IntKind.wrap .i64 ((IntKind.wrap .i64 (Int.tmod (IntKind.wrap .u64 a14) (IntKind.wrap .u64 (IntKind.wrap .i64 (8 * (IntKind.wrap .i64 ((((List.length s236) : Nat) : Int) - 4))))))) + x247)) 8))))) fun v333 h334 =>
 C.hop h334 (.store 1 (.v v333) (.v (.int .u8 (bits .xor .u8 x332 (IntKind.wrap .u8 (1 * (2 ^ (min (Int.toNat (Int.tmod (IntKind.wrap .i64 ((IntKind.wrap .i64 (Int.tmod (IntKind.wrap .u64 a14) (IntKind.wrap .u64 (IntKind.wrap .i64 (8 * (IntKind.wrap .i64 ((((List.length s236) : Nat) : Int) - 4))))))) + x247)) 8)) 8)))))))) fun v335 h336 =>
 k275 (.exit 2000000) ⟨[(.agg [(iz a0), (iz a1), (iz a2), (iz a3)]), (.agg [(iz a4), (iz a5), (iz a6), (iz a7), (iz a8), (iz a9), (iz a10), (iz a11), (iz a12)]), (iz (IntKind.wrap .i64 (1 + (IntKind.wrap .i64 (Int.tmod (IntKind.wrap .u64 a13) 3))))), (iz a14), (.int .u32 a15), v0, v2, tz, tz, tz, (.bool b104), (iz x117), (.str s236), (iz (IntKind.wrap .i64 (8 * (IntKind.wrap .i64 ((((List.length s236) : Nat) : Int) - 4))))), (iz (IntKind.wrap .i64 (Int.tmod (IntKind.wrap .u64 a14) (IntKind.wrap .u64 (IntKind.wrap .i64 (8 * (IntKind.wrap .i64 ((((List.length s236) : Nat) : Int) - 4)))))))), v237, v239, bt, (iz x247), (iz (IntKind.wrap .i64 ((IntKind.wrap .i64 (Int.tmod (IntKind.wrap .u64 a14) (IntKind.wrap .u64 (IntKind.wrap .i64 (8 * (IntKind.wrap .i64 ((((List.length s236) : Nat) : Int) - 4))))))) + x247))), v114, tz, v115, v116, (.bool b59), (.bool b60), (.bool b61), v62, v63, v64, v65, (.bool b66), (.bool b67), v68, v69, v70, v71, bf, tz, (iz a13), (.int .u64 (IntKind.wrap .u64 a13)), (.int .u64 (Int.tmod (IntKind.wrap .u64 a13) 3)), (iz (IntKind.wrap .i64 (Int.tmod (IntKind.wrap .u64 a13) 3))), (iz (IntKind.wrap .i64 (1 + (IntKind.wrap .i64 (Int.tmod (IntKind.wrap .u64 a13) 3))))), (.agg [(iz x77), (iz x78), (iz x79), (iz x80)]), (.str s81), (.agg [(iz x85), (iz x86), (iz x87), (iz x88), (iz x89), (iz x90), (iz x91), (iz x92), (iz x93)]), (.str s94), (iz (IntKind.wrap .i64 (1 + (IntKind.wrap .i64 (Int.tmod (IntKind.wrap .u64 a13) 3))))), (.str s95), v96, (iz x100), (iz x117), bt, (iz x117), v232, (.str s236), (.str s236), (iz (((List.length s236) : Nat) : Int)), (iz (IntKind.wrap .i64 ((((List.length s236) : Nat) : Int) - 4))), (iz (IntKind.wrap .i64 (8 * (IntKind.wrap .i64 ((((List.length s236) : Nat) : Int) - 4))))), (iz a14), (.int .u64 (IntKind.wrap .u64 a14)), (iz (IntKind.wrap .i64 (8 * (IntKind.wrap .i64 ((((List.length s236) : Nat) : Int) - 4))))), (.int .u64 (IntKind.wrap .u64 (IntKind.wrap .i64 (8 * (IntKind.wrap .i64 ((((List.length s236) : Nat) : Int) - 4)))))), (.int .u64 (Int.tmod (IntKind.wrap .u64 a14) (IntKind.wrap .u64 (IntKind.wrap .i64 (8 * (IntKind.wrap .i64 ((((List.length s236) : Nat) : Int) - 4))))))), (iz (IntKind.wrap .i64 (Int.tmod (IntKind.wrap .u64 a14) (IntKind.wrap .u64 (IntKind.wrap .i64 (8 * (IntKind.wrap .i64 ((((List.length s236) : Nat) : Int) - 4)))))))), (.str s236), v237, (.str s236), v239, (iz x247), bt, (iz x247), (iz (IntKind.wrap .i64 (Int.tmod (IntKind.wrap .u64 a14) (IntKind.wrap .u64 (IntKind.wrap .i64 (8 * (IntKind.wrap .i64 ((((List.length s236) : Nat) : Int) - 4)))))))), (iz x247), (iz (IntKind.wrap .i64 ((IntKind.wrap .i64 (Int.tmod (IntKind.wrap .u64 a14) (IntKind.wrap .u64 (IntKind.wrap .i64 (8 * (IntKind.wrap .i64 ((((List.length s236) : Nat) : Int) - 4))))))) + x247))), (.int .u32 x318), (iz x319), (.int .u32 x320), (.int .u32 x321), (.bool b322), (.bool b323), v324, v325, v326, bt, v237, (iz (IntKind.wrap .i64 ((IntKind.wrap .i64 (Int.tmod (IntKind.wrap .u64 a14) (IntKind.wrap .u64 (IntKind.wrap .i64 (8 * (IntKind.wrap .i64 ((((List.length s236) : Nat) : Int) - 4))))))) + x247))), (iz (IntKind.wrap .i64 (Int.tdiv (IntKind.wrap .i64 ((IntKind.wrap .i64 (Int.tmod (IntKind.wrap .u64 a14) (IntKind.wrap .u64 (IntKind.wrap .i64 (8 * (IntKind.wrap .i64 ((((List.length s236) : Nat) : Int) - 4))))))) + x247)) 8))), v328, (.int .u8 x332), (iz (IntKind.wrap .i64 ((IntKind.wrap .i64 (Int.tmod (IntKind.wrap .u64 a14) (IntKind.wrap .u64 (IntKind.wrap .i64 (8 * (IntKind.wrap .i64 ((((List.length s236) : Nat) : Int) - 4))))))) + x247))), (iz (Int.tmod (IntKind.wrap .i64 ((IntKind.wrap .i64 (Int.tmod (IntKind.wrap .u64 a14) (IntKind.wrap .u64 (IntKind.wrap .i64 (8 * (IntKind.wrap .i64 ((((List.length s236) : Nat) : Int) - 4))))))) + x247)) 8)), (.int .u8 (IntKind.wrap .u8 (1 * (2 ^ (min (Int.toNat (Int.tmod (IntKind.wrap .i64 ((IntKind.wrap .i64 (Int.tmod (IntKind.wrap .u64 a14) (IntKind.wrap .u64 (IntKind.wrap .i64 (8 * (IntKind.wrap .i64 ((((List.length s236) : Nat) : Int) - 4))))))) + x247)) 8)) 8))))), (.int .u8 (bits .xor .u8 x332 (IntKind.wrap .u8 (1 * (2 ^ (min (Int.toNat (Int.tmod (IntKind.wrap .i64 ((IntKind.wrap .i64 (Int.tmod (IntKind.wrap .u64 a14) (IntKind.wrap .u64 (IntKind.wrap .i64 (8 * (IntKind.wrap .i64 ((((List.length s236) : Nat) : Int) - 4))))))) + x247)) 8)) 8)))))), v333, v273, v163, v164, v165, v166, v167, v168, v169, v170, v171, v172, v173, v174, v175, v176, v177, v178, v179, v180, v181, v182, v183, v184, v185, v186, v187, v188, v189, v190, v191, v192, v193, v194, v195, v196, v197, v198, v199, v200, v201, v202, v203, v204, v205, v206, v207, v208, v209, v210, v211, v212, v213, v214, v215, v216, v217, v218, v219, v220, v221, v222, v223, v224, v225, v226, v227, v228, v229, v230, v231], h336⟩))
 (k275 (.exit 2000000) ⟨[(.agg [(iz a0), (iz a1), (iz a2), (iz a3)]), (.agg [(iz a4), (iz a5), (iz a6), (iz a7), (iz a8), (iz a9), (iz a10), (iz a11), (iz a12)]), (iz (IntKind.wrap .i64 (1 + (IntKind.wrap .i64 (Int.tmod (IntKind.wrap .u64 a13) 3))))), (iz a14), (.int .u32 a15), v0, v2, tz, tz, tz, (.bool b104), (iz x117), (.str s236), (iz (IntKind.wrap .i64 (8 * (IntKind.wrap .i64 ((((List.length s236) : Nat) : Int) - 4))))), (iz (IntKind.wrap .i64 (Int.tmod (IntKind.wrap .u64 a14) (IntKind.wrap .u64 (IntKind.wrap .i64 (8 * (IntKind.wrap .i64 ((((List.length s236) : Nat) : Int) - 4)))))))), v237, v239, (.bool b277), (iz x247), (iz (IntKind.wrap .i64 ((IntKind.wrap .i64 (Int.tmod (IntKind.wrap .u64 a14) (IntKind.wrap .u64 (IntKind.wrap .i64 (8 * (IntKind.wrap .i64 ((((List.length s236) : Nat) : Int) - 4))))))) + x247))), v114, tz, v115, v116, (.bool b59), (.bool b60), (.bool b61), v62, v63, v64, v65, (.bool b66), (.bool b67), v68, v69, v70, v71, bf, tz, (iz a13), (.int .u64 (IntKind.wrap .u64 a13)), (.int .u64 (Int.tmod (IntKind.wrap .u64 a13) 3)), (iz (IntKind.wrap .i64 (Int.tmod (IntKind.wrap .u64 a13) 3))), (iz (IntKind.wrap .i64 (1 + (IntKind.wrap .i64 (Int.tmod (IntKind.wrap .u64 a13) 3))))), (.agg [(iz x77), (iz x78), (iz x79), (iz x80)]), (.str s81), (.agg [(iz x85), (iz x86), (iz x87), (iz x88), (iz x89), (iz x90), (iz x91), (iz x92), (iz x93)]), (.str s94), (iz (IntKind.wrap .i64 (1 + (IntKind.wrap .i64 (Int.tmod (IntKind.wrap .u64 a13) 3))))), (.str s95), v96, (iz x100), (iz x117), bt, (iz x117), v232, (.str s236), (.str s236), (iz (((List.length s236) : Nat) : Int)), (iz (IntKind.wrap .i64 ((((List.length s236) : Nat) : Int) - 4))), (iz (IntKind.wrap .i64 (8 * (IntKind.wrap .i64 ((((List.length s236) : Nat) : Int) - 4))))), (iz a14), (.int .u64 (IntKind.wrap .u64 a14)), (iz (IntKind.wrap .i64 (8 * (IntKind.wrap .i64 ((((List.length s236) : Nat) : Int) - 4))))), (.int .u64 (IntKind.wrap .u64 (IntKind.wrap .i64 (8 * (IntKind.wrap .i64 ((((List.length s236) : Nat) : Int) - 4)))))), (.int .u64 (Int.tmod (IntKind.wrap .u64 a14) (IntKind.wrap .u64 (IntKind.wrap .i64 (8 * (IntKind.wrap .i64 ((((List.length s236) : Nat) : Int) - 4))))))), (iz (IntKind.wrap .i64 (Int.tmod (IntKind.wrap .u64 a14) (IntKind.wrap .u64 (IntKind.wrap .i64 (8 * (IntKind.wrap .i64 ((((List.length s236) : Nat) : Int) - 4)))))))), (.str s236), v237, (.str s236), v239, (iz x247), bt, (iz x247), (iz (IntKind.wrap .i64 (Int.tmod (IntKind.wrap .u64 a14) (IntKind.wrap .u64 (IntKind.wrap .i64 (8 * (IntKind.wrap .i64 ((((List.length s236) : Nat) : Int) - 4)))))))), (iz x247), (iz (IntKind.wrap .i64 ((IntKind.wrap .i64 (Int.tmod (IntKind.wrap .u64 a14) (IntKind.wrap .u64 (IntKind.wrap .i64 (8 * (IntKind.wrap .i64 ((((List.length s236) : Nat) : Int) - 4))))))) + x247))), (.int .u32 x318), (iz x319), (.int .u32 x320), (.int .u32 x321), (.bool b322), (.bool b323), v324, v325, v326, bf, v294, v295, v296, v297, v298, v299, v300, v301, v302, v303, v273, v163, v164, v165, v166, v167, v168, v169, v170, v171, v172, v173, v174, v175, v176, v177, v178, v179, v180, v181, v182, v183, v184, v185, v186, v187, v188, v189, v190, v191, v192, v193, v194, v195, v196, v197, v198, v199, v200, v201, v202, v203, v204, v205, v206, v207, v208, v209, v210, v211, v212, v213, v214, v215, v216, v217, v218, v219, v220, v221, v222, v223, v224, v225, v226, v227, v228, v229, v230, v231], (St.H s317)⟩))
 (none)
def r6E4 (C : Cb) (d : Nat) (a0 a1 a2 a3 a4 a5 a6 a7 a8 a9 a10 a11 a12 a13 a14 a15 : Int) (v0 v2 : AV) (b59 b60 b61 : Bool) (v62 v63 v64 v65 : AV) (b66 b67 : Bool) (v68 v69 v70 v71 : AV) (x77 x78 x79 x80 : Int) (s81 : List UInt8) (x85 x86 x87 x88 x89 x90 x91 x92 x93 : Int) (s94 : List UInt8) (s95 : List UInt8) (v96 : AV) (x100 : Int) (b104 : Bool) (v114 v115 v116 : AV) (x117 : Int) (v163 v164 v165 v166 v167 v168 v169 v170 v171 v172 v173 v174 v175 v176 v177 v178 v179 v180 v181 v182 v183 v184 v185 v186 v187 v188 v189 v190 v191 v192 v193 v194 v195 v196 v197 v198 v199 v200 v201 v202 v203 v204 v205 v206 v207 v208 v209 v210 v211 v212 v213 v214 v215 v216 v217 v218 v219 v220 v221 v222 v223 v224 v225 v226 v227 v228 v229 v230 v231 v232 : AV) (s236 : List UInt8) (v237 v239 : AV) (x247 : Int) (v273 : AV) (k275 : Ex → St → Ans) (b277 : Bool) (v294 v295 v296 v297 v298 v299 v300 v301 v302 v303 : AV) : St → Ans := fun s306 =>
 cnd ((List.length s306.env) == 167)
 (C.same s306.env[0]? (.agg [(iz a0), (iz a1), (iz a2), (iz a3)]) <|
 C.same s306.env[1]? (.agg [(iz a4), (iz a5), (iz a6), (iz a7), (iz a8), (iz a9), (iz a10), (iz a11), (iz a12)]) <|
 C.same s306.env[2]? (iz (IntKind.wrap .i64 (1 + (IntKind.wrap .i64 (Int.tmod (IntKind.wrap .u64 a13) 3))))) <|
 C.same s306.env[3]? (iz a14) <|
 C.same s306.env[4]? (.int .u32 a15) <|
 C.same s306.env[5]? v0 <|
 C.same s306.env[6]? v2 <|
 C.same s306.env[7]? tz <|
 C.same s306.env[8]? tz <|
 C.same s306.env[9]? tz <|
 C.same s306.env[10]? (.bool b104) <|
 C.same s306.env[11]? (iz x117) <|
 C.same s306.env[12]? (.str s236) <|
 C.same s306.env[13]? (iz (IntKind.wrap .i64 (8 * (IntKind.wrap .i64 ((((List.length s236) : Nat) : Int) - 4))))) <|
 C.same s306.env[14]? (iz (IntKind.wrap .i64 (Int.tmod (IntKind.wrap .u64 a14) (IntKind.wrap .u64 (IntKind.wrap .i64 (8 * (IntKind.wrap .i64 ((((List.length s236) : Nat) : Int) - 4)))))))) <|
 C.same s306.env[15]? v237 <|
 C.same s306.env[16]? v239 <|
 C.same s306.env[17]? (.bool b277) <|
 C.same s306.env[18]? (iz x247) <|
 C.same s306.env[19]? (iz (IntKind.wrap .i64 ((IntKind.wrap .i64 (Int.tmod (IntKind.wrap .u64 a14) (IntKind.wrap .u64 (IntKind.wrap .i64 (8 * (IntKind.wrap .i64 ((((List.length s236) : Nat) : Int) - 4))))))) + x247))) <|
 C.same s306.env[20]? v114 <|
 C.same s306.env[21]? tz <|
 C.same s306.env[22]? v115 <|
 C.same s306.env[23]? v116 <|
 C.same s306.env[24]? (.bool b59) <|
 C.same s306.env[25]? (.bool b60) <|
 C.same s306.env[26]? (.bool b61) <|
 C.same s306.env[27]? v62 <|
 C.same s306.env[28]? v63 <|
 C.same s306.env[29]? v64 <|
 C.same s306.env[30]? v65 <|
 C.same s306.env[31]? (.bool b66) <|
 C.same s306.env[32]? (.bool b67) <|
 C.same s306.env[33]? v68 <|
 C.same s306.env[34]? v69 <|
 C.same s306.env[35]? v70 <|
 C.same s306.env[36]? v71 <|
 C.same s306.env[37]? bf <|
 C.same s306.env[38]? tz <|
 C.same s306.env[39]? (iz a13) <|
 C.same s306.env[40]? (.int .u64 (IntKind.wrap .u64 a13)) <|
 C.same s306.env[41]? (.int .u64 (Int.tmod (IntKind.wrap .u64 a13) 3)) <|
 C.same s306.env[42]? (iz (IntKind.wrap .i64 (Int.tmod (IntKind.wrap .u64 a13) 3))) <|
 C.same s306.env[43]? (iz (IntKind.wrap .i64 (1 + (IntKind.wrap .i64 (Int.tmod (IntKind.wrap .u64 a13) 3))))) <|
 C.same s306.env[44]? (.agg [(iz x77), (iz x78), (iz x79), (iz x80)]) <|
 C.same s306.env[45]? (.str s81) <|
 C.same s306.env[46]? (.agg [(iz x85), (iz x86), (iz x87), (iz x88), (iz x89), (iz x90), (iz x91), (iz x92), (iz x93)]) <|
 C.same s306.env[47]? (.str s94) <|
 C.same s306.env[48]? (iz (IntKind.wrap .i64 (1 + (IntKind.wrap .i64 (Int.tmod (IntKind.wrap .u64 a13) 3))))) <|
 C.same s306.env[49]? (.str s95) <|
 C.same s306.env[50]? v96 <|
 C.same s306.env[51]? (iz x100) <|
 C.same s306.env[52]? (iz x117) <|
 C.same s306.env[53]? bt <|
 C.same s306.env[54]? (iz x117) <|
 C.same s306.env[55]? v232 <|
 C.same s306.env[56]? (.str s236) <|
 C.same s306.env[57]? (.str s236) <|
 C.same s306.env[58]? (iz (((List.length s236) : Nat) : Int)) <|
 C.same s306.env[59]? (iz (IntKind.wrap .i64 ((((List.length s236) : Nat) : Int) - 4))) <|
 C.same s306.env[60]? (iz (IntKind.wrap .i64 (8 * (IntKind.wrap .i64 ((((List.length s236) : Nat) : Int) - 4))))) <|
 C.same s306.env[61]? (iz a14) <|
 C.same s306.env[62]? (.int .u64 (IntKind.wrap .u64 a14)) <|
 C.same s306.env[63]? (iz (IntKind.wrap .i64 (8 * (IntKind.wrap .i64 ((((List.length s236) : Nat) : Int) - 4))))) <|
 C.same s306.env[64]? (.int .u64 (IntKind.wrap .u64 (IntKind.wrap .i64 (8 * (IntKind.wrap .i64 ((((List.length s236) : Nat) : Int) - 4)))))) <|
 C.same s306.env[65]? (.int .u64 (Int.tmod (IntKind.wrap .u64 a14) (IntKind.wrap .u64 (IntKind.wrap .i64 (8 * (IntKind.wrap .i64 ((((List.length s236) : Nat) : Int) - 4))))))) <|
 C.same s306.env[66]? (iz (IntKind.wrap .i64 (Int.tmod (IntKind.wrap .u64 a14) (IntKind.wrap .u64 (IntKind.wrap .i64 (8 * (IntKind.wrap .i64 ((((List.length s236) : Nat) : Int) - 4)))))))) <|
 C.same s306.env[67]? (.str s236) <|
 C.same s306.env[68]? v237 <|
 C.same s306.env[69]? (.str s236) <|
 C.same s306.env[70]? v239 <|
 C.same s306.env[71]? (iz x247) <|
 C.same s306.env[72]? bt <|
 C.same s306.env[73]? (iz x247) <|
 C.same s306.env[74]? (iz (IntKind.wrap .i64 (Int.tmod (IntKind.wrap .u64 a14) (IntKind.wrap .u64 (IntKind.wrap .i64 (8 * (IntKind.wrap .i64 ((((List.length s236) : Nat) : Int) - 4)))))))) <|
 C.same s306.env[75]? (iz x247) <|
 C.same s306.env[76]? (iz (IntKind.wrap .i64 ((IntKind.wrap .i64 (Int.tmod (IntKind.wrap .u64 a14) (IntKind.wrap .u64 (IntKind.wrap .i64 (8 * (IntKind.wrap .i64 ((((List.length s236) : Nat) : Int) - 4))))))) + x247))) <|
 C.any s306.env[77]? fun v337 =>
 C.any s306.env[78]? fun v338 =>
 C.any s306.env[79]? fun v339 =>
 C.any s306.env[80]? fun v340 =>
 C.any s306.env[81]? fun v341 =>
 C.any s306.env[82]? fun v342 =>
 C.any s306.env[83]? fun v343 =>
 C.any s306.env[84]? fun v344 =>
 C.any s306.env[85]? fun v345 =>
 C.any s306.env[86]? fun v346 =>
 C.same s306.env[87]? v294 <|
 C.same s306.env[88]? v295 <|
 C.same s306.env[89]? v296 <|
 C.same s306.env[90]? v297 <|
 C.same s306.env[91]? v298 <|
 C.same s306.env[92]? v299 <|
 C.same s306.env[93]? v300 <|
 C.same s306.env[94]? v301 <|
 C.same s306.env[95]? v302 <|
 C.same s306.env[96]? v303 <|
 C.same s306.env[97]? v273 <|
 C.same s306.env[98]? v163 <|
 C.same s306.env[99]? v164 <|
 C.same s306.env[100]? v165 <|
 C.same s306.env[101]? v166 <|
 C.same s306.env[102]? v167 <|
 C.same s306.env[103]? v168 <|
 C.same s306.env[104]? v169 <|
 C.same s306.env[105]? v170 <|
 C.same s306.env[106]? v171 <|
 C.same s306.env[107]? v172 <|
 C.same s306.env[108]? v173 <|
 C.same s306.env[109]? v174 <|
 C.same s306.env[110]? v175 <|
 C.same s306.env[111]? v176 <|
 C.same s306.env[112]? v177 <|
 C.same s306.env[113]? v178 <|
 C.same s306.env[114]? v179 <|
 C.same s306.env[115]? v180 <|
 C.same s306.env[116]? v181 <|
 C.same s306.env[117]? v182 <|
 C.same s306.env[118]? v183 <|
 C.same s306.env[119]? v184 <|
 C.same s306.env[120]? v185 <|
 C.same s306.env[121]? v186 <|
 C.same s306.env[122]? v187 <|
 C.same s306.env[123]? v188 <|
 C.same s306.env[124]? v189 <|
 C.same s306.env[125]? v190 <|
 C.same s306.env[126]? v191 <|
 C.same s306.env[127]? v192 <|
 C.same s306.env[128]? v193 <|
 C.same s306.env[129]? v194 <|
 C.same s306.env[130]? v195 <|
 C.same s306.env[131]? v196 <|
 C.same s306.env[132]? v197 <|
 C.same s306.env[133]? v198 <|
 C.same s306.env[134]? v199 <|
 C.same s306.env[135]? v200 <|
 C.same s306.env[136]? v201 <|
 C.same s306.env[137]? v202 <|
 C.same s306.env[138]? v203 <|
 C.same s306.env[139]? v204 <|
 C.same s306.env[140]? v205 <|
 C.same s306.env[141]? v206 <|
 C.same s306.env[142]? v207 <|
 C.same s306.env[143]? v208 <|
 C.same s306.env[144]? v209 <|
 C.same s306.env[145]? v210 <|
 C.same s306.env[146]? v211 <|
 C.same s306.env[147]? v212 <|
 C.same s306.env[148]? v213 <|
 C.same s306.env[149]? v214 <|
 C.same s306.env[150]? v215 <|
 C.same s306.env[151]? v216 <|
 C.same s306.env[152]? v217 <|
 C.same s306.env[153]? v218 <|
 C.same s306.env[154]? v219 <|
 C.same s306.env[155]? v220 <|
 C.same s306.env[156]? v221 <|
 C.same s306.env[157]? v222 <|
 C.same s306.env[158]? v223 <|
 C.same s306.env[159]? v224 <|
 C.same s306.env[160]? v225 <|
 C.same s306.env[161]? v226 <|
 C.same s306.env[162]? v227 <|
 C.same s306.env[163]? v228 <|
 C.same s306.env[164]? v229 <|
 C.same s306.env[165]? v230 <|
 C.same s306.env[166]? v231 <|
 none)
 (none)
def r6R3 (C : Cb) (d : Nat) (a0 a1 a2 a3 a4 a5 a6 a7 a8 a9 a10 a11 a12 a13 a14 a15 : Int) (v0 v2 : AV) (b59 b60 b61 : Bool) (v62 v63 v64 v65 : AV) (b66 b67 : Bool) (v68 v69 v70 v71 : AV) (x77 x78 x79 x80 : Int) (s81 : List UInt8) (x85 x86 x87 x88 x89 x90 x91 x92 x93 : Int) (s94 : List UInt8) (s95 : List UInt8) (v96 : AV) (x100 : Int) (b104 : Bool) (v114 v115 v116 : AV) (x117 : Int) (v163 v164 v165 v166 v167 v168 v169 v170 v171 v172 v173 v174 v175 v176 v177 v178 v179 v180 v181 v182 v183 v184 v185 v186 v187 v188 v189 v190 v191 v192 v193 v194 v195 v196 v197 v198 v199 v200 v201 v202 v203 v204 v205 v206 v207 v208 v209 v210 v211 v212 v213 v214 v215 v216 v217 v218 v219 v220 v221 v222 v223 v224 v225 v226 v227 v228 v229 v230 v231 v232 : AV) (s236 : List UInt8) (v237 v239 : AV) (k242 : Ex → St → Ans) (x247 : Int) (v273 : AV) : St → (Ex → St → Ans) → Ans := fun s274 k275 =>
 cnd ((List.length s274.env) == 167)
 (C.same s274.env[0]? (.agg [(iz a0), (iz a1), (iz a2), (iz a3)]) <|
 C.same s274.env[1]? (.agg [(iz a4), (iz a5), (iz a6), (iz a7), (iz a8), (iz a9), (iz a10), (iz a11), (iz a12)]) <|
 C.same s274.env[2]? (iz (IntKind.wrap .i64 (1 + (IntKind.wrap .i64 (Int.tmod (IntKind.wrap .u64 a13) 3))))) <|
 C.same s274.env[3]? (iz a14) <|
 C.same s274.env[4]? (.int .u32 a15) <|
 C.same s274.env[5]? v0 <|
 C.same s274.env[6]? v2 <|
 C.same s274.env[7]? tz <|
 C.same s274.env[8]? tz <|
 C.same s274.env[9]? tz <|
 C.same s274.env[10]? (.bool b104) <|
 C.same s274.env[11]? (iz x117) <|
 C.same s274.env[12]? (.str s236) <|
 C.same s274.env[13]? (iz (IntKind.wrap .i64 (8 * (IntKind.wrap .i64 ((((List.length s236) : Nat) : Int) - 4))))) <|
 C.same s274.env[14]? (iz (IntKind.wrap .i64 (Int.tmod (IntKind.wrap .u64 a14) (IntKind.wrap .u64 (IntKind.wrap .i64 (8 * (IntKind.wrap .i64 ((((List.length s236) : Nat) : Int) - 4)))))))) <|
 C.same s274.env[15]? v237 <|
 C.same s274.env[16]? v239 <|
 C.bool s274.env[17]? fun b277 =>
 C.any s274.env[18]? fun v278 =>
 C.any s274.env[19]? fun v279 =>
 C.same s274.env[20]? v114 <|
 C.same s274.env[21]? tz <|
 C.same s274.env[22]? v115 <|
 C.same s274.env[23]? v116 <|
 C.same s274.env[24]? (.bool b59) <|
 C.same s274.env[25]? (.bool b60) <|
 C.same s274.env[26]? (.bool b61) <|
 C.same s274.env[27]? v62 <|
 C.same s274.env[28]? v63 <|
 C.same s274.env[29]? v64 <|
 C.same s274.env[30]? v65 <|
 C.same s274.env[31]? (.bool b66) <|
 C.same s274.env[32]? (.bool b67) <|
 C.same s274.env[33]? v68 <|
 C.same s274.env[34]? v69 <|
 C.same s274.env[35]? v70 <|
 C.same s274.env[36]? v71 <|
 C.same s274.env[37]? bf <|
 C.same s274.env[38]? tz <|
 C.same s274.env[39]? (iz a13) <|
 C.same s274.env[40]? (.int .u64 (IntKind.wrap .u64 a13)) <|
 C.same s274.env[41]? (.int .u64 (Int.tmod (IntKind.wrap .u64 a13) 3)) <|
 C.same s274.env[42]? (iz (IntKind.wrap .i64 (Int.tmod (IntKind.wrap .u64 a13) 3))) <|
 C.same s274.env[43]? (iz (IntKind.wrap .i64 (1 + (IntKind.wrap .i64 (Int.tmod (IntKind.wrap .u64 a13) 3))))) <|
 C.same s274.env[44]? (.agg [(iz x77), (iz x78), (iz x79), (iz x80)]) <|
 C.same s274.env[45]? (.str s81) <|
 C.same s274.env[46]? (.agg [(iz x85), (iz x86), (iz x87), (iz x88), (iz x89), (iz x90), (iz x91), (iz x92), (iz x93)]) <|
 C.same s274.env[47]? (.str s94) <|
 C.same s274.env[48]? (iz (IntKind.wrap .i64 (1 + (IntKind.wrap .i64 (Int.tmod (IntKind.wrap .u64 a13) 3))))) <|
 C.same s274.env[49]? (.str s95) <|
 C.same s274.env[50]? v96 <|
 C.same s274.env[51]? (iz x100) <|
 C.same s274.env[52]? (iz x117) <|
 C.same s274.env[53]? bt <|
 C.same s274.env[54]? (iz x117) <|
 C.same s274.env[55]? v232 <|
 C.same s274.env[56]? (.str s236) <|
 C.same s274.env[57]? (.str s236) <|
 C.same s274.env[58]? (iz (((List.length s236) : Nat) : Int)) <|
 C.same s274.env[59]? (iz (IntKind.wrap .i64 ((((List.length s236) : Nat) : Int) - 4))) <|
 C.same s274.env[60]? (iz (IntKind.wrap .i64 (8 * (IntKind.wrap .i64 ((((List.length s236) : Nat) : Int) - 4))))) <|
 C.same s274.env[61]? (iz a14) <|
 C.same s274.env[62]? (.int .u64 (IntKind.wrap .u64 a14)) <|
 C.same s274.env[63]? (iz (IntKind.wrap .i64 (8 * (IntKind.wrap .i64 ((((List.length s236) : Nat) : Int) - 4))))) <|
 C.same s274.env[64]? (.int .u64 (IntKind.wrap .u64 (IntKind.wrap .i64 (8 * (IntKind.wrap .i64 ((((List.length s236) : Nat) : Int) - 4)))))) <|
 C.same s274.env[65]? (.int .u64 (Int.tmod (IntKind.wrap .u64 a14) (IntKind.wrap .u64 (IntKind.wrap .i64 (8 * (IntKind.wrap .i64 ((((List.length s236) : Nat) : Int) - 4))))))) <|
 C.same s274.env[66]? (iz (IntKind.wrap .i64 (Int.tmod (IntKind.wrap .u64 a14) (IntKind.wrap .u64 (IntKind.wrap .i64 (8 * (IntKind.wrap .i64 ((((List.length s236) : Nat) : Int) - 4)))))))) <|
 C.same s274.env[67]? (.str s236) <|
 C.same s274.env[68]? v237 <|
 C.same s274.env[69]? (.str s236) <|
 C.same s274.env[70]? v239 <|
 C.same s274.env[71]? (iz x247) <|
 C.same s274.env[72]? bt <|
 C.any s274.env[73]? fun v280 =>
 C.any s274.env[74]? fun v281 =>
 C.any s274.env[75]? fun v282 =>
 C.any s274.env[76]? fun v283 =>
 C.any s274.env[77]? fun v284 =>
 C.any s274.env[78]? fun v285 =>
 C.any s274.env[79]? fun v286 =>
 C.any s274.env[80]? fun v287 =>
 C.any s274.env[81]? fun v288 =>
 C.any s274.env[82]? fun v289 =>
 C.any s274.env[83]? fun v290 =>
 C.any s274.env[84]? fun v291 =>
 C.any s274.env[85]? fun v292 =>
 C.any s274.env[86]? fun v293 =>
 C.any s274.env[87]? fun v294 =>
 C.any s274.env[88]? fun v295 =>
 C.any s274.env[89]? fun v296 =>
 C.any s274.env[90]? fun v297 =>
 C.any s274.env[91]? fun v298 =>
 C.any s274.env[92]? fun v299 =>
 C.any s274.env[93]? fun v300 =>
 C.any s274.env[94]? fun v301 =>
 C.any s274.env[95]? fun v302 =>
 C.any s274.env[96]? fun v303 =>
 C.same s274.env[97]? v273 <|
 C.same s274.env[98]? v163 <|
 C.same s274.env[99]? v164 <|
 C.same s274.env[100]? v165 <|
 C.same s274.env[101]? v166 <|
 C.same s274.env[102]? v167 <|
 C.same s274.env[103]? v168 <|
 C.same s274.env[104]? v169 <|
 C.same s274.env[105]? v170 <|
 C.same s274.env[106]? v171 <|
 C.same s274.env[107]? v172 <|
 C.same s274.env[108]? v173 <|
 C.same s274.env[109]? v174 <|
 C.same s274.env[110]? v175 <|
 C.same s274.env[111]? v176 <|
 C.same s274.env[112]? v177 <|
 C.same s274.env[113]? v178 <|
 C.same s274.env[114]? v179 <|
 C.same s274.env[115]? v180 <|
 C.same s274.env[116]? v181 <|
 C.same s274.env[117]? v182 <|
 C.same s274.env[118]? v183 <|
 C.same s274.env[119]? v184 <|
 C.same s274.env[120]? v185 <|
 C.same s274.env[121]? v186 <|
 C.same s274.env[122]? v187 <|
 C.same s274.env[123]? v188 <|
 C.same s274.env[124]? v189 <|
 C.same s274.env[125]? v190 <|
 C.same s274.env[126]? v191 <|
 C.same s274.env[127]? v192 <|
 C.same s274.env[128]? v193 <|
 C.same s274.env[129]? v194 <|
 C.same s274.env[130]? v195 <|
 C.same s274.env[131]? v196 <|
 C.same s274.env[132]? v197 <|
 C.same s274.env[133]? v198 <|
 C.same s274.env[134]? v199 <|
 C.same s274.env[135]? v200 <|
 C.same s274.env[136]? v201 <|
 C.same s274.env[137]? v202 <|
 C.same s274.env[138]? v203 <|
 C.same s274.env[139]? v204 <|
 C.same s274.env[140]? v205 <|
 C.same s274.env[141]? v206 <|
 C.same s274.env[142]? v207 <|
 C.same s274.env[143]? v208 <|
 C.same s274.env[144]? v209 <|
 C.same s274.env[145]? v210 <|
 C.same s274.env[146]? v211 <|
 C.same s274.env[147]? v212 <|
 C.same s274.env[148]? v213 <|
 C.same s274.env[149]? v214 <|
 C.same s274.env[150]? v215 <|
 C.same s274.env[151]? v216 <|
 C.same s274.env[152]? v217 <|
 C.same s274.env[153]? v218 <|
 C.same s274.env[154]? v219 <|
 C.same s274.env[155]? v220 <|
 C.same s274.env[156]? v221 <|
 C.same s274.env[157]? v222 <|
 C.same s274.env[158]? v223 <|
 C.same s274.env[159]? v224 <|
 C.same s274.env[160]? v225 <|
 C.same s274.env[161]? v226 <|
 C.same s274.env[162]? v227 <|
 C.same s274.env[163]? v228 <|
 C.same s274.env[164]? v229 <|
 C.same s274.env[165]? v230 <|
 C.same s274.env[166]? v231 <|
 C.iter (r6R4 C d a0 a1 a2 a3 a4 a5 a6 a7 a8 a9 a10 a11 a12 a13 a14 a15 v0 v2 b59 b60 b61 v62 v63 v64 v65 b66 b67 v68 v69 v70 v71 x77 x78 x79 x80 s81 x85 x86 x87 x88 x89 x90 x91 x92 x93 s94 s95 v96 x100 b104 v114 v115 v116 x117 v163 v164 v165 v166 v167 v168 v169 v170 v171 v172 v173 v174 v175 v176 v177 v178 v179 v180 v181 v182 v183 v184 v185 v186 v187 v188 v189 v190 v191 v192 v193 v194 v195 v196 v197 v198 v199 v200 v201 v202 v203 v204 v205 v206 v207 v208 v209 v210 v211 v212 v213 v214 v215 v216 v217 v218 v219 v220 v221 v222 v223 v224 v225 v226 v227 v228 v229 v230 v231 v232 s236 v237 v239 x247 v273 k275 b277 v294 v295 v296 v297 v298 v299 v300 v301 v302 v303) 1 ⟨[(.agg [(iz a0), (iz a1), (iz a2), (iz a3)]), (.agg [(iz a4), (iz a5), (iz a6), (iz a7), (iz a8), (iz a9), (iz a10), (iz a11), (iz a12)]), (iz (IntKind.wrap .i64 (1 + (IntKind.wrap .i64 (Int.tmod (IntKind.wrap .u64 a13) 3))))), (iz a14), (.int .u32 a15), v0, v2, tz, tz, tz, (.bool b104), (iz x117), (.str s236), (iz (IntKind.wrap .i64 (8 * (IntKind.wrap .i64 ((((List.length s236) : Nat) : Int) - 4))))), (iz (IntKind.wrap .i64 (Int.tmod (IntKind.wrap .u64 a14) (IntKind.wrap .u64 (IntKind.wrap .i64 (8 * (IntKind.wrap .i64 ((((List.length s236) : Nat) : Int) - 4)))))))), v237, v239, (.bool b277), (iz x247), (iz (IntKind.wrap .i64 ((IntKind.wrap .i64 (Int.tmod (IntKind.wrap .u64 a14) (IntKind.wrap .u64 (IntKind.wrap .i64 (8 * (IntKind.wrap .i64 ((((List.length s236) : Nat) : Int) - 4))))))) + x247))), v114, tz, v115, v116, (.bool b59), (.bool b60), (.bool b61), v62, v63, v64, v65, (.bool b66), (.bool b67), v68, v69, v70, v71, bf, tz, (iz a13), (.int .u64 (IntKind.wrap .u64 a13)), (.int .u64 (Int.tmod (IntKind.wrap .u64 a13) 3)), (iz (IntKind.wrap .i64 (Int.tmod (IntKind.wrap .u64 a13) 3))), (iz (IntKind.wrap .i64 (1 + (IntKind.wrap .i64 (Int.tmod (IntKind.wrap .u64 a13) 3))))), (.agg [(iz x77), (iz x78), (iz x79), (iz x80)]), (.str s81), (.agg [(iz x85), (iz x86), (iz x87), (iz x88), (iz x89), (iz x90), (iz x91), (iz x92), (iz x93)]), (.str s94), (iz (IntKind.wrap .i64 (1 + (IntKind.wrap .i64 (Int.tmod (IntKind.wrap .u64 a13) 3))))), (.str s95), v96, (iz x100), (iz x117), bt, (iz x117), v232, (.str s236), (.str s236), (iz (((List.length s236) : Nat) : Int)), (iz (IntKind.wrap .i64 ((((List.length s236) : Nat) : Int) - 4))), (iz (IntKind.wrap .i64 (8 * (IntKind.wrap .i64 ((((List.length s236) : Nat) : Int) - 4))))), (iz a14), (.int .u64 (IntKind.wrap .u64 a14)), (iz (IntKind.wrap .i64 (8 * (IntKind.wrap .i64 ((((List.length s236) : Nat) : Int) - 4))))), (.int .u64 (IntKind.wrap .u64 (IntKind.wrap .i64 (8 * (IntKind.wrap .i64 ((((List.length s236) : Nat) : Int) - 4)))))), (.int .u64 (Int.tmod (IntKind.wrap .u64 a14) (IntKind.wrap .u64 (IntKind.wrap .i64 (8 * (IntKind.wrap .i64 ((((List.length s236) : Nat) : Int) - 4))))))), (iz (IntKind.wrap .i64 (Int.tmod (IntKind.wrap .u64 a14) (IntKind.wrap .u64 (IntKind.wrap .i64 (8 * (IntKind.wrap .i64 ((((List.length s236) : Nat) : Int) - 4)))))))), (.str s236), v237, (.str s236), v239, (iz x247), bt, (iz x247), (iz (IntKind.wrap .i64 (Int.tmod (IntKind.wrap .u64 a14) (IntKind.wrap .u64 (IntKind.wrap .i64 (8 * (IntKind.wrap .i64 ((((List.length s236) : Nat) : Int) - 4)))))))), (iz x247), (iz (IntKind.wrap .i64 ((IntKind.wrap .i64 (Int.tmod (IntKind.wrap .u64 a14) (IntKind.wrap .u64 (IntKind.wrap .i64 (8 * (IntKind.wrap .i64 ((((List.length s236) : Nat) : Int) - 4))))))) + x247))), v284, v285, v286, v287, v288, v289, v290, v291, v292, v293, v294, v295, v296, v297, v298, v299, v300, v301, v302, v303, v273, v163, v164, v165, v166, v167, v168, v169, v170, v171, v172, v173, v174, v175, v176, v177, v178, v179, v180, v181, v182, v183, v184, v185, v186, v187, v188, v189, v190, v191, v192, v193, v194, v195, v196, v197, v198, v199, v200, v201, v202, v203, v204, v205, v206, v207, v208, v209, v210, v211, v212, v213, v214, v215, v216, v217, v218, v219, v220, v221, v222, v223, v224, v225, v226, v227, v228, v229, v230, v231], (St.H s274)⟩ [2000000] [r6X4_0 C d a0 a1 a2 a3 a4 a5 a6 a7 a8 a9 a10 a11 a12 a13 a14 a15 v0 v2 b59 b60 b61 v62 v63 v64 v65 b66 b67 v68 v69 v70 v71 x77 x78 x79 x80 s81 x85 x86 x87 x88 x89 x90 x91 x92 x93 s94 s95 v96 x100 b104 v114 v115 v116 x117 v163 v164 v165 v166 v167 v168 v169 v170 v171 v172 v173 v174 v175 v176 v177 v178 v179 v180 v181 v182 v183 v184 v185 v186 v187 v188 v189 v190 v191 v192 v193 v194 v195 v196 v197 v198 v199 v200 v201 v202 v203 v204 v205 v206 v207 v208 v209 v210 v211 v212 v213 v214 v215 v216 v217 v218 v219 v220 v221 v222 v223 v224 v225 v226 v227 v228 v229 v230 v231 v232 s236 v237 v239 x247 v273 k275 b277 v294 v295 v296 v297 v298 v299 v300 v301 v302 v303] (r6E4 C d a0 a1 a2 a3 a4 a5 a6 a7 a8 a9 a10 a11 a12 a13 a14 a15 v0 v2 b59 b60 b61 v62 v63 v64 v65 b66 b67 v68 v69 v70 v71 x77 x78 x79 x80 s81 x85 x86 x87 x88 x89 x90 x91 x92 x93 s94 s95 v96 x100 b104 v114 v115 v116 x117 v163 v164 v165 v166 v167 v168 v169 v170 v171 v172 v173 v174 v175 v176 v177 v178 v179 v180 v181 v182 v183 v184 v185 v186 v187 v188 v189 v190 v191 v192 v193 v194 v195 v196 v197 v198 v199 v200 v201 v202 v203 v204 v205 v206 v207 v208 v209 v210 v211 v212 v213 v214 v215 v216 v217 v218 v219 v220 v221 v222 v223 v224 v225 v226 v227 v228 v229 v230 v231 v232 s236 v237 v239 x247 v273 k275 b277 v294 v295 v296 v297 v298 v299 v300 v301 v302 v303))
 (none)
def r6X3_0 (C : Cb) (d : Nat) (a0 a1 a2 a3 a4 a5 a6 a7 a8 a9 a10 a11 a12 a13 a14 a15 : Int) (v0 v2 : AV) (b59 b60 b61 : Bool) (v62 v63 v64 v65 : AV) (b66 b67 : Bool) (v68 v69 v70 v71 : AV) (x77 x78 x79 x80 : Int) (s81 : List UInt8) (x85 x86 x87 x88 x89 x90 x91 x92 x93 : Int) (s94 : List UInt8) (s95 : List UInt8) (v96 : AV) (x100 : Int) (b104 : Bool) (v114 v115 v116 : AV) (x117 : Int) (v163 v164 v165 v166 v167 v168 v169 v170 v171 v172 v173 v174 v175 v176 v177 v178 v179 v180 v181 v182 v183 v184 v185 v186 v187 v188 v189 v190 v191 v192 v193 v194 v195 v196 v197 v198 v199 v200 v201 v202 v203 v204 v205 v206 v207 v208 v209 v210 v211 v212 v213 v214 v215 v216 v217 v218 v219 v220 v221 v222 v223 v224 v225 v226 v227 v228 v229 v230 v231 v232 : AV) (s236 : List UInt8) (v237 v239 : AV) (k242 : Ex → St → Ans) (x247 : Int) (v273 : AV) : St → Ans := fun s347 =>
 cnd ((List.length s347.env) == 167)
 (C.same s347.env[0]? (.agg [(iz a0), (iz a1), (iz a2), (iz a3)]) <|
 C.same s347.env[1]? (.agg [(iz a4), (iz a5), (iz a6), (iz a7), (iz a8), (iz a9), (iz a10), (iz a11), (iz a12)]) <|
 C.same s347.env[2]? (iz (IntKind.wrap .i64 (1 + (IntKind.wrap .i64 (Int.tmod (IntKind.wrap .u64 a13) 3))))) <|
 C.same s347.env[3]? (iz a14) <|
 C.same s347.env[4]? (.int .u32 a15) <|
 C.same s347.env[5]? v0 <|
 C.same s347.env[6]? v2 <|
 C.same s347.env[7]? tz <|
 C.same s347.env[8]? tz <|
 C.same s347.env[9]? tz <|
 C.same s347.env[10]? (.bool b104) <|
 C.same s347.env[11]? (iz x117) <|
 C.same s347.env[12]? (.str s236) <|
 C.same s347.env[13]? (iz (IntKind.wrap .i64 (8 * (IntKind.wrap .i64 ((((List.length s236) : Nat) : Int) - 4))))) <|
 C.same s347.env[14]? (iz (IntKind.wrap .i64 (Int.tmod (IntKind.wrap .u64 a14) (IntKind.wrap .u64 (IntKind.wrap .i64 (8 * (IntKind.wrap .i64 ((((List.length s236) : Nat) : Int) - 4)))))))) <|
 C.same s347.env[15]? v237 <|
 C.same s347.env[16]? v239 <|
 C.bool s347.env[17]? fun b348 =>
 C.int .i64 s347.env[18]? fun x349 =>
 C.int .i64 s347.env[19]? fun x350 =>
 C.same s347.env[20]? v114 <|
 C.same s347.env[21]? tz <|
 C.same s347.env[22]? v115 <|
 C.same s347.env[23]? v116 <|
 C.same s347.env[24]? (.bool b59) <|
 C.same s347.env[25]? (.bool b60) <|
 C.same s347.env[26]? (.bool b61) <|
 C.same s347.env[27]? v62 <|
 C.same s347.env[28]? v63 <|
 C.same s347.env[29]? v64 <|
 C.same s347.env[30]? v65 <|
 C.same s347.env[31]? (.bool b66) <|
 C.same s347.env[32]? (.bool b67) <|
 C.same s347.env[33]? v68 <|
 C.same s347.env[34]? v69 <|
 C.same s347.env[35]? v70 <|
 C.same s347.env[36]? v71 <|
 C.same s347.env[37]? bf <|
 C.same s347.env[38]? tz <|
 C.same s347.env[39]? (iz a13) <|
 C.same s347.env[40]? (.int .u64 (IntKind.wrap .u64 a13)) <|
 C.same s347.env[41]? (.int .u64 (Int.tmod (IntKind.wrap .u64 a13) 3)) <|
 C.same s347.env[42]? (iz (IntKind.wrap .i64 (Int.tmod (IntKind.wrap .u64 a13) 3))) <|
 C.same s347.env[43]? (iz (IntKind.wrap .i64 (1 + (IntKind.wrap .i64 (Int.tmod (IntKind.wrap .u64 a13) 3))))) <|
 C.same s347.env[44]? (.agg [(iz x77), (iz x78), (iz x79), (iz x80)]) <|
 C.same s347.env[45]? (.str s81) <|
 C.same s347.env[46]? (.agg [(iz x85), (iz x86), (iz x87), (iz x88), (iz x89), (iz x90), (iz x91), (iz x92), (iz x93)]) <|
 C.same s347.env[47]? (.str s94) <|
 C.same s347.env[48]? (iz (IntKind.wrap .i64 (1 + (IntKind.wrap .i64 (Int.tmod (IntKind.wrap .u64 a13) 3))))) <|
 C.same s347.env[49]? (.str s95) <|
 C.same s347.env[50]? v96 <|
 C.same s347.env[51]? (iz x100) <|
 C.same s347.env[52]? (iz x117) <|
 C.same s347.env[53]? bt <|
 C.same s347.env[54]? (iz x117) <|
 C.same s347.env[55]? v232 <|
 C.same s347.env[56]? (.str s236) <|
 C.same s347.env[57]? (.str s236) <|
 C.same s347.env[58]? (iz (((List.length s236) : Nat) : Int)) <|
 C.same s347.env[59]? (iz (IntKind.wrap .i64 ((((List.length s236) : Nat) : Int) - 4))) <|
 C.same s347.env[60]? (iz (IntKind.wrap .i64 (8 * (IntKind.wrap .i64 ((((List.length s236) : Nat) : Int) - 4))))) <|
 C.same s347.env[61]? (iz a14) <|
 C.same s347.env[62]? (.int .u64 (IntKind.wrap .u64 a14)) <|
 C.same s347.env[63]? (iz (IntKind.wrap .i64 (8 * (IntKind.wrap .i64 ((((List.length s236) : Nat) : Int) - 4))))) <|
 C.same s347.env[64]? (.int .u64 (IntKind.wrap .u64 (IntKind.wrap .i64 (8 * (IntKind.wrap .i64 ((((List.length s236) : Nat) : Int) - 4)))))) <|
 C.same s347.env[65]? (.int .u64 (Int.tmod (IntKind.wrap .u64 a14) (IntKind.wrap .u64 (IntKind.wrap .i64 (8 * (IntKind.wrap .i64 ((((List.length s236) : Nat) : Int) - 4))))))) <|
 C.same s347.env[66]? (iz (IntKind.wrap .i64 (Int.tmod (IntKind.wrap .u64 a14) (IntKind.wrap .u64 (IntKind.wrap .i64 (8 * (IntKind.wrap .i64 ((((List.length s236) : Nat) : Int) - 4)))))))) <|
 C.same s347.env[67]? (.str s236) <|
 C.same s347.env[68]? v237 <|
 C.same s347.env[69]? (.str s236) <|
 C.same s347.env[70]? v239 <|
 C.same s347.env[71]? (iz x247) <|
 C.same s347.env[72]? bt <|
 C.int .i64 s347.env[73]? fun x351 =>
 C.int .i64 s347.env[74]? fun x352 =>
 C.int .i64 s347.env[75]? fun x353 =>
 C.int .i64 s347.env[76]? fun x354 =>
 C.int .u32 s347.env[77]? fun x355 =>
 C.int .i64 s347.env[78]? fun x356 =>
 C.int .u32 s347.env[79]? fun x357 =>
 C.int .u32 s347.env[80]? fun x358 =>
 C.bool s347.env[81]? fun b359 =>
 C.bool s347.env[82]? fun b360 =>
 C.any s347.env[83]? fun v361 =>
 C.any s347.env[84]? fun v362 =>
 C.any s347.env[85]? fun v363 =>
 C.bool s347.env[86]? fun b364 =>
 C.any s347.env[87]? fun v365 =>
 C.any s347.env[88]? fun v366 =>
 C.any s347.env[89]? fun v367 =>
 C.any s347.env[90]? fun v368 =>
 C.any s347.env[91]? fun v369 =>
 C.any s347.env[92]? fun v370 =>
 C.any s347.env[93]? fun v371 =>
 C.any s347.env[94]? fun v372 =>
 C.any s347.env[95]? fun v373 =>
 C.any s347.env[96]? fun v374 =>
 C.same s347.env[97]? v273 <|
 C.same s347.env[98]? v163 <|
 C.same s347.env[99]? v164 <|
 C.same s347.env[100]? v165 <|
 C.same s347.env[101]? v166 <|
 C.same s347.env[102]? v167 <|
 C.same s347.env[103]? v168 <|
 C.same s347.env[104]? v169 <|
 C.same s347.env[105]? v170 <|
 C.same s347.env[106]? v171 <|
 C.same s347.env[107]? v172 <|
 C.same s347.env[108]? v173 <|
 C.same s347.env[109]? v174 <|
 C.same s347.env[110]? v175 <|
 C.same s347.env[111]? v176 <|
 C.same s347.env[112]? v177 <|
 C.same s347.env[113]? v178 <|
 C.same s347.env[114]? v179 <|
 C.same s347.env[115]? v180 <|
 C.same s347.env[116]? v181 <|
 C.same s347.env[117]? v182 <|
 C.same s347.env[118]? v183 <|
 C.same s347.env[119]? v184 <|
 C.same s347.env[120]? v185 <|
 C.same s347.env[121]? v186 <|
 C.same s347.env[122]? v187 <|
 C.same s347.env[123]? v188 <|
 C.same s347.env[124]? v189 <|
 C.same s347.env[125]? v190 <|
 C.same s347.env[126]? v191 <|
 C.same s347.env[127]? v192 <|
 C.same s347.env[128]? v193 <|
 C.same s347.env[129]? v194 <|
 C.same s347.env[130]? v195 <|
 C.same s347.env[131]? v196 <|
 C.same s347.env[132]? v197 <|
 C.same s347.env[133]? v198 <|
 C.same s347.env[134]? v199 <|
 C.same s347.env[135]? v200 <|
 C.same s347.env[136]? v201 <|
 C.same s347.env[137]? v202 <|
 C.same s347.env[138]? v203 <|
 C.same s347.env[139]? v204 <|
 C.same s347.env[140]? v205 <|
 C.same s347.env[141]? v206 <|
 C.same s347.env[142]? v207 <|
 C.same s347.env[143]? v208 <|
 C.same s347.env[144]? v209 <|
 C.same s347.env[145]? v210 <|
 C.same s347.env[146]? v211 <|
 C.same s347.env[147]? v212 <|
 C.same s347.env[148]? v213 <|
 C.same s347.env[149]? v214 <|
 C.same s347.env[150]? v215 <|
 C.same s347.env[151]? v216 <|
 C.same s347.env[152]? v217 <|
 C.same s347.env[153]? v218 <|
 C.same s347.env[154]? v219 <|
 C.same s347.env[155]? v220 <|
 C.same s347.env[156]? v221 <|
 C.same s347.env[157]? v222 <|
 C.same s347.env[158]? v223 <|
 C.same s347.env[159]? v224 <|
 C.same s347.env[160]? v225 <|
 C.same s347.env[161]? v226 <|
 C.same s347.env[162]? v227 <|
 C.same s347.env[163]? v228 <|
 C.same s347.env[164]? v229 <|
 C.same s347.env[165]? v230 <|
 C.same s347.env[166]? v231 <|
 k242 .normal ⟨[(.agg [(iz a0), (iz a1), (iz a2), (iz a3)]), (.agg [(iz a4), (iz a5), (iz a6), (iz a7), (iz a8), (iz a9), (iz a10), (iz a11), (iz a12)]), (iz (IntKind.wrap .i64 (1 + (IntKind.wrap .i64 (Int.tmod (IntKind.wrap .u64 a13) 3))))), (iz a14), (.int .u32 a15), v0, v2, tz, tz, tz, (.bool b104), (iz x117), (.str s236), (iz (IntKind.wrap .i64 (8 * (IntKind.wrap .i64 ((((List.length s236) : Nat) : Int) - 4))))), (iz (IntKind.wrap .i64 (Int.tmod (IntKind.wrap .u64 a14) (IntKind.wrap .u64 (IntKind.wrap .i64 (8 * (IntKind.wrap .i64 ((((List.length s236) : Nat) : Int) - 4)))))))), v237, v239, (.bool b348), (iz x349), (iz x350), v114, tz, v115, v116, (.bool b59), (.bool b60), (.bool b61), v62, v63, v64, v65, (.bool b66), (.bool b67), v68, v69, v70, v71, bf, tz, (iz a13), (.int .u64 (IntKind.wrap .u64 a13)), (.int .u64 (Int.tmod (IntKind.wrap .u64 a13) 3)), (iz (IntKind.wrap .i64 (Int.tmod (IntKind.wrap .u64 a13) 3))), (iz (IntKind.wrap .i64 (1 + (IntKind.wrap .i64 (Int.tmod (IntKind.wrap .u64 a13) 3))))), (.agg [(iz x77), (iz x78), (iz x79), (iz x80)]), (.str s81), (.agg [(iz x85), (iz x86), (iz x87), (iz x88), (iz x89), (iz x90), (iz x91), (iz x92), (iz x93)]), (.str s94), (iz (IntKind.wrap .i64 (1 + (IntKind.wrap .i64 (Int.tmod (IntKind.wrap .u64 a13) 3))))), (.str s95), v96, (iz x100), (iz x117), bt, (iz x117), v232, (.str s236), (.str s236), (iz (((List.length s236) : Nat) : Int)), (iz (IntKind.wrap .i64 ((((List.length s236) : Nat) : Int) - 4))), (iz (IntKind.wrap .i64 (8 * (IntKind.wrap .i64 ((((List.length s236) : Nat) : Int) - 4))))), (iz a14), (.int .u64 (IntKind.wrap .u64 a14)), (iz (IntKind.wrap .i64 (8 * (IntKind.wrap .i64 ((((List.length s236) : Nat) : Int) - 4))))), (.int .u64 (IntKind.wrap .u64 (IntKind.wrap .i64 (8 * (IntKind.wrap .i64 ((((List.length s236) : Nat) : Int) - 4)))))), (.int .u64 (Int.tmod (IntKind.wrap .u64 a14) (IntKind.wrap .u64 (IntKind.wrap .i64 (8 * (IntKind.wrap .i64 ((((List.length s236) : Nat) : Int) - 4))))))), (iz (IntKind.wrap .i64 (Int.tmod (IntKind.wrap .u64 a14) (IntKind.wrap .u64 (IntKind.wrap .i64 (8 * (IntKind.wrap .i64 ((((List.length s236) : Nat) : Int) - 4)))))))), (.str s236), v237, (.str s236), v239, (iz (IntKind.wrap .i64 (x247 + 1))), bt, (iz x351), (iz x352), (iz x353), (iz x354), (.int .u32 x355), (iz x356), (.int .u32 x357), (.int .u32 x358), (.bool b359), (.bool b360), v361, v362, v363, (.bool b364), v365, v366, v367, v368, v369, v370, v371, v372, v373, v374, (iz (IntKind.wrap .i64 (x247 + 1))), v163, v164, v165, v166, v167, v168, v169, v170, v171, v172, v173, v174, v175, v176, v177, v178, v179, v180, v181, v182, v183, v184, v185, v186, v187, v188, v189, v190, v191, v192, v193, v194, v195, v196, v197, v198, v199, v200, v201, v202, v203, v204, v205, v206, v207, v208, v209, v210, v211, v212, v213, v214, v215, v216, v217, v218, v219, v220, v221, v222, v223, v224, v225, v226, v227, v228, v229, v230, v231], (St.H s347)⟩)
 (none)
def r6E3 (C : Cb) (d : Nat) (a0 a1 a2 a3 a4 a5 a6 a7 a8 a9 a10 a11 a12 a13 a14 a15 : Int) (v0 v2 : AV) (b59 b60 b61 : Bool) (v62 v63 v64 v65 : AV) (b66 b67 : Bool) (v68 v69 v70 v71 : AV) (x77 x78 x79 x80 : Int) (s81 : List UInt8) (x85 x86 x87 x88 x89 x90 x91 x92 x93 : Int) (s94 : List UInt8) (s95 : List UInt8) (v96 : AV) (x100 : Int) (b104 : Bool) (v114 v115 v116 : AV) (x117 : Int) (v163 v164 v165 v166 v167 v168 v169 v170 v171 v172 v173 v174 v175 v176 v177 v178 v179 v180 v181 v182 v183 v184 v185 v186 v187 v188 v189 v190 v191 v192 v193 v194 v195 v196 v197 v198 v199 v200 v201 v202 v203 v204 v205 v206 v207 v208 v209 v210 v211 v212 v213 v214 v215 v216 v217 v218 v219 v220 v221 v222 v223 v224 v225 v226 v227 v228 v229 v230 v231 v232 : AV) (s236 : List UInt8) (v237 v239 : AV) (k242 : Ex → St → Ans) (x247 : Int) (v273 : AV) : St → Ans := fun s276 =>
 cnd ((List.length s276.env) == 167)
 (C.same s276.env[0]? (.agg [(iz a0), (iz a1), (iz a2), (iz a3)]) <|
 C.same s276.env[1]? (.agg [(iz a4), (iz a5), (iz a6), (iz a7), (iz a8), (iz a9), (iz a10), (iz a11), (iz a12)]) <|
 C.same s276.env[2]? (iz (IntKind.wrap .i64 (1 + (IntKind.wrap .i64 (Int.tmod (IntKind.wrap .u64 a13) 3))))) <|
 C.same s276.env[3]? (iz a14) <|
 C.same s276.env[4]? (.int .u32 a15) <|
 C.same s276.env[5]? v0 <|
 C.same s276.env[6]? v2 <|
 C.same s276.env[7]? tz <|
 C.same s276.env[8]? tz <|
 C.same s276.env[9]? tz <|
 C.same s276.env[10]? (.bool b104) <|
 C.same s276.env[11]? (iz x117) <|
 C.same s276.env[12]? (.str s236) <|
 C.same s276.env[13]? (iz (IntKind.wrap .i64 (8 * (IntKind.wrap .i64 ((((List.length s236) : Nat) : Int) - 4))))) <|
 C.same s276.env[14]? (iz (IntKind.wrap .i64 (Int.tmod (IntKind.wrap .u64 a14) (IntKind.wrap .u64 (IntKind.wrap .i64 (8 * (IntKind.wrap .i64 ((((List.length s236) : Nat) : Int) - 4)))))))) <|
 C.same s276.env[15]? v237 <|
 C.same s276.env[16]? v239 <|
 C.bool s276.env[17]? fun b375 =>
 C.any s276.env[18]? fun v376 =>
 C.any s276.env[19]? fun v377 =>
 C.same s276.env[20]? v114 <|
 C.same s276.env[21]? tz <|
 C.same s276.env[22]? v115 <|
 C.same s276.env[23]? v116 <|
 C.same s276.env[24]? (.bool b59) <|
 C.same s276.env[25]? (.bool b60) <|
 C.same s276.env[26]? (.bool b61) <|
 C.same s276.env[27]? v62 <|
 C.same s276.env[28]? v63 <|
 C.same s276.env[29]? v64 <|
 C.same s276.env[30]? v65 <|
 C.same s276.env[31]? (.bool b66) <|
 C.same s276.env[32]? (.bool b67) <|
 C.same s276.env[33]? v68 <|
 C.same s276.env[34]? v69 <|
 C.same s276.env[35]? v70 <|
 C.same s276.env[36]? v71 <|
 C.same s276.env[37]? bf <|
 C.same s276.env[38]? tz <|
 C.same s276.env[39]? (iz a13) <|
 C.same s276.env[40]? (.int .u64 (IntKind.wrap .u64 a13)) <|
 C.same s276.env[41]? (.int .u64 (Int.tmod (IntKind.wrap .u64 a13) 3)) <|
 C.same s276.env[42]? (iz (IntKind.wrap .i64 (Int.tmod (IntKind.wrap .u64 a13) 3))) <|
 C.same s276.env[43]? (iz (IntKind.wrap .i64 (1 + (IntKind.wrap .i64 (Int.tmod (IntKind.wrap .u64 a13) 3))))) <|
 C.same s276.env[44]? (.agg [(iz x77), (iz x78), (iz x79), (iz x80)]) <|
 C.same s276.env[45]? (.str s81) <|
 C.same s276.env[46]? (.agg [(iz x85), (iz x86), (iz x87), (iz x88), (iz x89), (iz x90), (iz x91), (iz x92), (iz x93)]) <|
 C.same s276.env[47]? (.str s94) <|
 C.same s276.env[48]? (iz (IntKind.wrap .i64 (1 + (IntKind.wrap .i64 (Int.tmod (IntKind.wrap .u64 a13) 3))))) <|
 C.same s276.env[49]? (.str s95) <|
 C.same s276.env[50]? v96 <|
 C.same s276.env[51]? (iz x100) <|
 C.same s276.env[52]? (iz x117) <|
 C.same s276.env[53]? bt <|
 C.same s276.env[54]? (iz x117) <|
 C.same s276.env[55]? v232 <|
 C.same s276.env[56]? (.str s236) <|
 C.same s276.env[57]? (.str s236) <|
 C.same s276.env[58]? (iz (((List.length s236) : Nat) : Int)) <|
 C.same s276.env[59]? (iz (IntKind.wrap .i64 ((((List.length s236) : Nat) : Int) - 4))) <|
 C.same s276.env[60]? (iz (IntKind.wrap .i64 (8 * (IntKind.wrap .i64 ((((List.length s236) : Nat) : Int) - 4))))) <|
 C.same s276.env[61]? (iz a14) <|
 C.same s276.env[62]? (.int .u64 (IntKind.wrap .u64 a14)) <|
 C.same s276.env[63]? (iz (IntKind.wrap .i64 (8 * (IntKind.wrap .i64 ((((List.length s236) : Nat) : Int) - 4))))) <|
 C.same s276.env[64]? (.int .u64 (IntKind.wrap .u64 (IntKind.wrap .i64 (8 * (IntKind.wrap .i64 ((((List.length s236) : Nat) : Int) - 4)))))) <|
 C.same s276.env[65]? (.int .u64 (Int.tmod (IntKind.wrap .u64 a14) (IntKind.wrap .u64 (IntKind.wrap .i64 (8 * (IntKind.wrap .i64 ((((List.length s236) : Nat) : Int) - 4))))))) <|
 C.same s276.env[66]? (iz (IntKind.wrap .i64 (Int.tmod (IntKind.wrap .u64 a14) (IntKind.wrap .u64 (IntKind.wrap .i64 (8 * (IntKind.wrap .i64 ((((List.length s236) : Nat) : Int) - 4)))))))) <|
 C.same s276.env[67]? (.str s236) <|
 C.same s276.env[68]? v237 <|
 C.same s276.env[69]? (.str s236) <|
 C.same s276.env[70]? v239 <|
 C.same s276.env[71]? (iz x247) <|
 C.same s276.env[72]? bt <|
 C.any s276.env[73]? fun v378 =>
 C.any s276.env[74]? fun v379 =>
 C.any s276.env[75]? fun v380 =>
 C.any s276.env[76]? fun v381 =>
 C.any s276.env[77]? fun v382 =>
 C.any s276.env[78]? fun v383 =>
 C.any s276.env[79]? fun v384 =>
 C.any s276.env[80]? fun v385 =>
 C.any s276.env[81]? fun v386 =>
 C.any s276.env[82]? fun v387 =>
 C.any s276.env[83]? fun v388 =>
 C.any s276.env[84]? fun v389 =>
 C.any s276.env[85]? fun v390 =>
 C.any s276.env[86]? fun v391 =>
 C.any s276.env[87]? fun v392 =>
 C.any s276.env[88]? fun v393 =>
 C.any s276.env[89]? fun v394 =>
 C.any s276.env[90]? fun v395 =>
 C.any s276.env[91]? fun v396 =>
 C.any s276.env[92]? fun v397 =>
 C.any s276.env[93]? fun v398 =>
 C.any s276.env[94]? fun v399 =>
 C.any s276.env[95]? fun v400 =>
 C.any s276.env[96]? fun v401 =>
 C.same s276.env[97]? v273 <|
 C.same s276.env[98]? v163 <|
 C.same s276.env[99]? v164 <|
 C.same s276.env[100]? v165 <|
 C.same s276.env[101]? v166 <|
 C.same s276.env[102]? v167 <|
 C.same s276.env[103]? v168 <|
 C.same s276.env[104]? v169 <|
 C.same s276.env[105]? v170 <|
 C.same s276.env[106]? v171 <|
 C.same s276.env[107]? v172 <|
 C.same s276.env[108]? v173 <|
 C.same s276.env[109]? v174 <|
 C.same s276.env[110]? v175 <|
 C.same s276.env[111]? v176 <|
 C.same s276.env[112]? v177 <|
 C.same s276.env[113]? v178 <|
 C.same s276.env[114]? v179 <|
 C.same s276.env[115]? v180 <|
 C.same s276.env[116]? v181 <|
 C.same s276.env[117]? v182 <|
 C.same s276.env[118]? v183 <|
 C.same s276.env[119]? v184 <|
 C.same s276.env[120]? v185 <|
 C.same s276.env[121]? v186 <|
 C.same s276.env[122]? v187 <|
 C.same s276.env[123]? v188 <|
 C.same s276.env[124]? v189 <|
 C.same s276.env[125]? v190 <|
 C.same s276.env[126]? v191 <|
 C.same s276.env[127]? v192 <|
 C.same s276.env[128]? v193 <|
 C.same s276.env[129]? v194 <|
 C.same s276.env[130]? v195 <|
 C.same s276.env[131]? v196 <|
 C.same s276.env[132]? v197 <|
 C.same s276.env[133]? v198 <|
 C.same s276.env[134]? v199 <|
 C.same s276.env[135]? v200 <|
 C.same s276.env[136]? v201 <|
 C.same s276.env[137]? v202 <|
 C.same s276.env[138]? v203 <|
 C.same s276.env[139]? v204 <|
 C.same s276.env[140]? v205 <|
 C.same s276.env[141]? v206 <|
 C.same s276.env[142]? v207 <|
 C.same s276.env[143]? v208 <|
 C.same s276.env[144]? v209 <|
 C.same s276.env[145]? v210 <|
 C.same s276.env[146]? v211 <|
 C.same s276.env[147]? v212 <|
 C.same s276.env[148]? v213 <|
 C.same s276.env[149]? v214 <|
 C.same s276.env[150]? v215 <|
 C.same s276.env[151]? v216 <|
 C.same s276.env[152]? v217 <|
 C.same s276.env[153]? v218 <|
 C.same s276.env[154]? v219 <|
 C.same s276.env[155]? v220 <|
 C.same s276.env[156]? v221 <|
 C.same s276.env[157]? v222 <|
 C.same s276.env[158]? v223 <|
 C.same s276.env[159]? v224 <|
 C.same s276.env[160]? v225 <|
 C.same s276.env[161]? v226 <|
 C.same s276.env[162]? v227 <|
 C.same s276.env[163]? v228 <|
 C.same s276.env[164]? v229 <|
 C.same s276.env[165]? v230 <|
 C.same s276.env[166]? v231 <|
 none)
 (none)
def r6R9 (C : Cb) (d : Nat) (a0 a1 a2 a3 a4 a5 a6 a7 a8 a9 a10 a11 a12 a13 a14 a15 : Int) (v0 v2 : AV) (b59 b60 b61 : Bool) (v62 v63 v64 v65 : AV) (b66 b67 : Bool) (v68 v69 v70 v71 : AV) (x77 x78 x79 x80 : Int) (s81 : List UInt8) (x85 x86 x87 x88 x89 x90 x91 x92 x93 : Int) (s94 : List UInt8) (s95 : List UInt8) (v96 : AV) (x100 x117 : Int) (v231 v232 : AV) (s236 : List UInt8) (v237 v239 : AV) (b403 : Bool) (v404 v405 : AV) (x406 : Int) (b407 : Bool) (v408 v409 v410 v411 v412 v413 v414 v415 v416 v417 v418 v419 v420 v421 v422 v423 v424 v425 v426 v427 v428 v429 v430 v431 v432 v433 : AV) (x437 : Int) (v438 : AV) (s444 : List UInt8) (s447 : List UInt8) (v448 : AV) (x452 : Int) (k454 : Ex → St → Ans) (b456 : Bool) (x459 : Int) (v502 v503 : AV) (s507 : List UInt8) (x555 x556 : Int) (v557 v558 v559 v560 v561 : AV) (b562 b563 : Bool) (v564 v565 v566 v567 v568 v569 v570 v571 v572 v573 v574 v575 : AV) : St → (Ex → St → Ans) → Ans := fun s576 k577 =>
 cnd ((List.length s576.env) == 167)
 (C.same s576.env[0]? (.agg [(iz a0), (iz a1), (iz a2), (iz a3)]) <|
 C.same s576.env[1]? (.agg [(iz a4), (iz a5), (iz a6), (iz a7), (iz a8), (iz a9), (iz a10), (iz a11), (iz a12)]) <|
 C.same s576.env[2]? (iz (IntKind.wrap .i64 (1 + (IntKind.wrap .i64 (Int.tmod (IntKind.wrap .u64 a13) 3))))) <|
 C.same s576.env[3]? (iz a14) <|
 C.same s576.env[4]? (.int .u32 a15) <|
 C.same s576.env[5]? v0 <|
 C.same s576.env[6]? v2 <|
 C.same s576.env[7]? tz <|
 C.same s576.env[8]? tz <|
 C.same s576.env[9]? tz <|
 C.same s576.env[10]? (.bool b456) <|
 C.same s576.env[11]? (iz x117) <|
 C.same s576.env[12]? (.str s236) <|
 C.same s576.env[13]? (iz (IntKind.wrap .i64 (8 * (IntKind.wrap .i64 ((((List.length s236) : Nat) : Int) - 4))))) <|
 C.same s576.env[14]? (iz (IntKind.wrap .i64 (Int.tmod (IntKind.wrap .u64 a14) (IntKind.wrap .u64 (IntKind.wrap .i64 (8 * (IntKind.wrap .i64 ((((List.length s236) : Nat) : Int) - 4)))))))) <|
 C.same s576.env[15]? v237 <|
 C.same s576.env[16]? v239 <|
 C.same s576.env[17]? (.bool b403) <|
 C.same s576.env[18]? v404 <|
 C.same s576.env[19]? v405 <|
 C.same s576.env[20]? (iz (IntKind.wrap .i64 (Int.tmod (IntKind.wrap .u64 a14) (IntKind.wrap .u64 (IntKind.wrap .i64 (8 * (((List.length s236) : Nat) : Int))))))) <|
 C.same s576.env[21]? tz <|
 C.same s576.env[22]? (.str s507) <|
 C.same s576.env[23]? (iz x555) <|
 C.same s576.env[24]? (.bool b59) <|
 C.same s576.env[25]? (.bool b60) <|
 C.same s576.env[26]? (.bool b61) <|
 C.same s576.env[27]? v62 <|
 C.same s576.env[28]? v63 <|
 C.same s576.env[29]? v64 <|
 C.same s576.env[30]? v65 <|
 C.same s576.env[31]? (.bool b66) <|
 C.same s576.env[32]? (.bool b67) <|
 C.same s576.env[33]? v68 <|
 C.same s576.env[34]? v69 <|
 C.same s576.env[35]? v70 <|
 C.same s576.env[36]? v71 <|
 C.same s576.env[37]? bf <|
 C.same s576.env[38]? tz <|
 C.same s576.env[39]? (iz a13) <|
 C.same s576.env[40]? (.int .u64 (IntKind.wrap .u64 a13)) <|
 C.same s576.env[41]? (.int .u64 (Int.tmod (IntKind.wrap .u64 a13) 3)) <|
 C.same s576.env[42]? (iz (IntKind.wrap .i64 (Int.tmod (IntKind.wrap .u64 a13) 3))) <|
 C.same s576.env[43]? (iz (IntKind.wrap .i64 (1 + (IntKind.wrap .i64 (Int.tmod (IntKind.wrap .u64 a13) 3))))) <|
 C.same s576.env[44]? (.agg [(iz x77), (iz x78), (iz x79), (iz x80)]) <|
 C.same s576.env[45]? (.str s81) <|
 C.same s576.env[46]? (.agg [(iz x85), (iz x86), (iz x87), (iz x88), (iz x89), (iz x90), (iz x91), (iz x92), (iz x93)]) <|
 C.same s576.env[47]? (.str s94) <|
 C.same s576.env[48]? (iz (IntKind.wrap .i64 (1 + (IntKind.wrap .i64 (Int.tmod (IntKind.wrap .u64 a13) 3))))) <|
 C.same s576.env[49]? (.str s95) <|
 C.same s576.env[50]? v96 <|
 C.same s576.env[51]? (iz x100) <|
 C.same s576.env[52]? (iz x117) <|
 C.same s576.env[53]? bt <|
 C.same s576.env[54]? (iz x117) <|
 C.same s576.env[55]? v232 <|
 C.same s576.env[56]? (.str s236) <|
 C.same s576.env[57]? (.str s236) <|
 C.same s576.env[58]? (iz (((List.length s236) : Nat) : Int)) <|
 C.same s576.env[59]? (iz (IntKind.wrap .i64 ((((List.length s236) : Nat) : Int) - 4))) <|
 C.same s576.env[60]? (iz (IntKind.wrap .i64 (8 * (IntKind.wrap .i64 ((((List.length s236) : Nat) : Int) - 4))))) <|
 C.same s576.env[61]? (iz a14) <|
 C.same s576.env[62]? (.int .u64 (IntKind.wrap .u64 a14)) <|
 C.same s576.env[63]? (iz (IntKind.wrap .i64 (8 * (IntKind.wrap .i64 ((((List.length s236) : Nat) : Int) - 4))))) <|
 C.same s576.env[64]? (.int .u64 (IntKind.wrap .u64 (IntKind.wrap .i64 (8 * (IntKind.wrap .i64 ((((List.length s236) : Nat) : Int) - 4)))))) <|
 C.same s576.env[65]? (.int .u64 (Int.tmod (IntKind.wrap .u64 a14) (IntKind.wrap .u64 (IntKind.wrap .i64 (8 * (IntKind.wrap .i64 ((((List.length s236) : Nat) : Int) - 4))))))) <|
 C.same s576.env[66]? (iz (IntKind.wrap .i64 (Int.tmod (IntKind.wrap .u64 a14) (IntKind.wrap .u64 (IntKind.wrap .i64 (8 * (IntKind.wrap .i64 ((((List.length s236) : Nat) : Int) - 4)))))))) <|
 C.same s576.env[67]? (.str s236) <|
 C.same s576.env[68]? v237 <|
 C.same s576.env[69]? (.str s236) <|
 C.same s576.env[70]? v239 <|
 C.same s576.env[71]? (iz x406) <|
 C.same s576.env[72]? (.bool b407) <|
 C.same s576.env[73]? v408 <|
 C.same s576.env[74]? v409 <|
 C.same s576.env[75]? v410 <|
 C.same s576.env[76]? v411 <|
 C.same s576.env[77]? v412 <|
 C.same s576.env[78]? v413 <|
 C.same s576.env[79]? v414 <|
 C.same s576.env[80]? v415 <|
 C.same s576.env[81]? v416 <|
 C.same s576.env[82]? v417 <|
 C.same s576.env[83]? v418 <|
 C.same s576.env[84]? v419 <|
 C.same s576.env[85]? v420 <|
 C.same s576.env[86]? v421 <|
 C.same s576.env[87]? v422 <|
 C.same s576.env[88]? v423 <|
 C.same s576.env[89]? v424 <|
 C.same s576.env[90]? v425 <|
 C.same s576.env[91]? v426 <|
 C.same s576.env[92]? v427 <|
 C.same s576.env[93]? v428 <|
 C.same s576.env[94]? v429 <|
 C.same s576.env[95]? v430 <|
 C.same s576.env[96]? v431 <|
 C.same s576.env[97]? v432 <|
 C.same s576.env[98]? (iz a14) <|
 C.same s576.env[99]? (.int .u64 (IntKind.wrap .u64 a14)) <|
 C.same s576.env[100]? (.str s236) <|
 C.same s576.env[101]? (iz (((List.length s236) : Nat) : Int)) <|
 C.same s576.env[102]? (iz (IntKind.wrap .i64 (8 * (((List.length s236) : Nat) : Int)))) <|
 C.same s576.env[103]? (.int .u64 (IntKind.wrap .u64 (IntKind.wrap .i64 (8 * (((List.length s236) : Nat) : Int))))) <|
 C.same s576.env[104]? (.int .u64 (Int.tmod (IntKind.wrap .u64 a14) (IntKind.wrap .u64 (IntKind.wrap .i64 (8 * (((List.length s236) : Nat) : Int)))))) <|
 C.same s576.env[105]? (iz (IntKind.wrap .i64 (Int.tmod (IntKind.wrap .u64 a14) (IntKind.wrap .u64 (IntKind.wrap .i64 (8 * (((List.length s236) : Nat) : Int))))))) <|
 C.same s576.env[106]? v239 <|
 C.same s576.env[107]? (iz (IntKind.wrap .i64 (Int.tmod (IntKind.wrap .u64 a14) (IntKind.wrap .u64 (IntKind.wrap .i64 (8 * (((List.length s236) : Nat) : Int))))))) <|
 C.same s576.env[108]? (iz (IntKind.wrap .i64 (Int.tdiv (IntKind.wrap .i64 (Int.tmod (IntKind.wrap .u64 a14) (IntKind.wrap .u64 (IntKind.wrap .i64 (8 * (((List.length s236) : Nat) : Int)))))) 8))) <|
 C.same s576.env[109]? v433 <|
 C.same s576.env[110]? (.int .u8 x437) <|
 C.same s576.env[111]? (iz (IntKind.wrap .i64 (Int.tmod (IntKind.wrap .u64 a14) (IntKind.wrap .u64 (IntKind.wrap .i64 (8 * (((List.length s236) : Nat) : Int))))))) <|
 C.same s576.env[112]? (iz (Int.tmod (IntKind.wrap .i64 (Int.tmod (IntKind.wrap .u64 a14) (IntKind.wrap .u64 (IntKind.wrap .i64 (8 * (((List.length s236) : Nat) : Int)))))) 8)) <|
 C.same s576.env[113]? (.int .u8 (IntKind.wrap .u8 (1 * (2 ^ (min (Int.toNat (Int.tmod (IntKind.wrap .i64 (Int.tmod (IntKind.wrap .u64 a14) (IntKind.wrap .u64 (IntKind.wrap .i64 (8 * (((List.length s236) : Nat) : Int)))))) 8)) 8))))) <|
 C.same s576.env[114]? (.int .u8 (bits .xor .u8 x437 (IntKind.wrap .u8 (1 * (2 ^ (min (Int.toNat (Int.tmod (IntKind.wrap .i64 (Int.tmod (IntKind.wrap .u64 a14) (IntKind.wrap .u64 (IntKind.wrap .i64 (8 * (((List.length s236) : Nat) : Int)))))) 8)) 8)))))) <|
 C.same s576.env[115]? v438 <|
 C.same s576.env[116]? v237 <|
 C.same s576.env[117]? (.str s444) <|
 C.same s576.env[118]? v239 <|
 C.same s576.env[119]? (.str s447) <|
 C.same s576.env[120]? v448 <|
 C.same s576.env[121]? (iz x452) <|
 C.same s576.env[122]? (iz x459) <|
 C.same s576.env[123]? bt <|
 C.same s576.env[124]? v503 <|
 C.same s576.env[125]? (.str s507) <|
 C.same s576.env[126]? (iz x556) <|
 C.same s576.env[127]? v557 <|
 C.same s576.env[128]? v558 <|
 C.same s576.env[129]? v559 <|
 C.same s576.env[130]? v560 <|
 C.same s576.env[131]? v561 <|
 C.same s576.env[132]? (.bool b562) <|
 C.same s576.env[133]? (.bool b563) <|
 C.same s576.env[134]? v564 <|
 C.same s576.env[135]? v565 <|
 C.same s576.env[136]? v566 <|
 C.same s576.env[137]? v567 <|
 C.same s576.env[138]? v568 <|
 C.same s576.env[139]? v569 <|
 C.same s576.env[140]? v570 <|
 C.same s576.env[141]? v571 <|
 C.same s576.env[142]? v572 <|
 C.same s576.env[143]? v573 <|
 C.same s576.env[144]? v574 <|
 C.same s576.env[145]? v575 <|
 C.any s576.env[146]? fun v579 =>
 C.any s576.env[147]? fun v580 =>
 C.any s576.env[148]? fun v581 =>
 C.any s576.env[149]? fun v582 =>
 C.any s576.env[150]? fun v583 =>
 C.any s576.env[151]? fun v584 =>
 C.any s576.env[152]? fun v585 =>
 C.any s576.env[153]? fun v586 =>
 C.any s576.env[154]? fun v587 =>
 C.any s576.env[155]? fun v588 =>
 C.any s576.env[156]? fun v589 =>
 C.any s576.env[157]? fun v590 =>
 C.any s576.env[158]? fun v591 =>
 C.any s576.env[159]? fun v592 =>
 C.any s576.env[160]? fun v593 =>
 C.any s576.env[161]? fun v594 =>
 C.any s576.env[162]? fun v595 =>
 C.any s576.env[163]? fun v596 =>
 C.any s576.env[164]? fun v597 =>
 C.same s576.env[165]? v502 <|
 C.same s576.env[166]? v231 <|
 cnd (!(s507 == s236))
 (cnd (x555 == 0)
 (k577 (.exit 2000000) ⟨[(.agg [(iz a0), (iz a1), (iz a2), (iz a3)]), (.agg [(iz a4), (iz a5), (iz a6), (iz a7), (iz a8), (iz a9), (iz a10), (iz a11), (iz a12)]), (iz (IntKind.wrap .i64 (1 + (IntKind.wrap .i64 (Int.tmod (IntKind.wrap .u64 a13) 3))))), (iz a14), (.int .u32 a15), v0, v2, tz, tz, tz, (.bool b456), (iz x117), (.str s236), (iz (IntKind.wrap .i64 (8 * (IntKind.wrap .i64 ((((List.length s236) : Nat) : Int) - 4))))), (iz (IntKind.wrap .i64 (Int.tmod (IntKind.wrap .u64 a14) (IntKind.wrap .u64 (IntKind.wrap .i64 (8 * (IntKind.wrap .i64 ((((List.length s236) : Nat) : Int) - 4)))))))), v237, v239, (.bool b403), v404, v405, (iz (IntKind.wrap .i64 (Int.tmod (IntKind.wrap .u64 a14) (IntKind.wrap .u64 (IntKind.wrap .i64 (8 * (((List.length s236) : Nat) : Int))))))), tz, (.str s507), (iz x555), (.bool b59), (.bool b60), (.bool b61), v62, v63, v64, v65, (.bool b66), (.bool b67), v68, v69, v70, v71, bf, tz, (iz a13), (.int .u64 (IntKind.wrap .u64 a13)), (.int .u64 (Int.tmod (IntKind.wrap .u64 a13) 3)), (iz (IntKind.wrap .i64 (Int.tmod (IntKind.wrap .u64 a13) 3))), (iz (IntKind.wrap .i64 (1 + (IntKind.wrap .i64 (Int.tmod (IntKind.wrap .u64 a13) 3))))), (.agg [(iz x77), (iz x78), (iz x79), (iz x80)]), (.str s81), (.agg [(iz x85), (iz x86), (iz x87), (iz x88), (iz x89), (iz x90), (iz x91), (iz x92), (iz x93)]), (.str s94), (iz (IntKind.wrap .i64 (1 + (IntKind.wrap .i64 (Int.tmod (IntKind.wrap .u64 a13) 3))))), (.str s95), v96, (iz x100), (iz x117), bt, (iz x117), v232, (.str s236), (.str s236), (iz (((List.length s236) : Nat) : Int)), (iz (IntKind.wrap .i64 ((((List.length s236) : Nat) : Int) - 4))), (iz (IntKind.wrap .i64 (8 * (IntKind.wrap .i64 ((((List.length s236) : Nat) : Int) - 4))))), (iz a14), (.int .u64 (IntKind.wrap .u64 a14)), (iz (IntKind.wrap .i64 (8 * (IntKind.wrap .i64 ((((List.length s236) : Nat) : Int) - 4))))), (.int .u64 (IntKind.wrap .u64 (IntKind.wrap .i64 (8 * (IntKind.wrap .i64 ((((List.length s236) : Nat) : Int) - 4)))))), (.int .u64 (Int.tmod (IntKind.wrap .u64 a14) (IntKind.wrap .u64 (IntKind.wrap .i64 (8 * (IntKind.wrap .i64 ((((List.length s236) : Nat) : Int) - 4))))))), (iz (IntKind.wrap .i64 (Int.tmod (IntKind.wrap .u64 a14) (IntKind.wrap .u64 (IntKind.wrap .i64 (8 * (IntKind.wrap .i64 ((((List.length s236) : Nat) : Int) - 4)))))))), (.str s236), v237, (.str s236), v239, (iz x406), (.bool b407), v408, v409, v410, v411, v412, v413, v414, v415, v416, v417, v418, v419, v420, v421, v422, v423, v424, v425, v426, v427, v428, v429, v430, v431, v432, (iz a14), (.int .u64 (IntKind.wrap .u64 a14)), (.str s236), (iz (((List.length s236) : Nat) : Int)), (iz (IntKind.wrap .i64 (8 * (((List.length s236) : Nat) : Int)))), (.int .u64 (IntKind.wrap .u64 (IntKind.wrap .i64 (8 * (((List.length s236) : Nat) : Int))))), (.int .u64 (Int.tmod (IntKind.wrap .u64 a14) (IntKind.wrap .u64 (IntKind.wrap .i64 (8 * (((List.length s236) : Nat) : Int)))))), (iz (IntKind.wrap .i64 (Int.tmod (IntKind.wrap .u64 a14) (IntKind.wrap .u64 (IntKind.wrap .i64 (8 * (((List.length s236) : Nat) : Int))))))), v239, (iz (IntKind.wrap .i64 (Int.tmod (IntKind.wrap .u64 a14) (IntKind.wrap .u64 (IntKind.wrap .i64 (8 * (((List.length s236) : Nat) : Int))))))), (iz (IntKind.wrap .i64 (Int.tdiv (IntKind.wrap .i64 (Int.tmod (IntKind.wrap .u64 a14) (IntKind.wrap .u64 (IntKind.wrap .i64 (8 * (((List.length s236) : Nat) : Int)))))) 8))), v433, (.int .u8 x437), (iz (IntKind.wrap .i64 (Int.tmod (IntKind.wrap .u64 a14) (IntKind.wrap .u64 (IntKind.wrap .i64 (8 * (((List.length s236) : Nat) : Int))))))), (iz (Int.tmod (IntKind.wrap .i64 (Int.tmod (IntKind.wrap .u64 a14) (IntKind.wrap .u64 (IntKind.wrap .i64 (8 * (((List.length s236) : Nat) : Int)))))) 8)), (.int .u8 (IntKind.wrap .u8 (1 * (2 ^ (min (Int.toNat (Int.tmod (IntKind.wrap .i64 (Int.tmod (IntKind.wrap .u64 a14) (IntKind.wrap .u64 (IntKind.wrap .i64 (8 * (((List.length s236) : Nat) : Int)))))) 8)) 8))))), (.int .u8 (bits .xor .u8 x437 (IntKind.wrap .u8 (1 * (2 ^ (min (Int.toNat (Int.tmod (IntKind.wrap .i64 (Int.tmod (IntKind.wrap .u64 a14) (IntKind.wrap .u64 (IntKind.wrap .i64 (8 * (((List.length s236) : Nat) : Int)))))) 8)) 8)))))), v438, v237, (.str s444), v239, (.str s447), v448, (iz x452), (iz x459), bt, v503, (.str s507), (iz x556), v557, v558, v559, v560, v561, (.bool b562), (.bool b563), v564, v565, v566, v567, v568, v569, v570, v571, v572, v573, v574, v575, (.str s507), (.str s236), (.bool (!(s507 == s236))), bt, (iz x555), (.bool (x555 == 0)), (.bool (x555 == 0)), bt, tz, tz, tz, tz, tz, tz, tz, tz, tz, tz, bt, v502, v231], (St.H s576)⟩)
 (cnd (s507 == s236)
 (cnd (x555 != 0)
 (k577 (.exit 2000000) ⟨[(.agg [(iz a0), (iz a1), (iz a2), (iz a3)]), (.agg [(iz a4), (iz a5), (iz a6), (iz a7), (iz a8), (iz a9), (iz a10), (iz a11), (iz a12)]), (iz (IntKind.wrap .i64 (1 + (IntKind.wrap .i64 (Int.tmod (IntKind.wrap .u64 a13) 3))))), (iz a14), (.int .u32 a15), v0, v2, tz, tz, tz, (.bool b456), (iz x117), (.str s236), (iz (IntKind.wrap .i64 (8 * (IntKind.wrap .i64 ((((List.length s236) : Nat) : Int) - 4))))), (iz (IntKind.wrap .i64 (Int.tmod (IntKind.wrap .u64 a14) (IntKind.wrap .u64 (IntKind.wrap .i64 (8 * (IntKind.wrap .i64 ((((List.length s236) : Nat) : Int) - 4)))))))), v237, v239, (.bool b403), v404, v405, (iz (IntKind.wrap .i64 (Int.tmod (IntKind.wrap .u64 a14) (IntKind.wrap .u64 (IntKind.wrap .i64 (8 * (((List.length s236) : Nat) : Int))))))), tz, (.str s507), (iz x555), (.bool b59), (.bool b60), (.bool b61), v62, v63, v64, v65, (.bool b66), (.bool b67), v68, v69, v70, v71, bf, tz, (iz a13), (.int .u64 (IntKind.wrap .u64 a13)), (.int .u64 (Int.tmod (IntKind.wrap .u64 a13) 3)), (iz (IntKind.wrap .i64 (Int.tmod (IntKind.wrap .u64 a13) 3))), (iz (IntKind.wrap .i64 (1 + (IntKind.wrap .i64 (Int.tmod (IntKind.wrap .u64 a13) 3))))), (.agg [(iz x77), (iz x78), (iz x79), (iz x80)]), (.str s81), (.agg [(iz x85), (iz x86), (iz x87), (iz x88), (iz x89), (iz x90), (iz x91), (iz x92), (iz x93)]), (.str s94), (iz (IntKind.wrap .i64 (1 + (IntKind.wrap .i64 (Int.tmod (IntKind.wrap .u64 a13) 3))))), (.str s95), v96, (iz x100), (iz x117), bt, (iz x117), v232, (.str s236), (.str s236), (iz (((List.length s236) : Nat) : Int)), (iz (IntKind.wrap .i64 ((((List.length s236) : Nat) : Int) - 4))), (iz (IntKind.wrap .i64 (8 * (IntKind.wrap .i64 ((((List.length s236) : Nat) : Int) - 4))))), (iz a14), (.int .u64 (IntKind.wrap .u64 a14)), (iz (IntKind.wrap .i64 (8 * (IntKind.wrap .i64 ((((List.length s236) : Nat) : Int) - 4))))), (.int .u64 (IntKind.wrap .u64 (IntKind.wrap .i64 (8 * (IntKind.wrap .i64 ((((List.length s236) : Nat) : Int) - 4)))))), (.int .u64 (Int.tmod (IntKind.wrap .u64 a14) (IntKind.wrap .u64 (IntKind.wrap .i64 (8 * (IntKind.wrap .i64 ((((List.length s236) : Nat) : Int) - 4))))))), (iz (IntKind.wrap .i64 (Int.tmod (IntKind.wrap .u64 a14) (IntKind.wrap .u64 (IntKind.wrap .i64 (8 * (IntKind.wrap .i64 ((((List.length s236) : Nat) : Int) - 4)))))))), (.str s236), v237, (.str s236), v239, (iz x406), (.bool b407), v408, v409, v410, v411, v412, v413, v414, v415, v416, v417, v418, v419, v420, v421, v422, v423, v424, v425, v426, v427, v428, v429, v430, v431, v432, (iz a14), (.int .u64 (IntKind.wrap .u64 a14)), (.str s236), (iz (((List.length s236) : Nat) : Int)), (iz (IntKind.wrap .i64 (8 * (((List.length s236) : Nat) : Int)))), (.int .u64 (IntKind.wrap .u64 (IntKind.wrap .i64 (8 * (((List.length s236) : Nat) : Int))))), (.int .u64 (Int.tmod (IntKind.wrap .u64 a14) (IntKind.wrap .u64 (IntKind.wrap .i64 (8 * (((List.length s236) : Nat) : Int)))))), (iz (IntKind.wrap .i64 (Int.tmod (IntKind.wrap .u64 a14) (IntKind.wrap .u64 (IntKind.wrap .i64 (8 * (((List.length s236) : Nat) : Int))))))), v239, (iz (IntKind.wrap .i64 (Int.tmod (IntKind.wrap .u64 a14) (IntKind.wrap .u64 (IntKind.wrap .i64 (8 * (((List.length s236) : Nat) : Int))))))), (iz (IntKind.wrap .i64 (Int.tdiv (IntKind.wrap .i64 (Int.tmod (IntKind.wrap .u64 a14) (IntKind.wrap .u64 (IntKind.wrap .i64 (8 * (((List.length s236) : Nat) : Int)))))) 8))), v433, (.int .u8 x437), (iz (IntKind.wrap .i64 (Int.tmod (IntKind.wrap .u64 a14) (IntKind.wrap .u64 (IntKind.wrap .i64 (8 * (((List.length s236) : Nat) : Int))))))), (iz (Int.tmod (IntKind.wrap .i64 (Int.tmod (IntKind.wrap .u64 a14) (IntKind.wrap .u64 (IntKind.wrap .i64 (8 * (((List.length s236) : Nat) : Int)))))) 8)), (.int .u8 (IntKind.wrap .u8 (1 * (2 ^ (min (Int.toNat (Int.tmod (IntKind.wrap .i64 (Int.tmod (IntKind.wrap .u64 a14) (IntKind.wrap .u64 (IntKind.wrap .i64 (8 * (((List.length s236) : Nat) : Int)))))) 8)) 8))))), (.int .u8 (bits .xor .u8 x437 (IntKind.wrap .u8 (1 * (2 ^ (min (Int.toNat (Int.tmod (IntKind.wrap .i64 (Int.tmod (IntKind.wrap .u64 a14) (IntKind.wrap .u64 (IntKind.wrap .i64 (8 * (((List.length s236) : Nat) : Int)))))) 8)) 8)))))), v438, v237, (.str s444), v239, (.str s447), v448, (iz x452), (iz x459), bt, v503, (.str s507), (iz x556), v557, v558, v559, v560, v561, (.bool b562), (.bool b563), v564, v565, v566, v567, v568, v569, v570, v571, v572, v573, v574, v575, (.str s507), (.str s236), (.bool (!(s507 == s236))), bt, (iz x555), (.bool (x555 == 0)), (.bool (x555 == 0)), bf, (.str s507), (.str s236), (.bool (s507 == s236)), bt, (iz x555), (.bool (x555 != 0)), bt, tz, bt, bt, bt, v502, v231], (St.H s576)⟩)
 (k577 (.exit 2000000) ⟨[(.agg [(iz a0), (iz a1), (iz a2), (iz a3)]), (.agg [(iz a4), (iz a5), (iz a6), (iz a7), (iz a8), (iz a9), (iz a10), (iz a11), (iz a12)]), (iz (IntKind.wrap .i64 (1 + (IntKind.wrap .i64 (Int.tmod (IntKind.wrap .u64 a13) 3))))), (iz a14), (.int .u32 a15), v0, v2, tz, tz, tz, (.bool b456), (iz x117), (.str s236), (iz (IntKind.wrap .i64 (8 * (IntKind.wrap .i64 ((((List.length s236) : Nat) : Int) - 4))))), (iz (IntKind.wrap .i64 (Int.tmod (IntKind.wrap .u64 a14) (IntKind.wrap .u64 (IntKind.wrap .i64 (8 * (IntKind.wrap .i64 ((((List.length s236) : Nat) : Int) - 4)))))))), v237, v239, (.bool b403), v404, v405, (iz (IntKind.wrap .i64 (Int.tmod (IntKind.wrap .u64 a14) (IntKind.wrap .u64 (IntKind.wrap .i64 (8 * (((List.length s236) : Nat) : Int))))))), tz, (.str s507), (iz x555), (.bool b59), (.bool b60), (.bool b61), v62, v63, v64, v65, (.bool b66), (.bool b67), v68, v69, v70, v71, bf, tz, (iz a13), (.int .u64 (IntKind.wrap .u64 a13)), (.int .u64 (Int.tmod (IntKind.wrap .u64 a13) 3)), (iz (IntKind.wrap .i64 (Int.tmod (IntKind.wrap .u64 a13) 3))), (iz (IntKind.wrap .i64 (1 + (IntKind.wrap .i64 (Int.tmod (IntKind.wrap .u64 a13) 3))))), (.agg [(iz x77), (iz x78), (iz x79), (iz x80)]), (.str s81), (.agg [(iz x85), (iz x86), (iz x87), (iz x88), (iz x89), (iz x90), (iz x91), (iz x92), (iz x93)]), (.str s94), (iz (IntKind.wrap .i64 (1 + (IntKind.wrap .i64 (Int.tmod (IntKind.wrap .u64 a13) 3))))), (.str s95), v96, (iz x100), (iz x117), bt, (iz x117), v232, (.str s236), (.str s236), (iz (((List.length s236) : Nat) : Int)), (iz (IntKind.wrap .i64 ((((List.length s236) : Nat) : Int) - 4))), (iz (IntKind.wrap .i64 (8 * (IntKind.wrap .i64 ((((List.length s236) : Nat) : Int) - 4))))), (iz a14), (.int .u64 (IntKind.wrap .u64 a14)), (iz (IntKind.wrap .i64 (8 * (IntKind.wrap .i64 ((((List.length s236) : Nat) : Int) - 4))))), (.int .u64 (IntKind.wrap .u64 (IntKind.wrap .i64 (8 * (IntKind.wrap .i64 ((((List.length s236) : Nat) : Int) - 4)))))), (.int .u64 (Int.tmod (IntKind.wrap .u64 a14) (IntKind.wrap .u64 (IntKind.wrap .i64 (8 * (IntKind.wrap .i64 ((((List.length s236) : Nat) : Int) - 4))))))), (iz (IntKind.wrap .i64 (Int.tmod (IntKind.wrap .u64 a14) (IntKind.wrap .u64 (IntKind.wrap .i64 (8 * (IntKind.wrap .i64 ((((List.length s236) : Nat) : Int) - 4)))))))), (.str s236), v237, (.str s236), v239, (iz x406), (.bool b407), v408, v409, v410, v411, v412, v413, v414, v415, v416, v417, v418, v419, v420, v421, v422, v423, v424, v425, v426, v427, v428, v429, v430, v431, v432, (iz a14), (.int .u64 (IntKind.wrap .u64 a14)), (.str s236), (iz (((List.length s236) : Nat) : Int)), (iz (IntKind.wrap .i64 (8 * (((List.length s236) : Nat) : Int)))), (.int .u64 (IntKind.wrap .u64 (IntKind.wrap .i64 (8 * (((List.length s236) : Nat) : Int))))), (.int .u64 (Int.tmod (IntKind.wrap .u64 a14) (IntKind.wrap .u64 (IntKind.wrap .i64 (8 * (((List.length s236) : Nat) : Int)))))), (iz (IntKind.wrap .i64 (Int.tmod (IntKind.wrap .u64 a14) (IntKind.wrap .u64 (IntKind.wrap .i64 (8 * (((List.length s236) : Nat) : Int))))))), v239, (iz (IntKind.wrap .i64 (Int.tmod (IntKind.wrap .u64 a14) (IntKind.wrap .u64 (IntKind.wrap .i64 (8 * (((List.length s236) : Nat) : Int))))))), (iz (IntKind.wrap .i64 (Int.tdiv (IntKind.wrap .i64 (Int.tmod (IntKind.wrap .u64 a14) (IntKind.wrap .u64 (IntKind.wrap .i64 (8 * (((List.length s236) : Nat) : Int)))))) 8))), v433, (.int .u8 x437), (iz (IntKind.wrap .i64 (Int.tmod (IntKind.wrap .u64 a14) (IntKind.wrap .u64 (IntKind.wrap .i64 (8 * (((List.length s236) : Nat) : Int))))))), (iz (Int.tmod (IntKind.wrap .i64 (Int.tmod (IntKind.wrap .u64 a14) (IntKind.wrap .u64 (IntKind.wrap .i64 (8 * (((List.length s236) : Nat) : Int)))))) 8)), (.int .u8 (IntKind.wrap .u8 (1 * (2 ^ (min (Int.toNat (Int.tmod (IntKind.wrap .i64 (Int.tmod (IntKind.wrap .u64 a14) (IntKind.wrap .u64 (IntKind.wrap .i64 (8 * (((List.length s236) : Nat) : Int)))))) 8)) 8))))), (.int .u8 (bits .xor .u8 x437 (IntKind.wrap .u8 (1 * (2 ^ (min (Int.toNat (Int.tmod (IntKind.wrap .i64 (Int.tmod (IntKind.wrap .u64 a14) (IntKind.wrap .u64 (IntKind.wrap .i64 (8 * (((List.length s236) : Nat) : Int)))))) 8)) 8)))))), v438, v237, (.str s444), v239, (.str s447), v448, (iz x452), (iz x459), bt, v503, (.str s507), (iz x556), v557, v558, v559, v560, v561, (.bool b562), (.bool b563), v564, v565, v566, v567, v568, v569, v570, v571, v572, v573, v574, v575, (.str s507), (.str s236), (.bool (!(s507 == s236))), bt, (iz x555), (.bool (x555 == 0)), (.bool (x555 == 0)), bf, (.str s507), (.str s236), (.bool (s507 == s236)), bt, (iz x555), (.bool (x555 != 0)), bf, (.bool b403), (.bool b403), (.bool b403), (.bool b403), v502, v231], (St.H s576)⟩))
 (k577 (.exit 2000000) ⟨[(.agg [(iz a0), (iz a1), (iz a2), (iz a3)]), (.agg [(iz a4), (iz a5), (iz a6), (iz a7), (iz a8), (iz a9), (iz a10), (iz a11), (iz a12)]), (iz (IntKind.wrap .i64 (1 + (IntKind.wrap .i64 (Int.tmod (IntKind.wrap .u64 a13) 3))))), (iz a14), (.int .u32 a15), v0, v2, tz, tz, tz, (.bool b456), (iz x117), (.str s236), (iz (IntKind.wrap .i64 (8 * (IntKind.wrap .i64 ((((List.length s236) : Nat) : Int) - 4))))), (iz (IntKind.wrap .i64 (Int.tmod (IntKind.wrap .u64 a14) (IntKind.wrap .u64 (IntKind.wrap .i64 (8 * (IntKind.wrap .i64 ((((List.length s236) : Nat) : Int) - 4)))))))), v237, v239, (.bool b403), v404, v405, (iz (IntKind.wrap .i64 (Int.tmod (IntKind.wrap .u64 a14) (IntKind.wrap .u64 (IntKind.wrap .i64 (8 * (((List.length s236) : Nat) : Int))))))), tz, (.str s507), (iz x555), (.bool b59), (.bool b60), (.bool b61), v62, v63, v64, v65, (.bool b66), (.bool b67), v68, v69, v70, v71, bf, tz, (iz a13), (.int .u64 (IntKind.wrap .u64 a13)), (.int .u64 (Int.tmod (IntKind.wrap .u64 a13) 3)), (iz (IntKind.wrap .i64 (Int.tmod (IntKind.wrap .u64 a13) 3))), (iz (IntKind.wrap .i64 (1 + (IntKind.wrap .i64 (Int.tmod (IntKind.wrap .u64 a13) 3))))), (.agg [(iz x77), (iz x78), (iz x79), (iz x80)]), (.str s81), (.agg [(iz x85), (iz x86), (iz x87), (iz x88), (iz x89), (iz x90), (iz x91), (iz x92), (iz x93)]), (.str s94), (iz (IntKind.wrap .i64 (1 + (IntKind.wrap .i64 (Int.tmod (IntKind.wrap .u64 a13) 3))))), (.str s95), v96, (iz x100), (iz x117), bt, (iz x117), v232, (.str s236), (.str s236), (iz (((List.length s236) : Nat) : Int)), (iz (IntKind.wrap .i64 ((((List.length s236) : Nat) : Int) - 4))), (iz (IntKind.wrap .i64 (8 * (IntKind.wrap .i64 ((((List.length s236) : Nat) : Int) - 4))))), (iz a14), (.int .u64 (IntKind.wrap .u64 a14)), (iz (IntKind.wrap .i64 (8 * (IntKind.wrap .i64 ((((List.length s236) : Nat) : Int) - 4))))), (.int .u64 (IntKind.wrap .u64 (IntKind.wrap .i64 (8 * (IntKind.wrap .i64 ((((List.length s236) : Nat) : Int) - 4)))))), (.int .u64 (Int.tmod (IntKind.wrap .u64 a14) (IntKind.wrap .u64 (IntKind.wrap .i64 (8 * (IntKind.wrap .i64 ((((List.length s236) : Nat) : Int) - 4))))))), (iz (IntKind.wrap .i64 (Int.tmod (IntKind.wrap .u64 a14) (IntKind.wrap .u64 (IntKind.wrap .i64 (8 * (IntKind.wrap .i64 ((((List.length s236) : Nat) : Int) - 4)))))))), (.str s236), v237, (.str s236), v239, (iz x406), (.bool b407), v408, v409, v410, v411, v412, v413, v414, v415, v416, v417, v418, v419, v420, v421, v422, v423, v424, v425, v426, v427, v428, v429, v430, v431, v432, (iz a14), (.int .u64 (IntKind.wrap .u64 a14)), (.str s236), (iz (((List.length s236) : Nat) : Int)), (iz (IntKind.wrap .i64 (8 * (((List.length s236) : Nat) : Int)))), (.int .u64 (IntKind.wrap .u64 (IntKind.wrap .i64 (8 * (((List.length s236) : Nat) : Int))))), (.int .u64 (Int.tmod (IntKind.wrap .u64 a14) (IntKind.wrap .u64 (IntKind.wrap .i64 (8 * (((List.length s236) : Nat) : Int)))))), (iz (IntKind.wrap .i64 (Int.tmod (IntKind.wrap .u64 a14) (IntKind.wrap .u64 (IntKind.wrap .i64 (8 * (((List.length s236) : Nat) : Int))))))), v239, (iz (IntKind.wrap .i64 (Int.tmod (IntKind.wrap .u64 a14) (IntKind.wrap .u64 (IntKind.wrap .i64 (8 * (((List.length s236) : Nat) : Int))))))), (iz (IntKind.wrap .i64 (Int.tdiv (IntKind.wrap .i64 (Int.tmod (IntKind.wrap .u64 a14) (IntKind.wrap .u64 (IntKind.wrap .i64 (8 * (((List.length s236) : Nat) : Int)))))) 8))), v433, (.int .u8 x437), (iz (IntKind.wrap .i64 (Int.tmod (IntKind.wrap .u64 a14) (IntKind.wrap .u64 (IntKind.wrap .i64 (8 * (((List.length s236) : Nat) : Int))))))), (iz (Int.tmod (IntKind.wrap .i64 (Int.tmod (IntKind.wrap .u64 a14) (IntKind.wrap .u64 (IntKind.wrap .i64 (8 * (((List.length s236) : Nat) : Int)))))) 8)), (.int .u8 (IntKind.wrap .u8 (1 * (2 ^ (min (Int.toNat (Int.tmod (IntKind.wrap .i64 (Int.tmod (IntKind.wrap .u64 a14) (IntKind.wrap .u64 (IntKind.wrap .i64 (8 * (((List.length s236) : Nat) : Int)))))) 8)) 8))))), (.int .u8 (bits .xor .u8 x437 (IntKind.wrap .u8 (1 * (2 ^ (min (Int.toNat (Int.tmod (IntKind.wrap .i64 (Int.tmod (IntKind.wrap .u64 a14) (IntKind.wrap .u64 (IntKind.wrap .i64 (8 * (((List.length s236) : Nat) : Int)))))) 8)) 8)))))), v438, v237, (.str s444), v239, (.str s447), v448, (iz x452), (iz x459), bt, v503, (.str s507), (iz x556), v557, v558, v559, v560, v561, (.bool b562), (.bool b563), v564, v565, v566, v567, v568, v569, v570, v571, v572, v573, v574, v575, (.str s507), (.str s236), (.bool (!(s507 == s236))), bt, (iz x555), (.bool (x555 == 0)), (.bool (x555 == 0)), bf, (.str s507), (.str s236), (.bool (s507 == s236)), bf, tz, tz, tz, tz, tz, bf, bf, v502, v231], (St.H s576)⟩)))
 (cnd (s507 == s236)
 (cnd (x555 != 0)
 (k577 (.exit 2000000) ⟨[(.agg [(iz a0), (iz a1), (iz a2), (iz a3)]), (.agg [(iz a4), (iz a5), (iz a6), (iz a7), (iz a8), (iz a9), (iz a10), (iz a11), (iz a12)]), (iz (IntKind.wrap .i64 (1 + (IntKind.wrap .i64 (Int.tmod (IntKind.wrap .u64 a13) 3))))), (iz a14), (.int .u32 a15), v0, v2, tz, tz, tz, (.bool b456), (iz x117), (.str s236), (iz (IntKind.wrap .i64 (8 * (IntKind.wrap .i64 ((((List.length s236) : Nat) : Int) - 4))))), (iz (IntKind.wrap .i64 (Int.tmod (IntKind.wrap .u64 a14) (IntKind.wrap .u64 (IntKind.wrap .i64 (8 * (IntKind.wrap .i64 ((((List.length s236) : Nat) : Int) - 4)))))))), v237, v239, (.bool b403), v404, v405, (iz (IntKind.wrap .i64 (Int.tmod (IntKind.wrap .u64 a14) (IntKind.wrap .u64 (IntKind.wrap .i64 (8 * (((List.length s236) : Nat) : Int))))))), tz, (.str s507), (iz x555), (.bool b59), (.bool b60), (.bool b61), v62, v63, v64, v65, (.bool b66), (.bool b67), v68, v69, v70, v71, bf, tz, (iz a13), (.int .u64 (IntKind.wrap .u64 a13)), (.int .u64 (Int.tmod (IntKind.wrap .u64 a13) 3)), (iz (IntKind.wrap .i64 (Int.tmod (IntKind.wrap .u64 a13) 3))), (iz (IntKind.wrap .i64 (1 + (IntKind.wrap .i64 (Int.tmod (IntKind.wrap .u64 a13) 3))))), (.agg [(iz x77), (iz x78), (iz x79), (iz x80)]), (.str s81), (.agg [(iz x85), (iz x86), (iz x87), (iz x88), (iz x89), (iz x90), (iz x91), (iz x92), (iz x93)]), (.str s94), (iz (IntKind.wrap .i64 (1 + (IntKind.wrap .i64 (Int.tmod (IntKind.wrap .u64 a13) 3))))), (.str s95), v96, (iz x100), (iz x117), bt, (iz x117), v232, (.str s236), (.str s236), (iz (((List.length s236) : Nat) : Int)), (iz (IntKind.wrap .i64 ((((List.length s236) : Nat) : Int) - 4))), (iz (IntKind.wrap .i64 (8 * (IntKind.wrap .i64 ((((List.length s236) : Nat) : Int) - 4))))), (iz a14), (.int .u64 (IntKind.wrap .u64 a14)), (iz (IntKind.wrap .i64 (8 * (IntKind.wrap .i64 ((((List.length s236) : Nat) : Int) - 4))))), (.int .u64 (IntKind.wrap .u64 (IntKind.wrap .i64 (8 * (IntKind.wrap .i64 ((((List.length s236) : Nat) : Int) - 4)))))), (.int .u64 (Int.tmod (IntKind.wrap .u64 a14) (IntKind.wrap .u64 (IntKind.wrap .i64 (8 * (IntKind.wrap .i64 ((((List.length s236) : Nat) : Int) - 4))))))), (iz (IntKind.wrap .i64 (Int.tmod (IntKind.wrap .u64 a14) (IntKind.wrap .u64 (IntKind.wrap .i64 (8 * (IntKind.wrap .i64 ((((List.length s236) : Nat) : Int) - 4)))))))), (.str s236), v237, (.str s236), v239, (iz x406), (.bool b407), v408, v409, v410, v411, v412, v413, v414, v415, v416, v417, v418, v419, v420, v421, v422, v423, v424, v425, v426, v427, v428, v429, v430, v431, v432, (iz a14), (.int .u64 (IntKind.wrap .u64 a14)), (.str s236), (iz (((List.length s236) : Nat) : Int)), (iz (IntKind.wrap .i64 (8 * (((List.length s236) : Nat) : Int)))), (.int .u64 (IntKind.wrap .u64 (IntKind.wrap .i64 (8 * (((List.length s236) : Nat) : Int))))), (.int .u64 (Int.tmod (IntKind.wrap .u64 a14) (IntKind.wrap .u64 (IntKind.wrap .i64 (8 * (((List.length s236) : Nat) : Int)))))), (iz (IntKind.wrap .i64 (Int.tmod (IntKind.wrap .u64 a14) (IntKind.wrap .u64 (IntKind.wrap .i64 (8 * (((List.length s236) : Nat) : Int))))))), v239, (iz (IntKind.wrap .i64 (Int.tmod (IntKind.wrap .u64 a14) (IntKind.wrap .u64 (IntKind.wrap .i64 (8 * (((List.length s236) : Nat) : Int))))))), (iz (IntKind.wrap .i64 (Int.tdiv (IntKind.wrap .i64 (Int.tmod (IntKind.wrap .u64 a14) (IntKind.wrap .u64 (IntKind.wrap .i64 (8 * (((List.length s236) : Nat) : Int)))))) 8))), v433, (.int .u8 x437), (iz (IntKind.wrap .i64 (Int.tmod (IntKind.wrap .u64 a14) (IntKind.wrap .u64 (IntKind.wrap .i64 (8 * (((List.length s236) : Nat) : Int))))))), (iz (Int.tmod (IntKind.wrap .i64 (Int.tmod (IntKind.wrap .u64 a14) (IntKind.wrap .u64 (IntKind.wrap .i64 (8 * (((List.length s236) : Nat) : Int)))))) 8)), (.int .u8 (IntKind.wrap .u8 (1 * (2 ^ (min (Int.toNat (Int.tmod (IntKind.wrap .i64 (Int.tmod (IntKind.wrap .u64 a14) (IntKind.wrap .u64 (IntKind.wrap .i64 (8 * (((List.length s236) : Nat) : Int)))))) 8)) 8))))), (.int .u8 (bits .xor .u8 x437 (IntKind.wrap .u8 (1 * (2 ^ (min (Int.toNat (Int.tmod (IntKind.wrap .i64 (Int.tmod (IntKind.wrap .u64 a14) (IntKind.wrap .u64 (IntKind.wrap .i64 (8 * (((List.length s236) : Nat) : Int)))))) 8)) 8)))))), v438, v237, (.str s444), v239, (.str s447), v448, (iz x452), (iz x459), bt, v503, (.str s507), (iz x556), v557, v558, v559, v560, v561, (.bool b562), (.bool b563), v564, v565, v566, v567, v568, v569, v570, v571, v572, v573, v574, v575, (.str s507), (.str s236), (.bool (!(s507 == s236))), bf, tz, tz, bf, bf, (.str s507), (.str s236), (.bool (s507 == s236)), bt, (iz x555), (.bool (x555 != 0)), bt, tz, bt, bt, bt, v502, v231], (St.H s576)⟩)
 (k577 (.exit 2000000) ⟨[(.agg [(iz a0), (iz a1), (iz a2), (iz a3)]), (.agg [(iz a4), (iz a5), (iz a6), (iz a7), (iz a8), (iz a9), (iz a10), (iz a11), (iz a12)]), (iz (IntKind.wrap .i64 (1 + (IntKind.wrap .i64 (Int.tmod (IntKind.wrap .u64 a13) 3))))), (iz a14), (.int .u32 a15), v0, v2, tz, tz, tz, (.bool b456), (iz x117), (.str s236), (iz (IntKind.wrap .i64 (8 * (IntKind.wrap .i64 ((((List.length s236) : Nat) : Int) - 4))))), (iz (IntKind.wrap .i64 (Int.tmod (IntKind.wrap .u64 a14) (IntKind.wrap .u64 (IntKind.wrap .i64 (8 * (IntKind.wrap .i64 ((((List.length s236) : Nat) : Int) - 4)))))))), v237, v239, (.bool b403), v404, v405, (iz (IntKind.wrap .i64 (Int.tmod (IntKind.wrap .u64 a14) (IntKind.wrap .u64 (IntKind.wrap .i64 (8 * (((List.length s236) : Nat) : Int))))))), tz, (.str s507), (iz x555), (.bool b59), (.bool b60), (.bool b61), v62, v63, v64, v65, (.bool b66), (.bool b67), v68, v69, v70, v71, bf, tz, (iz a13), (.int .u64 (IntKind.wrap .u64 a13)), (.int .u64 (Int.tmod (IntKind.wrap .u64 a13) 3)), (iz (IntKind.wrap .i64 (Int.tmod (IntKind.wrap .u64 a13) 3))), (iz (IntKind.wrap .i64 (1 + (IntKind.wrap .i64 (Int.tmod (IntKind.wrap .u64 a13) 3))))), (.agg [(iz x77), (iz x78), (iz x79), (iz x80)]), (.str s81), (.agg [(iz x85), (iz x86), (iz x87), (iz x88), (iz x89), (iz x90), (iz x91), (iz x92), (iz x93)]), (.str s94), (iz (IntKind.wrap .i64 (1 + (IntKind.wrap .i64 (Int.tmod (IntKind.wrap .u64 a13) 3))))), (.str s95), v96, (iz x100), (iz x117), bt, (iz x117), v232, (.str s236), (.str s236), (iz (((List.length s236) : Nat) : Int)), (iz (IntKind.wrap .i64 ((((List.length s236) : Nat) : Int) - 4))), (iz (IntKind.wrap .i64 (8 * (IntKind.wrap .i64 ((((List.length s236) : Nat) : Int) - 4))))), (iz a14), (.int .u64 (IntKind.wrap .u64 a14)), (iz (IntKind.wrap .i64 (8 * (IntKind.wrap .i64 ((((List.length s236) : Nat) : Int) - 4))))), (.int .u64 (IntKind.wrap .u64 (IntKind.wrap .i64 (8 * (IntKind.wrap .i64 ((((List.length s236) : Nat) : Int) - 4)))))), (.int .u64 (Int.tmod (IntKind.wrap .u64 a14) (IntKind.wrap .u64 (IntKind.wrap .i64 (8 * (IntKind.wrap .i64 ((((List.length s236) : Nat) : Int) - 4))))))), (iz (IntKind.wrap .i64 (Int.tmod (IntKind.wrap .u64 a14) (IntKind.wrap .u64 (IntKind.wrap .i64 (8 * (IntKind.wrap .i64 ((((List.length s236) : Nat) : Int) - 4)))))))), (.str s236), v237, (.str s236), v239, (iz x406), (.bool b407), v408, v409, v410, v411, v412, v413, v414, v415, v416, v417, v418, v419, v420, v421, v422, v423, v424, v425, v426, v427, v428, v429, v430, v431, v432, (iz a14), (.int .u64 (IntKind.wrap .u64 a14)), (.str s236), (iz (((List.length s236) : Nat) : Int)), (iz (IntKind.wrap .i64 (8 * (((List.length s236) : Nat) : Int)))), (.int .u64 (IntKind.wrap .u64 (IntKind.wrap .i64 (8 * (((List.length s236) : Nat) : Int))))), (.int .u64 (Int.tmod (IntKind.wrap .u64 a14) (IntKind.wrap .u64 (IntKind.wrap .i64 (8 * (((List.length s236) : Nat) : Int)))))), (iz (IntKind.wrap .i64 (Int.tmod (IntKind.wrap .u64 a14) (IntKind.wrap .u64 (IntKind.wrap .i64 (8 * (((List.length s236) : Nat) : Int))))))), v239, (iz (IntKind.wrap .i64 (Int.tmod (IntKind.wrap .u64 a14) (IntKind.wrap .u64 (IntKind.wrap .i64 (8 * (((List.length s236) : Nat) : Int))))))), (iz (IntKind.wrap .i64 (Int.tdiv (IntKind.wrap .i64 (Int.tmod (IntKind.wrap .u64 a14) (IntKind.wrap .u64 (IntKind.wrap .i64 (8 * (((List.length s236) : Nat) : Int)))))) 8))), v433, (.int .u8 x437), (iz (IntKind.wrap .i64 (Int.tmod (IntKind.wrap .u64 a14) (IntKind.wrap .u64 (IntKind.wrap .i64 (8 * (((List.length s236) : Nat) : Int))))))), (iz (Int.tmod (IntKind.wrap .i64 (Int.tmod (IntKind.wrap .u64 a14) (IntKind.wrap .u64 (IntKind.wrap .i64 (8 * (((List.length s236) : Nat) : Int)))))) 8)), (.int .u8 (IntKind.wrap .u8 (1 * (2 ^ (min (Int.toNat (Int.tmod (IntKind.wrap .i64 (Int.tmod (IntKind.wrap .u64 a14) (IntKind.wrap .u64 (IntKind.wrap .i64 (8 * (((List.length s236) : Nat) : Int)))))) 8)) 8))))), (.int .u8 (bits .xor .u8 x437 (IntKind.wrap .u8 (1 * (2 ^ (min (Int.toNat (Int.tmod (IntKind.wrap .i64 (Int.tmod (IntKind.wrap .u64 a14) (IntKind.wrap .u64 (IntKind.wrap .i64 (8 * (((List.length s236) : Nat) : Int)))))) 8)) 8)))))), v438, v237, (.str s444), v239, (.str s447), v448, (iz x452), (iz x459), bt, v503, (.str s507), (iz x556), v557, v558, v559, v560, v561, (.bool b562), (.bool b563), v564, v565, v566, v567, v568, v569, v570, v571, v572, v573, v574, v575, (.str s507), (.str s236), (.bool (!(s507 == s236))), bf, tz, tz, bf, bf, (.str s507), (.str s236), (.bool (s507 == s236)), bt, (iz x555), (.bool (x555 != 0)), bf, (.bool b403), (.bool b403), (.bool b403), (.bool b403), v502, v231], (St.H s576)⟩))
 (k577 (.exit 2000000) ⟨[(.agg [(iz a0), (iz a1), (iz a2), (iz a3)]), (.agg [(iz a4), (iz a5), (iz a6), (iz a7), (iz a8), (iz a9), (iz a10), (iz a11), (iz a12)]), (iz (IntKind.wrap .i64 (1 + (IntKind.wrap .i64 (Int.tmod (IntKind.wrap .u64 a13) 3))))), (iz a14), (.int .u32 a15), v0, v2, tz, tz, tz, (.bool b456), (iz x117), (.str s236), (iz (IntKind.wrap .i64 (8 * (IntKind.wrap .i64 ((((List.length s236) : Nat) : Int) - 4))))), (iz (IntKind.wrap .i64 (Int.tmod (IntKind.wrap .u64 a14) (IntKind.wrap .u64 (IntKind.wrap .i64 (8 * (IntKind.wrap .i64 ((((List.length s236) : Nat) : Int) - 4)))))))), v237, v239, (.bool b403), v404, v405, (iz (IntKind.wrap .i64 (Int.tmod (IntKind.wrap .u64 a14) (IntKind.wrap .u64 (IntKind.wrap .i64 (8 * (((List.length s236) : Nat) : Int))))))), tz, (.str s507), (iz x555), (.bool b59), (.bool b60), (.bool b61), v62, v63, v64, v65, (.bool b66), (.bool b67), v68, v69, v70, v71, bf, tz, (iz a13), (.int .u64 (IntKind.wrap .u64 a13)), (.int .u64 (Int.tmod (IntKind.wrap .u64 a13) 3)), (iz (IntKind.wrap .i64 (Int.tmod (IntKind.wrap .u64 a13) 3))), (iz (IntKind.wrap .i64 (1 + (IntKind.wrap .i64 (Int.tmod (IntKind.wrap .u64 a13) 3))))), (.agg [(iz x77), (iz x78), (iz x79), (iz x80)]), (.str s81), (.agg [(iz x85), (iz x86), (iz x87), (iz x88), (iz x89), (iz x90), (iz x91), (iz x92), (iz x93)]), (.str s94), (iz (IntKind.wrap .i64 (1 + (IntKind.wrap .i64 (Int.tmod (IntKind.wrap .u64 a13) 3))))), (.str s95), v96, (iz x100), (iz x117), bt, (iz x117), v232, (.str s236), (.str s236), (iz (((List.length s236) : Nat) : Int)), (iz (IntKind.wrap .i64 ((((List.length s236) : Nat) : Int) - 4))), (iz (IntKind.wrap .i64 (8 * (IntKind.wrap .i64 ((((List.length s236) : Nat) : Int) - 4))))), (iz a14), (.int .u64 (IntKind.wrap .u64 a14)), (iz (IntKind.wrap .i64 (8 * (IntKind.wrap .i64 ((((List.length s236) : Nat) : Int) - 4))))), (.int .u64 (IntKind.wrap .u64 (IntKind.wrap .i64 (8 * (IntKind.wrap .i64 ((((List.length s236) : Nat) : Int) - 4)))))), (.int .u64 (Int.tmod (IntKind.wrap .u64 a14) (IntKind.wrap .u64 (IntKind.wrap .i64 (8 * (IntKind.wrap .i64 ((((List.length s236) : Nat) : Int) - 4))))))), (iz (IntKind.wrap .i64 (Int.tmod (IntKind.wrap .u64 a14) (IntKind.wrap .u64 (IntKind.wrap .i64 (8 * (IntKind.wrap .i64 ((((List.length s236) : Nat) : Int) - 4)))))))), (.str s236), v237, (.str s236), v239, (iz x406), (.bool b407), v408, v409, v410, v411, v412, v413, v414, v415, v416, v417, v418, v419, v420, v421, v422, v423, v424, v425, v426, v427, v428, v429, v430, v431, v432, (iz a14), (.int .u64 (IntKind.wrap .u64 a14)), (.str s236), (iz (((List.length s236) : Nat) : Int)), (iz (IntKind.wrap .i64 (8 * (((List.length s236) : Nat) : Int)))), (.int .u64 (IntKind.wrap .u64 (IntKind.wrap .i64 (8 * (((List.length s236) : Nat) : Int))))), (.int .u64 (Int.tmod (IntKind.wrap .u64 a14) (IntKind.wrap .u64 (IntKind.wrap .i64 (8 * (((List.length s236) : Nat) : Int)))))), (iz (IntKind.wrap .i64 (Int.tmod (IntKind.wrap .u64 a14) (IntKind.wrap .u64 (IntKind.wrap .i64 (8 * (((List.length s236) : Nat) : Int))))))), v239, (iz (IntKind.wrap .i64 (Int.tmod (IntKind.wrap .u64 a14) (IntKind.wrap .u64 (IntKind.wrap .i64 (8 * (((List.length s236) : Nat) : Int))))))), (iz (IntKind.wrap .i64 (Int.tdiv (IntKind.wrap .i64 (Int.tmod (IntKind.wrap .u64 a14) (IntKind.wrap .u64 (IntKind.wrap .i64 (8 * (((List.length s236) : Nat) : Int)))))) 8))), v433, (.int .u8 x437), (iz (IntKind.wrap .i64 (Int.tmod (IntKind.wrap .u64 a14) (IntKind.wrap .u64 (IntKind.wrap .i64 (8 * (((List.length s236) : Nat) : Int))))))), (iz (Int.tmod (IntKind.wrap .i64 (Int.tmod (IntKind.wrap .u64 a14) (IntKind.wrap .u64 (IntKind.wrap .i64 (8 * (((List.length s236) : Nat) : Int)))))) 8)), (.int .u8 (IntKind.wrap .u8 (1 * (2 ^ (min (Int.toNat (Int.tmod (IntKind.wrap .i64 (Int.tmod (IntKind.wrap .u64 a14) (IntKind.wrap .u64 (IntKind.wrap .i64 (8 * (((List.length s236) : Nat) : Int)))))) 8)) 8))))), (.int .u8 (bits .xor .u8 x437 (IntKind.wrap .u8 (1 * (2 ^ (min (Int.toNat (Int.tmod (IntKind.wrap .i64 (Int.tmod (IntKind.wrap .u64 a14) (IntKind.wrap .u64 (IntKind.wrap .i64 (8 * (((List.length s236) : Nat) : Int)))))) 8)) 8)))))), v438, v237, (.str s444), v239, (.str s447), v448, (iz x452), (iz x459), bt, v503, (.str s507), (iz x556), v557, v558, v559, v560, v561, (.bool b562), (.bool b563), v564, v565, v566, v567, v568, v569, v570, v571, v572, v573, v574, v575, (.str s507), (.str s236), (.bool (!(s507 == s236))), bf, tz, tz, bf, bf, (.str s507), (.str s236), (.bool (s507 == s236)), bf, tz, tz, tz, tz, tz, bf, bf, v502, v231], (St.H s576)⟩)))
 (none)
def r6X9_0 (C : Cb) (d : Nat) (a0 a1 a2 a3 a4 a5 a6 a7 a8 a9 a10 a11 a12 a13 a14 a15 : Int) (v0 v2 : AV) (b59 b60 b61 : Bool) (v62 v63 v64 v65 : AV) (b66 b67 : Bool) (v68 v69 v70 v71 : AV) (x77 x78 x79 x80 : Int) (s81 : List UInt8) (x85 x86 x87 x88 x89 x90 x91 x92 x93 : Int) (s94 : List UInt8) (s95 : List UInt8) (v96 : AV) (x100 x117 : Int) (v231 v232 : AV) (s236 : List UInt8) (v237 v239 : AV) (b403 : Bool) (v404 v405 : AV) (x406 : Int) (b407 : Bool) (v408 v409 v410 v411 v412 v413 v414 v415 v416 v417 v418 v419 v420 v421 v422 v423 v424 v425 v426 v427 v428 v429 v430 v431 v432 v433 : AV) (x437 : Int) (v438 : AV) (s444 : List UInt8) (s447 : List UInt8) (v448 : AV) (x452 : Int) (k454 : Ex → St → Ans) (b456 : Bool) (x459 : Int) (v502 v503 : AV) (s507 : List UInt8) (x555 x556 : Int) (v557 v558 v559 v560 v561 : AV) (b562 b563 : Bool) (v564 v565 v566 v567 v568 v569 v570 v571 v572 v573 v574 v575 : AV) : St → Ans := fun s598 =>
 cnd ((List.length s598.env) == 167)
 (C.same s598.env[0]? (.agg [(iz a0), (iz a1), (iz a2), (iz a3)]) <|
 C.same s598.env[1]? (.agg [(iz a4), (iz a5), (iz a6), (iz a7), (iz a8), (iz a9), (iz a10), (iz a11), (iz a12)]) <|
 C.same s598.env[2]? (iz (IntKind.wrap .i64 (1 + (IntKind.wrap .i64 (Int.tmod (IntKind.wrap .u64 a13) 3))))) <|
 C.same s598.env[3]? (iz a14) <|
 C.same s598.env[4]? (.int .u32 a15) <|
 C.same s598.env[5]? v0 <|
 C.same s598.env[6]? v2 <|
 C.same s598.env[7]? tz <|
 C.same s598.env[8]? tz <|
 C.same s598.env[9]? tz <|
 C.same s598.env[10]? (.bool b456) <|
 C.same s598.env[11]? (iz x117) <|
 C.same s598.env[12]? (.str s236) <|
 C.same s598.env[13]? (iz (IntKind.wrap .i64 (8 * (IntKind.wrap .i64 ((((List.length s236) : Nat) : Int) - 4))))) <|
 C.same s598.env[14]? (iz (IntKind.wrap .i64 (Int.tmod (IntKind.wrap .u64 a14) (IntKind.wrap .u64 (IntKind.wrap .i64 (8 * (IntKind.wrap .i64 ((((List.length s236) : Nat) : Int) - 4)))))))) <|
 C.same s598.env[15]? v237 <|
 C.same s598.env[16]? v239 <|
 C.same s598.env[17]? (.bool b403) <|
 C.same s598.env[18]? v404 <|
 C.same s598.env[19]? v405 <|
 C.same s598.env[20]? (iz (IntKind.wrap .i64 (Int.tmod (IntKind.wrap .u64 a14) (IntKind.wrap .u64 (IntKind.wrap .i64 (8 * (((List.length s236) : Nat) : Int))))))) <|
 C.same s598.env[21]? tz <|
 C.same s598.env[22]? (.str s507) <|
 C.same s598.env[23]? (iz x555) <|
 C.same s598.env[24]? (.bool b59) <|
 C.same s598.env[25]? (.bool b60) <|
 C.same s598.env[26]? (.bool b61) <|
 C.same s598.env[27]? v62 <|
 C.same s598.env[28]? v63 <|
 C.same s598.env[29]? v64 <|
 C.same s598.env[30]? v65 <|
 C.same s598.env[31]? (.bool b66) <|
 C.same s598.env[32]? (.bool b67) <|
 C.same s598.env[33]? v68 <|
 C.same s598.env[34]? v69 <|
 C.same s598.env[35]? v70 <|
 C.same s598.env[36]? v71 <|
 C.same s598.env[37]? bf <|
 C.same s598.env[38]? tz <|
 C.same s598.env[39]? (iz a13) <|
 C.same s598.env[40]? (.int .u64 (IntKind.wrap .u64 a13)) <|
 C.same s598.env[41]? (.int .u64 (Int.tmod (IntKind.wrap .u64 a13) 3)) <|
 C.same s598.env[42]? (iz (IntKind.wrap .i64 (Int.tmod (IntKind.wrap .u64 a13) 3))) <|
 C.same s598.env[43]? (iz (IntKind.wrap .i64 (1 + (IntKind.wrap .i64 (Int.tmod (IntKind.wrap .u64 a13) 3))))) <|
 C.same s598.env[44]? (.agg [(iz x77), (iz x78), (iz x79), (iz x80)]) <|
 C.same s598.env[45]? (.str s81) <|
 C.same s598.env[46]? (.agg [(iz x85), (iz x86), (iz x87), (iz x88), (iz x89), (iz x90), (iz x91), (iz x92), (iz x93)]) <|
 C.same s598.env[47]? (.str s94) <|
 C.same s598.env[48]? (iz (IntKind.wrap .i64 (1 + (IntKind.wrap .i64 (Int.tmod (IntKind.wrap .u64 a13) 3))))) <|
 C.same s598.env[49]? (.str s95) <|
 C.same s598.env[50]? v96 <|
 C.same s598.env[51]? (iz x100) <|
 C.same s598.env[52]? (iz x117) <|
 C.same s598.env[53]? bt <|
 C.same s598.env[54]? (iz x117) <|
 C.same s598.env[55]? v232 <|
 C.same s598.env[56]? (.str s236) <|
 C.same s598.env[57]? (.str s236) <|
 C.same s598.env[58]? (iz (((List.length s236) : Nat) : Int)) <|
 C.same s598.env[59]? (iz (IntKind.wrap .i64 ((((List.length s236) : Nat) : Int) - 4))) <|
 C.same s598.env[60]? (iz (IntKind.wrap .i64 (8 * (IntKind.wrap .i64 ((((List.length s236) : Nat) : Int) - 4))))) <|
 C.same s598.env[61]? (iz a14) <|
 C.same s598.env[62]? (.int .u64 (IntKind.wrap .u64 a14)) <|
 C.same s598.env[63]? (iz (IntKind.wrap .i64 (8 * (IntKind.wrap .i64 ((((List.length s236) : Nat) : Int) - 4))))) <|
 C.same s598.env[64]? (.int .u64 (IntKind.wrap .u64 (IntKind.wrap .i64 (8 * (IntKind.wrap .i64 ((((List.length s236) : Nat) : Int) - 4)))))) <|
 C.same s598.env[65]? (.int .u64 (Int.tmod (IntKind.wrap .u64 a14) (IntKind.wrap .u64 (IntKind.wrap .i64 (8 * (IntKind.wrap .i64 ((((List.length s236) : Nat) : Int) - 4))))))) <|
 C.same s598.env[66]? (iz (IntKind.wrap .i64 (Int.tmod (IntKind.wrap .u64 a14) (IntKind.wrap .u64 (IntKind.wrap .i64 (8 * (IntKind.wrap .i64 ((((List.length s236) : Nat) : Int) - 4)))))))) <|
 C.same s598.env[67]? (.str s236) <|
 C.same s598.env[68]? v237 <|
 C.same s598.env[69]? (.str s236) <|
 C.same s598.env[70]? v239 <|
 C.same s598.env[71]? (iz x406) <|
 C.same s598.env[72]? (.bool b407) <|
 C.same s598.env[73]? v408 <|
 C.same s598.env[74]? v409 <|
 C.same s598.env[75]? v410 <|
 C.same s598.env[76]? v411 <|
 C.same s598.env[77]? v412 <|
 C.same s598.env[78]? v413 <|
 C.same s598.env[79]? v414 <|
 C.same s598.env[80]? v415 <|
 C.same s598.env[81]? v416 <|
 C.same s598.env[82]? v417 <|
 C.same s598.env[83]? v418 <|
 C.same s598.env[84]? v419 <|
 C.same s598.env[85]? v420 <|
 C.same s598.env[86]? v421 <|
 C.same s598.env[87]? v422 <|
 C.same s598.env[88]? v423 <|
 C.same s598.env[89]? v424 <|
 C.same s598.env[90]? v425 <|
 C.same s598.env[91]? v426 <|
 C.same s598.env[92]? v427 <|
 C.same s598.env[93]? v428 <|
 C.same s598.env[94]? v429 <|
 C.same s598.env[95]? v430 <|
 C.same s598.env[96]? v431 <|
 C.same s598.env[97]? v432 <|
 C.same s598.env[98]? (iz a14) <|
 C.same s598.env[99]? (.int .u64 (IntKind.wrap .u64 a14)) <|
 C.same s598.env[100]? (.str s236) <|
 C.same s598.env[101]? (iz (((List.length s236) : Nat) : Int)) <|
 C.same s598.env[102]? (iz (IntKind.wrap .i64 (8 * (((List.length s236) : Nat) : Int)))) <|
 C.same s598.env[103]? (.int .u64 (IntKind.wrap .u64 (IntKind.wrap .i64 (8 * (((List.length s236) : Nat) : Int))))) <|
 C.same s598.env[104]? (.int .u64 (Int.tmod (IntKind.wrap .u64 a14) (IntKind.wrap .u64 (IntKind.wrap .i64 (8 * (((List.length s236) : Nat) : Int)))))) <|
 C.same s598.env[105]? (iz (IntKind.wrap .i64 (Int.tmod (IntKind.wrap .u64 a14) (IntKind.wrap .u64 (IntKind.wrap .i64 (8 * (((List.length s236) : Nat) : Int))))))) <|
 C.same s598.env[106]? v239 <|
 C.same s598.env[107]? (iz (IntKind.wrap .i64 (Int.tmod (IntKind.wrap .u64 a14) (IntKind.wrap .u64 (IntKind.wrap .i64 (8 * (((List.length s236) : Nat) : Int))))))) <|
 C.same s598.env[108]? (iz (IntKind.wrap .i64 (Int.tdiv (IntKind.wrap .i64 (Int.tmod (IntKind.wrap .u64 a14) (IntKind.wrap .u64 (IntKind.wrap .i64 (8 * (((List.length s236) : Nat) : Int)))))) 8))) <|
 C.same s598.env[109]? v433 <|
 C.same s598.env[110]? (.int .u8 x437) <|
 C.same s598.env[111]? (iz (IntKind.wrap .i64 (Int.tmod (IntKind.wrap .u64 a14) (IntKind.wrap .u64 (IntKind.wrap .i64 (8 * (((List.length s236) : Nat) : Int))))))) <|
 C.same s598.env[112]? (iz (Int.tmod (IntKind.wrap .i64 (Int.tmod (IntKind.wrap .u64 a14) (IntKind.wrap .u64 (IntKind.wrap .i64 (8 * (((List.length s236) : Nat) : Int)))))) 8)) <|
 C.same s598.env[113]? (.int .u8 (IntKind.wrap .u8 (1 * (2 ^ (min (Int.toNat (Int.tmod (IntKind.wrap .i64 (Int.tmod (IntKind.wrap .u64 a14) (IntKind.wrap .u64 (IntKind.wrap .i64 (8 * (((List.length s236) : Nat) : Int)))))) 8)) 8))))) <|
 C.same s598.env[114]? (.int .u8 (bits .xor .u8 x437 (IntKind.wrap .u8 (1 * (2 ^ (min (Int.toNat (Int.tmod (IntKind.wrap .i64 (Int.tmod (IntKind.wrap .u64 a14) (IntKind.wrap .u64 (IntKind.wrap .i64 (8 * (((List.length s236) : Nat) : Int)))))) 8)) 8)))))) <|
 C.same s598.env[115]? v438 <|
 C.same s598.env[116]? v237 <|
 C.same s598.env[117]? (.str s444) <|
 C.same s598.env[118]? v239 <|
 C.same s598.env[119]? (.str s447) <|
 C.same s598.env[120]? v448 <|
 C.same s598.env[121]? (iz x452) <|
 C.same s598.env[122]? (iz x459) <|
 C.same s598.env[123]? bt <|
 C.same s598.env[124]? v503 <|
 C.same s598.env[125]? (.str s507) <|
 C.same s598.env[126]? (iz x556) <|
 C.same s598.env[127]? v557 <|
 C.same s598.env[128]? v558 <|
 C.same s598.env[129]? v559 <|
 C.same s598.env[130]? v560 <|
 C.same s598.env[131]? v561 <|
 C.same s598.env[132]? (.bool b562) <|
 C.same s598.env[133]? (.bool b563) <|
 C.same s598.env[134]? v564 <|
 C.same s598.env[135]? v565 <|
 C.same s598.env[136]? v566 <|
 C.same s598.env[137]? v567 <|
 C.same s598.env[138]? v568 <|
 C.same s598.env[139]? v569 <|
 C.same s598.env[140]? v570 <|
 C.same s598.env[141]? v571 <|
 C.same s598.env[142]? v572 <|
 C.same s598.env[143]? v573 <|
 C.same s598.env[144]? v574 <|
 C.same s598.env[145]? v575 <|
 C.str s598.env[146]? fun s599 =>
 C.str s598.env[147]? fun s600 =>
 C.bool s598.env[148]? fun b601 =>
 C.bool s598.env[149]? fun b602 =>
 C.any s598.env[150]? fun v603 =>
 C.any s598.env[151]? fun v604 =>
 C.bool s598.env[152]? fun b605 =>
 C.bool s598.env[153]? fun b606 =>
 C.any s598.env[154]? fun v607 =>
 C.any s598.env[155]? fun v608 =>
 C.any s598.env[156]? fun v609 =>
 C.any s598.env[157]? fun v610 =>
 C.any s598.env[158]? fun v611 =>
 C.any s598.env[159]? fun v612 =>
 C.any s598.env[160]? fun v613 =>
 C.any s598.env[161]? fun v614 =>
 C.any s598.env[162]? fun v615 =>
 C.any s598.env[163]? fun v616 =>
 C.bool s598.env[164]? fun b617 =>
 C.same s598.env[165]? v502 <|
 C.same s598.env[166]? v231 <|
 cnd b617
 (k454 .ret ⟨[(.agg [(iz a0), (iz a1), (iz a2), (iz a3)]), (.agg [(iz a4), (iz a5), (iz a6), (iz a7), (iz a8), (iz a9), (iz a10), (iz a11), (iz a12)]), (iz (IntKind.wrap .i64 (1 + (IntKind.wrap .i64 (Int.tmod (IntKind.wrap .u64 a13) 3))))), (iz a14), (.int .u32 a15), v0, v2, tz, tz, tz, bf, (iz x117), (.str s236), (iz (IntKind.wrap .i64 (8 * (IntKind.wrap .i64 ((((List.length s236) : Nat) : Int) - 4))))), (iz (IntKind.wrap .i64 (Int.tmod (IntKind.wrap .u64 a14) (IntKind.wrap .u64 (IntKind.wrap .i64 (8 * (IntKind.wrap .i64 ((((List.length s236) : Nat) : Int) - 4)))))))), v237, v239, (.bool b403), v404, v405, (iz (IntKind.wrap .i64 (Int.tmod (IntKind.wrap .u64 a14) (IntKind.wrap .u64 (IntKind.wrap .i64 (8 * (((List.length s236) : Nat) : Int))))))), tz, (.str s507), (iz x555), (.bool b59), (.bool b60), (.bool b61), v62, v63, v64, v65, (.bool b66), (.bool b67), v68, v69, v70, v71, bf, tz, (iz a13), (.int .u64 (IntKind.wrap .u64 a13)), (.int .u64 (Int.tmod (IntKind.wrap .u64 a13) 3)), (iz (IntKind.wrap .i64 (Int.tmod (IntKind.wrap .u64 a13) 3))), (iz (IntKind.wrap .i64 (1 + (IntKind.wrap .i64 (Int.tmod (IntKind.wrap .u64 a13) 3))))), (.agg [(iz x77), (iz x78), (iz x79), (iz x80)]), (.str s81), (.agg [(iz x85), (iz x86), (iz x87), (iz x88), (iz x89), (iz x90), (iz x91), (iz x92), (iz x93)]), (.str s94), (iz (IntKind.wrap .i64 (1 + (IntKind.wrap .i64 (Int.tmod (IntKind.wrap .u64 a13) 3))))), (.str s95), v96, (iz x100), (iz x117), bt, (iz x117), v232, (.str s236), (.str s236), (iz (((List.length s236) : Nat) : Int)), (iz (IntKind.wrap .i64 ((((List.length s236) : Nat) : Int) - 4))), (iz (IntKind.wrap .i64 (8 * (IntKind.wrap .i64 ((((List.length s236) : Nat) : Int) - 4))))), (iz a14), (.int .u64 (IntKind.wrap .u64 a14)), (iz (IntKind.wrap .i64 (8 * (IntKind.wrap .i64 ((((List.length s236) : Nat) : Int) - 4))))), (.int .u64 (IntKind.wrap .u64 (IntKind.wrap .i64 (8 * (IntKind.wrap .i64 ((((List.length s236) : Nat) : Int) - 4)))))), (.int .u64 (Int.tmod (IntKind.wrap .u64 a14) (IntKind.wrap .u64 (IntKind.wrap .i64 (8 * (IntKind.wrap .i64 ((((List.length s236) : Nat) : Int) - 4))))))), (iz (IntKind.wrap .i64 (Int.tmod (IntKind.wrap .u64 a14) (IntKind.wrap .u64 (IntKind.wrap .i64 (8 * (IntKind.wrap .i64 ((((List.length s236) : Nat) : Int) - 4)))))))), (.str s236), v237, (.str s236), v239, (iz x406), (.bool b407), v408, v409, v410, v411, v412, v413, v414, v415, v416, v417, v418, v419, v420, v421, v422, v423, v424, v425, v426, v427, v428, v429, v430, v431, v432, (iz a14), (.int .u64 (IntKind.wrap .u64 a14)), (.str s236), (iz (((List.length s236) : Nat) : Int)), (iz (IntKind.wrap .i64 (8 * (((List.length s236) : Nat) : Int)))), (.int .u64 (IntKind.wrap .u64 (IntKind.wrap .i64 (8 * (((List.length s236) : Nat) : Int))))), (.int .u64 (Int.tmod (IntKind.wrap .u64 a14) (IntKind.wrap .u64 (IntKind.wrap .i64 (8 * (((List.length s236) : Nat) : Int)))))), (iz (IntKind.wrap .i64 (Int.tmod (IntKind.wrap .u64 a14) (IntKind.wrap .u64 (IntKind.wrap .i64 (8 * (((List.length s236) : Nat) : Int))))))), v239, (iz (IntKind.wrap .i64 (Int.tmod (IntKind.wrap .u64 a14) (IntKind.wrap .u64 (IntKind.wrap .i64 (8 * (((List.length s236) : Nat) : Int))))))), (iz (IntKind.wrap .i64 (Int.tdiv (IntKind.wrap .i64 (Int.tmod (IntKind.wrap .u64 a14) (IntKind.wrap .u64 (IntKind.wrap .i64 (8 * (((List.length s236) : Nat) : Int)))))) 8))), v433, (.int .u8 x437), (iz (IntKind.wrap .i64 (Int.tmod (IntKind.wrap .u64 a14) (IntKind.wrap .u64 (IntKind.wrap .i64 (8 * (((List.length s236) : Nat) : Int))))))), (iz (Int.tmod (IntKind.wrap .i64 (Int.tmod (IntKind.wrap .u64 a14) (IntKind.wrap .u64 (IntKind.wrap .i64 (8 * (((List.length s236) : Nat) : Int)))))) 8)), (.int .u8 (IntKind.wrap .u8 (1 * (2 ^ (min (Int.toNat (Int.tmod (IntKind.wrap .i64 (Int.tmod (IntKind.wrap .u64 a14) (IntKind.wrap .u64 (IntKind.wrap .i64 (8 * (((List.length s236) : Nat) : Int)))))) 8)) 8))))), (.int .u8 (bits .xor .u8 x437 (IntKind.wrap .u8 (1 * (2 ^ (min (Int.toNat (Int.tmod (IntKind.wrap .i64 (Int.tmod (IntKind.wrap .u64 a14) (IntKind.wrap .u64 (IntKind.wrap .i64 (8 * (((List.length s236) : Nat) : Int)))))) 8)) 8)))))), v438, v237, (.str s444), v239, (.str s447), v448, (iz x452), (iz x459), bt, v503, (.str s507), (iz x556), v557, v558, v559, v560, v561, (.bool b562), (.bool b563), v564, v565, v566, v567, v568, v569, v570, v571, v572, v573, v574, v575, (.str s599), (.str s600), (.bool b601), (.bool b602), v603, v604, (.bool b605), (.bool b606), v607, v608, v609, v610, v611, v612, v613, v614, v615, v616, bt, v502, v231], (St.H s598)⟩)
 (k454 .normal ⟨[(.agg [(iz a0), (iz a1), (iz a2), (iz a3)]), (.agg [(iz a4), (iz a5), (iz a6), (iz a7), (iz a8), (iz a9), (iz a10), (iz a11), (iz a12)]), (iz (IntKind.wrap .i64 (1 + (IntKind.wrap .i64 (Int.tmod (IntKind.wrap .u64 a13) 3))))), (iz a14), (.int .u32 a15), v0, v2, tz, tz, tz, (.bool b456), (iz x117), (.str s236), (iz (IntKind.wrap .i64 (8 * (IntKind.wrap .i64 ((((List.length s236) : Nat) : Int) - 4))))), (iz (IntKind.wrap .i64 (Int.tmod (IntKind.wrap .u64 a14) (IntKind.wrap .u64 (IntKind.wrap .i64 (8 * (IntKind.wrap .i64 ((((List.length s236) : Nat) : Int) - 4)))))))), v237, v239, (.bool b403), v404, v405, (iz (IntKind.wrap .i64 (Int.tmod (IntKind.wrap .u64 a14) (IntKind.wrap .u64 (IntKind.wrap .i64 (8 * (((List.length s236) : Nat) : Int))))))), tz, (.str s507), (iz x555), (.bool b59), (.bool b60), (.bool b61), v62, v63, v64, v65, (.bool b66), (.bool b67), v68, v69, v70, v71, bf, tz, (iz a13), (.int .u64 (IntKind.wrap .u64 a13)), (.int .u64 (Int.tmod (IntKind.wrap .u64 a13) 3)), (iz (IntKind.wrap .i64 (Int.tmod (IntKind.wrap .u64 a13) 3))), (iz (IntKind.wrap .i64 (1 + (IntKind.wrap .i64 (Int.tmod (IntKind.wrap .u64 a13) 3))))), (.agg [(iz x77), (iz x78), (iz x79), (iz x80)]), (.str s81), (.agg [(iz x85), (iz x86), (iz x87), (iz x88), (iz x89), (iz x90), (iz x91), (iz x92), (iz x93)]), (.str s94), (iz (IntKind.wrap .i64 (1 + (IntKind.wrap .i64 (Int.tmod (IntKind.wrap .u64 a13) 3))))), (.str s95), v96, (iz x100), (iz x117), bt, (iz x117), v232, (.str s236), (.str s236), (iz (((List.length s236) : Nat) : Int)), (iz (IntKind.wrap .i64 ((((List.length s236) : Nat) : Int) - 4))), (iz (IntKind.wrap .i64 (8 * (IntKind.wrap .i64 ((((List.length s236) : Nat) : Int) - 4))))), (iz a14), (.int .u64 (IntKind.wrap .u64 a14)), (iz (IntKind.wrap .i64 (8 * (IntKind.wrap .i64 ((((List.length s236) : Nat) : Int) - 4))))), (.int .u64 (IntKind.wrap .u64 (IntKind.wrap .i64 (8 * (IntKind.wrap .i64 ((((List.length s236) : Nat) : Int) - 4)))))), (.int .u64 (Int.tmod (IntKind.wrap .u64 a14) (IntKind.wrap .u64 (IntKind.wrap .i64 (8 * (IntKind.wrap .i64 ((((List.length s236) : Nat) : Int) - 4))))))), (iz (IntKind.wrap .i64 (Int.tmod (IntKind.wrap .u64 a14) (IntKind.wrap .u64 (IntKind.wrap .i64 (8 * (IntKind.wrap .i64 ((((List.length s236) : Nat) : Int) - 4)))))))), (.str s236), v237, (.str s236), v239, (iz x406), (.bool b407), v408, v409, v410, v411, v412, v413, v414, v415, v416, v417, v418, v419, v420, v421, v422, v423, v424, v425, v426, v427, v428, v429, v430, v431, v432, (iz a14), (.int .u64 (IntKind.wrap .u64 a14)), (.str s236), (iz (((List.length s236) : Nat) : Int)), (iz (IntKind.wrap .i64 (8 * (((List.length s236) : Nat) : Int)))), (.int .u64 (IntKind.wrap .u64 (IntKind.wrap .i64 (8 * (((List.length s236) : Nat) : Int))))), (.int .u64 (Int.tmod (IntKind.wrap .u64 a14) (IntKind.wrap .u64 (IntKind.wrap .i64 (8 * (((List.length s236) : Nat) : Int)))))), (iz (IntKind.wrap .i64 (Int.tmod (IntKind.wrap .u64 a14) (IntKind.wrap .u64 (IntKind.wrap .i64 (8 * (((List.length s236) : Nat) : Int))))))), v239, (iz (IntKind.wrap .i64 (Int.tmod (IntKind.wrap .u64 a14) (IntKind.wrap .u64 (IntKind.wrap .i64 (8 * (((List.length s236) : Nat) : Int))))))), (iz (IntKind.wrap .i64 (Int.tdiv (IntKind.wrap .i64 (Int.tmod (IntKind.wrap .u64 a14) (IntKind.wrap .u64 (IntKind.wrap .i64 (8 * (((List.length s236) : Nat) : Int)))))) 8))), v433, (.int .u8 x437), (iz (IntKind.wrap .i64 (Int.tmod (IntKind.wrap .u64 a14) (IntKind.wrap .u64 (IntKind.wrap .i64 (8 * (((List.length s236) : Nat) : Int))))))), (iz (Int.tmod (IntKind.wrap .i64 (Int.tmod (IntKind.wrap .u64 a14) (IntKind.wrap .u64 (IntKind.wrap .i64 (8 * (((List.length s236) : Nat) : Int)))))) 8)), (.int .u8 (IntKind.wrap .u8 (1 * (2 ^ (min (Int.toNat (Int.tmod (IntKind.wrap .i64 (Int.tmod (IntKind.wrap .u64 a14) (IntKind.wrap .u64 (IntKind.wrap .i64 (8 * (((List.length s236) : Nat) : Int)))))) 8)) 8))))), (.int .u8 (bits .xor .u8 x437 (IntKind.wrap .u8 (1 * (2 ^ (min (Int.toNat (Int.tmod (IntKind.wrap .i64 (Int.tmod (IntKind.wrap .u64 a14) (IntKind.wrap .u64 (IntKind.wrap .i64 (8 * (((List.length s236) : Nat) : Int)))))) 8)) 8)))))), v438, v237, (.str s444), v239, (.str s447), v448, (iz x452), (iz (IntKind.wrap .i64 (x459 + 1))), bt, v503, (.str s507), (iz x556), v557, v558, v559, v560, v561, (.bool b562), (.bool b563), v564, v565, v566, v567, v568, v569, v570, v571, v572, v573, v574, v575, (.str s599), (.str s600), (.bool b601), (.bool b602), v603, v604, (.bool b605), (.bool b606), v607, v608, v609, v610, v611, v612, v613, v614, v615, v616, bf, (iz (IntKind.wrap .i64 (x459 + 1))), v231], (St.H s598)⟩))
 (none)
def r6E9 (C : Cb) (d : Nat) (a0 a1 a2 a3 a4 a5 a6 a7 a8 a9 a10 a11 a12 a13 a14 a15 : Int) (v0 v2 : AV) (b59 b60 b61 : Bool) (v62 v63 v64 v65 : AV) (b66 b67 : Bool) (v68 v69 v70 v71 : AV) (x77 x78 x79 x80 : Int) (s81 : List UInt8) (x85 x86 x87 x88 x89 x90 x91 x92 x93 : Int) (s94 : List UInt8) (s95 : List UInt8) (v96 : AV) (x100 x117 : Int) (v231 v232 : AV) (s236 : List UInt8) (v237 v239 : AV) (b403 : Bool) (v404 v405 : AV) (x406 : Int) (b407 : Bool) (v408 v409 v410 v411 v412 v413 v414 v415 v416 v417 v418 v419 v420 v421 v422 v423 v424 v425 v426 v427 v428 v429 v430 v431 v432 v433 : AV) (x437 : Int) (v438 : AV) (s444 : List UInt8) (s447 : List UInt8) (v448 : AV) (x452 : Int) (k454 : Ex → St → Ans) (b456 : Bool) (x459 : Int) (v502 v503 : AV) (s507 : List UInt8) (x555 x556 : Int) (v557 v558 v559 v560 v561 : AV) (b562 b563 : Bool) (v564 v565 v566 v567 v568 v569 v570 v571 v572 v573 v574 v575 : AV) : St → Ans := fun s578 =>
 cnd ((List.length s578.env) == 167)
 (C.same s578.env[0]? (.agg [(iz a0), (iz a1), (iz a2), (iz a3)]) <|
 C.same s578.env[1]? (.agg [(iz a4), (iz a5), (iz a6), (iz a7), (iz a8), (iz a9), (iz a10), (iz a11), (iz a12)]) <|
 C.same s578.env[2]? (iz (IntKind.wrap .i64 (1 + (IntKind.wrap .i64 (Int.tmod (IntKind.wrap .u64 a13) 3))))) <|
 C.same s578.env[3]? (iz a14) <|
 C.same s578.env[4]? (.int .u32 a15) <|
 C.same s578.env[5]? v0 <|
 C.same s578.env[6]? v2 <|
 C.same s578.env[7]? tz <|
 C.same s578.env[8]? tz <|
 C.same s578.env[9]? tz <|
 C.same s578.env[10]? (.bool b456) <|
 C.same s578.env[11]? (iz x117) <|
 C.same s578.env[12]? (.str s236) <|
 C.same s578.env[13]? (iz (IntKind.wrap .i64 (8 * (IntKind.wrap .i64 ((((List.length s236) : Nat) : Int) - 4))))) <|
 C.same s578.env[14]? (iz (IntKind.wrap .i64 (Int.tmod (IntKind.wrap .u64 a14) (IntKind.wrap .u64 (IntKind.wrap .i64 (8 * (IntKind.wrap .i64 ((((List.length s236) : Nat) : Int) - 4)))))))) <|
 C.same s578.env[15]? v237 <|
 C.same s578.env[16]? v239 <|
 C.same s578.env[17]? (.bool b403) <|
 C.same s578.env[18]? v404 <|
 C.same s578.env[19]? v405 <|
 C.same s578.env[20]? (iz (IntKind.wrap .i64 (Int.tmod (IntKind.wrap .u64 a14) (IntKind.wrap .u64 (IntKind.wrap .i64 (8 * (((List.length s236) : Nat) : Int))))))) <|
 C.same s578.env[21]? tz <|
 C.same s578.env[22]? (.str s507) <|
 C.same s578.env[23]? (iz x555) <|
 C.same s578.env[24]? (.bool b59) <|
 C.same s578.env[25]? (.bool b60) <|
 C.same s578.env[26]? (.bool b61) <|
 C.same s578.env[27]? v62 <|
 C.same s578.env[28]? v63 <|
 C.same s578.env[29]? v64 <|
 C.same s578.env[30]? v65 <|
 C.same s578.env[31]? (.bool b66) <|
 C.same s578.env[32]? (.bool b67) <|
 C.same s578.env[33]? v68 <|
 C.same s578.env[34]? v69 <|
 C.same s578.env[35]? v70 <|
 C.same s578.env[36]? v71 <|
 C.same s578.env[37]? bf <|
 C.same s578.env[38]? tz <|
 C.same s578.env[39]? (iz a13) <|
 C.same s578.env[40]? (.int .u64 (IntKind.wrap .u64 a13)) <|
 C.same s578.env[41]? (.int .u64 (Int.tmod (IntKind.wrap .u64 a13) 3)) <|
 C.same s578.env[42]? (iz (IntKind.wrap .i64 (Int.tmod (IntKind.wrap .u64 a13) 3))) <|
 C.same s578.env[43]? (iz (IntKind.wrap .i64 (1 + (IntKind.wrap .i64 (Int.tmod (IntKind.wrap .u64 a13) 3))))) <|
 C.same s578.env[44]? (.agg [(iz x77), (iz x78), (iz x79), (iz x80)]) <|
 C.same s578.env[45]? (.str s81) <|
 C.same s578.env[46]? (.agg [(iz x85), (iz x86), (iz x87), (iz x88), (iz x89), (iz x90), (iz x91), (iz x92), (iz x93)]) <|
 C.same s578.env[47]? (.str s94) <|
 C.same s578.env[48]? (iz (IntKind.wrap .i64 (1 + (IntKind.wrap .i64 (Int.tmod (IntKind.wrap .u64 a13) 3))))) <|
 C.same s578.env[49]? (.str s95) <|
 C.same s578.env[50]? v96 <|
 C.same s578.env[51]? (iz x100) <|
 C.same s578.env[52]? (iz x117) <|
 C.same s578.env[53]? bt <|
 C.same s578.env[54]? (iz x117) <|
 C.same s578.env[55]? v232 <|
 C.same s578.env[56]? (.str s236) <|
 C.same s578.env[57]? (.str s236) <|
 C.same s578.env[58]? (iz (((List.length s236) : Nat) : Int)) <|
 C.same s578.env[59]? (iz (IntKind.wrap .i64 ((((List.length s236) : Nat) : Int) - 4))) <|
 C.same s578.env[60]? (iz (IntKind.wrap .i64 (8 * (IntKind.wrap .i64 ((((List.length s236) : Nat) : Int) - 4))))) <|
 C.same s578.env[61]? (iz a14) <|
 C.same s578.env[62]? (.int .u64 (IntKind.wrap .u64 a14)) <|
 C.same s578.env[63]? (iz (IntKind.wrap .i64 (8 * (IntKind.wrap .i64 ((((List.length s236) : Nat) : Int) - 4))))) <|
 C.same s578.env[64]? (.int .u64 (IntKind.wrap .u64 (IntKind.wrap .i64 (8 * (IntKind.wrap .i64 ((((List.length s236) : Nat) : Int) - 4)))))) <|
 C.same s578.env[65]? (.int .u64 (Int.tmod (IntKind.wrap .u64 a14) (IntKind.wrap .u64 (IntKind.wrap .i64 (8 * (IntKind.wrap .i64 ((((List.length s236) : Nat) : Int) - 4))))))) <|
 C.same s578.env[66]? (iz (IntKind.wrap .i64 (Int.tmod (IntKind.wrap .u64 a14) (IntKind.wrap .u64 (IntKind.wrap .i64 (8 * (IntKind.wrap .i64 ((((List.length s236) : Nat) : Int) - 4)))))))) <|
 C.same s578.env[67]? (.str s236) <|
 C.same s578.env[68]? v237 <|
 C.same s578.env[69]? (.str s236) <|
 C.same s578.env[70]? v239 <|
 C.same s578.env[71]? (iz x406) <|
 C.same s578.env[72]? (.bool b407) <|
 C.same s578.env[73]? v408 <|
 C.same s578.env[74]? v409 <|
 C.same s578.env[75]? v410 <|
 C.same s578.env[76]? v411 <|
 C.same s578.env[77]? v412 <|
 C.same s578.env[78]? v413 <|
 C.same s578.env[79]? v414 <|
 C.same s578.env[80]? v415 <|
 C.same s578.env[81]? v416 <|
 C.same s578.env[82]? v417 <|
 C.same s578.env[83]? v418 <|
 C.same s578.env[84]? v419 <|
 C.same s578.env[85]? v420 <|
 C.same s578.env[86]? v421 <|
 C.same s578.env[87]? v422 <|
 C.same s578.env[88]? v423 <|
 C.same s578.env[89]? v424 <|
 C.same s578.env[90]? v425 <|
 C.same s578.env[91]? v426 <|
 C.same s578.env[92]? v427 <|
 C.same s578.env[93]? v428 <|
 C.same s578.env[94]? v429 <|
 C.same s578.env[95]? v430 <|
 C.same s578.env[96]? v431 <|
 C.same s578.env[97]? v432 <|
 C.same s578.env[98]? (iz a14) <|
 C.same s578.env[99]? (.int .u64 (IntKind.wrap .u64 a14)) <|
 C.same s578.env[100]? (.str s236) <|
 C.same s578.env[101]? (iz (((List.length s236) : Nat) : Int)) <|
 C.same s578.env[102]? (iz (IntKind.wrap .i64 (8 * (((List.length s236) : Nat) : Int)))) <|
 C.same s578.env[103]? (.int .u64 (IntKind.wrap .u64 (IntKind.wrap .i64 (8 * (((List.length s236) : Nat) : Int))))) <|
 C.same s578.env[104]? (.int .u64 (Int.tmod (IntKind.wrap .u64 a14) (IntKind.wrap .u64 (IntKind.wrap .i64 (8 * (((List.length s236) : Nat) : Int)))))) <|
 C.same s578.env[105]? (iz (IntKind.wrap .i64 (Int.tmod (IntKind.wrap .u64 a14) (IntKind.wrap .u64 (IntKind.wrap .i64 (8 * (((List.length s236) : Nat) : Int))))))) <|
 C.same s578.env[106]? v239 <|
 C.same s578.env[107]? (iz (IntKind.wrap .i64 (Int.tmod (IntKind.wrap .u64 a14) (IntKind.wrap .u64 (IntKind.wrap .i64 (8 * (((List.length s236) : Nat) : Int))))))) <|
 C.same s578.env[108]? (iz (IntKind.wrap .i64 (Int.tdiv (IntKind.wrap .i64 (Int.tmod (IntKind.wrap .u64 a14) (IntKind.wrap .u64 (IntKind.wrap .i64 (8 * (((List.length s236) : Nat) : Int)))))) 8))) <|
 C.same s578.env[109]? v433 <|
 C.same s578.env[110]? (.int .u8 x437) <|
 C.same s578.env[111]? (iz (IntKind.wrap .i64 (Int.tmod (IntKind.wrap .u64 a14) (IntKind.wrap .u64 (IntKind.wrap .i64 (8 * (((List.length s236) : Nat) : Int))))))) <|
 C.same s578.env[112]? (iz (Int.tmod (IntKind.wrap .i64 (Int.tmod (IntKind.wrap .u64 a14) (IntKind.wrap .u64 (IntKind.wrap .i64 (8 * (((List.length s236) : Nat) : Int)))))) 8)) <|
 C.same s578.env[113]? (.int .u8 (IntKind.wrap .u8 (1 * (2 ^ (min (Int.toNat (Int.tmod (IntKind.wrap .i64 (Int.tmod (IntKind.wrap .u64 a14) (IntKind.wrap .u64 (IntKind.wrap .i64 (8 * (((List.length s236) : Nat) : Int)))))) 8)) 8))))) <|
 C.same s578.env[114]? (.int .u8 (bits .xor .u8 x437 (IntKind.wrap .u8 (1 * (2 ^ (min (Int.toNat (Int.tmod (IntKind.wrap .i64 (Int.tmod (IntKind.wrap .u64 a14) (IntKind.wrap .u64 (IntKind.wrap .i64 (8 * (((List.length s236) : Nat) : Int)))))) 8)) 8)))))) <|
 C.same s578.env[115]? v438 <|
 C.same s578.env[116]? v237 <|
 C.same s578.env[117]? (.str s444) <|
 C.same s578.env[118]? v239 <|
 C.same s578.env[119]? (.str s447) <|
 C.same s578.env[120]? v448 <|
 C.same s578.env[121]? (iz x452) <|
 C.same s578.env[122]? (iz x459) <|
 C.same s578.env[123]? bt <|
 C.same s578.env[124]? v503 <|
 C.same s578.env[125]? (.str s507) <|
 C.same s578.env[126]? (iz x556) <|
 C.same s578.env[127]? v557 <|
 C.same s578.env[128]? v558 <|
 C.same s578.env[129]? v559 <|
 C.same s578.env[130]? v560 <|
 C.same s578.env[131]? v561 <|
 C.same s578.env[132]? (.bool b562) <|
 C.same s578.env[133]? (.bool b563) <|
 C.same s578.env[134]? v564 <|
 C.same s578.env[135]? v565 <|
 C.same s578.env[136]? v566 <|
 C.same s578.env[137]? v567 <|
 C.same s578.env[138]? v568 <|
 C.same s578.env[139]? v569 <|
 C.same s578.env[140]? v570 <|
 C.same s578.env[141]? v571 <|
 C.same s578.env[142]? v572 <|
 C.same s578.env[143]? v573 <|
 C.same s578.env[144]? v574 <|
 C.same s578.env[145]? v575 <|
 C.any s578.env[146]? fun v618 =>
 C.any s578.env[147]? fun v619 =>
 C.any s578.env[148]? fun v620 =>
 C.any s578.env[149]? fun v621 =>
 C.any s578.env[150]? fun v622 =>
 C.any s578.env[151]? fun v623 =>
 C.any s578.env[152]? fun v624 =>
 C.any s578.env[153]? fun v625 =>
 C.any s578.env[154]? fun v626 =>
 C.any s578.env[155]? fun v627 =>
 C.any s578.env[156]? fun v628 =>
 C.any s578.env[157]? fun v629 =>
 C.any s578.env[158]? fun v630 =>
 C.any s578.env[159]? fun v631 =>
 C.any s578.env[160]? fun v632 =>
 C.any s578.env[161]? fun v633 =>
 C.any s578.env[162]? fun v634 =>
 C.any s578.env[163]? fun v635 =>
 C.any s578.env[164]? fun v636 =>
 C.same s578.env[165]? v502 <|
 C.same s578.env[166]? v231 <|
 none)
 (none)
def r6R8 (C : Cb) (d : Nat) (a0 a1 a2 a3 a4 a5 a6 a7 a8 a9 a10 a11 a12 a13 a14 a15 : Int) (v0 v2 : AV) (b59 b60 b61 : Bool) (v62 v63 v64 v65 : AV) (b66 b67 : Bool) (v68 v69 v70 v71 : AV) (x77 x78 x79 x80 : Int) (s81 : List UInt8) (x85 x86 x87 x88 x89 x90 x91 x92 x93 : Int) (s94 : List UInt8) (s95 : List UInt8) (v96 : AV) (x100 x117 : Int) (v231 v232 : AV) (s236 : List UInt8) (v237 v239 : AV) (b403 : Bool) (v404 v405 : AV) (x406 : Int) (b407 : Bool) (v408 v409 v410 v411 v412 v413 v414 v415 v416 v417 v418 v419 v420 v421 v422 v423 v424 v425 v426 v427 v428 v429 v430 v431 v432 v433 : AV) (x437 : Int) (v438 : AV) (s444 : List UInt8) (s447 : List UInt8) (v448 : AV) (x452 : Int) (k454 : Ex → St → Ans) (b456 : Bool) (x459 : Int) (v483 v484 v485 v486 v487 v488 v489 v490 v491 v492 v493 v494 v495 v496 v497 v498 v499 v500 v501 v502 v503 : AV) (s507 : List UInt8) : St → (Ex → St → Ans) → Ans := fun s508 k509 =>
 cnd ((List.length s508.env) == 167)
 (C.same s508.env[0]? (.agg [(iz a0), (iz a1), (iz a2), (iz a3)]) <|
 C.same s508.env[1]? (.agg [(iz a4), (iz a5), (iz a6), (iz a7), (iz a8), (iz a9), (iz a10), (iz a11), (iz a12)]) <|
 C.same s508.env[2]? (iz (IntKind.wrap .i64 (1 + (IntKind.wrap .i64 (Int.tmod (IntKind.wrap .u64 a13) 3))))) <|
 C.same s508.env[3]? (iz a14) <|
 C.same s508.env[4]? (.int .u32 a15) <|
 C.same s508.env[5]? v0 <|
 C.same s508.env[6]? v2 <|
 C.same s508.env[7]? tz <|
 C.same s508.env[8]? tz <|
 C.same s508.env[9]? tz <|
 C.same s508.env[10]? (.bool b456) <|
 C.same s508.env[11]? (iz x117) <|
 C.same s508.env[12]? (.str s236) <|
 C.same s508.env[13]? (iz (IntKind.wrap .i64 (8 * (IntKind.wrap .i64 ((((List.length s236) : Nat) : Int) - 4))))) <|
 C.same s508.env[14]? (iz (IntKind.wrap .i64 (Int.tmod (IntKind.wrap .u64 a14) (IntKind.wrap .u64 (IntKind.wrap .i64 (8 * (IntKind.wrap .i64 ((((List.length s236) : Nat) : Int) - 4)))))))) <|
 C.same s508.env[15]? v237 <|
 C.same s508.env[16]? v239 <|
 C.same s508.env[17]? (.bool b403) <|
 C.same s508.env[18]? v404 <|
 C.same s508.env[19]? v405 <|
 C.same s508.env[20]? (iz (IntKind.wrap .i64 (Int.tmod (IntKind.wrap .u64 a14) (IntKind.wrap .u64 (IntKind.wrap .i64 (8 * (((List.length s236) : Nat) : Int))))))) <|
 C.same s508.env[21]? tz <|
 C.same s508.env[22]? (.str s507) <|
 C.int .i64 s508.env[23]? fun x511 =>
 C.same s508.env[24]? (.bool b59) <|
 C.same s508.env[25]? (.bool b60) <|
 C.same s508.env[26]? (.bool b61) <|
 C.same s508.env[27]? v62 <|
 C.same s508.env[28]? v63 <|
 C.same s508.env[29]? v64 <|
 C.same s508.env[30]? v65 <|
 C.same s508.env[31]? (.bool b66) <|
 C.same s508.env[32]? (.bool b67) <|
 C.same s508.env[33]? v68 <|
 C.same s508.env[34]? v69 <|
 C.same s508.env[35]? v70 <|
 C.same s508.env[36]? v71 <|
 C.same s508.env[37]? bf <|
 C.same s508.env[38]? tz <|
 C.same s508.env[39]? (iz a13) <|
 C.same s508.env[40]? (.int .u64 (IntKind.wrap .u64 a13)) <|
 C.same s508.env[41]? (.int .u64 (Int.tmod (IntKind.wrap .u64 a13) 3)) <|
 C.same s508.env[42]? (iz (IntKind.wrap .i64 (Int.tmod (IntKind.wrap .u64 a13) 3))) <|
 C.same s508.env[43]? (iz (IntKind.wrap .i64 (1 + (IntKind.wrap .i64 (Int.tmod (IntKind.wrap .u64 a13) 3))))) <|
 C.same s508.env[44]? (.agg [(iz x77), (iz x78), (iz x79), (iz x80)]) <|
 C.same s508.env[45]? (.str s81) <|
 C.same s508.env[46]? (.agg [(iz x85), (iz x86), (iz x87), (iz x88), (iz x89), (iz x90), (iz x91), (iz x92), (iz x93)]) <|
 C.same s508.env[47]? (.str s94) <|
 C.same s508.env[48]? (iz (IntKind.wrap .i64 (1 + (IntKind.wrap .i64 (Int.tmod (IntKind.wrap .u64 a13) 3))))) <|
 C.same s508.env[49]? (.str s95) <|
 C.same s508.env[50]? v96 <|
 C.same s508.env[51]? (iz x100) <|
 C.same s508.env[52]? (iz x117) <|
 C.same s508.env[53]? bt <|
 C.same s508.env[54]? (iz x117) <|
 C.same s508.env[55]? v232 <|
 C.same s508.env[56]? (.str s236) <|
 C.same s508.env[57]? (.str s236) <|
 C.same s508.env[58]? (iz (((List.length s236) : Nat) : Int)) <|
 C.same s508.env[59]? (iz (IntKind.wrap .i64 ((((List.length s236) : Nat) : Int) - 4))) <|
 C.same s508.env[60]? (iz (IntKind.wrap .i64 (8 * (IntKind.wrap .i64 ((((List.length s236) : Nat) : Int) - 4))))) <|
 C.same s508.env[61]? (iz a14) <|
 C.same s508.env[62]? (.int .u64 (IntKind.wrap .u64 a14)) <|
 C.same s508.env[63]? (iz (IntKind.wrap .i64 (8 * (IntKind.wrap .i64 ((((List.length s236) : Nat) : Int) - 4))))) <|
 C.same s508.env[64]? (.int .u64 (IntKind.wrap .u64 (IntKind.wrap .i64 (8 * (IntKind.wrap .i64 ((((List.length s236) : Nat) : Int) - 4)))))) <|
 C.same s508.env[65]? (.int .u64 (Int.tmod (IntKind.wrap .u64 a14) (IntKind.wrap .u64 (IntKind.wrap .i64 (8 * (IntKind.wrap .i64 ((((List.length s236) : Nat) : Int) - 4))))))) <|
 C.same s508.env[66]? (iz (IntKind.wrap .i64 (Int.tmod (IntKind.wrap .u64 a14) (IntKind.wrap .u64 (IntKind.wrap .i64 (8 * (IntKind.wrap .i64 ((((List.length s236) : Nat) : Int) - 4)))))))) <|
 C.same s508.env[67]? (.str s236) <|
 C.same s508.env[68]? v237 <|
 C.same s508.env[69]? (.str s236) <|
 C.same s508.env[70]? v239 <|
 C.same s508.env[71]? (iz x406) <|
 C.same s508.env[72]? (.bool b407) <|
 C.same s508.env[73]? v408 <|
 C.same s508.env[74]? v409 <|
 C.same s508.env[75]? v410 <|
 C.same s508.env[76]? v411 <|
 C.same s508.env[77]? v412 <|
 C.same s508.env[78]? v413 <|
 C.same s508.env[79]? v414 <|
 C.same s508.env[80]? v415 <|
 C.same s508.env[81]? v416 <|
 C.same s508.env[82]? v417 <|
 C.same s508.env[83]? v418 <|
 C.same s508.env[84]? v419 <|
 C.same s508.env[85]? v420 <|
 C.same s508.env[86]? v421 <|
 C.same s508.env[87]? v422 <|
 C.same s508.env[88]? v423 <|
 C.same s508.env[89]? v424 <|
 C.same s508.env[90]? v425 <|
 C.same s508.env[91]? v426 <|
 C.same s508.env[92]? v427 <|
 C.same s508.env[93]? v428 <|
 C.same s508.env[94]? v429 <|
 C.same s508.env[95]? v430 <|
 C.same s508.env[96]? v431 <|
 C.same s508.env[97]? v432 <|
 C.same s508.env[98]? (iz a14) <|
 C.same s508.env[99]? (.int .u64 (IntKind.wrap .u64 a14)) <|
 C.same s508.env[100]? (.str s236) <|
 C.same s508.env[101]? (iz (((List.length s236) : Nat) : Int)) <|
 C.same s508.env[102]? (iz (IntKind.wrap .i64 (8 * (((List.length s236) : Nat) : Int)))) <|
 C.same s508.env[103]? (.int .u64 (IntKind.wrap .u64 (IntKind.wrap .i64 (8 * (((List.length s236) : Nat) : Int))))) <|
 C.same s508.env[104]? (.int .u64 (Int.tmod (IntKind.wrap .u64 a14) (IntKind.wrap .u64 (IntKind.wrap .i64 (8 * (((List.length s236) : Nat) : Int)))))) <|
 C.same s508.env[105]? (iz (IntKind.wrap .i64 (Int.tmod (IntKind.wrap .u64 a14) (IntKind.wrap .u64 (IntKind.wrap .i64 (8 * (((List.length s236) : Nat) : Int))))))) <|
 C.same s508.env[106]? v239 <|
 C.same s508.env[107]? (iz (IntKind.wrap .i64 (Int.tmod (IntKind.wrap .u64 a14) (IntKind.wrap .u64 (IntKind.wrap .i64 (8 * (((List.length s236) : Nat) : Int))))))) <|
 C.same s508.env[108]? (iz (IntKind.wrap .i64 (Int.tdiv (IntKind.wrap .i64 (Int.tmod (IntKind.wrap .u64 a14) (IntKind.wrap .u64 (IntKind.wrap .i64 (8 * (((List.length s236) : Nat) : Int)))))) 8))) <|
 C.same s508.env[109]? v433 <|
 C.same s508.env[110]? (.int .u8 x437) <|
 C.same s508.env[111]? (iz (IntKind.wrap .i64 (Int.tmod (IntKind.wrap .u64 a14) (IntKind.wrap .u64 (IntKind.wrap .i64 (8 * (((List.length s236) : Nat) : Int))))))) <|
 C.same s508.env[112]? (iz (Int.tmod (IntKind.wrap .i64 (Int.tmod (IntKind.wrap .u64 a14) (IntKind.wrap .u64 (IntKind.wrap .i64 (8 * (((List.length s236) : Nat) : Int)))))) 8)) <|
 C.same s508.env[113]? (.int .u8 (IntKind.wrap .u8 (1 * (2 ^ (min (Int.toNat (Int.tmod (IntKind.wrap .i64 (Int.tmod (IntKind.wrap .u64 a14) (IntKind.wrap .u64 (IntKind.wrap .i64 (8 * (((List.length s236) : Nat) : Int)))))) 8)) 8))))) <|
 C.same s508.env[114]? (.int .u8 (bits .xor .u8 x437 (IntKind.wrap .u8 (1 * (2 ^ (min (Int.toNat (Int.tmod (IntKind.wrap .i64 (Int.tmod (IntKind.wrap .u64 a14) (IntKind.wrap .u64 (IntKind.wrap .i64 (8 * (((List.length s236) : Nat) : Int)))))) 8)) 8)))))) <|
 C.same s508.env[115]? v438 <|
 C.same s508.env[116]? v237 <|
 C.same s508.env[117]? (.str s444) <|
 C.same s508.env[118]? v239 <|
 C.same s508.env[119]? (.str s447) <|
 C.same s508.env[120]? v448 <|
 C.same s508.env[121]? (iz x452) <|
 C.same s508.env[122]? (iz x459) <|
 C.same s508.env[123]? bt <|
 C.same s508.env[124]? v503 <|
 C.same s508.env[125]? (.str s507) <|
 C.any s508.env[126]? fun v512 =>
 C.any s508.env[127]? fun v513 =>
 C.any s508.env[128]? fun v514 =>
 C.any s508.env[129]? fun v515 =>
 C.any s508.env[130]? fun v516 =>
 C.any s508.env[131]? fun v517 =>
 C.any s508.env[132]? fun v518 =>
 C.any s508.env[133]? fun v519 =>
 C.any s508.env[134]? fun v520 =>
 C.any s508.env[135]? fun v521 =>
 C.any s508.env[136]? fun v522 =>
 C.any s508.env[137]? fun v523 =>
 C.any s508.env[138]? fun v524 =>
 C.any s508.env[139]? fun v525 =>
 C.any s508.env[140]? fun v526 =>
 C.any s508.env[141]? fun v527 =>
 C.any s508.env[142]? fun v528 =>
 C.any s508.env[143]? fun v529 =>
 C.any s508.env[144]? fun v530 =>
 C.any s508.env[145]? fun v531 =>
 C.same s508.env[146]? v483 <|
 C.same s508.env[147]? v484 <|
 C.same s508.env[148]? v485 <|
 C.same s508.env[149]? v486 <|
 C.same s508.env[150]? v487 <|
 C.same s508.env[151]? v488 <|
 C.same s508.env[152]? v489 <|
 C.same s508.env[153]? v490 <|
 C.same s508.env[154]? v491 <|
 C.same s508.env[155]? v492 <|
 C.same s508.env[156]? v493 <|
 C.same s508.env[157]? v494 <|
 C.same s508.env[158]? v495 <|
 C.same s508.env[159]? v496 <|
 C.same s508.env[160]? v497 <|
 C.same s508.env[161]? v498 <|
 C.same s508.env[162]? v499 <|
 C.same s508.env[163]? v500 <|
 C.same s508.env[164]? v501 <|
 C.same s508.env[165]? v502 <|
 C.same s508.env[166]? v231 <|
 cnd (x117 == 0)
 (C.tup 2 (pcall M d 10 [(.str s507)]) fun l532 =>
 C.agg 4 l532[0]? fun l533 =>
 C.int .i64 l533[0]? fun x534 =>
 C.int .i64 l533[1]? fun x535 =>
 C.int .i64 l533[2]? fun x536 =>
 C.int .i64 l533[3]? fun x537 =>
 C.int .i64 l532[1]? fun x538 =>
 k509 (.exit 2000000) ⟨[(.agg [(iz a0), (iz a1), (iz a2), (iz a3)]), (.agg [(iz a4), (iz a5), (iz a6), (iz a7), (iz a8), (iz a9), (iz a10), (iz a11), (iz a12)]), (iz (IntKind.wrap .i64 (1 + (IntKind.wrap .i64 (Int.tmod (IntKind.wrap .u64 a13) 3))))), (iz a14), (.int .u32 a15), v0, v2, tz, tz, tz, (.bool b456), (iz x117), (.str s236), (iz (IntKind.wrap .i64 (8 * (IntKind.wrap .i64 ((((List.length s236) : Nat) : Int) - 4))))), (iz (IntKind.wrap .i64 (Int.tmod (IntKind.wrap .u64 a14) (IntKind.wrap .u64 (IntKind.wrap .i64 (8 * (IntKind.wrap .i64 ((((List.length s236) : Nat) : Int) - 4)))))))), v237, v239, (.bool b403), v404, v405, (iz (IntKind.wrap .i64 (Int.tmod (IntKind.wrap .u64 a14) (IntKind.wrap .u64 (IntKind.wrap .i64 (8 * (((List.length s236) : Nat) : Int))))))), tz, (.str s507), (iz x538), (.bool b59), (.bool b60), (.bool b61), v62, v63, v64, v65, (.bool b66), (.bool b67), v68, v69, v70, v71, bf, tz, (iz a13), (.int .u64 (IntKind.wrap .u64 a13)), (.int .u64 (Int.tmod (IntKind.wrap .u64 a13) 3)), (iz (IntKind.wrap .i64 (Int.tmod (IntKind.wrap .u64 a13) 3))), (iz (IntKind.wrap .i64 (1 + (IntKind.wrap .i64 (Int.tmod (IntKind.wrap .u64 a13) 3))))), (.agg [(iz x77), (iz x78), (iz x79), (iz x80)]), (.str s81), (.agg [(iz x85), (iz x86), (iz x87), (iz x88), (iz x89), (iz x90), (iz x91), (iz x92), (iz x93)]), (.str s94), (iz (IntKind.wrap .i64 (1 + (IntKind.wrap .i64 (Int.tmod (IntKind.wrap .u64 a13) 3))))), (.str s95), v96, (iz x100), (iz x117), bt, (iz x117), v232, (.str s236), (.str s236), (iz (((List.length s236) : Nat) : Int)), (iz (IntKind.wrap .i64 ((((List.length s236) : Nat) : Int) - 4))), (iz (IntKind.wrap .i64 (8 * (IntKind.wrap .i64 ((((List.length s236) : Nat) : Int) - 4))))), (iz a14), (.int .u64 (IntKind.wrap .u64 a14)), (iz (IntKind.wrap .i64 (8 * (IntKind.wrap .i64 ((((List.length s236) : Nat) : Int) - 4))))), (.int .u64 (IntKind.wrap .u64 (IntKind.wrap .i64 (8 * (IntKind.wrap .i64 ((((List.length s236) : Nat) : Int) - 4)))))), (.int .u64 (Int.tmod (IntKind.wrap .u64 a14) (IntKind.wrap .u64 (IntKind.wrap .i64 (8 * (IntKind.wrap .i64 ((((List.length s236) : Nat) : Int) - 4))))))), (iz (IntKind.wrap .i64 (Int.tmod (IntKind.wrap .u64 a14) (IntKind.wrap .u64 (IntKind.wrap .i64 (8 * (IntKind.wrap .i64 ((((List.length s236) : Nat) : Int) - 4)))))))), (.str s236), v237, (.str s236), v239, (iz x406), (.bool b407), v408, v409, v410, v411, v412, v413, v414, v415, v416, v417, v418, v419, v420, v421, v422, v423, v424, v425, v426, v427, v428, v429, v430, v431, v432, (iz a14), (.int .u64 (IntKind.wrap .u64 a14)), (.str s236), (iz (((List.length s236) : Nat) : Int)), (iz (IntKind.wrap .i64 (8 * (((List.length s236) : Nat) : Int)))), (.int .u64 (IntKind.wrap .u64 (IntKind.wrap .i64 (8 * (((List.length s236) : Nat) : Int))))), (.int .u64 (Int.tmod (IntKind.wrap .u64 a14) (IntKind.wrap .u64 (IntKind.wrap .i64 (8 * (((List.length s236) : Nat) : Int)))))), (iz (IntKind.wrap .i64 (Int.tmod (IntKind.wrap .u64 a14) (IntKind.wrap .u64 (IntKind.wrap .i64 (8 * (((List.length s236) : Nat) : Int))))))), v239, (iz (IntKind.wrap .i64 (Int.tmod (IntKind.wrap .u64 a14) (IntKind.wrap .u64 (IntKind.wrap .i64 (8 * (((List.length s236) : Nat) : Int))))))), (iz (IntKind.wrap .i64 (Int.tdiv (IntKind.wrap .i64 (Int.tmod (IntKind.wrap .u64 a14) (IntKind.wrap .u64 (IntKind.wrap .i64 (8 * (((List.length s236) : Nat) : Int)))))) 8))), v433, (.int .u8 x437), (iz (IntKind.wrap .i64 (Int.tmod (IntKind.wrap .u64 a14) (IntKind.wrap .u64 (IntKind.wrap .i64 (8 * (((List.length s236) : Nat) : Int))))))), (iz (Int.tmod (IntKind.wrap .i64 (Int.tmod (IntKind.wrap .u64 a14) (IntKind.wrap .u64 (IntKind.wrap .i64 (8 * (((List.length s236) : Nat) : Int)))))) 8)), (.int .u8 (IntKind.wrap .u8 (1 * (2 ^ (min (Int.toNat (Int.tmod (IntKind.wrap .i64 (Int.tmod (IntKind.wrap .u64 a14) (IntKind.wrap .u64 (IntKind.wrap .i64 (8 * (((List.length s236) : Nat) : Int)))))) 8)) 8))))), (.int .u8 (bits .xor .u8 x437 (IntKind.wrap .u8 (1 * (2 ^ (min (Int.toNat (Int.tmod (IntKind.wrap .i64 (Int.tmod (IntKind.wrap .u64 a14) (IntKind.wrap .u64 (IntKind.wrap .i64 (8 * (((List.length s236) : Nat) : Int)))))) 8)) 8)))))), v438, v237, (.str s444), v239, (.str s447), v448, (iz x452), (iz x459), bt, v503, (.str s507), (iz x117), v513, v514, v515, v516, v517, bt, (.bool (x117 == 0)), (.tup [(.agg [(iz x534), (iz x535), (iz x536), (iz x537)]), (iz x538)]), (.str s507), (.tup [(.agg [(iz x534), (iz x535), (iz x536), (iz x537)]), (iz x538)]), (.agg [(iz x534), (iz x535), (iz x536), (iz x537)]), (iz x538), v525, v526, v527, v528, v529, v530, v531, v483, v484, v485, v486, v487, v488, v489, v490, v491, v492, v493, v494, v495, v496, v497, v498, v499, v500, v501, v502, v231], (St.H s508)⟩)
 (cnd (x117 == 1)
 (C.tup 2 (pcall M d 15 [(.str s507)]) fun l539 =>
 C.agg 9 l539[0]? fun l540 =>
 C.int .i64 l540[0]? fun x541 =>
 C.int .i64 l540[1]? fun x542 =>
 C.int .i64 l540[2]? fun x543 =>
 C.int .i64 l540[3]? fun x544 =>
 C.int .i64 l540[4]? fun x545 =>
 C.int .i64 l540[5]? fun x546 =>
 C.int .i64 l540[6]? fun x547 =>
 C.int .i64 l540[7]? fun x548 =>
 C.int .i64 l540[8]? fun x549 =>
 C.int .i64 l539[1]? fun x550 =>
 k509 (.exit 2000000) ⟨[(.agg [(iz a0), (iz a1), (iz a2), (iz a3)]), (.agg [(iz a4), (iz a5), (iz a6), (iz a7), (iz a8), (iz a9), (iz a10), (iz a11), (iz a12)]), (iz (IntKind.wrap .i64 (1 + (IntKind.wrap .i64 (Int.tmod (IntKind.wrap .u64 a13) 3))))), (iz a14), (.int .u32 a15), v0, v2, tz, tz, tz, (.bool b456), (iz x117), (.str s236), (iz (IntKind.wrap .i64 (8 * (IntKind.wrap .i64 ((((List.length s236) : Nat) : Int) - 4))))), (iz (IntKind.wrap .i64 (Int.tmod (IntKind.wrap .u64 a14) (IntKind.wrap .u64 (IntKind.wrap .i64 (8 * (IntKind.wrap .i64 ((((List.length s236) : Nat) : Int) - 4)))))))), v237, v239, (.bool b403), v404, v405, (iz (IntKind.wrap .i64 (Int.tmod (IntKind.wrap .u64 a14) (IntKind.wrap .u64 (IntKind.wrap .i64 (8 * (((List.length s236) : Nat) : Int))))))), tz, (.str s507), (iz x550), (.bool b59), (.bool b60), (.bool b61), v62, v63, v64, v65, (.bool b66), (.bool b67), v68, v69, v70, v71, bf, tz, (iz a13), (.int .u64 (IntKind.wrap .u64 a13)), (.int .u64 (Int.tmod (IntKind.wrap .u64 a13) 3)), (iz (IntKind.wrap .i64 (Int.tmod (IntKind.wrap .u64 a13) 3))), (iz (IntKind.wrap .i64 (1 + (IntKind.wrap .i64 (Int.tmod (IntKind.wrap .u64 a13) 3))))), (.agg [(iz x77), (iz x78), (iz x79), (iz x80)]), (.str s81), (.agg [(iz x85), (iz x86), (iz x87), (iz x88), (iz x89), (iz x90), (iz x91), (iz x92), (iz x93)]), (.str s94), (iz (IntKind.wrap .i64 (1 + (IntKind.wrap .i64 (Int.tmod (IntKind.wrap .u64 a13) 3))))), (.str s95), v96, (iz x100), (iz x117), bt, (iz x117), v232, (.str s236), (.str s236), (iz (((List.length s236) : Nat) : Int)), (iz (IntKind.wrap .i64 ((((List.length s236) : Nat) : Int) - 4))), (iz (IntKind.wrap .i64 (8 * (IntKind.wrap .i64 ((((List.length s236) : Nat) : Int) - 4))))), (iz a14), (.int .u64 (IntKind.wrap .u64 a14)), (iz (IntKind.wrap .i64 (8 * (IntKind.wrap .i64 ((((List.length s236) : Nat) : Int) - 4))))), (.int .u64 (IntKind.wrap .u64 (IntKind.wrap .i64 (8 * (IntKind.wrap .i64 ((((List.length s236) : Nat) : Int) - 4)))))), (.int .u64 (Int.tmod (IntKind.wrap .u64 a14) (IntKind.wrap .u64 (IntKind.wrap .i64 (8 * (IntKind.wrap .i64 ((((List.length s236) : Nat) : Int) - 4))))))), (iz (IntKind.wrap .i64 (Int.tmod (IntKind.wrap .u64 a14) (IntKind.wrap .u64 (IntKind.wrap .i64 (8 * (IntKind.wrap .i64 ((((List.length s236) : Nat) : Int) - 4)))))))), (.str s236), v237, (.str s236), v239, (iz x406), (.bool b407), v408, v409, v410, v411, v412, v413, v414, v415, v416, v417, v418, v419, v420, v421, v422, v423, v424, v425, v426, v427, v428, v429, v430, v431, v432, (iz a14), (.int .u64 (IntKind.wrap .u64 a14)), (.str s236), (iz (((List.length s236) : Nat) : Int)), (iz (IntKind.wrap .i64 (8 * (((List.length s236) : Nat) : Int)))), (.int .u64 (IntKind.wrap .u64 (IntKind.wrap .i64 (8 * (((List.length s236) : Nat) : Int))))), (.int .u64 (Int.tmod (IntKind.wrap .u64 a14) (IntKind.wrap .u64 (IntKind.wrap .i64 (8 * (((List.length s236) : Nat) : Int)))))), (iz (IntKind.wrap .i64 (Int.tmod (IntKind.wrap .u64 a14) (IntKind.wrap .u64 (IntKind.wrap .i64 (8 * (((List.length s236) : Nat) : Int))))))), v239, (iz (IntKind.wrap .i64 (Int.tmod (IntKind.wrap .u64 a14) (IntKind.wrap .u64 (IntKind.wrap .i64 (8 * (((List.length s236) : Nat) : Int))))))), (iz (IntKind.wrap .i64 (Int.tdiv (IntKind.wrap .i64 (Int.tmod (IntKind.wrap .u64 a14) (IntKind.wrap .u64 (IntKind.wrap .i64 (8 * (((List.length s236) : Nat) : Int)))))) 8))), v433, (.int .u8 x437), (iz (IntKind.wrap .i64 (Int.tmod (IntKind.wrap .u64 a14) (IntKind.wrap .u64 (IntKind.wrap .i64 (8 * (((List.length s236) : Nat) : Int))))))), (iz (Int.tmod (IntKind.wrap .i64 (Int.tmod (IntKind.wrap .u64 a14) (IntKind.wrap .u64 (IntKind.wrap .i64 (8 * (((List.length s236) : Nat) : Int)))))) 8)), (.int .u8 (IntKind.wrap .u8 (1 * (2 ^ (min (Int.toNat (Int.tmod (IntKind.wrap .i64 (Int.tmod (IntKind.wrap .u64 a14) (IntKind.wrap .u64 (IntKind.wrap .i64 (8 * (((List.length s236) : Nat) : Int)))))) 8)) 8))))), (.int .u8 (bits .xor .u8 x437 (IntKind.wrap .u8 (1 * (2 ^ (min (Int.toNat (Int.tmod (IntKind.wrap .i64 (Int.tmod (IntKind.wrap .u64 a14) (IntKind.wrap .u64 (IntKind.wrap .i64 (8 * (((List.length s236) : Nat) : Int)))))) 8)) 8)))))), v438, v237, (.str s444), v239, (.str s447), v448, (iz x452), (iz x459), bt, v503, (.str s507), (iz x117), v513, v514, v515, v516, v517, bf, (.bool (x117 == 0)), v520, v521, v522, v523, v524, bt, (.bool (x117 == 1)), (.tup [(.agg [(iz x541), (iz x542), (iz x543), (iz x544), (iz x545), (iz x546), (iz x547), (iz x548), (iz x549)]), (iz x550)]), (.str s507), (.tup [(.agg [(iz x541), (iz x542), (iz x543), (iz x544), (iz x545), (iz x546), (iz x547), (iz x548), (iz x549)]), (iz x550)]), (.agg [(iz x541), (iz x542), (iz x543), (iz x544), (iz x545), (iz x546), (iz x547), (iz x548), (iz x549)]), (iz x550), v483, v484, v485, v486, v487, v488, v489, v490, v491, v492, v493, v494, v495, v496, v497, v498, v499, v500, v501, v502, v231], (St.H s508)⟩)
 (C.tup 2 (pcall M d 20 [(.str s507)]) fun l551 =>
 C.int .i64 l551[0]? fun x552 =>
 C.int .i64 l551[1]? fun x553 =>
 k509 (.exit 2000000) ⟨[(.agg [(iz a0), (iz a1), (iz a2), (iz a3)]), (.agg [(iz a4), (iz a5), (iz a6), (iz a7), (iz a8), (iz a9), (iz a10), (iz a11), (iz a12)]), (iz (IntKind.wrap .i64 (1 + (IntKind.wrap .i64 (Int.tmod (IntKind.wrap .u64 a13) 3))))), (iz a14), (.int .u32 a15), v0, v2, tz, tz, tz, (.bool b456), (iz x117), (.str s236), (iz (IntKind.wrap .i64 (8 * (IntKind.wrap .i64 ((((List.length s236) : Nat) : Int) - 4))))), (iz (IntKind.wrap .i64 (Int.tmod (IntKind.wrap .u64 a14) (IntKind.wrap .u64 (IntKind.wrap .i64 (8 * (IntKind.wrap .i64 ((((List.length s236) : Nat) : Int) - 4)))))))), v237, v239, (.bool b403), v404, v405, (iz (IntKind.wrap .i64 (Int.tmod (IntKind.wrap .u64 a14) (IntKind.wrap .u64 (IntKind.wrap .i64 (8 * (((List.length s236) : Nat) : Int))))))), tz, (.str s507), (iz x553), (.bool b59), (.bool b60), (.bool b61), v62, v63, v64, v65, (.bool b66), (.bool b67), v68, v69, v70, v71, bf, tz, (iz a13), (.int .u64 (IntKind.wrap .u64 a13)), (.int .u64 (Int.tmod (IntKind.wrap .u64 a13) 3)), (iz (IntKind.wrap .i64 (Int.tmod (IntKind.wrap .u64 a13) 3))), (iz (IntKind.wrap .i64 (1 + (IntKind.wrap .i64 (Int.tmod (IntKind.wrap .u64 a13) 3))))), (.agg [(iz x77), (iz x78), (iz x79), (iz x80)]), (.str s81), (.agg [(iz x85), (iz x86), (iz x87), (iz x88), (iz x89), (iz x90), (iz x91), (iz x92), (iz x93)]), (.str s94), (iz (IntKind.wrap .i64 (1 + (IntKind.wrap .i64 (Int.tmod (IntKind.wrap .u64 a13) 3))))), (.str s95), v96, (iz x100), (iz x117), bt, (iz x117), v232, (.str s236), (.str s236), (iz (((List.length s236) : Nat) : Int)), (iz (IntKind.wrap .i64 ((((List.length s236) : Nat) : Int) - 4))), (iz (IntKind.wrap .i64 (8 * (IntKind.wrap .i64 ((((List.length s236) : Nat) : Int) - 4))))), (iz a14), (.int .u64 (IntKind.wrap .u64 a14)), (iz (IntKind.wrap .i64 (8 * (IntKind.wrap .i64 ((((List.length s236) : Nat) : Int) - 4))))), (.int .u64 (IntKind.wrap .u64 (IntKind.wrap .i64 (8 * (IntKind.wrap .i64 ((((List.length s236) : Nat) : Int) - 4)))))), (.int .u64 (Int.tmod (IntKind.wrap .u64 a14) (IntKind.wrap .u64 (IntKind.wrap .i64 (8 * (IntKind.wrap .i64 ((((List.length s236) : Nat) : Int) - 4))))))), (iz (IntKind.wrap .i64 (Int.tmod (IntKind.wrap .u64 a14) (IntKind.wrap .u64 (IntKind.wrap .i64 (8 * (IntKind.wrap .i64 ((((List.length s236) : Nat) : Int) - 4)))))))), (.str s236), v237, (.str s236), v239, (iz x406), (.bool b407), v408, v409, v410, v411, v412, v413, v414, v415, v416, v417, v418, v419, v420, v421, v422, v423, v424, v425, v426, v427, v428, v429, v430, v431, v432, (iz a14), (.int .u64 (IntKind.wrap .u64 a14)), (.str s236), (iz (((List.length s236) : Nat) : Int)), (iz (IntKind.wrap .i64 (8 * (((List.length s236) : Nat) : Int)))), (.int .u64 (IntKind.wrap .u64 (IntKind.wrap .i64 (8 * (((List.length s236) : Nat) : Int))))), (.int .u64 (Int.tmod (IntKind.wrap .u64 a14) (IntKind.wrap .u64 (IntKind.wrap .i64 (8 * (((List.length s236) : Nat) : Int)))))), (iz (IntKind.wrap .i64 (Int.tmod (IntKind.wrap .u64 a14) (IntKind.wrap .u64 (IntKind.wrap .i64 (8 * (((List.length s236) : Nat) : Int))))))), v239, (iz (IntKind.wrap .i64 (Int.tmod (IntKind.wrap .u64 a14) (IntKind.wrap .u64 (IntKind.wrap .i64 (8 * (((List.length s236) : Nat) : Int))))))), (iz (IntKind.wrap .i64 (Int.tdiv (IntKind.wrap .i64 (Int.tmod (IntKind.wrap .u64 a14) (IntKind.wrap .u64 (IntKind.wrap .i64 (8 * (((List.length s236) : Nat) : Int)))))) 8))), v433, (.int .u8 x437), (iz (IntKind.wrap .i64 (Int.tmod (IntKind.wrap .u64 a14) (IntKind.wrap .u64 (IntKind.wrap .i64 (8 * (((List.length s236) : Nat) : Int))))))), (iz (Int.tmod (IntKind.wrap .i64 (Int.tmod (IntKind.wrap .u64 a14) (IntKind.wrap .u64 (IntKind.wrap .i64 (8 * (((List.length s236) : Nat) : Int)))))) 8)), (.int .u8 (IntKind.wrap .u8 (1 * (2 ^ (min (Int.toNat (Int.tmod (IntKind.wrap .i64 (Int.tmod (IntKind.wrap .u64 a14) (IntKind.wrap .u64 (IntKind.wrap .i64 (8 * (((List.length s236) : Nat) : Int)))))) 8)) 8))))), (.int .u8 (bits .xor .u8 x437 (IntKind.wrap .u8 (1 * (2 ^ (min (Int.toNat (Int.tmod (IntKind.wrap .i64 (Int.tmod (IntKind.wrap .u64 a14) (IntKind.wrap .u64 (IntKind.wrap .i64 (8 * (((List.length s236) : Nat) : Int)))))) 8)) 8)))))), v438, v237, (.str s444), v239, (.str s447), v448, (iz x452), (iz x459), bt, v503, (.str s507), (iz x117), (.tup [(iz x552), (iz x553)]), (.str s507), (.tup [(iz x552), (iz x553)]), (iz x552), (iz x553), bf, (.bool (x117 == 0)), v520, v521, v522, v523, v524, bf, (.bool (x117 == 1)), v527, v528, v529, v530, v531, v483, v484, v485, v486, v487, v488, v489, v490, v491, v492, v493, v494, v495, v496, v497, v498, v499, v500, v501, v502, v231], (St.H s508)⟩)))
 (none)
def r6X8_0 (C : Cb) (d : Nat) (a0 a1 a2 a3 a4 a5 a6 a7 a8 a9 a10 a11 a12 a13 a14 a15 : Int) (v0 v2 : AV) (b59 b60 b61 : Bool) (v62 v63 v64 v65 : AV) (b66 b67 : Bool) (v68 v69 v70 v71 : AV) (x77 x78 x79 x80 : Int) (s81 : List UInt8) (x85 x86 x87 x88 x89 x90 x91 x92 x93 : Int) (s94 : List UInt8) (s95 : List UInt8) (v96 : AV) (x100 x117 : Int) (v231 v232 : AV) (s236 : List UInt8) (v237 v239 : AV) (b403 : Bool) (v404 v405 : AV) (x406 : Int) (b407 : Bool) (v408 v409 v410 v411 v412 v413 v414 v415 v416 v417 v418 v419 v420 v421 v422 v423 v424 v425 v426 v427 v428 v429 v430 v431 v432 v433 : AV) (x437 : Int) (v438 : AV) (s444 : List UInt8) (s447 : List UInt8) (v448 : AV) (x452 : Int) (k454 : Ex → St → Ans) (b456 : Bool) (x459 : Int) (v483 v484 v485 v486 v487 v488 v489 v490 v491 v492 v493 v494 v495 v496 v497 v498 v499 v500 v501 v502 v503 : AV) (s507 : List UInt8) : St → Ans := fun s554 =>
 cnd ((List.length s554.env) == 167)
 (C.same s554.env[0]? (.agg [(iz a0), (iz a1), (iz a2), (iz a3)]) <|
 C.same s554.env[1]? (.agg [(iz a4), (iz a5), (iz a6), (iz a7), (iz a8), (iz a9), (iz a10), (iz a11), (iz a12)]) <|
 C.same s554.env[2]? (iz (IntKind.wrap .i64 (1 + (IntKind.wrap .i64 (Int.tmod (IntKind.wrap .u64 a13) 3))))) <|
 C.same s554.env[3]? (iz a14) <|
 C.same s554.env[4]? (.int .u32 a15) <|
 C.same s554.env[5]? v0 <|
 C.same s554.env[6]? v2 <|
 C.same s554.env[7]? tz <|
 C.same s554.env[8]? tz <|
 C.same s554.env[9]? tz <|
 C.same s554.env[10]? (.bool b456) <|
 C.same s554.env[11]? (iz x117) <|
 C.same s554.env[12]? (.str s236) <|
 C.same s554.env[13]? (iz (IntKind.wrap .i64 (8 * (IntKind.wrap .i64 ((((List.length s236) : Nat) : Int) - 4))))) <|
 C.same s554.env[14]? (iz (IntKind.wrap .i64 (Int.tmod (IntKind.wrap .u64 a14) (IntKind.wrap .u64 (IntKind.wrap .i64 (8 * (IntKind.wrap .i64 ((((List.length s236) : Nat) : Int) - 4)))))))) <|
 C.same s554.env[15]? v237 <|
 C.same s554.env[16]? v239 <|
 C.same s554.env[17]? (.bool b403) <|
 C.same s554.env[18]? v404 <|
 C.same s554.env[19]? v405 <|
 C.same s554.env[20]? (iz (IntKind.wrap .i64 (Int.tmod (IntKind.wrap .u64 a14) (IntKind.wrap .u64 (IntKind.wrap .i64 (8 * (((List.length s236) : Nat) : Int))))))) <|
 C.same s554.env[21]? tz <|
 C.same s554.env[22]? (.str s507) <|
 C.int .i64 s554.env[23]? fun x555 =>
 C.same s554.env[24]? (.bool b59) <|
 C.same s554.env[25]? (.bool b60) <|
 C.same s554.env[26]? (.bool b61) <|
 C.same s554.env[27]? v62 <|
 C.same s554.env[28]? v63 <|
 C.same s554.env[29]? v64 <|
 C.same s554.env[30]? v65 <|
 C.same s554.env[31]? (.bool b66) <|
 C.same s554.env[32]? (.bool b67) <|
 C.same s554.env[33]? v68 <|
 C.same s554.env[34]? v69 <|
 C.same s554.env[35]? v70 <|
 C.same s554.env[36]? v71 <|
 C.same s554.env[37]? bf <|
 C.same s554.env[38]? tz <|
 C.same s554.env[39]? (iz a13) <|
 C.same s554.env[40]? (.int .u64 (IntKind.wrap .u64 a13)) <|
 C.same s554.env[41]? (.int .u64 (Int.tmod (IntKind.wrap .u64 a13) 3)) <|
 C.same s554.env[42]? (iz (IntKind.wrap .i64 (Int.tmod (IntKind.wrap .u64 a13) 3))) <|
 C.same s554.env[43]? (iz (IntKind.wrap .i64 (1 + (IntKind.wrap .i64 (Int.tmod (IntKind.wrap .u64 a13) 3))))) <|
 C.same s554.env[44]? (.agg [(iz x77), (iz x78), (iz x79), (iz x80)]) <|
 C.same s554.env[45]? (.str s81) <|
 C.same s554.env[46]? (.agg [(iz x85), (iz x86), (iz x87), (iz x88), (iz x89), (iz x90), (iz x91), (iz x92), (iz x93)]) <|
 C.same s554.env[47]? (.str s94) <|
 C.same s554.env[48]? (iz (IntKind.wrap .i64 (1 + (IntKind.wrap .i64 (Int.tmod (IntKind.wrap .u64 a13) 3))))) <|
 C.same s554.env[49]? (.str s95) <|
 C.same s554.env[50]? v96 <|
 C.same s554.env[51]? (iz x100) <|
 C.same s554.env[52]? (iz x117) <|
 C.same s554.env[53]? bt <|
 C.same s554.env[54]? (iz x117) <|
 C.same s554.env[55]? v232 <|
 C.same s554.env[56]? (.str s236) <|
 C.same s554.env[57]? (.str s236) <|
 C.same s554.env[58]? (iz (((List.length s236) : Nat) : Int)) <|
 C.same s554.env[59]? (iz (IntKind.wrap .i64 ((((List.length s236) : Nat) : Int) - 4))) <|
 C.same s554.env[60]? (iz (IntKind.wrap .i64 (8 * (IntKind.wrap .i64 ((((List.length s236) : Nat) : Int) - 4))))) <|
 C.same s554.env[61]? (iz a14) <|
 C.same s554.env[62]? (.int .u64 (IntKind.wrap .u64 a14)) <|
 C.same s554.env[63]? (iz (IntKind.wrap .i64 (8 * (IntKind.wrap .i64 ((((List.length s236) : Nat) : Int) - 4))))) <|
 C.same s554.env[64]? (.int .u64 (IntKind.wrap .u64 (IntKind.wrap .i64 (8 * (IntKind.wrap .i64 ((((List.length s236) : Nat) : Int) - 4)))))) <|
 C.same s554.env[65]? (.int .u64 (Int.tmod (IntKind.wrap .u64 a14) (IntKind.wrap .u64 (IntKind.wrap .i64 (8 * (IntKind.wrap .i64 ((((List.length s236) : Nat) : Int) - 4))))))) <|
 C.same s554.env[66]? (iz (IntKind.wrap .i64 (Int.tmod (IntKind.wrap .u64 a14) (IntKind.wrap .u64 (IntKind.wrap .i64 (8 * (IntKind.wrap .i64 ((((List.length s236) : Nat) : Int) - 4)))))))) <|
 C.same s554.env[67]? (.str s236) <|
 C.same s554.env[68]? v237 <|
 C.same s554.env[69]? (.str s236) <|
 C.same s554.env[70]? v239 <|
 C.same s554.env[71]? (iz x406) <|
 C.same s554.env[72]? (.bool b407) <|
 C.same s554.env[73]? v408 <|
 C.same s554.env[74]? v409 <|
 C.same s554.env[75]? v410 <|
 C.same s554.env[76]? v411 <|
 C.same s554.env[77]? v412 <|
 C.same s554.env[78]? v413 <|
 C.same s554.env[79]? v414 <|
 C.same s554.env[80]? v415 <|
 C.same s554.env[81]? v416 <|
 C.same s554.env[82]? v417 <|
 C.same s554.env[83]? v418 <|
 C.same s554.env[84]? v419 <|
 C.same s554.env[85]? v420 <|
 C.same s554.env[86]? v421 <|
 C.same s554.env[87]? v422 <|
 C.same s554.env[88]? v423 <|
 C.same s554.env[89]? v424 <|
 C.same s554.env[90]? v425 <|
 C.same s554.env[91]? v426 <|
 C.same s554.env[92]? v427 <|
 C.same s554.env[93]? v428 <|
 C.same s554.env[94]? v429 <|
 C.same s554.env[95]? v430 <|
 C.same s554.env[96]? v431 <|
 C.same s554.env[97]? v432 <|
 C.same s554.env[98]? (iz a14) <|
 C.same s554.env[99]? (.int .u64 (IntKind.wrap .u64 a14)) <|
 C.same s554.env[100]? (.str s236) <|
 C.same s554.env[101]? (iz (((List.length s236) : Nat) : Int)) <|
 C.same s554.env[102]? (iz (IntKind.wrap .i64 (8 * (((List.length s236) : Nat) : Int)))) <|
 C.same s554.env[103]? (.int .u64 (IntKind.wrap .u64 (IntKind.wrap .i64 (8 * (((List.length s236) : Nat) : Int))))) <|
 C.same s554.env[104]? (.int .u64 (Int.tmod (IntKind.wrap .u64 a14) (IntKind.wrap .u64 (IntKind.wrap .i64 (8 * (((List.length s236) : Nat) : Int)))))) <|
 C.same s554.env[105]? (iz (IntKind.wrap .i64 (Int.tmod (IntKind.wrap .u64 a14) (IntKind.wrap .u64 (IntKind.wrap .i64 (8 * (((List.length s236) : Nat) : Int))))))) <|
 C.same s554.env[106]? v239 <|
 C.same s554.env[107]? (iz (IntKind.wrap .i64 (Int.tmod (IntKind.wrap .u64 a14) (IntKind.wrap .u64 (IntKind.wrap .i64 (8 * (((List.length s236) : Nat) : Int))))))) <|
 C.same s554.env[108]? (iz (IntKind.wrap .i64 (Int.tdiv (IntKind.wrap .i64 (Int.tmod (IntKind.wrap .u64 a14) (IntKind.wrap .u64 (IntKind.wrap .i64 (8 * (((List.length s236) : Nat) : Int)))))) 8))) <|
 C.same s554.env[109]? v433 <|
 C.same s554.env[110]? (.int .u8 x437) <|
 C.same s554.env[111]? (iz (IntKind.wrap .i64 (Int.tmod (IntKind.wrap .u64 a14) (IntKind.wrap .u64 (IntKind.wrap .i64 (8 * (((List.length s236) : Nat) : Int))))))) <|
 C.same s554.env[112]? (iz (Int.tmod (IntKind.wrap .i64 (Int.tmod (IntKind.wrap .u64 a14) (IntKind.wrap .u64 (IntKind.wrap .i64 (8 * (((List.length s236) : Nat) : Int)))))) 8)) <|
 C.same s554.env[113]? (.int .u8 (IntKind.wrap .u8 (1 * (2 ^ (min (Int.toNat (Int.tmod (IntKind.wrap .i64 (Int.tmod (IntKind.wrap .u64 a14) (IntKind.wrap .u64 (IntKind.wrap .i64 (8 * (((List.length s236) : Nat) : Int)))))) 8)) 8))))) <|
 C.same s554.env[114]? (.int .u8 (bits .xor .u8 x437 (IntKind.wrap .u8 (1 * (2 ^ (min (Int.toNat (Int.tmod (IntKind.wrap .i64 (Int.tmod (IntKind.wrap .u64 a14) (IntKind.wrap .u64 (IntKind.wrap .i64 (8 * (((List.length s236) : Nat) : Int)))))) 8)) 8)))))) <|
 C.same s554.env[115]? v438 <|
 C.same s554.env[116]? v237 <|
 C.same s554.env[117]? (.str s444) <|
 C.same s554.env[118]? v239 <|
 C.same s554.env[119]? (.str s447) <|
 C.same s554.env[120]? v448 <|
 C.same s554.env[121]? (iz x452) <|
 C.same s554.env[122]? (iz x459) <|
 C.same s554.env[123]? bt <|
 C.same s554.env[124]? v503 <|
 C.same s554.env[125]? (.str s507) <|
 C.int .i64 s554.env[126]? fun x556 =>
 C.any s554.env[127]? fun v557 =>
 C.any s554.env[128]? fun v558 =>
 C.any s554.env[129]? fun v559 =>
 C.any s554.env[130]? fun v560 =>
 C.any s554.env[131]? fun v561 =>
 C.bool s554.env[132]? fun b562 =>
 C.bool s554.env[133]? fun b563 =>
 C.any s554.env[134]? fun v564 =>
 C.any s554.env[135]? fun v565 =>
 C.any s554.env[136]? fun v566 =>
 C.any s554.env[137]? fun v567 =>
 C.any s554.env[138]? fun v568 =>
 C.any s554.env[139]? fun v569 =>
 C.any s554.env[140]? fun v570 =>
 C.any s554.env[141]? fun v571 =>
 C.any s554.env[142]? fun v572 =>
 C.any s554.env[143]? fun v573 =>
 C.any s554.env[144]? fun v574 =>
 C.any s554.env[145]? fun v575 =>
 C.same s554.env[146]? v483 <|
 C.same s554.env[147]? v484 <|
 C.same s554.env[148]? v485 <|
 C.same s554.env[149]? v486 <|
 C.same s554.env[150]? v487 <|
 C.same s554.env[151]? v488 <|
 C.same s554.env[152]? v489 <|
 C.same s554.env[153]? v490 <|
 C.same s554.env[154]? v491 <|
 C.same s554.env[155]? v492 <|
 C.same s554.env[156]? v493 <|
 C.same s554.env[157]? v494 <|
 C.same s554.env[158]? v495 <|
 C.same s554.env[159]? v496 <|
 C.same s554.env[160]? v497 <|
 C.same s554.env[161]? v498 <|
 C.same s554.env[162]? v499 <|
 C.same s554.env[163]? v500 <|
 C.same s554.env[164]? v501 <|
 C.same s554.env[165]? v502 <|
 C.same s554.env[166]? v231 <|
 C.iter (r6R9 C d a0 a1 a2 a3 a4 a5 a6 a7 a8 a9 a10 a11 a12 a13 a14 a15 v0 v2 b59 b60 b61 v62 v63 v64 v65 b66 b67 v68 v69 v70 v71 x77 x78 x79 x80 s81 x85 x86 x87 x88 x89 x90 x91 x92 x93 s94 s95 v96 x100 x117 v231 v232 s236 v237 v239 b403 v404 v405 x406 b407 v408 v409 v410 v411 v412 v413 v414 v415 v416 v417 v418 v419 v420 v421 v422 v423 v424 v425 v426 v427 v428 v429 v430 v431 v432 v433 x437 v438 s444 s447 v448 x452 k454 b456 x459 v502 v503 s507 x555 x556 v557 v558 v559 v560 v561 b562 b563 v564 v565 v566 v567 v568 v569 v570 v571 v572 v573 v574 v575) 1 ⟨[(.agg [(iz a0), (iz a1), (iz a2), (iz a3)]), (.agg [(iz a4), (iz a5), (iz a6), (iz a7), (iz a8), (iz a9), (iz a10), (iz a11), (iz a12)]), (iz (IntKind.wrap .i64 (1 + (IntKind.wrap .i64 (Int.tmod (IntKind.wrap .u64 a13) 3))))), (iz a14), (.int .u32 a15), v0, v2, tz, tz, tz, (.bool b456), (iz x117), (.str s236), (iz (IntKind.wrap .i64 (8 * (IntKind.wrap .i64 ((((List.length s236) : Nat) : Int) - 4))))), (iz (IntKind.wrap .i64 (Int.tmod (IntKind.wrap .u64 a14) (IntKind.wrap .u64 (IntKind.wrap .i64 (8 * (IntKind.wrap .i64 ((((List.length s236) : Nat) : Int) - 4)))))))), v237, v239, (.bool b403), v404, v405, (iz (IntKind.wrap .i64 (Int.tmod (IntKind.wrap .u64 a14) (IntKind.wrap .u64 (IntKind.wrap .i64 (8 * (((List.length s236) : Nat) : Int))))))), tz, (.str s507), (iz x555), (.bool b59), (.bool b60), (.bool b61), v62, v63, v64, v65, (.bool b66), (.bool b67), v68, v69, v70, v71, bf, tz, (iz a13), (.int .u64 (IntKind.wrap .u64 a13)), (.int .u64 (Int.tmod (IntKind.wrap .u64 a13) 3)), (iz (IntKind.wrap .i64 (Int.tmod (IntKind.wrap .u64 a13) 3))), (iz (IntKind.wrap .i64 (1 + (IntKind.wrap .i64 (Int.tmod (IntKind.wrap .u64 a13) 3))))), (.agg [(iz x77), (iz x78), (iz x79), (iz x80)]), (.str s81), (.agg [(iz x85), (iz x86), (iz x87), (iz x88), (iz x89), (iz x90), (iz x91), (iz x92), (iz x93)]), (.str s94), (iz (IntKind.wrap .i64 (1 + (IntKind.wrap .i64 (Int.tmod (IntKind.wrap .u64 a13) 3))))), (.str s95), v96, (iz x100), (iz x117), bt, (iz x117), v232, (.str s236), (.str s236), (iz (((List.length s236) : Nat) : Int)), (iz (IntKind.wrap .i64 ((((List.length s236) : Nat) : Int) - 4))), (iz (IntKind.wrap .i64 (8 * (IntKind.wrap .i64 ((((List.length s236) : Nat) : Int) - 4))))), (iz a14), (.int .u64 (IntKind.wrap .u64 a14)), (iz (IntKind.wrap .i64 (8 * (IntKind.wrap .i64 ((((List.length s236) : Nat) : Int) - 4))))), (.int .u64 (IntKind.wrap .u64 (IntKind.wrap .i64 (8 * (IntKind.wrap .i64 ((((List.length s236) : Nat) : Int) - 4)))))), (.int .u64 (Int.tmod (IntKind.wrap .u64 a14) (IntKind.wrap .u64 (IntKind.wrap .i64 (8 * (IntKind.wrap .i64 ((((List.length s236) : Nat) : Int) - 4))))))), (iz (IntKind.wrap .i64 (Int.tmod (IntKind.wrap .u64 a14) (IntKind.wrap .u64 (IntKind.wrap .i64 (8 * (IntKind.wrap .i64 ((((List.length s236) : Nat) : Int) - 4)))))))), (.str s236), v237, (.str s236), v239, (iz x406), (.bool b407), v408, v409, v410, v411, v412, v413, v414, v415, v416, v417, v418, v419, v420, v421, v422, v423, v424, v425, v426, v427, v428, v429, v430, v431, v432, (iz a14), (.int .u64 (IntKind.wrap .u64 a14)), (.str s236), (iz (((List.length s236) : Nat) : Int)), (iz (IntKind.wrap .i64 (8 * (((List.length s236) : Nat) : Int)))), (.int .u64 (IntKind.wrap .u64 (IntKind.wrap .i64 (8 * (((List.length s236) : Nat) : Int))))), (.int .u64 (Int.tmod (IntKind.wrap .u64 a14) (IntKind.wrap .u64 (IntKind.wrap .i64 (8 * (((List.length s236) : Nat) : Int)))))), (iz (IntKind.wrap .i64 (Int.tmod (IntKind.wrap .u64 a14) (IntKind.wrap .u64 (IntKind.wrap .i64 (8 * (((List.length s236) : Nat) : Int))))))), v239, (iz (IntKind.wrap .i64 (Int.tmod (IntKind.wrap .u64 a14) (IntKind.wrap .u64 (IntKind.wrap .i64 (8 * (((List.length s236) : Nat) : Int))))))), (iz (IntKind.wrap .i64 (Int.tdiv (IntKind.wrap .i64 (Int.tmod (IntKind.wrap .u64 a14) (IntKind.wrap .u64 (IntKind.wrap .i64 (8 * (((List.length s236) : Nat) : Int)))))) 8))), v433, (.int .u8 x437), (iz (IntKind.wrap .i64 (Int.tmod (IntKind.wrap .u64 a14) (IntKind.wrap .u64 (IntKind.wrap .i64 (8 * (((List.length s236) : Nat) : Int))))))), (iz (Int.tmod (IntKind.wrap .i64 (Int.tmod (IntKind.wrap .u64 a14) (IntKind.wrap .u64 (IntKind.wrap .i64 (8 * (((List.length s236) : Nat) : Int)))))) 8)), (.int .u8 (IntKind.wrap .u8 (1 * (2 ^ (min (Int.toNat (Int.tmod (IntKind.wrap .i64 (Int.tmod (IntKind.wrap .u64 a14) (IntKind.wrap .u64 (IntKind.wrap .i64 (8 * (((List.length s236) : Nat) : Int)))))) 8)) 8))))), (.int .u8 (bits .xor .u8 x437 (IntKind.wrap .u8 (1 * (2 ^ (min (Int.toNat (Int.tmod (IntKind.wrap .i64 (Int.tmod (IntKind.wrap .u64 a14) (IntKind.wrap .u64 (IntKind.wrap .i64 (8 * (((List.length s236) : Nat) : Int)))))) 8)) 8)))))), v438, v237, (.str s444), v239, (.str s447), v448, (iz x452), (iz x459), bt, v503, (.str s507), (iz x556), v557, v558, v559, v560, v561, (.bool b562), (.bool b563), v564, v565, v566, v567, v568, v569, v570, v571, v572, v573, v574, v575, v483, v484, v485, v486, v487, v488, v489, v490, v491, v492, v493, v494, v495, v496, v497, v498, v499, v500, v501, v502, v231], (St.H s554)⟩ [2000000] [r6X9_0 C d a0 a1 a2 a3 a4 a5 a6 a7 a8 a9 a10 a11 a12 a13 a14 a15 v0 v2 b59 b60 b61 v62 v63 v64 v65 b66 b67 v68 v69 v70 v71 x77 x78 x79 x80 s81 x85 x86 x87 x88 x89 x90 x91 x92 x93 s94 s95 v96 x100 x117 v231 v232 s236 v237 v239 b403 v404 v405 x406 b407 v408 v409 v410 v411 v412 v413 v414 v415 v416 v417 v418 v419 v420 v421 v422 v423 v424 v425 v426 v427 v428 v429 v430 v431 v432 v433 x437 v438 s444 s447 v448 x452 k454 b456 x459 v502 v503 s507 x555 x556 v557 v558 v559 v560 v561 b562 b563 v564 v565 v566 v567 v568 v569 v570 v571 v572 v573 v574 v575] (r6E9 C d a0 a1 a2 a3 a4 a5 a6 a7 a8 a9 a10 a11 a12 a13 a14 a15 v0 v2 b59 b60 b61 v62 v63 v64 v65 b66 b67 v68 v69 v70 v71 x77 x78 x79 x80 s81 x85 x86 x87 x88 x89 x90 x91 x92 x93 s94 s95 v96 x100 x117 v231 v232 s236 v237 v239 b403 v404 v405 x406 b407 v408 v409 v410 v411 v412 v413 v414 v415 v416 v417 v418 v419 v420 v421 v422 v423 v424 v425 v426 v427 v428 v429 v430 v431 v432 v433 x437 v438 s444 s447 v448 x452 k454 b456 x459 v502 v503 s507 x555 x556 v557 v558 v559 v560 v561 b562 b563 v564 v565 v566 v567 v568 v569 v570 v571 v572 v573 v574 v575))
 (none)
def r6E8 (C : Cb) (d : Nat) (a0 a1 a2 a3 a4 a5 a6 a7 a8 a9 a10 a11 a12 a13 a14 a15 : Int) (v0 v2 : AV) (b59 b60 b61 : Bool) (v62 v63 v64 v65 : AV) (b66 b67 : Bool) (v68 v69 v70 v71 : AV) (x77 x78 x79 x80 : Int) (s81 : List UInt8) (x85 x86 x87 x88 x89 x90 x91 x92 x93 : Int) (s94 : List UInt8) (s95 : List UInt8) (v96 : AV) (x100 x117 : Int) (v231 v232 : AV) (s236 : List UInt8) (v237 v239 : AV) (b403 : Bool) (v404 v405 : AV) (x406 : Int) (b407 : Bool) (v408 v409 v410 v411 v412 v413 v414 v415 v416 v417 v418 v419 v420 v421 v422 v423 v424 v425 v426 v427 v428 v429 v430 v431 v432 v433 : AV) (x437 : Int) (v438 : AV) (s444 : List UInt8) (s447 : List UInt8) (v448 : AV) (x452 : Int) (k454 : Ex → St → Ans) (b456 : Bool) (x459 : Int) (v483 v484 v485 v486 v487 v488 v489 v490 v491 v492 v493 v494 v495 v496 v497 v498 v499 v500 v501 v502 v503 : AV) (s507 : List UInt8) : St → Ans := fun s510 =>
 cnd ((List.length s510.env) == 167)
 (C.same s510.env[0]? (.agg [(iz a0), (iz a1), (iz a2), (iz a3)]) <|
 C.same s510.env[1]? (.agg [(iz a4), (iz a5), (iz a6), (iz a7), (iz a8), (iz a9), (iz a10), (iz a11), (iz a12)]) <|
 C.same s510.env[2]? (iz (IntKind.wrap .i64 (1 + (IntKind.wrap .i64 (Int.tmod (IntKind.wrap .u64 a13) 3))))) <|
 C.same s510.env[3]? (iz a14) <|
 C.same s510.env[4]? (.int .u32 a15) <|
 C.same s510.env[5]? v0 <|
 C.same s510.env[6]? v2 <|
 C.same s510.env[7]? tz <|
 C.same s510.env[8]? tz <|
 C.same s510.env[9]? tz <|
 C.same s510.env[10]? (.bool b456) <|
 C.same s510.env[11]? (iz x117) <|
 C.same s510.env[12]? (.str s236) <|
 C.same s510.env[13]? (iz (IntKind.wrap .i64 (8 * (IntKind.wrap .i64 ((((List.length s236) : Nat) : Int) - 4))))) <|
 C.same s510.env[14]? (iz (IntKind.wrap .i64 (Int.tmod (IntKind.wrap .u64 a14) (IntKind.wrap .u64 (IntKind.wrap .i64 (8 * (IntKind.wrap .i64 ((((List.length s236) : Nat) : Int) - 4)))))))) <|
 C.same s510.env[15]? v237 <|
 C.same s510.env[16]? v239 <|
 C.same s510.env[17]? (.bool b403) <|
 C.same s510.env[18]? v404 <|
 C.same s510.env[19]? v405 <|
 C.same s510.env[20]? (iz (IntKind.wrap .i64 (Int.tmod (IntKind.wrap .u64 a14) (IntKind.wrap .u64 (IntKind.wrap .i64 (8 * (((List.length s236) : Nat) : Int))))))) <|
 C.same s510.env[21]? tz <|
 C.same s510.env[22]? (.str s507) <|
 C.int .i64 s510.env[23]? fun x637 =>
 C.same s510.env[24]? (.bool b59) <|
 C.same s510.env[25]? (.bool b60) <|
 C.same s510.env[26]? (.bool b61) <|
 C.same s510.env[27]? v62 <|
 C.same s510.env[28]? v63 <|
 C.same s510.env[29]? v64 <|
 C.same s510.env[30]? v65 <|
 C.same s510.env[31]? (.bool b66) <|
 C.same s510.env[32]? (.bool b67) <|
 C.same s510.env[33]? v68 <|
 C.same s510.env[34]? v69 <|
 C.same s510.env[35]? v70 <|
 C.same s510.env[36]? v71 <|
 C.same s510.env[37]? bf <|
 C.same s510.env[38]? tz <|
 C.same s510.env[39]? (iz a13) <|
 C.same s510.env[40]? (.int .u64 (IntKind.wrap .u64 a13)) <|
 C.same s510.env[41]? (.int .u64 (Int.tmod (IntKind.wrap .u64 a13) 3)) <|
 C.same s510.env[42]? (iz (IntKind.wrap .i64 (Int.tmod (IntKind.wrap .u64 a13) 3))) <|
 C.same s510.env[43]? (iz (IntKind.wrap .i64 (1 + (IntKind.wrap .i64 (Int.tmod (IntKind.wrap .u64 a13) 3))))) <|
 C.same s510.env[44]? (.agg [(iz x77), (iz x78), (iz x79), (iz x80)]) <|
 C.same s510.env[45]? (.str s81) <|
 C.same s510.env[46]? (.agg [(iz x85), (iz x86), (iz x87), (iz x88), (iz x89), (iz x90), (iz x91), (iz x92), (iz x93)]) <|
 C.same s510.env[47]? (.str s94) <|
 C.same s510.env[48]? (iz (IntKind.wrap .i64 (1 + (IntKind.wrap .i64 (Int.tmod (IntKind.wrap .u64 a13) 3))))) <|
 C.same s510.env[49]? (.str s95) <|
 C.same s510.env[50]? v96 <|
 C.same s510.env[51]? (iz x100) <|
 C.same s510.env[52]? (iz x117) <|
 C.same s510.env[53]? bt <|
 C.same s510.env[54]? (iz x117) <|
 C.same s510.env[55]? v232 <|
 C.same s510.env[56]? (.str s236) <|
 C.same s510.env[57]? (.str s236) <|
 C.same s510.env[58]? (iz (((List.length s236) : Nat) : Int)) <|
 C.same s510.env[59]? (iz (IntKind.wrap .i64 ((((List.length s236) : Nat) : Int) - 4))) <|
 C.same s510.env[60]? (iz (IntKind.wrap .i64 (8 * (IntKind.wrap .i64 ((((List.length s236) : Nat) : Int) - 4))))) <|
 C.same s510.env[61]? (iz a14) <|
 C.same s510.env[62]? (.int .u64 (IntKind.wrap .u64 a14)) <|
 C.same s510.env[63]? (iz (IntKind.wrap .i64 (8 * (IntKind.wrap .i64 ((((List.length s236) : Nat) : Int) - 4))))) <|
 C.same s510.env[64]? (.int .u64 (IntKind.wrap .u64 (IntKind.wrap .i64 (8 * (IntKind.wrap .i64 ((((List.length s236) : Nat) : Int) - 4)))))) <|
 C.same s510.env[65]? (.int .u64 (Int.tmod (IntKind.wrap .u64 a14) (IntKind.wrap .u64 (IntKind.wrap .i64 (8 * (IntKind.wrap .i64 ((((List.length s236) : Nat) : Int) - 4))))))) <|
 C.same s510.env[66]? (iz (IntKind.wrap .i64 (Int.tmod (IntKind.wrap .u64 a14) (IntKind.wrap .u64 (IntKind.wrap .i64 (8 * (IntKind.wrap .i64 ((((List.length s236) : Nat) : Int) - 4)))))))) <|
 C.same s510.env[67]? (.str s236) <|
 C.same s510.env[68]? v237 <|
 C.same s510.env[69]? (.str s236) <|
 C.same s510.env[70]? v239 <|
 C.same s510.env[71]? (iz x406) <|
 C.same s510.env[72]? (.bool b407) <|
 C.same s510.env[73]? v408 <|
 C.same s510.env[74]? v409 <|
 C.same s510.env[75]? v410 <|
 C.same s510.env[76]? v411 <|
 C.same s510.env[77]? v412 <|
 C.same s510.env[78]? v413 <|
 C.same s510.env[79]? v414 <|
 C.same s510.env[80]? v415 <|
 C.same s510.env[81]? v416 <|
 C.same s510.env[82]? v417 <|
 C.same s510.env[83]? v418 <|
 C.same s510.env[84]? v419 <|
 C.same s510.env[85]? v420 <|
 C.same s510.env[86]? v421 <|
 C.same s510.env[87]? v422 <|
 C.same s510.env[88]? v423 <|
 C.same s510.env[89]? v424 <|
 C.same s510.env[90]? v425 <|
 C.same s510.env[91]? v426 <|
 C.same s510.env[92]? v427 <|
 C.same s510.env[93]? v428 <|
 C.same s510.env[94]? v429 <|
 C.same s510.env[95]? v430 <|
 C.same s510.env[96]? v431 <|
 C.same s510.env[97]? v432 <|
 C.same s510.env[98]? (iz a14) <|
 C.same s510.env[99]? (.int .u64 (IntKind.wrap .u64 a14)) <|
 C.same s510.env[100]? (.str s236) <|
 C.same s510.env[101]? (iz (((List.length s236) : Nat) : Int)) <|
 C.same s510.env[102]? (iz (IntKind.wrap .i64 (8 * (((List.length s236) : Nat) : Int)))) <|
 C.same s510.env[103]? (.int .u64 (IntKind.wrap .u64 (IntKind.wrap .i64 (8 * (((List.length s236) : Nat) : Int))))) <|
 C.same s510.env[104]? (.int .u64 (Int.tmod (IntKind.wrap .u64 a14) (IntKind.wrap .u64 (IntKind.wrap .i64 (8 * (((List.length s236) : Nat) : Int)))))) <|
 C.same s510.env[105]? (iz (IntKind.wrap .i64 (Int.tmod (IntKind.wrap .u64 a14) (IntKind.wrap .u64 (IntKind.wrap .i64 (8 * (((List.length s236) : Nat) : Int))))))) <|
 C.same s510.env[106]? v239 <|
 C.same s510.env[107]? (iz (IntKind.wrap .i64 (Int.tmod (IntKind.wrap .u64 a14) (IntKind.wrap .u64 (IntKind.wrap .i64 (8 * (((List.length s236) : Nat) : Int))))))) <|
 C.same s510.env[108]? (iz (IntKind.wrap .i64 (Int.tdiv (IntKind.wrap .i64 (Int.tmod (IntKind.wrap .u64 a14) (IntKind.wrap .u64 (IntKind.wrap .i64 (8 * (((List.length s236) : Nat) : Int)))))) 8))) <|
 C.same s510.env[109]? v433 <|
 C.same s510.env[110]? (.int .u8 x437) <|
 C.same s510.env[111]? (iz (IntKind.wrap .i64 (Int.tmod (IntKind.wrap .u64 a14) (IntKind.wrap .u64 (IntKind.wrap .i64 (8 * (((List.length s236) : Nat) : Int))))))) <|
 C.same s510.env[112]? (iz (Int.tmod (IntKind.wrap .i64 (Int.tmod (IntKind.wrap .u64 a14) (IntKind.wrap .u64 (IntKind.wrap .i64 (8 * (((List.length s236) : Nat) : Int)))))) 8)) <|
 C.same s510.env[113]? (.int .u8 (IntKind.wrap .u8 (1 * (2 ^ (min (Int.toNat (Int.tmod (IntKind.wrap .i64 (Int.tmod (IntKind.wrap .u64 a14) (IntKind.wrap .u64 (IntKind.wrap .i64 (8 * (((List.length s236) : Nat) : Int)))))) 8)) 8))))) <|
 C.same s510.env[114]? (.int .u8 (bits .xor .u8 x437 (IntKind.wrap .u8 (1 * (2 ^ (min (Int.toNat (Int.tmod (IntKind.wrap .i64 (Int.tmod (IntKind.wrap .u64 a14) (IntKind.wrap .u64 (IntKind.wrap .i64 (8 * (((List.length s236) : Nat) : Int)))))) 8)) 8)))))) <|
 C.same s510.env[115]? v438 <|
 C.same s510.env[116]? v237 <|
 C.same s510.env[117]? (.str s444) <|
 C.same s510.env[118]? v239 <|
 C.same s510.env[119]? (.str s447) <|
 C.same s510.env[120]? v448 <|
 C.same s510.env[121]? (iz x452) <|
 C.same s510.env[122]? (iz x459) <|
 C.same s510.env[123]? bt <|
 C.same s510.env[124]? v503 <|
 C.same s510.env[125]? (.str s507) <|
 C.any s510.env[126]? fun v638 =>
 C.any s510.env[127]? fun v639 =>
 C.any s510.env[128]? fun v640 =>
 C.any s510.env[129]? fun v641 =>
 C.any s510.env[130]? fun v642 =>
 C.any s510.env[131]? fun v643 =>
 C.any s510.env[132]? fun v644 =>
 C.any s510.env[133]? fun v645 =>
 C.any s510.env[134]? fun v646 =>
 C.any s510.env[135]? fun v647 =>
 C.any s510.env[136]? fun v648 =>
 C.any s510.env[137]? fun v649 =>
 C.any s510.env[138]? fun v650 =>
 C.any s510.env[139]? fun v651 =>
 C.any s510.env[140]? fun v652 =>
 C.any s510.env[141]? fun v653 =>
 C.any s510.env[142]? fun v654 =>
 C.any s510.env[143]? fun v655 =>
 C.any s510.env[144]? fun v656 =>
 C.any s510.env[145]? fun v657 =>
 C.same s510.env[146]? v483 <|
 C.same s510.env[147]? v484 <|
 C.same s510.env[148]? v485 <|
 C.same s510.env[149]? v486 <|
 C.same s510.env[150]? v487 <|
 C.same s510.env[151]? v488 <|
 C.same s510.env[152]? v489 <|
 C.same s510.env[153]? v490 <|
 C.same s510.env[154]? v491 <|
 C.same s510.env[155]? v492 <|
 C.same s510.env[156]? v493 <|
 C.same s510.env[157]? v494 <|
 C.same s510.env[158]? v495 <|
 C.same s510.env[159]? v496 <|
 C.same s510.env[160]? v497 <|
 C.same s510.env[161]? v498 <|
 C.same s510.env[162]? v499 <|
 C.same s510.env[163]? v500 <|
 C.same s510.env[164]? v501 <|
 C.same s510.env[165]? v502 <|
 C.same s510.env[166]? v231 <|
 none)
 (none)
def r6R7 (C : Cb) (d : Nat) (a0 a1 a2 a3 a4 a5 a6 a7 a8 a9 a10 a11 a12 a13 a14 a15 : Int) (v0 v2 : AV) (b59 b60 b61 : Bool) (v62 v63 v64 v65 : AV) (b66 b67 : Bool) (v68 v69 v70 v71 : AV) (x77 x78 x79 x80 : Int) (s81 : List UInt8) (x85 x86 x87 x88 x89 x90 x91 x92 x93 : Int) (s94 : List UInt8) (s95 : List UInt8) (v96 : AV) (x100 : Int) (k102 : Ex → St → Ans) (x117 : Int) (v231 v232 : AV) (s236 : List UInt8) (v237 v239 : AV) (b403 : Bool) (v404 v405 : AV) (x406 : Int) (b407 : Bool) (v408 v409 v410 v411 v412 v413 v414 v415 v416 v417 v418 v419 v420 v421 v422 v423 v424 v425 v426 v427 v428 v429 v430 v431 v432 v433 : AV) (x437 : Int) (v438 : AV) (s444 : List UInt8) (s447 : List UInt8) (v448 : AV) (x452 : Int) : St → (Ex → St → Ans) → Ans := fun s453 k454 =>
 cnd ((List.length s453.env) == 167)
 (C.same s453.env[0]? (.agg [(iz a0), (iz a1), (iz a2), (iz a3)]) <|
 C.same s453.env[1]? (.agg [(iz a4), (iz a5), (iz a6), (iz a7), (iz a8), (iz a9), (iz a10), (iz a11), (iz a12)]) <|
 C.same s453.env[2]? (iz (IntKind.wrap .i64 (1 + (IntKind.wrap .i64 (Int.tmod (IntKind.wrap .u64 a13) 3))))) <|
 C.same s453.env[3]? (iz a14) <|
 C.same s453.env[4]? (.int .u32 a15) <|
 C.same s453.env[5]? v0 <|
 C.same s453.env[6]? v2 <|
 C.same s453.env[7]? tz <|
 C.same s453.env[8]? tz <|
 C.same s453.env[9]? tz <|
 C.bool s453.env[10]? fun b456 =>
 C.same s453.env[11]? (iz x117) <|
 C.same s453.env[12]? (.str s236) <|
 C.same s453.env[13]? (iz (IntKind.wrap .i64 (8 * (IntKind.wrap .i64 ((((List.length s236) : Nat) : Int) - 4))))) <|
 C.same s453.env[14]? (iz (IntKind.wrap .i64 (Int.tmod (IntKind.wrap .u64 a14) (IntKind.wrap .u64 (IntKind.wrap .i64 (8 * (IntKind.wrap .i64 ((((List.length s236) : Nat) : Int) - 4)))))))) <|
 C.same s453.env[15]? v237 <|
 C.same s453.env[16]? v239 <|
 C.same s453.env[17]? (.bool b403) <|
 C.same s453.env[18]? v404 <|
 C.same s453.env[19]? v405 <|
 C.same s453.env[20]? (iz (IntKind.wrap .i64 (Int.tmod (IntKind.wrap .u64 a14) (IntKind.wrap .u64 (IntKind.wrap .i64 (8 * (((List.length s236) : Nat) : Int))))))) <|
 C.same s453.env[21]? tz <|
 C.any s453.env[22]? fun v457 =>
 C.any s453.env[23]? fun v458 =>
 C.same s453.env[24]? (.bool b59) <|
 C.same s453.env[25]? (.bool b60) <|
 C.same s453.env[26]? (.bool b61) <|
 C.same s453.env[27]? v62 <|
 C.same s453.env[28]? v63 <|
 C.same s453.env[29]? v64 <|
 C.same s453.env[30]? v65 <|
 C.same s453.env[31]? (.bool b66) <|
 C.same s453.env[32]? (.bool b67) <|
 C.same s453.env[33]? v68 <|
 C.same s453.env[34]? v69 <|
 C.same s453.env[35]? v70 <|
 C.same s453.env[36]? v71 <|
 C.same s453.env[37]? bf <|
 C.same s453.env[38]? tz <|
 C.same s453.env[39]? (iz a13) <|
 C.same s453.env[40]? (.int .u64 (IntKind.wrap .u64 a13)) <|
 C.same s453.env[41]? (.int .u64 (Int.tmod (IntKind.wrap .u64 a13) 3)) <|
 C.same s453.env[42]? (iz (IntKind.wrap .i64 (Int.tmod (IntKind.wrap .u64 a13) 3))) <|
 C.same s453.env[43]? (iz (IntKind.wrap .i64 (1 + (IntKind.wrap .i64 (Int.tmod (IntKind.wrap .u64 a13) 3))))) <|
 C.same s453.env[44]? (.agg [(iz x77), (iz x78), (iz x79), (iz x80)]) <|
 C.same s453.env[45]? (.str s81) <|
 C.same s453.env[46]? (.agg [(iz x85), (iz x86), (iz x87), (iz x88), (iz x89), (iz x90), (iz x91), (iz x92), (iz x93)]) <|
 C.same s453.env[47]? (.str s94) <|
 C.same s453.env[48]? (iz (IntKind.wrap .i64 (1 + (IntKind.wrap .i64 (Int.tmod (IntKind.wrap .u64 a13) 3))))) <|
 C.same s453.env[49]? (.str s95) <|
 C.same s453.env[50]? v96 <|
 C.same s453.env[51]? (iz x100) <|
 C.same s453.env[52]? (iz x117) <|
 C.same s453.env[53]? bt <|
 C.same s453.env[54]? (iz x117) <|
 C.same s453.env[55]? v232 <|
 C.same s453.env[56]? (.str s236) <|
 C.same s453.env[57]? (.str s236) <|
 C.same s453.env[58]? (iz (((List.length s236) : Nat) : Int)) <|
 C.same s453.env[59]? (iz (IntKind.wrap .i64 ((((List.length s236) : Nat) : Int) - 4))) <|
 C.same s453.env[60]? (iz (IntKind.wrap .i64 (8 * (IntKind.wrap .i64 ((((List.length s236) : Nat) : Int) - 4))))) <|
 C.same s453.env[61]? (iz a14) <|
 C.same s453.env[62]? (.int .u64 (IntKind.wrap .u64 a14)) <|
 C.same s453.env[63]? (iz (IntKind.wrap .i64 (8 * (IntKind.wrap .i64 ((((List.length s236) : Nat) : Int) - 4))))) <|
 C.same s453.env[64]? (.int .u64 (IntKind.wrap .u64 (IntKind.wrap .i64 (8 * (IntKind.wrap .i64 ((((List.length s236) : Nat) : Int) - 4)))))) <|
 C.same s453.env[65]? (.int .u64 (Int.tmod (IntKind.wrap .u64 a14) (IntKind.wrap .u64 (IntKind.wrap .i64 (8 * (IntKind.wrap .i64 ((((List.length s236) : Nat) : Int) - 4))))))) <|
 C.same s453.env[66]? (iz (IntKind.wrap .i64 (Int.tmod (IntKind.wrap .u64 a14) (IntKind.wrap .u64 (IntKind.wrap .i64 (8 * (IntKind.wrap .i64 ((((List.length s236) : Nat) : Int) - 4)))))))) <|
 C.same s453.env[67]? (.str s236) <|
 C.same s453.env[68]? v237 <|
 C.same s453.env[69]? (.str s236) <|
 C.same s453.env[70]? v239 <|
 C.same s453.env[71]? (iz x406) <|
 C.same s453.env[72]? (.bool b407) <|
 C.same s453.env[73]? v408 <|
 C.same s453.env[74]? v409 <|
 C.same s453.env[75]? v410 <|
 C.same s453.env[76]? v411 <|
 C.same s453.env[77]? v412 <|
 C.same s453.env[78]? v413 <|
 C.same s453.env[79]? v414 <|
 C.same s453.env[80]? v415 <|
 C.same s453.env[81]? v416 <|
 C.same s453.env[82]? v417 <|
 C.same s453.env[83]? v418 <|
 C.same s453.env[84]? v419 <|
 C.same s453.env[85]? v420 <|
 C.same s453.env[86]? v421 <|
 C.same s453.env[87]? v422 <|
 C.same s453.env[88]? v423 <|
 C.same s453.env[89]? v424 <|
 C.same s453.env[90]? v425 <|
 C.same s453.env[91]? v426 <|
 C.same s453.env[92]? v427 <|
 C.same s453.env[93]? v428 <|
 C.same s453.env[94]? v429 <|
 C.same s453.env[95]? v430 <|
 C.same s453.env[96]? v431 <|
 C.same s453.env[97]? v432 <|
 C.same s453.env[98]? (iz a14) <|
 C.same s453.env[99]? (.int .u64 (IntKind.wrap .u64 a14)) <|
 C.same s453.env[100]? (.str s236) <|
 C.same s453.env[101]? (iz (((List.length s236) : Nat) : Int)) <|
 C.same s453.env[102]? (iz (IntKind.wrap .i64 (8 * (((List.length s236) : Nat) : Int)))) <|
 C.same s453.env[103]? (.int .u64 (IntKind.wrap .u64 (IntKind.wrap .i64 (8 * (((List.length s236) : Nat) : Int))))) <|
 C.same s453.env[104]? (.int .u64 (Int.tmod (IntKind.wrap .u64 a14) (IntKind.wrap .u64 (IntKind.wrap .i64 (8 * (((List.length s236) : Nat) : Int)))))) <|
 C.same s453.env[105]? (iz (IntKind.wrap .i64 (Int.tmod (IntKind.wrap .u64 a14) (IntKind.wrap .u64 (IntKind.wrap .i64 (8 * (((List.length s236) : Nat) : Int))))))) <|
 C.same s453.env[106]? v239 <|
 C.same s453.env[107]? (iz (IntKind.wrap .i64 (Int.tmod (IntKind.wrap .u64 a14) (IntKind.wrap .u64 (IntKind.wrap .i64 (8 * (((List.length s236) : Nat) : Int))))))) <|
 C.same s453.env[108]? (iz (IntKind.wrap .i64 (Int.tdiv (IntKind.wrap .i64 (Int.tmod (IntKind.wrap .u64 a14) (IntKind.wrap .u64 (IntKind.wrap .i64 (8 * (((List.length s236) : Nat) : Int)))))) 8))) <|
 C.same s453.env[109]? v433 <|
 C.same s453.env[110]? (.int .u8 x437) <|
 C.same s453.env[111]? (iz (IntKind.wrap .i64 (Int.tmod (IntKind.wrap .u64 a14) (IntKind.wrap .u64 (IntKind.wrap .i64 (8 * (((List.length s236) : Nat) : Int))))))) <|
 C.same s453.env[112]? (iz (Int.tmod (IntKind.wrap .i64 (Int.tmod (IntKind.wrap .u64 a14) (IntKind.wrap .u64 (IntKind.wrap .i64 (8 * (((List.length s236) : Nat) : Int)))))) 8)) <|
 C.same s453.env[113]? (.int .u8 (IntKind.wrap .u8 (1 * (2 ^ (min (Int.toNat (Int.tmod (IntKind.wrap .i64 (Int.tmod (IntKind.wrap .u64 a14) (IntKind.wrap .u64 (IntKind.wrap .i64 (8 * (((List.length s236) : Nat) : Int)))))) 8)) 8))))) <|
 C.same s453.env[114]? (.int .u8 (bits .xor .u8 x437 (IntKind.wrap .u8 (1 * (2 ^ (min (Int.toNat (Int.tmod (IntKind.wrap .i64 (Int.tmod (IntKind.wrap .u64 a14) (IntKind.wrap .u64 (IntKind.wrap .i64 (8 * (((List.length s236) : Nat) : Int)))))) 8)) 8)))))) <|
 C.same s453.env[115]? v438 <|
 C.same s453.env[116]? v237 <|
 C.same s453.env[117]? (.str s444) <|
 C.same s453.env[118]? v239 <|
 C.same s453.env[119]? (.str s447) <|
 C.same s453.env[120]? v448 <|
 C.same s453.env[121]? (iz x452) <|
 C.int .i64 s453.env[122]? fun x459 =>
 C.any s453.env[123]? fun v460 =>
 C.any s453.env[124]? fun v461 =>
 C.any s453.env[125]? fun v462 =>
 C.any s453.env[126]? fun v463 =>
 C.any s453.env[127]? fun v464 =>
 C.any s453.env[128]? fun v465 =>
 C.any s453.env[129]? fun v466 =>
 C.any s453.env[130]? fun v467 =>
 C.any s453.env[131]? fun v468 =>
 C.any s453.env[132]? fun v469 =>
 C.any s453.env[133]? fun v470 =>
 C.any s453.env[134]? fun v471 =>
 C.any s453.env[135]? fun v472 =>
 C.any s453.env[136]? fun v473 =>
 C.any s453.env[137]? fun v474 =>
 C.any s453.env[138]? fun v475 =>
 C.any s453.env[139]? fun v476 =>
 C.any s453.env[140]? fun v477 =>
 C.any s453.env[141]? fun v478 =>
 C.any s453.env[142]? fun v479 =>
 C.any s453.env[143]? fun v480 =>
 C.any s453.env[144]? fun v481 =>
 C.any s453.env[145]? fun v482 =>
 C.any s453.env[146]? fun v483 =>
 C.any s453.env[147]? fun v484 =>
 C.any s453.env[148]? fun v485 =>
 C.any s453.env[149]? fun v486 =>
 C.any s453.env[150]? fun v487 =>
 C.any s453.env[151]? fun v488 =>
 C.any s453.env[152]? fun v489 =>
 C.any s453.env[153]? fun v490 =>
 C.any s453.env[154]? fun v491 =>
 C.any s453.env[155]? fun v492 =>
 C.any s453.env[156]? fun v493 =>
 C.any s453.env[157]? fun v494 =>
 C.any s453.env[158]? fun v495 =>
 C.any s453.env[159]? fun v496 =>
 C.any s453.env[160]? fun v497 =>
 C.any s453.env[161]? fun v498 =>
 C.any s453.env[162]? fun v499 =>
 C.any s453.env[163]? fun v500 =>
 C.any s453.env[164]? fun v501 =>
 C.any s453.env[165]? fun v502 =>
 C.same s453.env[166]? v231 <|
 cnd (decide (x459 < x452))
 (C.hop (St.H s453) (.ixAS .any 1 (.v v448) (.v (iz x459))) fun v503 h504 =>
 C.hop h504 (.load false 1 (.v v503)) fun v505 h506 =>
 C.str (some v505) fun s507 =>
 C.iter (r6R8 C d a0 a1 a2 a3 a4 a5 a6 a7 a8 a9 a10 a11 a12 a13 a14 a15 v0 v2 b59 b60 b61 v62 v63 v64 v65 b66 b67 v68 v69 v70 v71 x77 x78 x79 x80 s81 x85 x86 x87 x88 x89 x90 x91 x92 x93 s94 s95 v96 x100 x117 v231 v232 s236 v237 v239 b403 v404 v405 x406 b407 v408 v409 v410 v411 v412 v413 v414 v415 v416 v417 v418 v419 v420 v421 v422 v423 v424 v425 v426 v427 v428 v429 v430 v431 v432 v433 x437 v438 s444 s447 v448 x452 k454 b456 x459 v483 v484 v485 v486 v487 v488 v489 v490 v491 v492 v493 v494 v495 v496 v497 v498 v499 v500 v501 v502 v503 s507) 1 ⟨[(.agg [(iz a0), (iz a1), (iz a2), (iz a3)]), (.agg [(iz a4), (iz a5), (iz a6), (iz a7), (iz a8), (iz a9), (iz a10), (iz a11), (iz a12)]), (iz (IntKind.wrap .i64 (1 + (IntKind.wrap .i64 (Int.tmod (IntKind.wrap .u64 a13) 3))))), (iz a14), (.int .u32 a15), v0, v2, tz, tz, tz, (.bool b456), (iz x117), (.str s236), (iz (IntKind.wrap .i64 (8 * (IntKind.wrap .i64 ((((List.length s236) : Nat) : Int) - 4))))), (iz (IntKind.wrap .i64 (Int.tmod (IntKind.wrap .u64 a14) (IntKind.wrap .u64 (IntKind.wrap .i64 (8 * (IntKind.wrap .i64 ((((List.length s236) : Nat) : Int) - 4)))))))), v237, v239, (.bool b403), v404, v405, (iz (IntKind.wrap .i64 (Int.tmod (IntKind.wrap .u64 a14) (IntKind.wrap .u64 (IntKind.wrap .i64 (8 * (((List.length s236) : Nat) : Int))))))), tz, (.str s507), (iz 0), (.bool b59), (.bool b60), (.bool b61), v62, v63, v64, v65, (.bool b66), (.bool b67), v68, v69, v70, v71, bf, tz, (iz a13), (.int .u64 (IntKind.wrap .u64 a13)), (.int .u64 (Int.tmod (IntKind.wrap .u64 a13) 3)), (iz (IntKind.wrap .i64 (Int.tmod (IntKind.wrap .u64 a13) 3))), (iz (IntKind.wrap .i64 (1 + (IntKind.wrap .i64 (Int.tmod (IntKind.wrap .u64 a13) 3))))), (.agg [(iz x77), (iz x78), (iz x79), (iz x80)]), (.str s81), (.agg [(iz x85), (iz x86), (iz x87), (iz x88), (iz x89), (iz x90), (iz x91), (iz x92), (iz x93)]), (.str s94), (iz (IntKind.wrap .i64 (1 + (IntKind.wrap .i64 (Int.tmod (IntKind.wrap .u64 a13) 3))))), (.str s95), v96, (iz x100), (iz x117), bt, (iz x117), v232, (.str s236), (.str s236), (iz (((List.length s236) : Nat) : Int)), (iz (IntKind.wrap .i64 ((((List.length s236) : Nat) : Int) - 4))), (iz (IntKind.wrap .i64 (8 * (IntKind.wrap .i64 ((((List.length s236) : Nat) : Int) - 4))))), (iz a14), (.int .u64 (IntKind.wrap .u64 a14)), (iz (IntKind.wrap .i64 (8 * (IntKind.wrap .i64 ((((List.length s236) : Nat) : Int) - 4))))), (.int .u64 (IntKind.wrap .u64 (IntKind.wrap .i64 (8 * (IntKind.wrap .i64 ((((List.length s236) : Nat) : Int) - 4)))))), (.int .u64 (Int.tmod (IntKind.wrap .u64 a14) (IntKind.wrap .u64 (IntKind.wrap .i64 (8 * (IntKind.wrap .i64 ((((List.length s236) : Nat) : Int) - 4))))))), (iz (IntKind.wrap .i64 (Int.tmod (IntKind.wrap .u64 a14) (IntKind.wrap .u64 (IntKind.wrap .i64 (8 * (IntKind.wrap .i64 ((((List.length s236) : Nat) : Int) - 4)))))))), (.str s236), v237, (.str s236), v239, (iz x406), (.bool b407), v408, v409, v410, v411, v412, v413, v414, v415, v416, v417, v418, v419, v420, v421, v422, v423, v424, v425, v426, v427, v428, v429, v430, v431, v432, (iz a14), (.int .u64 (IntKind.wrap .u64 a14)), (.str s236), (iz (((List.length s236) : Nat) : Int)), (iz (IntKind.wrap .i64 (8 * (((List.length s236) : Nat) : Int)))), (.int .u64 (IntKind.wrap .u64 (IntKind.wrap .i64 (8 * (((List.length s236) : Nat) : Int))))), (.int .u64 (Int.tmod (IntKind.wrap .u64 a14) (IntKind.wrap .u64 (IntKind.wrap .i64 (8 * (((List.length s236) : Nat) : Int)))))), (iz (IntKind.wrap .i64 (Int.tmod (IntKind.wrap .u64 a14) (IntKind.wrap .u64 (IntKind.wrap .i64 (8 * (((List.length s236) : Nat) : Int))))))), v239, (iz (IntKind.wrap .i64 (Int.tmod (IntKind.wrap .u64 a14) (IntKind.wrap .u64 (IntKind.wrap .i64 (8 * (((List.length s236) : Nat) : Int))))))), (iz (IntKind.wrap .i64 (Int.tdiv (IntKind.wrap .i64 (Int.tmod (IntKind.wrap .u64 a14) (IntKind.wrap .u64 (IntKind.wrap .i64 (8 * (((List.length s236) : Nat) : Int)))))) 8))), v433, (.int .u8 x437), (iz (IntKind.wrap .i64 (Int.tmod (IntKind.wrap .u64 a14) (IntKind.wrap .u64 (IntKind.wrap .i64 (8 * (((List.length s236) : Nat) : Int))))))), (iz (Int.tmod (IntKind.wrap .i64 (Int.tmod (IntKind.wrap .u64 a14) (IntKind.wrap .u64 (IntKind.wrap .i64 (8 * (((List.length s236) : Nat) : Int)))))) 8)), (.int .u8 (IntKind.wrap .u8 (1 * (2 ^ (min (Int.toNat (Int.tmod (IntKind.wrap .i64 (Int.tmod (IntKind.wrap .u64 a14) (IntKind.wrap .u64 (IntKind.wrap .i64 (8 * (((List.length s236) : Nat) : Int)))))) 8)) 8))))), (.int .u8 (bits .xor .u8 x437 (IntKind.wrap .u8 (1 * (2 ^ (min (Int.toNat (Int.tmod (IntKind.wrap .i64 (Int.tmod (IntKind.wrap .u64 a14) (IntKind.wrap .u64 (IntKind.wrap .i64 (8 * (((List.length s236) : Nat) : Int)))))) 8)) 8)))))), v438, v237, (.str s444), v239, (.str s447), v448, (iz x452), (iz x459), bt, v503, (.str s507), v463, v464, v465, v466, v467, v468, v469, v470, v471, v472, v473, v474, v475, v476, v477, v478, v479, v480, v481, v482, v483, v484, v485, v486, v487, v488, v489, v490, v491, v492, v493, v494, v495, v496, v497, v498, v499, v500, v501, v502, v231], h506⟩ [2000000] [r6X8_0 C d a0 a1 a2 a3 a4 a5 a6 a7 a8 a9 a10 a11 a12 a13 a14 a15 v0 v2 b59 b60 b61 v62 v63 v64 v65 b66 b67 v68 v69 v70 v71 x77 x78 x79 x80 s81 x85 x86 x87 x88 x89 x90 x91 x92 x93 s94 s95 v96 x100 x117 v231 v232 s236 v237 v239 b403 v404 v405 x406 b407 v408 v409 v410 v411 v412 v413 v414 v415 v416 v417 v418 v419 v420 v421 v422 v423 v424 v425 v426 v427 v428 v429 v430 v431 v432 v433 x437 v438 s444 s447 v448 x452 k454 b456 x459 v483 v484 v485 v486 v487 v488 v489 v490 v491 v492 v493 v494 v495 v496 v497 v498 v499 v500 v501 v502 v503 s507] (r6E8 C d a0 a1 a2 a3 a4 a5 a6 a7 a8 a9 a10 a11 a12 a13 a14 a15 v0 v2 b59 b60 b61 v62 v63 v64 v65 b66 b67 v68 v69 v70 v71 x77 x78 x79 x80 s81 x85 x86 x87 x88 x89 x90 x91 x92 x93 s94 s95 v96 x100 x117 v231 v232 s236 v237 v239 b403 v404 v405 x406 b407 v408 v409 v410 v411 v412 v413 v414 v415 v416 v417 v418 v419 v420 v421 v422 v423 v424 v425 v426 v427 v428 v429 v430 v431 v432 v433 x437 v438 s444 s447 v448 x452 k454 b456 x459 v483 v484 v485 v486 v487 v488 v489 v490 v491 v492 v493 v494 v495 v496 v497 v498 v499 v500 v501 v502 v503 s507))
 (k454 (.exit 4) ⟨[(.agg [(iz a0), (iz a1), (iz a2), (iz a3)]), (.agg [(iz a4), (iz a5), (iz a6), (iz a7), (iz a8), (iz a9), (iz a10), (iz a11), (iz a12)]), (iz (IntKind.wrap .i64 (1 + (IntKind.wrap .i64 (Int.tmod (IntKind.wrap .u64 a13) 3))))), (iz a14), (.int .u32 a15), v0, v2, tz, tz, tz, (.bool b456), (iz x117), (.str s236), (iz (IntKind.wrap .i64 (8 * (IntKind.wrap .i64 ((((List.length s236) : Nat) : Int) - 4))))), (iz (IntKind.wrap .i64 (Int.tmod (IntKind.wrap .u64 a14) (IntKind.wrap .u64 (IntKind.wrap .i64 (8 * (IntKind.wrap .i64 ((((List.length s236) : Nat) : Int) - 4)))))))), v237, v239, (.bool b403), v404, v405, (iz (IntKind.wrap .i64 (Int.tmod (IntKind.wrap .u64 a14) (IntKind.wrap .u64 (IntKind.wrap .i64 (8 * (((List.length s236) : Nat) : Int))))))), tz, v457, v458, (.bool b59), (.bool b60), (.bool b61), v62, v63, v64, v65, (.bool b66), (.bool b67), v68, v69, v70, v71, bf, tz, (iz a13), (.int .u64 (IntKind.wrap .u64 a13)), (.int .u64 (Int.tmod (IntKind.wrap .u64 a13) 3)), (iz (IntKind.wrap .i64 (Int.tmod (IntKind.wrap .u64 a13) 3))), (iz (IntKind.wrap .i64 (1 + (IntKind.wrap .i64 (Int.tmod (IntKind.wrap .u64 a13) 3))))), (.agg [(iz x77), (iz x78), (iz x79), (iz x80)]), (.str s81), (.agg [(iz x85), (iz x86), (iz x87), (iz x88), (iz x89), (iz x90), (iz x91), (iz x92), (iz x93)]), (.str s94), (iz (IntKind.wrap .i64 (1 + (IntKind.wrap .i64 (Int.tmod (IntKind.wrap .u64 a13) 3))))), (.str s95), v96, (iz x100), (iz x117), bt, (iz x117), v232, (.str s236), (.str s236), (iz (((List.length s236) : Nat) : Int)), (iz (IntKind.wrap .i64 ((((List.length s236) : Nat) : Int) - 4))), (iz (IntKind.wrap .i64 (8 * (IntKind.wrap .i64 ((((List.length s236) : Nat) : Int) - 4))))), (iz a14), (.int .u64 (IntKind.wrap .u64 a14)), (iz (IntKind.wrap .i64 (8 * (IntKind.wrap .i64 ((((List.length s236) : Nat) : Int) - 4))))), (.int .u64 (IntKind.wrap .u64 (IntKind.wrap .i64 (8 * (IntKind.wrap .i64 ((((List.length s236) : Nat) : Int) - 4)))))), (.int .u64 (Int.tmod (IntKind.wrap .u64 a14) (IntKind.wrap .u64 (IntKind.wrap .i64 (8 * (IntKind.wrap .i64 ((((List.length s236) : Nat) : Int) - 4))))))), (iz (IntKind.wrap .i64 (Int.tmod (IntKind.wrap .u64 a14) (IntKind.wrap .u64 (IntKind.wrap .i64 (8 * (IntKind.wrap .i64 ((((List.length s236) : Nat) : Int) - 4)))))))), (.str s236), v237, (.str s236), v239, (iz x406), (.bool b407), v408, v409, v410, v411, v412, v413, v414, v415, v416, v417, v418, v419, v420, v421, v422, v423, v424, v425, v426, v427, v428, v429, v430, v431, v432, (iz a14), (.int .u64 (IntKind.wrap .u64 a14)), (.str s236), (iz (((List.length s236) : Nat) : Int)), (iz (IntKind.wrap .i64 (8 * (((List.length s236) : Nat) : Int)))), (.int .u64 (IntKind.wrap .u64 (IntKind.wrap .i64 (8 * (((List.length s236) : Nat) : Int))))), (.int .u64 (Int.tmod (IntKind.wrap .u64 a14) (IntKind.wrap .u64 (IntKind.wrap .i64 (8 * (((List.length s236) : Nat) : Int)))))), (iz (IntKind.wrap .i64 (Int.tmod (IntKind.wrap .u64 a14) (IntKind.wrap .u64 (IntKind.wrap .i64 (8 * (((List.length s236) : Nat) : Int))))))), v239, (iz (IntKind.wrap .i64 (Int.tmod (IntKind.wrap .u64 a14) (IntKind.wrap .u64 (IntKind.wrap .i64 (8 * (((List.length s236) : Nat) : Int))))))), (iz (IntKind.wrap .i64 (Int.tdiv (IntKind.wrap .i64 (Int.tmod (IntKind.wrap .u64 a14) (IntKind.wrap .u64 (IntKind.wrap .i64 (8 * (((List.length s236) : Nat) : Int)))))) 8))), v433, (.int .u8 x437), (iz (IntKind.wrap .i64 (Int.tmod (IntKind.wrap .u64 a14) (IntKind.wrap .u64 (IntKind.wrap .i64 (8 * (((List.length s236) : Nat) : Int))))))), (iz (Int.tmod (IntKind.wrap .i64 (Int.tmod (IntKind.wrap .u64 a14) (IntKind.wrap .u64 (IntKind.wrap .i64 (8 * (((List.length s236) : Nat) : Int)))))) 8)), (.int .u8 (IntKind.wrap .u8 (1 * (2 ^ (min (Int.toNat (Int.tmod (IntKind.wrap .i64 (Int.tmod (IntKind.wrap .u64 a14) (IntKind.wrap .u64 (IntKind.wrap .i64 (8 * (((List.length s236) : Nat) : Int)))))) 8)) 8))))), (.int .u8 (bits .xor .u8 x437 (IntKind.wrap .u8 (1 * (2 ^ (min (Int.toNat (Int.tmod (IntKind.wrap .i64 (Int.tmod (IntKind.wrap .u64 a14) (IntKind.wrap .u64 (IntKind.wrap .i64 (8 * (((List.length s236) : Nat) : Int)))))) 8)) 8)))))), v438, v237, (.str s444), v239, (.str s447), v448, (iz x452), (iz x459), bf, v461, v462, v463, v464, v465, v466, v467, v468, v469, v470, v471, v472, v473, v474, v475, v476, v477, v478, v479, v480, v481, v482, v483, v484, v485, v486, v487, v488, v489, v490, v491, v492, v493, v494, v495, v496, v497, v498, v499, v500, v501, v502, v231], (St.H s453)⟩))
 (none)
def r6X7_0 (C : Cb) (d : Nat) (a0 a1 a2 a3 a4 a5 a6 a7 a8 a9 a10 a11 a12 a13 a14 a15 : Int) (v0 v2 : AV) (b59 b60 b61 : Bool) (v62 v63 v64 v65 : AV) (b66 b67 : Bool) (v68 v69 v70 v71 : AV) (x77 x78 x79 x80 : Int) (s81 : List UInt8) (x85 x86 x87 x88 x89 x90 x91 x92 x93 : Int) (s94 : List UInt8) (s95 : List UInt8) (v96 : AV) (x100 : Int) (k102 : Ex → St → Ans) (x117 : Int) (v231 v232 : AV) (s236 : List UInt8) (v237 v239 : AV) (b403 : Bool) (v404 v405 : AV) (x406 : Int) (b407 : Bool) (v408 v409 v410 v411 v412 v413 v414 v415 v416 v417 v418 v419 v420 v421 v422 v423 v424 v425 v426 v427 v428 v429 v430 v431 v432 v433 : AV) (x437 : Int) (v438 : AV) (s444 : List UInt8) (s447 : List UInt8) (v448 : AV) (x452 : Int) : St → Ans := fun s658 =>
 cnd ((List.length s658.env) == 167)
 (C.same s658.env[0]? (.agg [(iz a0), (iz a1), (iz a2), (iz a3)]) <|
 C.same s658.env[1]? (.agg [(iz a4), (iz a5), (iz a6), (iz a7), (iz a8), (iz a9), (iz a10), (iz a11), (iz a12)]) <|
 C.same s658.env[2]? (iz (IntKind.wrap .i64 (1 + (IntKind.wrap .i64 (Int.tmod (IntKind.wrap .u64 a13) 3))))) <|
 C.same s658.env[3]? (iz a14) <|
 C.same s658.env[4]? (.int .u32 a15) <|
 C.same s658.env[5]? v0 <|
 C.same s658.env[6]? v2 <|
 C.same s658.env[7]? tz <|
 C.same s658.env[8]? tz <|
 C.same s658.env[9]? tz <|
 C.bool s658.env[10]? fun b659 =>
 C.same s658.env[11]? (iz x117) <|
 C.same s658.env[12]? (.str s236) <|
 C.same s658.env[13]? (iz (IntKind.wrap .i64 (8 * (IntKind.wrap .i64 ((((List.length s236) : Nat) : Int) - 4))))) <|
 C.same s658.env[14]? (iz (IntKind.wrap .i64 (Int.tmod (IntKind.wrap .u64 a14) (IntKind.wrap .u64 (IntKind.wrap .i64 (8 * (IntKind.wrap .i64 ((((List.length s236) : Nat) : Int) - 4)))))))) <|
 C.same s658.env[15]? v237 <|
 C.same s658.env[16]? v239 <|
 C.same s658.env[17]? (.bool b403) <|
 C.same s658.env[18]? v404 <|
 C.same s658.env[19]? v405 <|
 C.same s658.env[20]? (iz (IntKind.wrap .i64 (Int.tmod (IntKind.wrap .u64 a14) (IntKind.wrap .u64 (IntKind.wrap .i64 (8 * (((List.length s236) : Nat) : Int))))))) <|
 C.same s658.env[21]? tz <|
 C.any s658.env[22]? fun v660 =>
 C.any s658.env[23]? fun v661 =>
 C.same s658.env[24]? (.bool b59) <|
 C.same s658.env[25]? (.bool b60) <|
 C.same s658.env[26]? (.bool b61) <|
 C.same s658.env[27]? v62 <|
 C.same s658.env[28]? v63 <|
 C.same s658.env[29]? v64 <|
 C.same s658.env[30]? v65 <|
 C.same s658.env[31]? (.bool b66) <|
 C.same s658.env[32]? (.bool b67) <|
 C.same s658.env[33]? v68 <|
 C.same s658.env[34]? v69 <|
 C.same s658.env[35]? v70 <|
 C.same s658.env[36]? v71 <|
 C.same s658.env[37]? bf <|
 C.same s658.env[38]? tz <|
 C.same s658.env[39]? (iz a13) <|
 C.same s658.env[40]? (.int .u64 (IntKind.wrap .u64 a13)) <|
 C.same s658.env[41]? (.int .u64 (Int.tmod (IntKind.wrap .u64 a13) 3)) <|
 C.same s658.env[42]? (iz (IntKind.wrap .i64 (Int.tmod (IntKind.wrap .u64 a13) 3))) <|
 C.same s658.env[43]? (iz (IntKind.wrap .i64 (1 + (IntKind.wrap .i64 (Int.tmod (IntKind.wrap .u64 a13) 3))))) <|
 C.same s658.env[44]? (.agg [(iz x77), (iz x78), (iz x79), (iz x80)]) <|
 C.same s658.env[45]? (.str s81) <|
 C.same s658.env[46]? (.agg [(iz x85), (iz x86), (iz x87), (iz x88), (iz x89), (iz x90), (iz x91), (iz x92), (iz x93)]) <|
 C.same s658.env[47]? (.str s94) <|
 C.same s658.env[48]? (iz (IntKind.wrap .i64 (1 + (IntKind.wrap .i64 (Int.tmod (IntKind.wrap .u64 a13) 3))))) <|
 C.same s658.env[49]? (.str s95) <|
 C.same s658.env[50]? v96 <|
 C.same s658.env[51]? (iz x100) <|
 C.same s658.env[52]? (iz x117) <|
 C.same s658.env[53]? bt <|
 C.same s658.env[54]? (iz x117) <|
 C.same s658.env[55]? v232 <|
 C.same s658.env[56]? (.str s236) <|
 C.same s658.env[57]? (.str s236) <|
 C.same s658.env[58]? (iz (((List.length s236) : Nat) : Int)) <|
 C.same s658.env[59]? (iz (IntKind.wrap .i64 ((((List.length s236) : Nat) : Int) - 4))) <|
 C.same s658.env[60]? (iz (IntKind.wrap .i64 (8 * (IntKind.wrap .i64 ((((List.length s236) : Nat) : Int) - 4))))) <|
 C.same s658.env[61]? (iz a14) <|
 C.same s658.env[62]? (.int .u64 (IntKind.wrap .u64 a14)) <|
 C.same s658.env[63]? (iz (IntKind.wrap .i64 (8 * (IntKind.wrap .i64 ((((List.length s236) : Nat) : Int) - 4))))) <|
 C.same s658.env[64]? (.int .u64 (IntKind.wrap .u64 (IntKind.wrap .i64 (8 * (IntKind.wrap .i64 ((((List.length s236) : Nat) : Int) - 4)))))) <|
 C.same s658.env[65]? (.int .u64 (Int.tmod (IntKind.wrap .u64 a14) (IntKind.wrap .u64 (IntKind.wrap .i64 (8 * (IntKind.wrap .i64 ((((List.length s236) : Nat) : Int) - 4))))))) <|
 C.same s658.env[66]? (iz (IntKind.wrap .i64 (Int.tmod (IntKind.wrap .u64 a14) (IntKind.wrap .u64 (IntKind.wrap .i64 (8 * (IntKind.wrap .i64 ((((List.length s236) : Nat) : Int) - 4)))))))) <|
 C.same s658.env[67]? (.str s236) <|
 C.same s658.env[68]? v237 <|
 C.same s658.env[69]? (.str s236) <|
 C.same s658.env[70]? v239 <|
 C.same s658.env[71]? (iz x406) <|
 C.same s658.env[72]? (.bool b407) <|
 C.same s658.env[73]? v408 <|
 C.same s658.env[74]? v409 <|
 C.same s658.env[75]? v410 <|
 C.same s658.env[76]? v411 <|
 C.same s658.env[77]? v412 <|
 C.same s658.env[78]? v413 <|
 C.same s658.env[79]? v414 <|
 C.same s658.env[80]? v415 <|
 C.same s658.env[81]? v416 <|
 C.same s658.env[82]? v417 <|
 C.same s658.env[83]? v418 <|
 C.same s658.env[84]? v419 <|
 C.same s658.env[85]? v420 <|
 C.same s658.env[86]? v421 <|
 C.same s658.env[87]? v422 <|
 C.same s658.env[88]? v423 <|
 C.same s658.env[89]? v424 <|
 C.same s658.env[90]? v425 <|
 C.same s658.env[91]? v426 <|
 C.same s658.env[92]? v427 <|
 C.same s658.env[93]? v428 <|
 C.same s658.env[94]? v429 <|
 C.same s658.env[95]? v430 <|
 C.same s658.env[96]? v431 <|
 C.same s658.env[97]? v432 <|
 C.same s658.env[98]? (iz a14) <|
 C.same s658.env[99]? (.int .u64 (IntKind.wrap .u64 a14)) <|
 C.same s658.env[100]? (.str s236) <|
 C.same s658.env[101]? (iz (((List.length s236) : Nat) : Int)) <|
 C.same s658.env[102]? (iz (IntKind.wrap .i64 (8 * (((List.length s236) : Nat) : Int)))) <|
 C.same s658.env[103]? (.int .u64 (IntKind.wrap .u64 (IntKind.wrap .i64 (8 * (((List.length s236) : Nat) : Int))))) <|
 C.same s658.env[104]? (.int .u64 (Int.tmod (IntKind.wrap .u64 a14) (IntKind.wrap .u64 (IntKind.wrap .i64 (8 * (((List.length s236) : Nat) : Int)))))) <|
 C.same s658.env[105]? (iz (IntKind.wrap .i64 (Int.tmod (IntKind.wrap .u64 a14) (IntKind.wrap .u64 (IntKind.wrap .i64 (8 * (((List.length s236) : Nat) : Int))))))) <|
 C.same s658.env[106]? v239 <|
 C.same s658.env[107]? (iz (IntKind.wrap .i64 (Int.tmod (IntKind.wrap .u64 a14) (IntKind.wrap .u64 (IntKind.wrap .i64 (8 * (((List.length s236) : Nat) : Int))))))) <|
 C.same s658.env[108]? (iz (IntKind.wrap .i64 (Int.tdiv (IntKind.wrap .i64 (Int.tmod (IntKind.wrap .u64 a14) (IntKind.wrap .u64 (IntKind.wrap .i64 (8 * (((List.length s236) : Nat) : Int)))))) 8))) <|
 C.same s658.env[109]? v433 <|
 C.same s658.env[110]? (.int .u8 x437) <|
 C.same s658.env[111]? (iz (IntKind.wrap .i64 (Int.tmod (IntKind.wrap .u64 a14) (IntKind.wrap .u64 (IntKind.wrap .i64 (8 * (((List.length s236) : Nat) : Int))))))) <|
 C.same s658.env[112]? (iz (Int.tmod (IntKind.wrap .i64 (Int.tmod (IntKind.wrap .u64 a14) (IntKind.wrap .u64 (IntKind.wrap .i64 (8 * (((List.length s236) : Nat) : Int)))))) 8)) <|
 C.same s658.env[113]? (.int .u8 (IntKind.wrap .u8 (1 * (2 ^ (min (Int.toNat (Int.tmod (IntKind.wrap .i64 (Int.tmod (IntKind.wrap .u64 a14) (IntKind.wrap .u64 (IntKind.wrap .i64 (8 * (((List.length s236) : Nat) : Int)))))) 8)) 8))))) <|
 C.same s658.env[114]? (.int .u8 (bits .xor .u8 x437 (IntKind.wrap .u8 (1 * (2 ^ (min (Int.toNat (Int.tmod (IntKind.wrap .i64 (Int.tmod (IntKind.wrap .u64 a14) (IntKind.wrap .u64 (IntKind.wrap .i64 (8 * (((List.length s236) : Nat) : Int)))))) 8)) 8)))))) <|
 C.same s658.env[115]? v438 <|
 C.same s658.env[116]? v237 <|
 C.same s658.env[117]? (.str s444) <|
 C.same s658.env[118]? v239 <|
 C.same s658.env[119]? (.str s447) <|
 C.same s658.env[120]? v448 <|
 C.same s658.env[121]? (iz x452) <|
 C.int .i64 s658.env[122]? fun x662 =>
 C.any s658.env[123]? fun v663 =>
 C.any s658.env[124]? fun v664 =>
 C.any s658.env[125]? fun v665 =>
 C.any s658.env[126]? fun v666 =>
 C.any s658.env[127]? fun v667 =>
 C.any s658.env[128]? fun v668 =>
 C.any s658.env[129]? fun v669 =>
 C.any s658.env[130]? fun v670 =>
 C.any s658.env[131]? fun v671 =>
 C.any s658.env[132]? fun v672 =>
 C.any s658.env[133]? fun v673 =>
 C.any s658.env[134]? fun v674 =>
 C.any s658.env[135]? fun v675 =>
 C.any s658.env[136]? fun v676 =>
 C.any s658.env[137]? fun v677 =>
 C.any s658.env[138]? fun v678 =>
 C.any s658.env[139]? fun v679 =>
 C.any s658.env[140]? fun v680 =>
 C.any s658.env[141]? fun v681 =>
 C.any s658.env[142]? fun v682 =>
 C.any s658.env[143]? fun v683 =>
 C.any s658.env[144]? fun v684 =>
 C.any s658.env[145]? fun v685 =>
 C.any s658.env[146]? fun v686 =>
 C.any s658.env[147]? fun v687 =>
 C.any s658.env[148]? fun v688 =>
 C.any s658.env[149]? fun v689 =>
 C.any s658.env[150]? fun v690 =>
 C.any s658.env[151]? fun v691 =>
 C.any s658.env[152]? fun v692 =>
 C.any s658.env[153]? fun v693 =>
 C.any s658.env[154]? fun v694 =>
 C.any s658.env[155]? fun v695 =>
 C.any s658.env[156]? fun v696 =>
 C.any s658.env[157]? fun v697 =>
 C.any s658.env[158]? fun v698 =>
 C.any s658.env[159]? fun v699 =>
 C.any s658.env[160]? fun v700 =>
 C.any s658.env[161]? fun v701 =>
 C.any s658.env[162]? fun v702 =>
 C.any s658.env[163]? fun v703 =>
 C.any s658.env[164]? fun v704 =>
 C.any s658.env[165]? fun v705 =>
 C.same s658.env[166]? v231 <|
 k102 .normal ⟨[(.agg [(iz a0), (iz a1), (iz a2), (iz a3)]), (.agg [(iz a4), (iz a5), (iz a6), (iz a7), (iz a8), (iz a9), (iz a10), (iz a11), (iz a12)]), (iz (IntKind.wrap .i64 (1 + (IntKind.wrap .i64 (Int.tmod (IntKind.wrap .u64 a13) 3))))), (iz a14), (.int .u32 a15), v0, v2, tz, tz, tz, (.bool b659), (iz x117), (.str s236), (iz (IntKind.wrap .i64 (8 * (IntKind.wrap .i64 ((((List.length s236) : Nat) : Int) - 4))))), (iz (IntKind.wrap .i64 (Int.tmod (IntKind.wrap .u64 a14) (IntKind.wrap .u64 (IntKind.wrap .i64 (8 * (IntKind.wrap .i64 ((((List.length s236) : Nat) : Int) - 4)))))))), v237, v239, (.bool b403), v404, v405, (iz (IntKind.wrap .i64 (Int.tmod (IntKind.wrap .u64 a14) (IntKind.wrap .u64 (IntKind.wrap .i64 (8 * (((List.length s236) : Nat) : Int))))))), tz, v660, v661, (.bool b59), (.bool b60), (.bool b61), v62, v63, v64, v65, (.bool b66), (.bool b67), v68, v69, v70, v71, bf, tz, (iz a13), (.int .u64 (IntKind.wrap .u64 a13)), (.int .u64 (Int.tmod (IntKind.wrap .u64 a13) 3)), (iz (IntKind.wrap .i64 (Int.tmod (IntKind.wrap .u64 a13) 3))), (iz (IntKind.wrap .i64 (1 + (IntKind.wrap .i64 (Int.tmod (IntKind.wrap .u64 a13) 3))))), (.agg [(iz x77), (iz x78), (iz x79), (iz x80)]), (.str s81), (.agg [(iz x85), (iz x86), (iz x87), (iz x88), (iz x89), (iz x90), (iz x91), (iz x92), (iz x93)]), (.str s94), (iz (IntKind.wrap .i64 (1 + (IntKind.wrap .i64 (Int.tmod (IntKind.wrap .u64 a13) 3))))), (.str s95), v96, (iz x100), (iz (IntKind.wrap .i64 (x117 + 1))), bt, (iz x117), v232, (.str s236), (.str s236), (iz (((List.length s236) : Nat) : Int)), (iz (IntKind.wrap .i64 ((((List.length s236) : Nat) : Int) - 4))), (iz (IntKind.wrap .i64 (8 * (IntKind.wrap .i64 ((((List.length s236) : Nat) : Int) - 4))))), (iz a14), (.int .u64 (IntKind.wrap .u64 a14)), (iz (IntKind.wrap .i64 (8 * (IntKind.wrap .i64 ((((List.length s236) : Nat) : Int) - 4))))), (.int .u64 (IntKind.wrap .u64 (IntKind.wrap .i64 (8 * (IntKind.wrap .i64 ((((List.length s236) : Nat) : Int) - 4)))))), (.int .u64 (Int.tmod (IntKind.wrap .u64 a14) (IntKind.wrap .u64 (IntKind.wrap .i64 (8 * (IntKind.wrap .i64 ((((List.length s236) : Nat) : Int) - 4))))))), (iz (IntKind.wrap .i64 (Int.tmod (IntKind.wrap .u64 a14) (IntKind.wrap .u64 (IntKind.wrap .i64 (8 * (IntKind.wrap .i64 ((((List.length s236) : Nat) : Int) - 4)))))))), (.str s236), v237, (.str s236), v239, (iz x406), (.bool b407), v408, v409, v410, v411, v412, v413, v414, v415, v416, v417, v418, v419, v420, v421, v422, v423, v424, v425, v426, v427, v428, v429, v430, v431, v432, (iz a14), (.int .u64 (IntKind.wrap .u64 a14)), (.str s236), (iz (((List.length s236) : Nat) : Int)), (iz (IntKind.wrap .i64 (8 * (((List.length s236) : Nat) : Int)))), (.int .u64 (IntKind.wrap .u64 (IntKind.wrap .i64 (8 * (((List.length s236) : Nat) : Int))))), (.int .u64 (Int.tmod (IntKind.wrap .u64 a14) (IntKind.wrap .u64 (IntKind.wrap .i64 (8 * (((List.length s236) : Nat) : Int)))))), (iz (IntKind.wrap .i64 (Int.tmod (IntKind.wrap .u64 a14) (IntKind.wrap .u64 (IntKind.wrap .i64 (8 * (((List.length s236) : Nat) : Int))))))), v239, (iz (IntKind.wrap .i64 (Int.tmod (IntKind.wrap .u64 a14) (IntKind.wrap .u64 (IntKind.wrap .i64 (8 * (((List.length s236) : Nat) : Int))))))), (iz (IntKind.wrap .i64 (Int.tdiv (IntKind.wrap .i64 (Int.tmod (IntKind.wrap .u64 a14) (IntKind.wrap .u64 (IntKind.wrap .i64 (8 * (((List.length s236) : Nat) : Int)))))) 8))), v433, (.int .u8 x437), (iz (IntKind.wrap .i64 (Int.tmod (IntKind.wrap .u64 a14) (IntKind.wrap .u64 (IntKind.wrap .i64 (8 * (((List.length s236) : Nat) : Int))))))), (iz (Int.tmod (IntKind.wrap .i64 (Int.tmod (IntKind.wrap .u64 a14) (IntKind.wrap .u64 (IntKind.wrap .i64 (8 * (((List.length s236) : Nat) : Int)))))) 8)), (.int .u8 (IntKind.wrap .u8 (1 * (2 ^ (min (Int.toNat (Int.tmod (IntKind.wrap .i64 (Int.tmod (IntKind.wrap .u64 a14) (IntKind.wrap .u64 (IntKind.wrap .i64 (8 * (((List.length s236) : Nat) : Int)))))) 8)) 8))))), (.int .u8 (bits .xor .u8 x437 (IntKind.wrap .u8 (1 * (2 ^ (min (Int.toNat (Int.tmod (IntKind.wrap .i64 (Int.tmod (IntKind.wrap .u64 a14) (IntKind.wrap .u64 (IntKind.wrap .i64 (8 * (((List.length s236) : Nat) : Int)))))) 8)) 8)))))), v438, v237, (.str s444), v239, (.str s447), v448, (iz x452), (iz x662), v663, v664, v665, v666, v667, v668, v669, v670, v671, v672, v673, v674, v675, v676, v677, v678, v679, v680, v681, v682, v683, v684, v685, v686, v687, v688, v689, v690, v691, v692, v693, v694, v695, v696, v697, v698, v699, v700, v701, v702, v703, v704, v705, (iz (IntKind.wrap .i64 (x117 + 1)))], (St.H s658)⟩)
 (none)
def r6E7 (C : Cb) (d : Nat) (a0 a1 a2 a3 a4 a5 a6 a7 a8 a9 a10 a11 a12 a13 a14 a15 : Int) (v0 v2 : AV) (b59 b60 b61 : Bool) (v62 v63 v64 v65 : AV) (b66 b67 : Bool) (v68 v69 v70 v71 : AV) (x77 x78 x79 x80 : Int) (s81 : List UInt8) (x85 x86 x87 x88 x89 x90 x91 x92 x93 : Int) (s94 : List UInt8) (s95 : List UInt8) (v96 : AV) (x100 : Int) (k102 : Ex → St → Ans) (x117 : Int) (v231 v232 : AV) (s236 : List UInt8) (v237 v239 : AV) (b403 : Bool) (v404 v405 : AV) (x406 : Int) (b407 : Bool) (v408 v409 v410 v411 v412 v413 v414 v415 v416 v417 v418 v419 v420 v421 v422 v423 v424 v425 v426 v427 v428 v429 v430 v431 v432 v433 : AV) (x437 : Int) (v438 : AV) (s444 : List UInt8) (s447 : List UInt8) (v448 : AV) (x452 : Int) : St → Ans := fun s455 =>
 cnd ((List.length s455.env) == 167)
 (C.same s455.env[0]? (.agg [(iz a0), (iz a1), (iz a2), (iz a3)]) <|
 C.same s455.env[1]? (.agg [(iz a4), (iz a5), (iz a6), (iz a7), (iz a8), (iz a9), (iz a10), (iz a11), (iz a12)]) <|
 C.same s455.env[2]? (iz (IntKind.wrap .i64 (1 + (IntKind.wrap .i64 (Int.tmod (IntKind.wrap .u64 a13) 3))))) <|
 C.same s455.env[3]? (iz a14) <|
 C.same s455.env[4]? (.int .u32 a15) <|
 C.same s455.env[5]? v0 <|
 C.same s455.env[6]? v2 <|
 C.same s455.env[7]? tz <|
 C.same s455.env[8]? tz <|
 C.same s455.env[9]? tz <|
 C.bool s455.env[10]? fun b706 =>
 C.same s455.env[11]? (iz x117) <|
 C.same s455.env[12]? (.str s236) <|
 C.same s455.env[13]? (iz (IntKind.wrap .i64 (8 * (IntKind.wrap .i64 ((((List.length s236) : Nat) : Int) - 4))))) <|
 C.same s455.env[14]? (iz (IntKind.wrap .i64 (Int.tmod (IntKind.wrap .u64 a14) (IntKind.wrap .u64 (IntKind.wrap .i64 (8 * (IntKind.wrap .i64 ((((List.length s236) : Nat) : Int) - 4)))))))) <|
 C.same s455.env[15]? v237 <|
 C.same s455.env[16]? v239 <|
 C.same s455.env[17]? (.bool b403) <|
 C.same s455.env[18]? v404 <|
 C.same s455.env[19]? v405 <|
 C.same s455.env[20]? (iz (IntKind.wrap .i64 (Int.tmod (IntKind.wrap .u64 a14) (IntKind.wrap .u64 (IntKind.wrap .i64 (8 * (((List.length s236) : Nat) : Int))))))) <|
 C.same s455.env[21]? tz <|
 C.str s455.env[22]? fun s707 =>
 C.int .i64 s455.env[23]? fun x708 =>
 C.same s455.env[24]? (.bool b59) <|
 C.same s455.env[25]? (.bool b60) <|
 C.same s455.env[26]? (.bool b61) <|
 C.same s455.env[27]? v62 <|
 C.same s455.env[28]? v63 <|
 C.same s455.env[29]? v64 <|
 C.same s455.env[30]? v65 <|
 C.same s455.env[31]? (.bool b66) <|
 C.same s455.env[32]? (.bool b67) <|
 C.same s455.env[33]? v68 <|
 C.same s455.env[34]? v69 <|
 C.same s455.env[35]? v70 <|
 C.same s455.env[36]? v71 <|
 C.same s455.env[37]? bf <|
 C.same s455.env[38]? tz <|
 C.same s455.env[39]? (iz a13) <|
 C.same s455.env[40]? (.int .u64 (IntKind.wrap .u64 a13)) <|
 C.same s455.env[41]? (.int .u64 (Int.tmod (IntKind.wrap .u64 a13) 3)) <|
 C.same s455.env[42]? (iz (IntKind.wrap .i64 (Int.tmod (IntKind.wrap .u64 a13) 3))) <|
 C.same s455.env[43]? (iz (IntKind.wrap .i64 (1 + (IntKind.wrap .i64 (Int.tmod (IntKind.wrap .u64 a13) 3))))) <|
 C.same s455.env[44]? (.agg [(iz x77), (iz x78), (iz x79), (iz x80)]) <|
 C.same s455.env[45]? (.str s81) <|
 C.same s455.env[46]? (.agg [(iz x85), (iz x86), (iz x87), (iz x88), (iz x89), (iz x90), (iz x91), (iz x92), (iz x93)]) <|
 C.same s455.env[47]? (.str s94) <|
 C.same s455.env[48]? (iz (IntKind.wrap .i64 (1 + (IntKind.wrap .i64 (Int.tmod (IntKind.wrap .u64 a13) 3))))) <|
 C.same s455.env[49]? (.str s95) <|
 C.same s455.env[50]? v96 <|
 C.same s455.env[51]? (iz x100) <|
 C.same s455.env[52]? (iz x117) <|
 C.same s455.env[53]? bt <|
 C.same s455.env[54]? (iz x117) <|
 C.same s455.env[55]? v232 <|
 C.same s455.env[56]? (.str s236) <|
 C.same s455.env[57]? (.str s236) <|
 C.same s455.env[58]? (iz (((List.length s236) : Nat) : Int)) <|
 C.same s455.env[59]? (iz (IntKind.wrap .i64 ((((List.length s236) : Nat) : Int) - 4))) <|
 C.same s455.env[60]? (iz (IntKind.wrap .i64 (8 * (IntKind.wrap .i64 ((((List.length s236) : Nat) : Int) - 4))))) <|
 C.same s455.env[61]? (iz a14) <|
 C.same s455.env[62]? (.int .u64 (IntKind.wrap .u64 a14)) <|
 C.same s455.env[63]? (iz (IntKind.wrap .i64 (8 * (IntKind.wrap .i64 ((((List.length s236) : Nat) : Int) - 4))))) <|
 C.same s455.env[64]? (.int .u64 (IntKind.wrap .u64 (IntKind.wrap .i64 (8 * (IntKind.wrap .i64 ((((List.length s236) : Nat) : Int) - 4)))))) <|
 C.same s455.env[65]? (.int .u64 (Int.tmod (IntKind.wrap .u64 a14) (IntKind.wrap .u64 (IntKind.wrap .i64 (8 * (IntKind.wrap .i64 ((((List.length s236) : Nat) : Int) - 4))))))) <|
 C.same s455.env[66]? (iz (IntKind.wrap .i64 (Int.tmod (IntKind.wrap .u64 a14) (IntKind.wrap .u64 (IntKind.wrap .i64 (8 * (IntKind.wrap .i64 ((((List.length s236) : Nat) : Int) - 4)))))))) <|
 C.same s455.env[67]? (.str s236) <|
 C.same s455.env[68]? v237 <|
 C.same s455.env[69]? (.str s236) <|
 C.same s455.env[70]? v239 <|
 C.same s455.env[71]? (iz x406) <|
 C.same s455.env[72]? (.bool b407) <|
 C.same s455.env[73]? v408 <|
 C.same s455.env[74]? v409 <|
 C.same s455.env[75]? v410 <|
 C.same s455.env[76]? v411 <|
 C.same s455.env[77]? v412 <|
 C.same s455.env[78]? v413 <|
 C.same s455.env[79]? v414 <|
 C.same s455.env[80]? v415 <|
 C.same s455.env[81]? v416 <|
 C.same s455.env[82]? v417 <|
 C.same s455.env[83]? v418 <|
 C.same s455.env[84]? v419 <|
 C.same s455.env[85]? v420 <|
 C.same s455.env[86]? v421 <|
 C.same s455.env[87]? v422 <|
 C.same s455.env[88]? v423 <|
 C.same s455.env[89]? v424 <|
 C.same s455.env[90]? v425 <|
 C.same s455.env[91]? v426 <|
 C.same s455.env[92]? v427 <|
 C.same s455.env[93]? v428 <|
 C.same s455.env[94]? v429 <|
 C.same s455.env[95]? v430 <|
 C.same s455.env[96]? v431 <|
 C.same s455.env[97]? v432 <|
 C.same s455.env[98]? (iz a14) <|
 C.same s455.env[99]? (.int .u64 (IntKind.wrap .u64 a14)) <|
 C.same s455.env[100]? (.str s236) <|
 C.same s455.env[101]? (iz (((List.length s236) : Nat) : Int)) <|
 C.same s455.env[102]? (iz (IntKind.wrap .i64 (8 * (((List.length s236) : Nat) : Int)))) <|
 C.same s455.env[103]? (.int .u64 (IntKind.wrap .u64 (IntKind.wrap .i64 (8 * (((List.length s236) : Nat) : Int))))) <|
 C.same s455.env[104]? (.int .u64 (Int.tmod (IntKind.wrap .u64 a14) (IntKind.wrap .u64 (IntKind.wrap .i64 (8 * (((List.length s236) : Nat) : Int)))))) <|
 C.same s455.env[105]? (iz (IntKind.wrap .i64 (Int.tmod (IntKind.wrap .u64 a14) (IntKind.wrap .u64 (IntKind.wrap .i64 (8 * (((List.length s236) : Nat) : Int))))))) <|
 C.same s455.env[106]? v239 <|
 C.same s455.env[107]? (iz (IntKind.wrap .i64 (Int.tmod (IntKind.wrap .u64 a14) (IntKind.wrap .u64 (IntKind.wrap .i64 (8 * (((List.length s236) : Nat) : Int))))))) <|
 C.same s455.env[108]? (iz (IntKind.wrap .i64 (Int.tdiv (IntKind.wrap .i64 (Int.tmod (IntKind.wrap .u64 a14) (IntKind.wrap .u64 (IntKind.wrap .i64 (8 * (((List.length s236) : Nat) : Int)))))) 8))) <|
 C.same s455.env[109]? v433 <|
 C.same s455.env[110]? (.int .u8 x437) <|
 C.same s455.env[111]? (iz (IntKind.wrap .i64 (Int.tmod (IntKind.wrap .u64 a14) (IntKind.wrap .u64 (IntKind.wrap .i64 (8 * (((List.length s236) : Nat) : Int))))))) <|
 C.same s455.env[112]? (iz (Int.tmod (IntKind.wrap .i64 (Int.tmod (IntKind.wrap .u64 a14) (IntKind.wrap .u64 (IntKind.wrap .i64 (8 * (((List.length s236) : Nat) : Int)))))) 8)) <|
 C.same s455.env[113]? (.int .u8 (IntKind.wrap .u8 (1 * (2 ^ (min (Int.toNat (Int.tmod (IntKind.wrap .i64 (Int.tmod (IntKind.wrap .u64 a14) (IntKind.wrap .u64 (IntKind.wrap .i64 (8 * (((List.length s236) : Nat) : Int)))))) 8)) 8))))) <|
 C.same s455.env[114]? (.int .u8 (bits .xor .u8 x437 (IntKind.wrap .u8 (1 * (2 ^ (min (Int.toNat (Int.tmod (IntKind.wrap .i64 (Int.tmod (IntKind.wrap .u64 a14) (IntKind.wrap .u64 (IntKind.wrap .i64 (8 * (((List.length s236) : Nat) : Int)))))) 8)) 8)))))) <|
 C.same s455.env[115]? v438 <|
 C.same s455.env[116]? v237 <|
 C.same s455.env[117]? (.str s444) <|
 C.same s455.env[118]? v239 <|
 C.same s455.env[119]? (.str s447) <|
 C.same s455.env[120]? v448 <|
 C.same s455.env[121]? (iz x452) <|
 C.int .i64 s455.env[122]? fun x709 =>
 C.any s455.env[123]? fun v710 =>
 C.any s455.env[124]? fun v711 =>
 C.str s455.env[125]? fun s712 =>
 C.int .i64 s455.env[126]? fun x713 =>
 C.any s455.env[127]? fun v714 =>
 C.any s455.env[128]? fun v715 =>
 C.any s455.env[129]? fun v716 =>
 C.any s455.env[130]? fun v717 =>
 C.any s455.env[131]? fun v718 =>
 C.bool s455.env[132]? fun b719 =>
 C.bool s455.env[133]? fun b720 =>
 C.any s455.env[134]? fun v721 =>
 C.any s455.env[135]? fun v722 =>
 C.any s455.env[136]? fun v723 =>
 C.any s455.env[137]? fun v724 =>
 C.any s455.env[138]? fun v725 =>
 C.any s455.env[139]? fun v726 =>
 C.any s455.env[140]? fun v727 =>
 C.any s455.env[141]? fun v728 =>
 C.any s455.env[142]? fun v729 =>
 C.any s455.env[143]? fun v730 =>
 C.any s455.env[144]? fun v731 =>
 C.any s455.env[145]? fun v732 =>
 C.str s455.env[146]? fun s733 =>
 C.str s455.env[147]? fun s734 =>
 C.bool s455.env[148]? fun b735 =>
 C.bool s455.env[149]? fun b736 =>
 C.any s455.env[150]? fun v737 =>
 C.any s455.env[151]? fun v738 =>
 C.bool s455.env[152]? fun b739 =>
 C.bool s455.env[153]? fun b740 =>
 C.any s455.env[154]? fun v741 =>
 C.any s455.env[155]? fun v742 =>
 C.any s455.env[156]? fun v743 =>
 C.any s455.env[157]? fun v744 =>
 C.any s455.env[158]? fun v745 =>
 C.any s455.env[159]? fun v746 =>
 C.any s455.env[160]? fun v747 =>
 C.any s455.env[161]? fun v748 =>
 C.any s455.env[162]? fun v749 =>
 C.any s455.env[163]? fun v750 =>
 C.bool s455.env[164]? fun b751 =>
 C.any s455.env[165]? fun v752 =>
 C.same s455.env[166]? v231 <|
 k102 .ret ⟨[(.agg [(iz a0), (iz a1), (iz a2), (iz a3)]), (.agg [(iz a4), (iz a5), (iz a6), (iz a7), (iz a8), (iz a9), (iz a10), (iz a11), (iz a12)]), (iz (IntKind.wrap .i64 (1 + (IntKind.wrap .i64 (Int.tmod (IntKind.wrap .u64 a13) 3))))), (iz a14), (.int .u32 a15), v0, v2, tz, tz, tz, (.bool b706), (iz x117), (.str s236), (iz (IntKind.wrap .i64 (8 * (IntKind.wrap .i64 ((((List.length s236) : Nat) : Int) - 4))))), (iz (IntKind.wrap .i64 (Int.tmod (IntKind.wrap .u64 a14) (IntKind.wrap .u64 (IntKind.wrap .i64 (8 * (IntKind.wrap .i64 ((((List.length s236) : Nat) : Int) - 4)))))))), v237, v239, (.bool b403), v404, v405, (iz (IntKind.wrap .i64 (Int.tmod (IntKind.wrap .u64 a14) (IntKind.wrap .u64 (IntKind.wrap .i64 (8 * (((List.length s236) : Nat) : Int))))))), tz, (.str s707), (iz x708), (.bool b59), (.bool b60), (.bool b61), v62, v63, v64, v65, (.bool b66), (.bool b67), v68, v69, v70, v71, bf, tz, (iz a13), (.int .u64 (IntKind.wrap .u64 a13)), (.int .u64 (Int.tmod (IntKind.wrap .u64 a13) 3)), (iz (IntKind.wrap .i64 (Int.tmod (IntKind.wrap .u64 a13) 3))), (iz (IntKind.wrap .i64 (1 + (IntKind.wrap .i64 (Int.tmod (IntKind.wrap .u64 a13) 3))))), (.agg [(iz x77), (iz x78), (iz x79), (iz x80)]), (.str s81), (.agg [(iz x85), (iz x86), (iz x87), (iz x88), (iz x89), (iz x90), (iz x91), (iz x92), (iz x93)]), (.str s94), (iz (IntKind.wrap .i64 (1 + (IntKind.wrap .i64 (Int.tmod (IntKind.wrap .u64 a13) 3))))), (.str s95), v96, (iz x100), (iz x117), bt, (iz x117), v232, (.str s236), (.str s236), (iz (((List.length s236) : Nat) : Int)), (iz (IntKind.wrap .i64 ((((List.length s236) : Nat) : Int) - 4))), (iz (IntKind.wrap .i64 (8 * (IntKind.wrap .i64 ((((List.length s236) : Nat) : Int) - 4))))), (iz a14), (.int .u64 (IntKind.wrap .u64 a14)), (iz (IntKind.wrap .i64 (8 * (IntKind.wrap .i64 ((((List.length s236) : Nat) : Int) - 4))))), (.int .u64 (IntKind.wrap .u64 (IntKind.wrap .i64 (8 * (IntKind.wrap .i64 ((((List.length s236) : Nat) : Int) - 4)))))), (.int .u64 (Int.tmod (IntKind.wrap .u64 a14) (IntKind.wrap .u64 (IntKind.wrap .i64 (8 * (IntKind.wrap .i64 ((((List.length s236) : Nat) : Int) - 4))))))), (iz (IntKind.wrap .i64 (Int.tmod (IntKind.wrap .u64 a14) (IntKind.wrap .u64 (IntKind.wrap .i64 (8 * (IntKind.wrap .i64 ((((List.length s236) : Nat) : Int) - 4)))))))), (.str s236), v237, (.str s236), v239, (iz x406), (.bool b407), v408, v409, v410, v411, v412, v413, v414, v415, v416, v417, v418, v419, v420, v421, v422, v423, v424, v425, v426, v427, v428, v429, v430, v431, v432, (iz a14), (.int .u64 (IntKind.wrap .u64 a14)), (.str s236), (iz (((List.length s236) : Nat) : Int)), (iz (IntKind.wrap .i64 (8 * (((List.length s236) : Nat) : Int)))), (.int .u64 (IntKind.wrap .u64 (IntKind.wrap .i64 (8 * (((List.length s236) : Nat) : Int))))), (.int .u64 (Int.tmod (IntKind.wrap .u64 a14) (IntKind.wrap .u64 (IntKind.wrap .i64 (8 * (((List.length s236) : Nat) : Int)))))), (iz (IntKind.wrap .i64 (Int.tmod (IntKind.wrap .u64 a14) (IntKind.wrap .u64 (IntKind.wrap .i64 (8 * (((List.length s236) : Nat) : Int))))))), v239, (iz (IntKind.wrap .i64 (Int.tmod (IntKind.wrap .u64 a14) (IntKind.wrap .u64 (IntKind.wrap .i64 (8 * (((List.length s236) : Nat) : Int))))))), (iz (IntKind.wrap .i64 (Int.tdiv (IntKind.wrap .i64 (Int.tmod (IntKind.wrap .u64 a14) (IntKind.wrap .u64 (IntKind.wrap .i64 (8 * (((List.length s236) : Nat) : Int)))))) 8))), v433, (.int .u8 x437), (iz (IntKind.wrap .i64 (Int.tmod (IntKind.wrap .u64 a14) (IntKind.wrap .u64 (IntKind.wrap .i64 (8 * (((List.length s236) : Nat) : Int))))))), (iz (Int.tmod (IntKind.wrap .i64 (Int.tmod (IntKind.wrap .u64 a14) (IntKind.wrap .u64 (IntKind.wrap .i64 (8 * (((List.length s236) : Nat) : Int)))))) 8)), (.int .u8 (IntKind.wrap .u8 (1 * (2 ^ (min (Int.toNat (Int.tmod (IntKind.wrap .i64 (Int.tmod (IntKind.wrap .u64 a14) (IntKind.wrap .u64 (IntKind.wrap .i64 (8 * (((List.length s236) : Nat) : Int)))))) 8)) 8))))), (.int .u8 (bits .xor .u8 x437 (IntKind.wrap .u8 (1 * (2 ^ (min (Int.toNat (Int.tmod (IntKind.wrap .i64 (Int.tmod (IntKind.wrap .u64 a14) (IntKind.wrap .u64 (IntKind.wrap .i64 (8 * (((List.length s236) : Nat) : Int)))))) 8)) 8)))))), v438, v237, (.str s444), v239, (.str s447), v448, (iz x452), (iz x709), v710, v711, (.str s712), (iz x713), v714, v715, v716, v717, v718, (.bool b719), (.bool b720), v721, v722, v723, v724, v725, v726, v727, v728, v729, v730, v731, v732, (.str s733), (.str s734), (.bool b735), (.bool b736), v737, v738, (.bool b739), (.bool b740), v741, v742, v743, v744, v745, v746, v747, v748, v749, v750, (.bool b751), v752, v231], (St.H s455)⟩)
 (none)
def r6R2 (C : Cb) (d : Nat) (a0 a1 a2 a3 a4 a5 a6 a7 a8 a9 a10 a11 a12 a13 a14 a15 : Int) (v0 v2 : AV) (b59 b60 b61 : Bool) (v62 v63 v64 v65 : AV) (b66 b67 : Bool) (v68 v69 v70 v71 : AV) (x77 x78 x79 x80 : Int) (s81 : List UInt8) (x85 x86 x87 x88 x89 x90 x91 x92 x93 : Int) (s94 : List UInt8) (s95 : List UInt8) (v96 : AV) (x100 : Int) (k102 : Ex → St → Ans) (b104 : Bool) (v114 v115 v116 : AV) (x117 : Int) (v163 v164 v165 v166 v167 v168 v169 v170 v171 v172 v173 v174 v175 v176 v177 v178 v179 v180 v181 v182 v183 v184 v185 v186 v187 v188 v189 v190 v191 v192 v193 v194 v195 v196 v197 v198 v199 v200 v201 v202 v203 v204 v205 v206 v207 v208 v209 v210 v211 v212 v213 v214 v215 v216 v217 v218 v219 v220 v221 v222 v223 v224 v225 v226 v227 v228 v229 v230 v231 v232 : AV) (s236 : List UInt8) (v237 v239 : AV) : St → (Ex → St → Ans) → Ans := fun s241 k242 =>
 cnd ((List.length s241.env) == 167)
 (C.same s241.env[0]? (.agg [(iz a0), (iz a1), (iz a2), (iz a3)]) <|
 C.same s241.env[1]? (.agg [(iz a4), (iz a5), (iz a6), (iz a7), (iz a8), (iz a9), (iz a10), (iz a11), (iz a12)]) <|
 C.same s241.env[2]? (iz (IntKind.wrap .i64 (1 + (IntKind.wrap .i64 (Int.tmod (IntKind.wrap .u64 a13) 3))))) <|
 C.same s241.env[3]? (iz a14) <|
 C.same s241.env[4]? (.int .u32 a15) <|
 C.same s241.env[5]? v0 <|
 C.same s241.env[6]? v2 <|
 C.same s241.env[7]? tz <|
 C.same s241.env[8]? tz <|
 C.same s241.env[9]? tz <|
 C.same s241.env[10]? (.bool b104) <|
 C.same s241.env[11]? (iz x117) <|
 C.same s241.env[12]? (.str s236) <|
 C.same s241.env[13]? (iz (IntKind.wrap .i64 (8 * (IntKind.wrap .i64 ((((List.length s236) : Nat) : Int) - 4))))) <|
 C.same s241.env[14]? (iz (IntKind.wrap .i64 (Int.tmod (IntKind.wrap .u64 a14) (IntKind.wrap .u64 (IntKind.wrap .i64 (8 * (IntKind.wrap .i64 ((((List.length s236) : Nat) : Int) - 4)))))))) <|
 C.same s241.env[15]? v237 <|
 C.same s241.env[16]? v239 <|
 C.bool s241.env[17]? fun b244 =>
 C.any s241.env[18]? fun v245 =>
 C.any s241.env[19]? fun v246 =>
 C.same s241.env[20]? v114 <|
 C.same s241.env[21]? tz <|
 C.same s241.env[22]? v115 <|
 C.same s241.env[23]? v116 <|
 C.same s241.env[24]? (.bool b59) <|
 C.same s241.env[25]? (.bool b60) <|
 C.same s241.env[26]? (.bool b61) <|
 C.same s241.env[27]? v62 <|
 C.same s241.env[28]? v63 <|
 C.same s241.env[29]? v64 <|
 C.same s241.env[30]? v65 <|
 C.same s241.env[31]? (.bool b66) <|
 C.same s241.env[32]? (.bool b67) <|
 C.same s241.env[33]? v68 <|
 C.same s241.env[34]? v69 <|
 C.same s241.env[35]? v70 <|
 C.same s241.env[36]? v71 <|
 C.same s241.env[37]? bf <|
 C.same s241.env[38]? tz <|
 C.same s241.env[39]? (iz a13) <|
 C.same s241.env[40]? (.int .u64 (IntKind.wrap .u64 a13)) <|
 C.same s241.env[41]? (.int .u64 (Int.tmod (IntKind.wrap .u64 a13) 3)) <|
 C.same s241.env[42]? (iz (IntKind.wrap .i64 (Int.tmod (IntKind.wrap .u64 a13) 3))) <|
 C.same s241.env[43]? (iz (IntKind.wrap .i64 (1 + (IntKind.wrap .i64 (Int.tmod (IntKind.wrap .u64 a13) 3))))) <|
 C.same s241.env[44]? (.agg [(iz x77), (iz x78), (iz x79), (iz x80)]) <|
 C.same s241.env[45]? (.str s81) <|
 C.same s241.env[46]? (.agg [(iz x85), (iz x86), (iz x87), (iz x88), (iz x89), (iz x90), (iz x91), (iz x92), (iz x93)]) <|
 C.same s241.env[47]? (.str s94) <|
 C.same s241.env[48]? (iz (IntKind.wrap .i64 (1 + (IntKind.wrap .i64 (Int.tmod (IntKind.wrap .u64 a13) 3))))) <|
 C.same s241.env[49]? (.str s95) <|
 C.same s241.env[50]? v96 <|
 C.same s241.env[51]? (iz x100) <|
 C.same s241.env[52]? (iz x117) <|
 C.same s241.env[53]? bt <|
 C.same s241.env[54]? (iz x117) <|
 C.same s241.env[55]? v232 <|
 C.same s241.env[56]? (.str s236) <|
 C.same s241.env[57]? (.str s236) <|
 C.same s241.env[58]? (iz (((List.length s236) : Nat) : Int)) <|
 C.same s241.env[59]? (iz (IntKind.wrap .i64 ((((List.length s236) : Nat) : Int) - 4))) <|
 C.same s241.env[60]? (iz (IntKind.wrap .i64 (8 * (IntKind.wrap .i64 ((((List.length s236) : Nat) : Int) - 4))))) <|
 C.same s241.env[61]? (iz a14) <|
 C.same s241.env[62]? (.int .u64 (IntKind.wrap .u64 a14)) <|
 C.same s241.env[63]? (iz (IntKind.wrap .i64 (8 * (IntKind.wrap .i64 ((((List.length s236) : Nat) : Int) - 4))))) <|
 C.same s241.env[64]? (.int .u64 (IntKind.wrap .u64 (IntKind.wrap .i64 (8 * (IntKind.wrap .i64 ((((List.length s236) : Nat) : Int) - 4)))))) <|
 C.same s241.env[65]? (.int .u64 (Int.tmod (IntKind.wrap .u64 a14) (IntKind.wrap .u64 (IntKind.wrap .i64 (8 * (IntKind.wrap .i64 ((((List.length s236) : Nat) : Int) - 4))))))) <|
 C.same s241.env[66]? (iz (IntKind.wrap .i64 (Int.tmod (IntKind.wrap .u64 a14) (IntKind.wrap .u64 (IntKind.wrap .i64 (8 * (IntKind.wrap .i64 ((((List.length s236) : Nat) : Int) - 4)))))))) <|
 C.same s241.env[67]? (.str s236) <|
 C.same s241.env[68]? v237 <|
 C.same s241.env[69]? (.str s236) <|
 C.same s241.env[70]? v239 <|
 C.int .i64 s241.env[71]? fun x247 =>
 C.any s241.env[72]? fun v248 =>
 C.any s241.env[73]? fun v249 =>
 C.any s241.env[74]? fun v250 =>
 C.any s241.env[75]? fun v251 =>
 C.any s241.env[76]? fun v252 =>
 C.any s241.env[77]? fun v253 =>
 C.any s241.env[78]? fun v254 =>
 C.any s241.env[79]? fun v255 =>
 C.any s241.env[80]? fun v256 =>
 C.any s241.env[81]? fun v257 =>
 C.any s241.env[82]? fun v258 =>
 C.any s241.env[83]? fun v259 =>
 C.any s241.env[84]? fun v260 =>
 C.any s241.env[85]? fun v261 =>
 C.any s241.env[86]? fun v262 =>
 C.any s241.env[87]? fun v263 =>
 C.any s241.env[88]? fun v264 =>
 C.any s241.env[89]? fun v265 =>
 C.any s241.env[90]? fun v266 =>
 C.any s241.env[91]? fun v267 =>
 C.any s241.env[92]? fun v268 =>
 C.any s241.env[93]? fun v269 =>
 C.any s241.env[94]? fun v270 =>
 C.any s241.env[95]? fun v271 =>
 C.any s241.env[96]? fun v272 =>
 C.any s241.env[97]? fun v273 =>
 C.same s241.env[98]? v163 <|
 C.same s241.env[99]? v164 <|
 C.same s241.env[100]? v165 <|
 C.same s241.env[101]? v166 <|
 C.same s241.env[102]? v167 <|
 C.same s241.env[103]? v168 <|
 C.same s241.env[104]? v169 <|
 C.same s241.env[105]? v170 <|
 C.same s241.env[106]? v171 <|
 C.same s241.env[107]? v172 <|
 C.same s241.env[108]? v173 <|
 C.same s241.env[109]? v174 <|
 C.same s241.env[110]? v175 <|
 C.same s241.env[111]? v176 <|
 C.same s241.env[112]? v177 <|
 C.same s241.env[113]? v178 <|
 C.same s241.env[114]? v179 <|
 C.same s241.env[115]? v180 <|
 C.same s241.env[116]? v181 <|
 C.same s241.env[117]? v182 <|
 C.same s241.env[118]? v183 <|
 C.same s241.env[119]? v184 <|
 C.same s241.env[120]? v185 <|
 C.same s241.env[121]? v186 <|
 C.same s241.env[122]? v187 <|
 C.same s241.env[123]? v188 <|
 C.same s241.env[124]? v189 <|
 C.same s241.env[125]? v190 <|
 C.same s241.env[126]? v191 <|
 C.same s241.env[127]? v192 <|
 C.same s241.env[128]? v193 <|
 C.same s241.env[129]? v194 <|
 C.same s241.env[130]? v195 <|
 C.same s241.env[131]? v196 <|
 C.same s241.env[132]? v197 <|
 C.same s241.env[133]? v198 <|
 C.same s241.env[134]? v199 <|
 C.same s241.env[135]? v200 <|
 C.same s241.env[136]? v201 <|
 C.same s241.env[137]? v202 <|
 C.same s241.env[138]? v203 <|
 C.same s241.env[139]? v204 <|
 C.same s241.env[140]? v205 <|
 C.same s241.env[141]? v206 <|
 C.same s241.env[142]? v207 <|
 C.same s241.env[143]? v208 <|
 C.same s241.env[144]? v209 <|
 C.same s241.env[145]? v210 <|
 C.same s241.env[146]? v211 <|
 C.same s241.env[147]? v212 <|
 C.same s241.env[148]? v213 <|
 C.same s241.env[149]? v214 <|
 C.same s241.env[150]? v215 <|
 C.same s241.env[151]? v216 <|
 C.same s241.env[152]? v217 <|
 C.same s241.env[153]? v218 <|
 C.same s241.env[154]? v219 <|
 C.same s241.env[155]? v220 <|
 C.same s241.env[156]? v221 <|
 C.same s241.env[157]? v222 <|
 C.same s241.env[158]? v223 <|
 C.same s241.env[159]? v224 <|
 C.same s241.env[160]? v225 <|
 C.same s241.env[161]? v226 <|
 C.same s241.env[162]? v227 <|
 C.same s241.env[163]? v228 <|
 C.same s241.env[164]? v229 <|
 C.same s241.env[165]? v230 <|
 C.same s241.env[166]? v231 <|
 cnd (decide (x247 < 32))
 (C.iter (r6R3 C d a0 a1 a2 a3 a4 a5 a6 a7 a8 a9 a10 a11 a12 a13 a14 a15 v0 v2 b59 b60 b61 v62 v63 v64 v65 b66 b67 v68 v69 v70 v71 x77 x78 x79 x80 s81 x85 x86 x87 x88 x89 x90 x91 x92 x93 s94 s95 v96 x100 b104 v114 v115 v116 x117 v163 v164 v165 v166 v167 v168 v169 v170 v171 v172 v173 v174 v175 v176 v177 v178 v179 v180 v181 v182 v183 v184 v185 v186 v187 v188 v189 v190 v191 v192 v193 v194 v195 v196 v197 v198 v199 v200 v201 v202 v203 v204 v205 v206 v207 v208 v209 v210 v211 v212 v213 v214 v215 v216 v217 v218 v219 v220 v221 v222 v223 v224 v225 v226 v227 v228 v229 v230 v231 v232 s236 v237 v239 k242 x247 v273) 1 ⟨[(.agg [(iz a0), (iz a1), (iz a2), (iz a3)]), (.agg [(iz a4), (iz a5), (iz a6), (iz a7), (iz a8), (iz a9), (iz a10), (iz a11), (iz a12)]), (iz (IntKind.wrap .i64 (1 + (IntKind.wrap .i64 (Int.tmod (IntKind.wrap .u64 a13) 3))))), (iz a14), (.int .u32 a15), v0, v2, tz, tz, tz, (.bool b104), (iz x117), (.str s236), (iz (IntKind.wrap .i64 (8 * (IntKind.wrap .i64 ((((List.length s236) : Nat) : Int) - 4))))), (iz (IntKind.wrap .i64 (Int.tmod (IntKind.wrap .u64 a14) (IntKind.wrap .u64 (IntKind.wrap .i64 (8 * (IntKind.wrap .i64 ((((List.length s236) : Nat) : Int) - 4)))))))), v237, v239, (.bool b244), v245, v246, v114, tz, v115, v116, (.bool b59), (.bool b60), (.bool b61), v62, v63, v64, v65, (.bool b66), (.bool b67), v68, v69, v70, v71, bf, tz, (iz a13), (.int .u64 (IntKind.wrap .u64 a13)), (.int .u64 (Int.tmod (IntKind.wrap .u64 a13) 3)), (iz (IntKind.wrap .i64 (Int.tmod (IntKind.wrap .u64 a13) 3))), (iz (IntKind.wrap .i64 (1 + (IntKind.wrap .i64 (Int.tmod (IntKind.wrap .u64 a13) 3))))), (.agg [(iz x77), (iz x78), (iz x79), (iz x80)]), (.str s81), (.agg [(iz x85), (iz x86), (iz x87), (iz x88), (iz x89), (iz x90), (iz x91), (iz x92), (iz x93)]), (.str s94), (iz (IntKind.wrap .i64 (1 + (IntKind.wrap .i64 (Int.tmod (IntKind.wrap .u64 a13) 3))))), (.str s95), v96, (iz x100), (iz x117), bt, (iz x117), v232, (.str s236), (.str s236), (iz (((List.length s236) : Nat) : Int)), (iz (IntKind.wrap .i64 ((((List.length s236) : Nat) : Int) - 4))), (iz (IntKind.wrap .i64 (8 * (IntKind.wrap .i64 ((((List.length s236) : Nat) : Int) - 4))))), (iz a14), (.int .u64 (IntKind.wrap .u64 a14)), (iz (IntKind.wrap .i64 (8 * (IntKind.wrap .i64 ((((List.length s236) : Nat) : Int) - 4))))), (.int .u64 (IntKind.wrap .u64 (IntKind.wrap .i64 (8 * (IntKind.wrap .i64 ((((List.length s236) : Nat) : Int) - 4)))))), (.int .u64 (Int.tmod (IntKind.wrap .u64 a14) (IntKind.wrap .u64 (IntKind.wrap .i64 (8 * (IntKind.wrap .i64 ((((List.length s236) : Nat) : Int) - 4))))))), (iz (IntKind.wrap .i64 (Int.tmod (IntKind.wrap .u64 a14) (IntKind.wrap .u64 (IntKind.wrap .i64 (8 * (IntKind.wrap .i64 ((((List.length s236) : Nat) : Int) - 4)))))))), (.str s236), v237, (.str s236), v239, (iz x247), bt, v249, v250, v251, v252, v253, v254, v255, v256, v257, v258, v259, v260, v261, v262, v263, v264, v265, v266, v267, v268, v269, v270, v271, v272, v273, v163, v164, v165, v166, v167, v168, v169, v170, v171, v172, v173, v174, v175, v176, v177, v178, v179, v180, v181, v182, v183, v184, v185, v186, v187, v188, v189, v190, v191, v192, v193, v194, v195, v196, v197, v198, v199, v200, v201, v202, v203, v204, v205, v206, v207, v208, v209, v210, v211, v212, v213, v214, v215, v216, v217, v218, v219, v220, v221, v222, v223, v224, v225, v226, v227, v228, v229, v230, v231], (St.H s241)⟩ [2000000] [r6X3_0 C d a0 a1 a2 a3 a4 a5 a6 a7 a8 a9 a10 a11 a12 a13 a14 a15 v0 v2 b59 b60 b61 v62 v63 v64 v65 b66 b67 v68 v69 v70 v71 x77 x78 x79 x80 s81 x85 x86 x87 x88 x89 x90 x91 x92 x93 s94 s95 v96 x100 b104 v114 v115 v116 x117 v163 v164 v165 v166 v167 v168 v169 v170 v171 v172 v173 v174 v175 v176 v177 v178 v179 v180 v181 v182 v183 v184 v185 v186 v187 v188 v189 v190 v191 v192 v193 v194 v195 v196 v197 v198 v199 v200 v201 v202 v203 v204 v205 v206 v207 v208 v209 v210 v211 v212 v213 v214 v215 v216 v217 v218 v219 v220 v221 v222 v223 v224 v225 v226 v227 v228 v229 v230 v231 v232 s236 v237 v239 k242 x247 v273] (r6E3 C d a0 a1 a2 a3 a4 a5 a6 a7 a8 a9 a10 a11 a12 a13 a14 a15 v0 v2 b59 b60 b61 v62 v63 v64 v65 b66 b67 v68 v69 v70 v71 x77 x78 x79 x80 s81 x85 x86 x87 x88 x89 x90 x91 x92 x93 s94 s95 v96 x100 b104 v114 v115 v116 x117 v163 v164 v165 v166 v167 v168 v169 v170 v171 v172 v173 v174 v175 v176 v177 v178 v179 v180 v181 v182 v183 v184 v185 v186 v187 v188 v189 v190 v191 v192 v193 v194 v195 v196 v197 v198 v199 v200 v201 v202 v203 v204 v205 v206 v207 v208 v209 v210 v211 v212 v213 v214 v215 v216 v217 v218 v219 v220 v221 v222 v223 v224 v225 v226 v227 v228 v229 v230 v231 v232 s236 v237 v239 k242 x247 v273))
 (k242 (.exit 2) ⟨[(.agg [(iz a0), (iz a1), (iz a2), (iz a3)]), (.agg [(iz a4), (iz a5), (iz a6), (iz a7), (iz a8), (iz a9), (iz a10), (iz a11), (iz a12)]), (iz (IntKind.wrap .i64 (1 + (IntKind.wrap .i64 (Int.tmod (IntKind.wrap .u64 a13) 3))))), (iz a14), (.int .u32 a15), v0, v2, tz, tz, tz, (.bool b104), (iz x117), (.str s236), (iz (IntKind.wrap .i64 (8 * (IntKind.wrap .i64 ((((List.length s236) : Nat) : Int) - 4))))), (iz (IntKind.wrap .i64 (Int.tmod (IntKind.wrap .u64 a14) (IntKind.wrap .u64 (IntKind.wrap .i64 (8 * (IntKind.wrap .i64 ((((List.length s236) : Nat) : Int) - 4)))))))), v237, v239, (.bool b244), v245, v246, v114, tz, v115, v116, (.bool b59), (.bool b60), (.bool b61), v62, v63, v64, v65, (.bool b66), (.bool b67), v68, v69, v70, v71, bf, tz, (iz a13), (.int .u64 (IntKind.wrap .u64 a13)), (.int .u64 (Int.tmod (IntKind.wrap .u64 a13) 3)), (iz (IntKind.wrap .i64 (Int.tmod (IntKind.wrap .u64 a13) 3))), (iz (IntKind.wrap .i64 (1 + (IntKind.wrap .i64 (Int.tmod (IntKind.wrap .u64 a13) 3))))), (.agg [(iz x77), (iz x78), (iz x79), (iz x80)]), (.str s81), (.agg [(iz x85), (iz x86), (iz x87), (iz x88), (iz x89), (iz x90), (iz x91), (iz x92), (iz x93)]), (.str s94), (iz (IntKind.wrap .i64 (1 + (IntKind.wrap .i64 (Int.tmod (IntKind.wrap .u64 a13) 3))))), (.str s95), v96, (iz x100), (iz x117), bt, (iz x117), v232, (.str s236), (.str s236), (iz (((List.length s236) : Nat) : Int)), (iz (IntKind.wrap .i64 ((((List.length s236) : Nat) : Int) - 4))), (iz (IntKind.wrap .i64 (8 * (IntKind.wrap .i64 ((((List.length s236) : Nat) : Int) - 4))))), (iz a14), (.int .u64 (IntKind.wrap .u64 a14)), (iz (IntKind.wrap .i64 (8 * (IntKind.wrap .i64 ((((List.length s236) : Nat) : Int) - 4))))), (.int .u64 (IntKind.wrap .u64 (IntKind.wrap .i64 (8 * (IntKind.wrap .i64 ((((List.length s236) : Nat) : Int) - 4)))))), (.int .u64 (Int.tmod (IntKind.wrap .u64 a14) (IntKind.wrap .u64 (IntKind.wrap .i64 (8 * (IntKind.wrap .i64 ((((List.length s236) : Nat) : Int) - 4))))))), (iz (IntKind.wrap .i64 (Int.tmod (IntKind.wrap .u64 a14) (IntKind.wrap .u64 (IntKind.wrap .i64 (8 * (IntKind.wrap .i64 ((((List.length s236) : Nat) : Int) - 4)))))))), (.str s236), v237, (.str s236), v239, (iz x247), bf, v249, v250, v251, v252, v253, v254, v255, v256, v257, v258, v259, v260, v261, v262, v263, v264, v265, v266, v267, v268, v269, v270, v271, v272, v273, v163, v164, v165, v166, v167, v168, v169, v170, v171, v172, v173, v174, v175, v176, v177, v178, v179, v180, v181, v182, v183, v184, v185, v186, v187, v188, v189, v190, v191, v192, v193, v194, v195, v196, v197, v198, v199, v200, v201, v202, v203, v204, v205, v206, v207, v208, v209, v210, v211, v212, v213, v214, v215, v216, v217, v218, v219, v220, v221, v222, v223, v224, v225, v226, v227, v228, v229, v230, v231], (St.H s241)⟩))
 (none)
def r6X2_0 (C : Cb) (d : Nat) (a0 a1 a2 a3 a4 a5 a6 a7 a8 a9 a10 a11 a12 a13 a14 a15 : Int) (v0 v2 : AV) (b59 b60 b61 : Bool) (v62 v63 v64 v65 : AV) (b66 b67 : Bool) (v68 v69 v70 v71 : AV) (x77 x78 x79 x80 : Int) (s81 : List UInt8) (x85 x86 x87 x88 x89 x90 x91 x92 x93 : Int) (s94 : List UInt8) (s95 : List UInt8) (v96 : AV) (x100 : Int) (k102 : Ex → St → Ans) (b104 : Bool) (v114 v115 v116 : AV) (x117 : Int) (v163 v164 v165 v166 v167 v168 v169 v170 v171 v172 v173 v174 v175 v176 v177 v178 v179 v180 v181 v182 v183 v184 v185 v186 v187 v188 v189 v190 v191 v192 v193 v194 v195 v196 v197 v198 v199 v200 v201 v202 v203 v204 v205 v206 v207 v208 v209 v210 v211 v212 v213 v214 v215 v216 v217 v218 v219 v220 v221 v222 v223 v224 v225 v226 v227 v228 v229 v230 v231 v232 : AV) (s236 : List UInt8) (v237 v239 : AV) : St → Ans := fun s402 =>
 cnd ((List.length s402.env) == 167)
 (C.same s402.env[0]? (.agg [(iz a0), (iz a1), (iz a2), (iz a3)]) <|
 C.same s402.env[1]? (.agg [(iz a4), (iz a5), (iz a6), (iz a7), (iz a8), (iz a9), (iz a10), (iz a11), (iz a12)]) <|
 C.same s402.env[2]? (iz (IntKind.wrap .i64 (1 + (IntKind.wrap .i64 (Int.tmod (IntKind.wrap .u64 a13) 3))))) <|
 C.same s402.env[3]? (iz a14) <|
 C.same s402.env[4]? (.int .u32 a15) <|
 C.same s402.env[5]? v0 <|
 C.same s402.env[6]? v2 <|
 C.same s402.env[7]? tz <|
 C.same s402.env[8]? tz <|
 C.same s402.env[9]? tz <|
 C.same s402.env[10]? (.bool b104) <|
 C.same s402.env[11]? (iz x117) <|
 C.same s402.env[12]? (.str s236) <|
 C.same s402.env[13]? (iz (IntKind.wrap .i64 (8 * (IntKind.wrap .i64 ((((List.length s236) : Nat) : Int) - 4))))) <|
 C.same s402.env[14]? (iz (IntKind.wrap .i64 (Int.tmod (IntKind.wrap .u64 a14) (IntKind.wrap .u64 (IntKind.wrap .i64 (8 * (IntKind.wrap .i64 ((((List.length s236) : Nat) : Int) - 4)))))))) <|
 C.same s402.env[15]? v237 <|
 C.same s402.env[16]? v239 <|
 C.bool s402.env[17]? fun b403 =>
 C.any s402.env[18]? fun v404 =>
 C.any s402.env[19]? fun v405 =>
 C.same s402.env[20]? v114 <|
 C.same s402.env[21]? tz <|
 C.same s402.env[22]? v115 <|
 C.same s402.env[23]? v116 <|
 C.same s402.env[24]? (.bool b59) <|
 C.same s402.env[25]? (.bool b60) <|
 C.same s402.env[26]? (.bool b61) <|
 C.same s402.env[27]? v62 <|
 C.same s402.env[28]? v63 <|
 C.same s402.env[29]? v64 <|
 C.same s402.env[30]? v65 <|
 C.same s402.env[31]? (.bool b66) <|
 C.same s402.env[32]? (.bool b67) <|
 C.same s402.env[33]? v68 <|
 C.same s402.env[34]? v69 <|
 C.same s402.env[35]? v70 <|
 C.same s402.env[36]? v71 <|
 C.same s402.env[37]? bf <|
 C.same s402.env[38]? tz <|
 C.same s402.env[39]? (iz a13) <|
 C.same s402.env[40]? (.int .u64 (IntKind.wrap .u64 a13)) <|
 C.same s402.env[41]? (.int .u64 (Int.tmod (IntKind.wrap .u64 a13) 3)) <|
 C.same s402.env[42]? (iz (IntKind.wrap .i64 (Int.tmod (IntKind.wrap .u64 a13) 3))) <|
 C.same s402.env[43]? (iz (IntKind.wrap .i64 (1 + (IntKind.wrap .i64 (Int.tmod (IntKind.wrap .u64 a13) 3))))) <|
 C.same s402.env[44]? (.agg [(iz x77), (iz x78), (iz x79), (iz x80)]) <|
 C.same s402.env[45]? (.str s81) <|
 C.same s402.env[46]? (.agg [(iz x85), (iz x86), (iz x87), (iz x88), (iz x89), (iz x90), (iz x91), (iz x92), (iz x93)]) <|
 C.same s402.env[47]? (.str s94) <|
 C.same s402.env[48]? (iz (IntKind.wrap .i64 (1 + (IntKind.wrap .i64 (Int.tmod (IntKind.wrap .u64 a13) 3))))) <|
 C.same s402.env[49]? (.str s95) <|
 C.same s402.env[50]? v96 <|
 C.same s402.env[51]? (iz x100) <|
 C.same s402.env[52]? (iz x117) <|
 C.same s402.env[53]? bt <|
 C.same s402.env[54]? (iz x117) <|
 C.same s402.env[55]? v232 <|
 C.same s402.env[56]? (.str s236) <|
 C.same s402.env[57]? (.str s236) <|
 C.same s402.env[58]? (iz (((List.length s236) : Nat) : Int)) <|
 C.same s402.env[59]? (iz (IntKind.wrap .i64 ((((List.length s236) : Nat) : Int) - 4))) <|
 C.same s402.env[60]? (iz (IntKind.wrap .i64 (8 * (IntKind.wrap .i64 ((((List.length s236) : Nat) : Int) - 4))))) <|
 C.same s402.env[61]? (iz a14) <|
 C.same s402.env[62]? (.int .u64 (IntKind.wrap .u64 a14)) <|
 C.same s402.env[63]? (iz (IntKind.wrap .i64 (8 * (IntKind.wrap .i64 ((((List.length s236) : Nat) : Int) - 4))))) <|
 C.same s402.env[64]? (.int .u64 (IntKind.wrap .u64 (IntKind.wrap .i64 (8 * (IntKind.wrap .i64 ((((List.length s236) : Nat) : Int) - 4)))))) <|
 C.same s402.env[65]? (.int .u64 (Int.tmod (IntKind.wrap .u64 a14) (IntKind.wrap .u64 (IntKind.wrap .i64 (8 * (IntKind.wrap .i64 ((((List.length s236) : Nat) : Int) - 4))))))) <|
 C.same s402.env[66]? (iz (IntKind.wrap .i64 (Int.tmod (IntKind.wrap .u64 a14) (IntKind.wrap .u64 (IntKind.wrap .i64 (8 * (IntKind.wrap .i64 ((((List.length s236) : Nat) : Int) - 4)))))))) <|
 C.same s402.env[67]? (.str s236) <|
 C.same s402.env[68]? v237 <|
 C.same s402.env[69]? (.str s236) <|
 C.same s402.env[70]? v239 <|
 C.int .i64 s402.env[71]? fun x406 =>
 C.bool s402.env[72]? fun b407 =>
 C.any s402.env[73]? fun v408 =>
 C.any s402.env[74]? fun v409 =>
 C.any s402.env[75]? fun v410 =>
 C.any s402.env[76]? fun v411 =>
 C.any s402.env[77]? fun v412 =>
 C.any s402.env[78]? fun v413 =>
 C.any s402.env[79]? fun v414 =>
 C.any s402.env[80]? fun v415 =>
 C.any s402.env[81]? fun v416 =>
 C.any s402.env[82]? fun v417 =>
 C.any s402.env[83]? fun v418 =>
 C.any s402.env[84]? fun v419 =>
 C.any s402.env[85]? fun v420 =>
 C.any s402.env[86]? fun v421 =>
 C.any s402.env[87]? fun v422 =>
 C.any s402.env[88]? fun v423 =>
 C.any s402.env[89]? fun v424 =>
 C.any s402.env[90]? fun v425 =>
 C.any s402.env[91]? fun v426 =>
 C.any s402.env[92]? fun v427 =>
 C.any s402.env[93]? fun v428 =>
 C.any s402.env[94]? fun v429 =>
 C.any s402.env[95]? fun v430 =>
 C.any s402.env[96]? fun v431 =>
 C.any s402.env[97]? fun v432 =>
 C.same s402.env[98]? v163 <|
 C.same s402.env[99]? v164 <|
 C.same s402.env[100]? v165 <|
 C.same s402.env[101]? v166 <|
 C.same s402.env[102]? v167 <|
 C.same s402.env[103]? v168 <|
 C.same s402.env[104]? v169 <|
 C.same s402.env[105]? v170 <|
 C.same s402.env[106]? v171 <|
 C.same s402.env[107]? v172 <|
 C.same s402.env[108]? v173 <|
 C.same s402.env[109]? v174 <|
 C.same s402.env[110]? v175 <|
 C.same s402.env[111]? v176 <|
 C.same s402.env[112]? v177 <|
 C.same s402.env[113]? v178 <|
 C.same s402.env[114]? v179 <|
 C.same s402.env[115]? v180 <|
 C.same s402.env[116]? v181 <|
 C.same s402.env[117]? v182 <|
 C.same s402.env[118]? v183 <|
 C.same s402.env[119]? v184 <|
 C.same s402.env[120]? v185 <|
 C.same s402.env[121]? v186 <|
 C.same s402.env[122]? v187 <|
 C.same s402.env[123]? v188 <|
 C.same s402.env[124]? v189 <|
 C.same s402.env[125]? v190 <|
 C.same s402.env[126]? v191 <|
 C.same s402.env[127]? v192 <|
 C.same s402.env[128]? v193 <|
 C.same s402.env[129]? v194 <|
 C.same s402.env[130]? v195 <|
 C.same s402.env[131]? v196 <|
 C.same s402.env[132]? v197 <|
 C.same s402.env[133]? v198 <|
 C.same s402.env[134]? v199 <|
 C.same s402.env[135]? v200 <|
 C.same s402.env[136]? v201 <|
 C.same s402.env[137]? v202 <|
 C.same s402.env[138]? v203 <|
 C.same s402.env[139]? v204 <|
 C.same s402.env[140]? v205 <|
 C.same s402.env[141]? v206 <|
 C.same s402.env[142]? v207 <|
 C.same s402.env[143]? v208 <|
 C.same s402.env[144]? v209 <|
 C.same s402.env[145]? v210 <|
 C.same s402.env[146]? v211 <|
 C.same s402.env[147]? v212 <|
 C.same s402.env[148]? v213 <|
 C.same s402.env[149]? v214 <|
 C.same s402.env[150]? v215 <|
 C.same s402.env[151]? v216 <|
 C.same s402.env[152]? v217 <|
 C.same s402.env[153]? v218 <|
 C.same s402.env[154]? v219 <|
 C.same s402.env[155]? v220 <|
 C.same s402.env[156]? v221 <|
 C.same s402.env[157]? v222 <|
 C.same s402.env[158]? v223 <|
 C.same s402.env[159]? v224 <|
 C.same s402.env[160]? v225 <|
 C.same s402.env[161]? v226 <|
 C.same s402.env[162]? v227 <|
 C.same s402.env[163]? v228 <|
 C.same s402.env[164]? v229 <|
 C.same s402.env[165]? v230 <|
 C.same s402.env[166]? v231 <|
 cnd (decide ((IntKind.wrap .u64 (IntKind.wrap .i64 (8 * (((List.length s236) : Nat) : Int)))) = 0))
 (none)
 (C.hop (St.H s402) (.ixAS .any 1 (.v v239) (.v (iz (IntKind.wrap .i64 (Int.tdiv (IntKind.wrap .i64 (Int.tmod (IntKind.wrap .u64 a14) (IntKind.wrap .u64 (IntKind.wrap .i64 (8 * (((List.length s236) : Nat) : Int)))))) 8))))) fun v433 h434 =>
 C.hop h434 (.load false 1 (.v v433)) fun v435 h436 =>
 C.int .u8 (some v435) fun x437 =>
 cnd (decide ((Int.tmod (IntKind.wrap .i64 (Int.tmod (IntKind.wrap .u64 a14) (IntKind.wrap .u64 (IntKind.wrap .i64 (8 * (((List.length s236) : Nat) : Int)))))) 8) < 0))
 (none)
 (C.hop h436 (.ixAS .any 1 (.v v239) (.v (iz (IntKind.wrap .i64 (Int.tdiv (IntKind.wrap .i64 (Int.tmod (IntKind.wrap .u64 a14) (IntKind.wrap .u64 (IntKind.wrap .i64 (8 * (((List.length s236) : Nat) : Int)))))) 8))))) fun v438 h439 =>
 C.hop h439 (.store 1 (.v v438) (.v (.int .u8 (bits .xor .u8 x437 (IntKind.wrap .u8 (1 * (2 ^ (min (Int.toNat (Int.tmod (IntKind.wrap .i64 (Int.tmod (IntKind.wrap .u64 a14) (IntKind.wrap .u64 (IntKind.wrap .i64 (8 * (((List.length s236) : Nat) : Int)))))) 8)) 8)))))))) fun v440 h441 =>
 C.hop h441 (.b2s (.v v237)) fun v442 h443 =>
 C.str (some v442) fun s444 =>
 C.hop h443 (.b2s (.v v239)) fun v445 h446 =>
 C.str (some v445) fun s447 =>
 C.hop h446 (.mkrow E9 2 [(0, (.v (.str s444))), (1, (.v (.str s447)))]) fun v448 h449 =>
 C.hop h449 (.bk .lenV [(.v v448)]) fun v450 h451 =>
 C.int .i64 (some v450) fun x452 =>
 C.iter (r6R7 C d a0 a1 a2 a3 a4 a5 a6 a7 a8 a9 a10 a11 a12 a13 a14 a15 v0 v2 b59 b60 b61 v62 v63 v64 v65 b66 b67 v68 v69 v70 v71 x77 x78 x79 x80 s81 x85 x86 x87 x88 x89 x90 x91 x92 x93 s94 s95 v96 x100 k102 x117 v231 v232 s236 v237 v239 b403 v404 v405 x406 b407 v408 v409 v410 v411 v412 v413 v414 v415 v416 v417 v418 v419 v420 v421 v422 v423 v424 v425 v426 v427 v428 v429 v430 v431 v432 v433 x437 v438 s444 s447 v448 x452) 1000000000000000000 ⟨[(.agg [(iz a0), (iz a1), (iz a2), (iz a3)]), (.agg [(iz a4), (iz a5), (iz a6), (iz a7), (iz a8), (iz a9), (iz a10), (iz a11), (iz a12)]), (iz (IntKind.wrap .i64 (1 + (IntKind.wrap .i64 (Int.tmod (IntKind.wrap .u64 a13) 3))))), (iz a14), (.int .u32 a15), v0, v2, tz, tz, tz, (.bool b104), (iz x117), (.str s236), (iz (IntKind.wrap .i64 (8 * (IntKind.wrap .i64 ((((List.length s236) : Nat) : Int) - 4))))), (iz (IntKind.wrap .i64 (Int.tmod (IntKind.wrap .u64 a14) (IntKind.wrap .u64 (IntKind.wrap .i64 (8 * (IntKind.wrap .i64 ((((List.length s236) : Nat) : Int) - 4)))))))), v237, v239, (.bool b403), v404, v405, (iz (IntKind.wrap .i64 (Int.tmod (IntKind.wrap .u64 a14) (IntKind.wrap .u64 (IntKind.wrap .i64 (8 * (((List.length s236) : Nat) : Int))))))), tz, v115, v116, (.bool b59), (.bool b60), (.bool b61), v62, v63, v64, v65, (.bool b66), (.bool b67), v68, v69, v70, v71, bf, tz, (iz a13), (.int .u64 (IntKind.wrap .u64 a13)), (.int .u64 (Int.tmod (IntKind.wrap .u64 a13) 3)), (iz (IntKind.wrap .i64 (Int.tmod (IntKind.wrap .u64 a13) 3))), (iz (IntKind.wrap .i64 (1 + (IntKind.wrap .i64 (Int.tmod (IntKind.wrap .u64 a13) 3))))), (.agg [(iz x77), (iz x78), (iz x79), (iz x80)]), (.str s81), (.agg [(iz x85), (iz x86), (iz x87), (iz x88), (iz x89), (iz x90), (iz x91), (iz x92), (iz x93)]), (.str s94), (iz (IntKind.wrap .i64 (1 + (IntKind.wrap .i64 (Int.tmod (IntKind.wrap .u64 a13) 3))))), (.str s95), v96, (iz x100), (iz x117), bt, (iz x117), v232, (.str s236), (.str s236), (iz (((List.length s236) : Nat) : Int)), (iz (IntKind.wrap .i64 ((((List.length s236) : Nat) : Int) - 4))), (iz (IntKind.wrap .i64 (8 * (IntKind.wrap .i64 ((((List.length s236) : Nat) : Int) - 4))))), (iz a14), (.int .u64 (IntKind.wrap .u64 a14)), (iz (IntKind.wrap .i64 (8 * (IntKind.wrap .i64 ((((List.length s236) : Nat) : Int) - 4))))), (.int .u64 (IntKind.wrap .u64 (IntKind.wrap .i64 (8 * (IntKind.wrap .i64 ((((List.length s236) : Nat) : Int) - 4)))))), (.int .u64 (Int.tmod (IntKind.wrap .u64 a14) (IntKind.wrap .u64 (IntKind.wrap .i64 (8 * (IntKind.wrap .i64 ((((List.length s236) : Nat) : Int) - 4))))))), (iz (IntKind.wrap .i64 (Int.tmod (IntKind.wrap .u64 a14) (IntKind.wrap .u64 (IntKind.wrap .i64 (8 * (IntKind.wrap .i64 ((((List.length s236) : Nat) : Int) - 4)))))))), (.str s236), v237, (.str s236), v239, (iz x406), (.bool b407), v408, v409, v410, v411, v412, v413, v414, v415, v416, v417, v418, v419, v420, v421, v422, v423, v424, v425, v426, v427, v428, v429, v430, v431, v432, (iz a14), (.int .u64 (IntKind.wrap .u64 a14)), (.str s236), (iz (((List.length s236) : Nat) : Int)), (iz (IntKind.wrap .i64 (8 * (((List.length s236) : Nat) : Int)))), (.int .u64 (IntKind.wrap .u64 (IntKind.wrap .i64 (8 * (((List.length s236) : Nat) : Int))))), (.int .u64 (Int.tmod (IntKind.wrap .u64 a14) (IntKind.wrap .u64 (IntKind.wrap .i64 (8 * (((List.length s236) : Nat) : Int)))))), (iz (IntKind.wrap .i64 (Int.tmod (IntKind.wrap .u64 a14) (IntKind.wrap .u64 (IntKind.wrap .i64 (8 * (((List.length s236) : Nat) : Int))))))), v239, (iz (IntKind.wrap .i64 (Int.tmod (IntKind.wrap .u64 a14) (IntKind.wrap .u64 (IntKind.wrap .i64 (8 * (((List.length s236) : Nat) : Int))))))), (iz (IntKind.wrap .i64 (Int.tdiv (IntKind.wrap .i64 (Int.tmod (IntKind.wrap .u64 a14) (IntKind.wrap .u64 (IntKind.wrap .i64 (8 * (((List.length s236) : Nat) : Int)))))) 8))), v433, (.int .u8 x437), (iz (IntKind.wrap .i64 (Int.tmod (IntKind.wrap .u64 a14) (IntKind.wrap .u64 (IntKind.wrap .i64 (8 * (((List.length s236) : Nat) : Int))))))), (iz (Int.tmod (IntKind.wrap .i64 (Int.tmod (IntKind.wrap .u64 a14) (IntKind.wrap .u64 (IntKind.wrap .i64 (8 * (((List.length s236) : Nat) : Int)))))) 8)), (.int .u8 (IntKind.wrap .u8 (1 * (2 ^ (min (Int.toNat (Int.tmod (IntKind.wrap .i64 (Int.tmod (IntKind.wrap .u64 a14) (IntKind.wrap .u64 (IntKind.wrap .i64 (8 * (((List.length s236) : Nat) : Int)))))) 8)) 8))))), (.int .u8 (bits .xor .u8 x437 (IntKind.wrap .u8 (1 * (2 ^ (min (Int.toNat (Int.tmod (IntKind.wrap .i64 (Int.tmod (IntKind.wrap .u64 a14) (IntKind.wrap .u64 (IntKind.wrap .i64 (8 * (((List.length s236) : Nat) : Int)))))) 8)) 8)))))), v438, v237, (.str s444), v239, (.str s447), v448, (iz x452), (iz 0), v188, v189, v190, v191, v192, v193, v194, v195, v196, v197, v198, v199, v200, v201, v202, v203, v204, v205, v206, v207, v208, v209, v210, v211, v212, v213, v214, v215, v216, v217, v218, v219, v220, v221, v222, v223, v224, v225, v226, v227, v228, v229, v230, v231], h451⟩ [4] [r6X7_0 C d a0 a1 a2 a3 a4 a5 a6 a7 a8 a9 a10 a11 a12 a13 a14 a15 v0 v2 b59 b60 b61 v62 v63 v64 v65 b66 b67 v68 v69 v70 v71 x77 x78 x79 x80 s81 x85 x86 x87 x88 x89 x90 x91 x92 x93 s94 s95 v96 x100 k102 x117 v231 v232 s236 v237 v239 b403 v404 v405 x406 b407 v408 v409 v410 v411 v412 v413 v414 v415 v416 v417 v418 v419 v420 v421 v422 v423 v424 v425 v426 v427 v428 v429 v430 v431 v432 v433 x437 v438 s444 s447 v448 x452] (r6E7 C d a0 a1 a2 a3 a4 a5 a6 a7 a8 a9 a10 a11 a12 a13 a14 a15 v0 v2 b59 b60 b61 v62 v63 v64 v65 b66 b67 v68 v69 v70 v71 x77 x78 x79 x80 s81 x85 x86 x87 x88 x89 x90 x91 x92 x93 s94 s95 v96 x100 k102 x117 v231 v232 s236 v237 v239 b403 v404 v405 x406 b407 v408 v409 v410 v411 v412 v413 v414 v415 v416 v417 v418 v419 v420 v421 v422 v423 v424 v425 v426 v427 v428 v429 v430 v431 v432 v433 x437 v438 s444 s447 v448 x452))))
 (none)
end Go.Proofs.Ytoceckjagfhfmaa.AE
