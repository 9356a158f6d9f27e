/- The texts that the law PeerBits needs, part 4. No conditions. -/
import Derived.Test.YtoceckjagfhfmaaMPeerBits3
namespace Go.Proofs.Ytoceckjagfhfmaa.AE
set_option linter.unusedVariables false
set_option linter.unusedSimpArgs false
set_option linter.constructorNameAsVariable false
open Go
set_option maxRecDepth 100000
set_option maxHeartbeats 0
def r6E2 (C : Cb) (d : Nat) (a0 a1 a2 a3 a4 a5 a6 a7 a8 a9 a10 a11 a12 a13 a14 a15 : Int) (v0 v2 : AV) (b59 b60 b61 : Bool) (v62 v63 v64 v65 : AV) (b66 b67 : Bool) (v68 v69 v70 v71 : AV) (x77 x78 x79 x80 : Int) (s81 : List UInt8) (x85 x86 x87 x88 x89 x90 x91 x92 x93 : Int) (s94 : List UInt8) (s95 : List UInt8) (v96 : AV) (x100 : Int) (k102 : Ex → St → Ans) (b104 : Bool) (v114 v115 v116 : AV) (x117 : Int) (v163 v164 v165 v166 v167 v168 v169 v170 v171 v172 v173 v174 v175 v176 v177 v178 v179 v180 v181 v182 v183 v184 v185 v186 v187 v188 v189 v190 v191 v192 v193 v194 v195 v196 v197 v198 v199 v200 v201 v202 v203 v204 v205 v206 v207 v208 v209 v210 v211 v212 v213 v214 v215 v216 v217 v218 v219 v220 v221 v222 v223 v224 v225 v226 v227 v228 v229 v230 v231 v232 : AV) (s236 : List UInt8) (v237 v239 : AV) : St → Ans := fun s243 =>
 cnd ((List.length s243.env) == 167)
 (C.same s243.env[0]? (.agg [(iz a0), (iz a1), (iz a2), (iz a3)]) <|
 C.same s243.env[1]? (.agg [(iz a4), (iz a5), (iz a6), (iz a7), (iz a8), (iz a9), (iz a10), (iz a11), (iz a12)]) <|
 C.same s243.env[2]? (iz (IntKind.wrap .i64 (1 + (IntKind.wrap .i64 (Int.tmod (IntKind.wrap .u64 a13) 3))))) <|
 C.same s243.env[3]? (iz a14) <|
 C.same s243.env[4]? (.int .u32 a15) <|
 C.same s243.env[5]? v0 <|
 C.same s243.env[6]? v2 <|
 C.same s243.env[7]? tz <|
 C.same s243.env[8]? tz <|
 C.same s243.env[9]? tz <|
 C.same s243.env[10]? (.bool b104) <|
 C.same s243.env[11]? (iz x117) <|
 C.same s243.env[12]? (.str s236) <|
 C.same s243.env[13]? (iz (IntKind.wrap .i64 (8 * (IntKind.wrap .i64 ((((List.length s236) : Nat) : Int) - 4))))) <|
 C.same s243.env[14]? (iz (IntKind.wrap .i64 (Int.tmod (IntKind.wrap .u64 a14) (IntKind.wrap .u64 (IntKind.wrap .i64 (8 * (IntKind.wrap .i64 ((((List.length s236) : Nat) : Int) - 4)))))))) <|
 C.same s243.env[15]? v237 <|
 C.same s243.env[16]? v239 <|
 C.bool s243.env[17]? fun b753 =>
 C.any s243.env[18]? fun v754 =>
 C.any s243.env[19]? fun v755 =>
 C.same s243.env[20]? v114 <|
 C.same s243.env[21]? tz <|
 C.same s243.env[22]? v115 <|
 C.same s243.env[23]? v116 <|
 C.same s243.env[24]? (.bool b59) <|
 C.same s243.env[25]? (.bool b60) <|
 C.same s243.env[26]? (.bool b61) <|
 C.same s243.env[27]? v62 <|
 C.same s243.env[28]? v63 <|
 C.same s243.env[29]? v64 <|
 C.same s243.env[30]? v65 <|
 C.same s243.env[31]? (.bool b66) <|
 C.same s243.env[32]? (.bool b67) <|
 C.same s243.env[33]? v68 <|
 C.same s243.env[34]? v69 <|
 C.same s243.env[35]? v70 <|
 C.same s243.env[36]? v71 <|
 C.same s243.env[37]? bf <|
 C.same s243.env[38]? tz <|
 C.same s243.env[39]? (iz a13) <|
 C.same s243.env[40]? (.int .u64 (IntKind.wrap .u64 a13)) <|
 C.same s243.env[41]? (.int .u64 (Int.tmod (IntKind.wrap .u64 a13) 3)) <|
 C.same s243.env[42]? (iz (IntKind.wrap .i64 (Int.tmod (IntKind.wrap .u64 a13) 3))) <|
 C.same s243.env[43]? (iz (IntKind.wrap .i64 (1 + (IntKind.wrap .i64 (Int.tmod (IntKind.wrap .u64 a13) 3))))) <|
 C.same s243.env[44]? (.agg [(iz x77), (iz x78), (iz x79), (iz x80)]) <|
 C.same s243.env[45]? (.str s81) <|
 C.same s243.env[46]? (.agg [(iz x85), (iz x86), (iz x87), (iz x88), (iz x89), (iz x90), (iz x91), (iz x92), (iz x93)]) <|
 C.same s243.env[47]? (.str s94) <|
 C.same s243.env[48]? (iz (IntKind.wrap .i64 (1 + (IntKind.wrap .i64 (Int.tmod (IntKind.wrap .u64 a13) 3))))) <|
 C.same s243.env[49]? (.str s95) <|
 C.same s243.env[50]? v96 <|
 C.same s243.env[51]? (iz x100) <|
 C.same s243.env[52]? (iz x117) <|
 C.same s243.env[53]? bt <|
 C.same s243.env[54]? (iz x117) <|
 C.same s243.env[55]? v232 <|
 C.same s243.env[56]? (.str s236) <|
 C.same s243.env[57]? (.str s236) <|
 C.same s243.env[58]? (iz (((List.length s236) : Nat) : Int)) <|
 C.same s243.env[59]? (iz (IntKind.wrap .i64 ((((List.length s236) : Nat) : Int) - 4))) <|
 C.same s243.env[60]? (iz (IntKind.wrap .i64 (8 * (IntKind.wrap .i64 ((((List.length s236) : Nat) : Int) - 4))))) <|
 C.same s243.env[61]? (iz a14) <|
 C.same s243.env[62]? (.int .u64 (IntKind.wrap .u64 a14)) <|
 C.same s243.env[63]? (iz (IntKind.wrap .i64 (8 * (IntKind.wrap .i64 ((((List.length s236) : Nat) : Int) - 4))))) <|
 C.same s243.env[64]? (.int .u64 (IntKind.wrap .u64 (IntKind.wrap .i64 (8 * (IntKind.wrap .i64 ((((List.length s236) : Nat) : Int) - 4)))))) <|
 C.same s243.env[65]? (.int .u64 (Int.tmod (IntKind.wrap .u64 a14) (IntKind.wrap .u64 (IntKind.wrap .i64 (8 * (IntKind.wrap .i64 ((((List.length s236) : Nat) : Int) - 4))))))) <|
 C.same s243.env[66]? (iz (IntKind.wrap .i64 (Int.tmod (IntKind.wrap .u64 a14) (IntKind.wrap .u64 (IntKind.wrap .i64 (8 * (IntKind.wrap .i64 ((((List.length s236) : Nat) : Int) - 4)))))))) <|
 C.same s243.env[67]? (.str s236) <|
 C.same s243.env[68]? v237 <|
 C.same s243.env[69]? (.str s236) <|
 C.same s243.env[70]? v239 <|
 C.int .i64 s243.env[71]? fun x756 =>
 C.any s243.env[72]? fun v757 =>
 C.any s243.env[73]? fun v758 =>
 C.any s243.env[74]? fun v759 =>
 C.any s243.env[75]? fun v760 =>
 C.any s243.env[76]? fun v761 =>
 C.any s243.env[77]? fun v762 =>
 C.any s243.env[78]? fun v763 =>
 C.any s243.env[79]? fun v764 =>
 C.any s243.env[80]? fun v765 =>
 C.any s243.env[81]? fun v766 =>
 C.any s243.env[82]? fun v767 =>
 C.any s243.env[83]? fun v768 =>
 C.any s243.env[84]? fun v769 =>
 C.any s243.env[85]? fun v770 =>
 C.any s243.env[86]? fun v771 =>
 C.any s243.env[87]? fun v772 =>
 C.any s243.env[88]? fun v773 =>
 C.any s243.env[89]? fun v774 =>
 C.any s243.env[90]? fun v775 =>
 C.any s243.env[91]? fun v776 =>
 C.any s243.env[92]? fun v777 =>
 C.any s243.env[93]? fun v778 =>
 C.any s243.env[94]? fun v779 =>
 C.any s243.env[95]? fun v780 =>
 C.any s243.env[96]? fun v781 =>
 C.any s243.env[97]? fun v782 =>
 C.same s243.env[98]? v163 <|
 C.same s243.env[99]? v164 <|
 C.same s243.env[100]? v165 <|
 C.same s243.env[101]? v166 <|
 C.same s243.env[102]? v167 <|
 C.same s243.env[103]? v168 <|
 C.same s243.env[104]? v169 <|
 C.same s243.env[105]? v170 <|
 C.same s243.env[106]? v171 <|
 C.same s243.env[107]? v172 <|
 C.same s243.env[108]? v173 <|
 C.same s243.env[109]? v174 <|
 C.same s243.env[110]? v175 <|
 C.same s243.env[111]? v176 <|
 C.same s243.env[112]? v177 <|
 C.same s243.env[113]? v178 <|
 C.same s243.env[114]? v179 <|
 C.same s243.env[115]? v180 <|
 C.same s243.env[116]? v181 <|
 C.same s243.env[117]? v182 <|
 C.same s243.env[118]? v183 <|
 C.same s243.env[119]? v184 <|
 C.same s243.env[120]? v185 <|
 C.same s243.env[121]? v186 <|
 C.same s243.env[122]? v187 <|
 C.same s243.env[123]? v188 <|
 C.same s243.env[124]? v189 <|
 C.same s243.env[125]? v190 <|
 C.same s243.env[126]? v191 <|
 C.same s243.env[127]? v192 <|
 C.same s243.env[128]? v193 <|
 C.same s243.env[129]? v194 <|
 C.same s243.env[130]? v195 <|
 C.same s243.env[131]? v196 <|
 C.same s243.env[132]? v197 <|
 C.same s243.env[133]? v198 <|
 C.same s243.env[134]? v199 <|
 C.same s243.env[135]? v200 <|
 C.same s243.env[136]? v201 <|
 C.same s243.env[137]? v202 <|
 C.same s243.env[138]? v203 <|
 C.same s243.env[139]? v204 <|
 C.same s243.env[140]? v205 <|
 C.same s243.env[141]? v206 <|
 C.same s243.env[142]? v207 <|
 C.same s243.env[143]? v208 <|
 C.same s243.env[144]? v209 <|
 C.same s243.env[145]? v210 <|
 C.same s243.env[146]? v211 <|
 C.same s243.env[147]? v212 <|
 C.same s243.env[148]? v213 <|
 C.same s243.env[149]? v214 <|
 C.same s243.env[150]? v215 <|
 C.same s243.env[151]? v216 <|
 C.same s243.env[152]? v217 <|
 C.same s243.env[153]? v218 <|
 C.same s243.env[154]? v219 <|
 C.same s243.env[155]? v220 <|
 C.same s243.env[156]? v221 <|
 C.same s243.env[157]? v222 <|
 C.same s243.env[158]? v223 <|
 C.same s243.env[159]? v224 <|
 C.same s243.env[160]? v225 <|
 C.same s243.env[161]? v226 <|
 C.same s243.env[162]? v227 <|
 C.same s243.env[163]? v228 <|
 C.same s243.env[164]? v229 <|
 C.same s243.env[165]? v230 <|
 C.same s243.env[166]? v231 <|
 k102 .ret ⟨[(.agg [(iz a0), (iz a1), (iz a2), (iz a3)]), (.agg [(iz a4), (iz a5), (iz a6), (iz a7), (iz a8), (iz a9), (iz a10), (iz a11), (iz a12)]), (iz (IntKind.wrap .i64 (1 + (IntKind.wrap .i64 (Int.tmod (IntKind.wrap .u64 a13) 3))))), (iz a14), (.int .u32 a15), v0, v2, tz, tz, tz, (.bool b104), (iz x117), (.str s236), (iz (IntKind.wrap .i64 (8 * (IntKind.wrap .i64 ((((List.length s236) : Nat) : Int) - 4))))), (iz (IntKind.wrap .i64 (Int.tmod (IntKind.wrap .u64 a14) (IntKind.wrap .u64 (IntKind.wrap .i64 (8 * (IntKind.wrap .i64 ((((List.length s236) : Nat) : Int) - 4)))))))), v237, v239, (.bool b753), v754, v755, v114, tz, v115, v116, (.bool b59), (.bool b60), (.bool b61), v62, v63, v64, v65, (.bool b66), (.bool b67), v68, v69, v70, v71, bf, tz, (iz a13), (.int .u64 (IntKind.wrap .u64 a13)), (.int .u64 (Int.tmod (IntKind.wrap .u64 a13) 3)), (iz (IntKind.wrap .i64 (Int.tmod (IntKind.wrap .u64 a13) 3))), (iz (IntKind.wrap .i64 (1 + (IntKind.wrap .i64 (Int.tmod (IntKind.wrap .u64 a13) 3))))), (.agg [(iz x77), (iz x78), (iz x79), (iz x80)]), (.str s81), (.agg [(iz x85), (iz x86), (iz x87), (iz x88), (iz x89), (iz x90), (iz x91), (iz x92), (iz x93)]), (.str s94), (iz (IntKind.wrap .i64 (1 + (IntKind.wrap .i64 (Int.tmod (IntKind.wrap .u64 a13) 3))))), (.str s95), v96, (iz x100), (iz x117), bt, (iz x117), v232, (.str s236), (.str s236), (iz (((List.length s236) : Nat) : Int)), (iz (IntKind.wrap .i64 ((((List.length s236) : Nat) : Int) - 4))), (iz (IntKind.wrap .i64 (8 * (IntKind.wrap .i64 ((((List.length s236) : Nat) : Int) - 4))))), (iz a14), (.int .u64 (IntKind.wrap .u64 a14)), (iz (IntKind.wrap .i64 (8 * (IntKind.wrap .i64 ((((List.length s236) : Nat) : Int) - 4))))), (.int .u64 (IntKind.wrap .u64 (IntKind.wrap .i64 (8 * (IntKind.wrap .i64 ((((List.length s236) : Nat) : Int) - 4)))))), (.int .u64 (Int.tmod (IntKind.wrap .u64 a14) (IntKind.wrap .u64 (IntKind.wrap .i64 (8 * (IntKind.wrap .i64 ((((List.length s236) : Nat) : Int) - 4))))))), (iz (IntKind.wrap .i64 (Int.tmod (IntKind.wrap .u64 a14) (IntKind.wrap .u64 (IntKind.wrap .i64 (8 * (IntKind.wrap .i64 ((((List.length s236) : Nat) : Int) - 4)))))))), (.str s236), v237, (.str s236), v239, (iz x756), v757, v758, v759, v760, v761, v762, v763, v764, v765, v766, v767, v768, v769, v770, v771, v772, v773, v774, v775, v776, v777, v778, v779, v780, v781, v782, v163, v164, v165, v166, v167, v168, v169, v170, v171, v172, v173, v174, v175, v176, v177, v178, v179, v180, v181, v182, v183, v184, v185, v186, v187, v188, v189, v190, v191, v192, v193, v194, v195, v196, v197, v198, v199, v200, v201, v202, v203, v204, v205, v206, v207, v208, v209, v210, v211, v212, v213, v214, v215, v216, v217, v218, v219, v220, v221, v222, v223, v224, v225, v226, v227, v228, v229, v230, v231], (St.H s243)⟩)
 (none)
def r6R1 (C : Cb) (d : Nat) (a0 a1 a2 a3 a4 a5 a6 a7 a8 a9 a10 a11 a12 a13 a14 a15 : Int) (v0 v2 : AV) (b59 b60 b61 : Bool) (v62 v63 v64 v65 : AV) (b66 b67 : Bool) (v68 v69 v70 v71 : AV) (x77 x78 x79 x80 : Int) (s81 : List UInt8) (x85 x86 x87 x88 x89 x90 x91 x92 x93 : Int) (s94 : List UInt8) (s95 : List UInt8) (v96 : AV) (x100 : Int) : St → (Ex → St → Ans) → Ans := fun s101 k102 =>
 cnd ((List.length s101.env) == 167)
 (C.same s101.env[0]? (.agg [(iz a0), (iz a1), (iz a2), (iz a3)]) <|
 C.same s101.env[1]? (.agg [(iz a4), (iz a5), (iz a6), (iz a7), (iz a8), (iz a9), (iz a10), (iz a11), (iz a12)]) <|
 C.same s101.env[2]? (iz (IntKind.wrap .i64 (1 + (IntKind.wrap .i64 (Int.tmod (IntKind.wrap .u64 a13) 3))))) <|
 C.same s101.env[3]? (iz a14) <|
 C.same s101.env[4]? (.int .u32 a15) <|
 C.same s101.env[5]? v0 <|
 C.same s101.env[6]? v2 <|
 C.same s101.env[7]? tz <|
 C.same s101.env[8]? tz <|
 C.same s101.env[9]? tz <|
 C.bool s101.env[10]? fun b104 =>
 C.any s101.env[11]? fun v105 =>
 C.any s101.env[12]? fun v106 =>
 C.any s101.env[13]? fun v107 =>
 C.any s101.env[14]? fun v108 =>
 C.any s101.env[15]? fun v109 =>
 C.any s101.env[16]? fun v110 =>
 C.any s101.env[17]? fun v111 =>
 C.any s101.env[18]? fun v112 =>
 C.any s101.env[19]? fun v113 =>
 C.any s101.env[20]? fun v114 =>
 C.same s101.env[21]? tz <|
 C.any s101.env[22]? fun v115 =>
 C.any s101.env[23]? fun v116 =>
 C.same s101.env[24]? (.bool b59) <|
 C.same s101.env[25]? (.bool b60) <|
 C.same s101.env[26]? (.bool b61) <|
 C.same s101.env[27]? v62 <|
 C.same s101.env[28]? v63 <|
 C.same s101.env[29]? v64 <|
 C.same s101.env[30]? v65 <|
 C.same s101.env[31]? (.bool b66) <|
 C.same s101.env[32]? (.bool b67) <|
 C.same s101.env[33]? v68 <|
 C.same s101.env[34]? v69 <|
 C.same s101.env[35]? v70 <|
 C.same s101.env[36]? v71 <|
 C.same s101.env[37]? bf <|
 C.same s101.env[38]? tz <|
 C.same s101.env[39]? (iz a13) <|
 C.same s101.env[40]? (.int .u64 (IntKind.wrap .u64 a13)) <|
 C.same s101.env[41]? (.int .u64 (Int.tmod (IntKind.wrap .u64 a13) 3)) <|
 C.same s101.env[42]? (iz (IntKind.wrap .i64 (Int.tmod (IntKind.wrap .u64 a13) 3))) <|
 C.same s101.env[43]? (iz (IntKind.wrap .i64 (1 + (IntKind.wrap .i64 (Int.tmod (IntKind.wrap .u64 a13) 3))))) <|
 C.same s101.env[44]? (.agg [(iz x77), (iz x78), (iz x79), (iz x80)]) <|
 C.same s101.env[45]? (.str s81) <|
 C.same s101.env[46]? (.agg [(iz x85), (iz x86), (iz x87), (iz x88), (iz x89), (iz x90), (iz x91), (iz x92), (iz x93)]) <|
 C.same s101.env[47]? (.str s94) <|
 C.same s101.env[48]? (iz (IntKind.wrap .i64 (1 + (IntKind.wrap .i64 (Int.tmod (IntKind.wrap .u64 a13) 3))))) <|
 C.same s101.env[49]? (.str s95) <|
 C.same s101.env[50]? v96 <|
 C.same s101.env[51]? (iz x100) <|
 C.int .i64 s101.env[52]? fun x117 =>
 C.any s101.env[53]? fun v118 =>
 C.any s101.env[54]? fun v119 =>
 C.any s101.env[55]? fun v120 =>
 C.any s101.env[56]? fun v121 =>
 C.any s101.env[57]? fun v122 =>
 C.any s101.env[58]? fun v123 =>
 C.any s101.env[59]? fun v124 =>
 C.any s101.env[60]? fun v125 =>
 C.any s101.env[61]? fun v126 =>
 C.any s101.env[62]? fun v127 =>
 C.any s101.env[63]? fun v128 =>
 C.any s101.env[64]? fun v129 =>
 C.any s101.env[65]? fun v130 =>
 C.any s101.env[66]? fun v131 =>
 C.any s101.env[67]? fun v132 =>
 C.any s101.env[68]? fun v133 =>
 C.any s101.env[69]? fun v134 =>
 C.any s101.env[70]? fun v135 =>
 C.any s101.env[71]? fun v136 =>
 C.any s101.env[72]? fun v137 =>
 C.any s101.env[73]? fun v138 =>
 C.any s101.env[74]? fun v139 =>
 C.any s101.env[75]? fun v140 =>
 C.any s101.env[76]? fun v141 =>
 C.any s101.env[77]? fun v142 =>
 C.any s101.env[78]? fun v143 =>
 C.any s101.env[79]? fun v144 =>
 C.any s101.env[80]? fun v145 =>
 C.any s101.env[81]? fun v146 =>
 C.any s101.env[82]? fun v147 =>
 C.any s101.env[83]? fun v148 =>
 C.any s101.env[84]? fun v149 =>
 C.any s101.env[85]? fun v150 =>
 C.any s101.env[86]? fun v151 =>
 C.any s101.env[87]? fun v152 =>
 C.any s101.env[88]? fun v153 =>
 C.any s101.env[89]? fun v154 =>
 C.any s101.env[90]? fun v155 =>
 C.any s101.env[91]? fun v156 =>
 C.any s101.env[92]? fun v157 =>
 C.any s101.env[93]? fun v158 =>
 C.any s101.env[94]? fun v159 =>
 C.any s101.env[95]? fun v160 =>
 C.any s101.env[96]? fun v161 =>
 C.any s101.env[97]? fun v162 =>
 C.any s101.env[98]? fun v163 =>
 C.any s101.env[99]? fun v164 =>
 C.any s101.env[100]? fun v165 =>
 C.any s101.env[101]? fun v166 =>
 C.any s101.env[102]? fun v167 =>
 C.any s101.env[103]? fun v168 =>
 C.any s101.env[104]? fun v169 =>
 C.any s101.env[105]? fun v170 =>
 C.any s101.env[106]? fun v171 =>
 C.any s101.env[107]? fun v172 =>
 C.any s101.env[108]? fun v173 =>
 C.any s101.env[109]? fun v174 =>
 C.any s101.env[110]? fun v175 =>
 C.any s101.env[111]? fun v176 =>
 C.any s101.env[112]? fun v177 =>
 C.any s101.env[113]? fun v178 =>
 C.any s101.env[114]? fun v179 =>
 C.any s101.env[115]? fun v180 =>
 C.any s101.env[116]? fun v181 =>
 C.any s101.env[117]? fun v182 =>
 C.any s101.env[118]? fun v183 =>
 C.any s101.env[119]? fun v184 =>
 C.any s101.env[120]? fun v185 =>
 C.any s101.env[121]? fun v186 =>
 C.any s101.env[122]? fun v187 =>
 C.any s101.env[123]? fun v188 =>
 C.any s101.env[124]? fun v189 =>
 C.any s101.env[125]? fun v190 =>
 C.any s101.env[126]? fun v191 =>
 C.any s101.env[127]? fun v192 =>
 C.any s101.env[128]? fun v193 =>
 C.any s101.env[129]? fun v194 =>
 C.any s101.env[130]? fun v195 =>
 C.any s101.env[131]? fun v196 =>
 C.any s101.env[132]? fun v197 =>
 C.any s101.env[133]? fun v198 =>
 C.any s101.env[134]? fun v199 =>
 C.any s101.env[135]? fun v200 =>
 C.any s101.env[136]? fun v201 =>
 C.any s101.env[137]? fun v202 =>
 C.any s101.env[138]? fun v203 =>
 C.any s101.env[139]? fun v204 =>
 C.any s101.env[140]? fun v205 =>
 C.any s101.env[141]? fun v206 =>
 C.any s101.env[142]? fun v207 =>
 C.any s101.env[143]? fun v208 =>
 C.any s101.env[144]? fun v209 =>
 C.any s101.env[145]? fun v210 =>
 C.any s101.env[146]? fun v211 =>
 C.any s101.env[147]? fun v212 =>
 C.any s101.env[148]? fun v213 =>
 C.any s101.env[149]? fun v214 =>
 C.any s101.env[150]? fun v215 =>
 C.any s101.env[151]? fun v216 =>
 C.any s101.env[152]? fun v217 =>
 C.any s101.env[153]? fun v218 =>
 C.any s101.env[154]? fun v219 =>
 C.any s101.env[155]? fun v220 =>
 C.any s101.env[156]? fun v221 =>
 C.any s101.env[157]? fun v222 =>
 C.any s101.env[158]? fun v223 =>
 C.any s101.env[159]? fun v224 =>
 C.any s101.env[160]? fun v225 =>
 C.any s101.env[161]? fun v226 =>
 C.any s101.env[162]? fun v227 =>
 C.any s101.env[163]? fun v228 =>
 C.any s101.env[164]? fun v229 =>
 C.any s101.env[165]? fun v230 =>
 C.any s101.env[166]? fun v231 =>
 cnd (decide (x117 < x100))
 (C.hop (St.H s101) (.ixAS .any 1 (.v v96) (.v (iz x117))) fun v232 h233 =>
 C.hop h233 (.load false 1 (.v v232)) fun v234 h235 =>
 C.str (some v234) fun s236 =>
 cnd (decide ((IntKind.wrap .u64 (IntKind.wrap .i64 (8 * (IntKind.wrap .i64 ((((List.length s236) : Nat) : Int) - 4))))) = 0))
 (none)
 (C.hop h235 (.s2b E5 (.v (.str s236))) fun v237 h238 =>
 C.hop h238 (.s2b E5 (.v (.str s236))) fun v239 h240 =>
 C.iter (r6R2 C d a0 a1 a2 a3 a4 a5 a6 a7 a8 a9 a10 a11 a12 a13 a14 a15 v0 v2 b59 b60 b61 v62 v63 v64 v65 b66 b67 v68 v69 v70 v71 x77 x78 x79 x80 s81 x85 x86 x87 x88 x89 x90 x91 x92 x93 s94 s95 v96 x100 k102 b104 v114 v115 v116 x117 v163 v164 v165 v166 v167 v168 v169 v170 v171 v172 v173 v174 v175 v176 v177 v178 v179 v180 v181 v182 v183 v184 v185 v186 v187 v188 v189 v190 v191 v192 v193 v194 v195 v196 v197 v198 v199 v200 v201 v202 v203 v204 v205 v206 v207 v208 v209 v210 v211 v212 v213 v214 v215 v216 v217 v218 v219 v220 v221 v222 v223 v224 v225 v226 v227 v228 v229 v230 v231 v232 s236 v237 v239) 1000000000000000000 ⟨[(.agg [(iz a0), (iz a1), (iz a2), (iz a3)]), (.agg [(iz a4), (iz a5), (iz a6), (iz a7), (iz a8), (iz a9), (iz a10), (iz a11), (iz a12)]), (iz (IntKind.wrap .i64 (1 + (IntKind.wrap .i64 (Int.tmod (IntKind.wrap .u64 a13) 3))))), (iz a14), (.int .u32 a15), v0, v2, tz, tz, tz, (.bool b104), (iz x117), (.str s236), (iz (IntKind.wrap .i64 (8 * (IntKind.wrap .i64 ((((List.length s236) : Nat) : Int) - 4))))), (iz (IntKind.wrap .i64 (Int.tmod (IntKind.wrap .u64 a14) (IntKind.wrap .u64 (IntKind.wrap .i64 (8 * (IntKind.wrap .i64 ((((List.length s236) : Nat) : Int) - 4)))))))), v237, v239, bf, v112, v113, v114, tz, v115, v116, (.bool b59), (.bool b60), (.bool b61), v62, v63, v64, v65, (.bool b66), (.bool b67), v68, v69, v70, v71, bf, tz, (iz a13), (.int .u64 (IntKind.wrap .u64 a13)), (.int .u64 (Int.tmod (IntKind.wrap .u64 a13) 3)), (iz (IntKind.wrap .i64 (Int.tmod (IntKind.wrap .u64 a13) 3))), (iz (IntKind.wrap .i64 (1 + (IntKind.wrap .i64 (Int.tmod (IntKind.wrap .u64 a13) 3))))), (.agg [(iz x77), (iz x78), (iz x79), (iz x80)]), (.str s81), (.agg [(iz x85), (iz x86), (iz x87), (iz x88), (iz x89), (iz x90), (iz x91), (iz x92), (iz x93)]), (.str s94), (iz (IntKind.wrap .i64 (1 + (IntKind.wrap .i64 (Int.tmod (IntKind.wrap .u64 a13) 3))))), (.str s95), v96, (iz x100), (iz x117), bt, (iz x117), v232, (.str s236), (.str s236), (iz (((List.length s236) : Nat) : Int)), (iz (IntKind.wrap .i64 ((((List.length s236) : Nat) : Int) - 4))), (iz (IntKind.wrap .i64 (8 * (IntKind.wrap .i64 ((((List.length s236) : Nat) : Int) - 4))))), (iz a14), (.int .u64 (IntKind.wrap .u64 a14)), (iz (IntKind.wrap .i64 (8 * (IntKind.wrap .i64 ((((List.length s236) : Nat) : Int) - 4))))), (.int .u64 (IntKind.wrap .u64 (IntKind.wrap .i64 (8 * (IntKind.wrap .i64 ((((List.length s236) : Nat) : Int) - 4)))))), (.int .u64 (Int.tmod (IntKind.wrap .u64 a14) (IntKind.wrap .u64 (IntKind.wrap .i64 (8 * (IntKind.wrap .i64 ((((List.length s236) : Nat) : Int) - 4))))))), (iz (IntKind.wrap .i64 (Int.tmod (IntKind.wrap .u64 a14) (IntKind.wrap .u64 (IntKind.wrap .i64 (8 * (IntKind.wrap .i64 ((((List.length s236) : Nat) : Int) - 4)))))))), (.str s236), v237, (.str s236), v239, (iz 0), v137, v138, v139, v140, v141, v142, v143, v144, v145, v146, v147, v148, v149, v150, v151, v152, v153, v154, v155, v156, v157, v158, v159, v160, v161, v162, v163, v164, v165, v166, v167, v168, v169, v170, v171, v172, v173, v174, v175, v176, v177, v178, v179, v180, v181, v182, v183, v184, v185, v186, v187, v188, v189, v190, v191, v192, v193, v194, v195, v196, v197, v198, v199, v200, v201, v202, v203, v204, v205, v206, v207, v208, v209, v210, v211, v212, v213, v214, v215, v216, v217, v218, v219, v220, v221, v222, v223, v224, v225, v226, v227, v228, v229, v230, v231], h240⟩ [2] [r6X2_0 C d a0 a1 a2 a3 a4 a5 a6 a7 a8 a9 a10 a11 a12 a13 a14 a15 v0 v2 b59 b60 b61 v62 v63 v64 v65 b66 b67 v68 v69 v70 v71 x77 x78 x79 x80 s81 x85 x86 x87 x88 x89 x90 x91 x92 x93 s94 s95 v96 x100 k102 b104 v114 v115 v116 x117 v163 v164 v165 v166 v167 v168 v169 v170 v171 v172 v173 v174 v175 v176 v177 v178 v179 v180 v181 v182 v183 v184 v185 v186 v187 v188 v189 v190 v191 v192 v193 v194 v195 v196 v197 v198 v199 v200 v201 v202 v203 v204 v205 v206 v207 v208 v209 v210 v211 v212 v213 v214 v215 v216 v217 v218 v219 v220 v221 v222 v223 v224 v225 v226 v227 v228 v229 v230 v231 v232 s236 v237 v239] (r6E2 C d a0 a1 a2 a3 a4 a5 a6 a7 a8 a9 a10 a11 a12 a13 a14 a15 v0 v2 b59 b60 b61 v62 v63 v64 v65 b66 b67 v68 v69 v70 v71 x77 x78 x79 x80 s81 x85 x86 x87 x88 x89 x90 x91 x92 x93 s94 s95 v96 x100 k102 b104 v114 v115 v116 x117 v163 v164 v165 v166 v167 v168 v169 v170 v171 v172 v173 v174 v175 v176 v177 v178 v179 v180 v181 v182 v183 v184 v185 v186 v187 v188 v189 v190 v191 v192 v193 v194 v195 v196 v197 v198 v199 v200 v201 v202 v203 v204 v205 v206 v207 v208 v209 v210 v211 v212 v213 v214 v215 v216 v217 v218 v219 v220 v221 v222 v223 v224 v225 v226 v227 v228 v229 v230 v231 v232 s236 v237 v239)))
 (k102 (.exit 0) ⟨[(.agg [(iz a0), (iz a1), (iz a2), (iz a3)]), (.agg [(iz a4), (iz a5), (iz a6), (iz a7), (iz a8), (iz a9), (iz a10), (iz a11), (iz a12)]), (iz (IntKind.wrap .i64 (1 + (IntKind.wrap .i64 (Int.tmod (IntKind.wrap .u64 a13) 3))))), (iz a14), (.int .u32 a15), v0, v2, tz, tz, tz, (.bool b104), v105, v106, v107, v108, v109, v110, v111, v112, v113, v114, tz, v115, v116, (.bool b59), (.bool b60), (.bool b61), v62, v63, v64, v65, (.bool b66), (.bool b67), v68, v69, v70, v71, bf, tz, (iz a13), (.int .u64 (IntKind.wrap .u64 a13)), (.int .u64 (Int.tmod (IntKind.wrap .u64 a13) 3)), (iz (IntKind.wrap .i64 (Int.tmod (IntKind.wrap .u64 a13) 3))), (iz (IntKind.wrap .i64 (1 + (IntKind.wrap .i64 (Int.tmod (IntKind.wrap .u64 a13) 3))))), (.agg [(iz x77), (iz x78), (iz x79), (iz x80)]), (.str s81), (.agg [(iz x85), (iz x86), (iz x87), (iz x88), (iz x89), (iz x90), (iz x91), (iz x92), (iz x93)]), (.str s94), (iz (IntKind.wrap .i64 (1 + (IntKind.wrap .i64 (Int.tmod (IntKind.wrap .u64 a13) 3))))), (.str s95), v96, (iz x100), (iz x117), bf, v119, v120, v121, v122, v123, v124, v125, v126, v127, v128, v129, v130, v131, v132, v133, v134, v135, v136, v137, v138, v139, v140, v141, v142, v143, v144, v145, v146, v147, v148, v149, v150, v151, v152, v153, v154, v155, v156, v157, v158, v159, v160, v161, v162, v163, v164, v165, v166, v167, v168, v169, v170, v171, v172, v173, v174, v175, v176, v177, v178, v179, v180, v181, v182, v183, v184, v185, v186, v187, v188, v189, v190, v191, v192, v193, v194, v195, v196, v197, v198, v199, v200, v201, v202, v203, v204, v205, v206, v207, v208, v209, v210, v211, v212, v213, v214, v215, v216, v217, v218, v219, v220, v221, v222, v223, v224, v225, v226, v227, v228, v229, v230, v231], (St.H s101)⟩))
 (none)
def r6X1_0 (C : Cb) (d : Nat) (a0 a1 a2 a3 a4 a5 a6 a7 a8 a9 a10 a11 a12 a13 a14 a15 : Int) (v0 v2 : AV) (b59 b60 b61 : Bool) (v62 v63 v64 v65 : AV) (b66 b67 : Bool) (v68 v69 v70 v71 : AV) (x77 x78 x79 x80 : Int) (s81 : List UInt8) (x85 x86 x87 x88 x89 x90 x91 x92 x93 : Int) (s94 : List UInt8) (s95 : List UInt8) (v96 : AV) (x100 : Int) : St → Ans := fun s783 =>
 cnd ((List.length s783.env) == 167)
 (C.same s783.env[0]? (.agg [(iz a0), (iz a1), (iz a2), (iz a3)]) <|
 C.same s783.env[1]? (.agg [(iz a4), (iz a5), (iz a6), (iz a7), (iz a8), (iz a9), (iz a10), (iz a11), (iz a12)]) <|
 C.same s783.env[2]? (iz (IntKind.wrap .i64 (1 + (IntKind.wrap .i64 (Int.tmod (IntKind.wrap .u64 a13) 3))))) <|
 C.same s783.env[3]? (iz a14) <|
 C.same s783.env[4]? (.int .u32 a15) <|
 C.same s783.env[5]? v0 <|
 C.same s783.env[6]? v2 <|
 C.same s783.env[7]? tz <|
 C.same s783.env[8]? tz <|
 C.same s783.env[9]? tz <|
 C.bool s783.env[10]? fun b784 =>
 C.any s783.env[11]? fun v785 =>
 C.any s783.env[12]? fun v786 =>
 C.any s783.env[13]? fun v787 =>
 C.any s783.env[14]? fun v788 =>
 C.any s783.env[15]? fun v789 =>
 C.any s783.env[16]? fun v790 =>
 C.any s783.env[17]? fun v791 =>
 C.any s783.env[18]? fun v792 =>
 C.any s783.env[19]? fun v793 =>
 C.any s783.env[20]? fun v794 =>
 C.same s783.env[21]? tz <|
 C.any s783.env[22]? fun v795 =>
 C.any s783.env[23]? fun v796 =>
 C.same s783.env[24]? (.bool b59) <|
 C.same s783.env[25]? (.bool b60) <|
 C.same s783.env[26]? (.bool b61) <|
 C.same s783.env[27]? v62 <|
 C.same s783.env[28]? v63 <|
 C.same s783.env[29]? v64 <|
 C.same s783.env[30]? v65 <|
 C.same s783.env[31]? (.bool b66) <|
 C.same s783.env[32]? (.bool b67) <|
 C.same s783.env[33]? v68 <|
 C.same s783.env[34]? v69 <|
 C.same s783.env[35]? v70 <|
 C.same s783.env[36]? v71 <|
 C.same s783.env[37]? bf <|
 C.same s783.env[38]? tz <|
 C.same s783.env[39]? (iz a13) <|
 C.same s783.env[40]? (.int .u64 (IntKind.wrap .u64 a13)) <|
 C.same s783.env[41]? (.int .u64 (Int.tmod (IntKind.wrap .u64 a13) 3)) <|
 C.same s783.env[42]? (iz (IntKind.wrap .i64 (Int.tmod (IntKind.wrap .u64 a13) 3))) <|
 C.same s783.env[43]? (iz (IntKind.wrap .i64 (1 + (IntKind.wrap .i64 (Int.tmod (IntKind.wrap .u64 a13) 3))))) <|
 C.same s783.env[44]? (.agg [(iz x77), (iz x78), (iz x79), (iz x80)]) <|
 C.same s783.env[45]? (.str s81) <|
 C.same s783.env[46]? (.agg [(iz x85), (iz x86), (iz x87), (iz x88), (iz x89), (iz x90), (iz x91), (iz x92), (iz x93)]) <|
 C.same s783.env[47]? (.str s94) <|
 C.same s783.env[48]? (iz (IntKind.wrap .i64 (1 + (IntKind.wrap .i64 (Int.tmod (IntKind.wrap .u64 a13) 3))))) <|
 C.same s783.env[49]? (.str s95) <|
 C.same s783.env[50]? v96 <|
 C.same s783.env[51]? (iz x100) <|
 C.int .i64 s783.env[52]? fun x797 =>
 C.any s783.env[53]? fun v798 =>
 C.any s783.env[54]? fun v799 =>
 C.any s783.env[55]? fun v800 =>
 C.any s783.env[56]? fun v801 =>
 C.any s783.env[57]? fun v802 =>
 C.any s783.env[58]? fun v803 =>
 C.any s783.env[59]? fun v804 =>
 C.any s783.env[60]? fun v805 =>
 C.any s783.env[61]? fun v806 =>
 C.any s783.env[62]? fun v807 =>
 C.any s783.env[63]? fun v808 =>
 C.any s783.env[64]? fun v809 =>
 C.any s783.env[65]? fun v810 =>
 C.any s783.env[66]? fun v811 =>
 C.any s783.env[67]? fun v812 =>
 C.any s783.env[68]? fun v813 =>
 C.any s783.env[69]? fun v814 =>
 C.any s783.env[70]? fun v815 =>
 C.any s783.env[71]? fun v816 =>
 C.any s783.env[72]? fun v817 =>
 C.any s783.env[73]? fun v818 =>
 C.any s783.env[74]? fun v819 =>
 C.any s783.env[75]? fun v820 =>
 C.any s783.env[76]? fun v821 =>
 C.any s783.env[77]? fun v822 =>
 C.any s783.env[78]? fun v823 =>
 C.any s783.env[79]? fun v824 =>
 C.any s783.env[80]? fun v825 =>
 C.any s783.env[81]? fun v826 =>
 C.any s783.env[82]? fun v827 =>
 C.any s783.env[83]? fun v828 =>
 C.any s783.env[84]? fun v829 =>
 C.any s783.env[85]? fun v830 =>
 C.any s783.env[86]? fun v831 =>
 C.any s783.env[87]? fun v832 =>
 C.any s783.env[88]? fun v833 =>
 C.any s783.env[89]? fun v834 =>
 C.any s783.env[90]? fun v835 =>
 C.any s783.env[91]? fun v836 =>
 C.any s783.env[92]? fun v837 =>
 C.any s783.env[93]? fun v838 =>
 C.any s783.env[94]? fun v839 =>
 C.any s783.env[95]? fun v840 =>
 C.any s783.env[96]? fun v841 =>
 C.any s783.env[97]? fun v842 =>
 C.any s783.env[98]? fun v843 =>
 C.any s783.env[99]? fun v844 =>
 C.any s783.env[100]? fun v845 =>
 C.any s783.env[101]? fun v846 =>
 C.any s783.env[102]? fun v847 =>
 C.any s783.env[103]? fun v848 =>
 C.any s783.env[104]? fun v849 =>
 C.any s783.env[105]? fun v850 =>
 C.any s783.env[106]? fun v851 =>
 C.any s783.env[107]? fun v852 =>
 C.any s783.env[108]? fun v853 =>
 C.any s783.env[109]? fun v854 =>
 C.any s783.env[110]? fun v855 =>
 C.any s783.env[111]? fun v856 =>
 C.any s783.env[112]? fun v857 =>
 C.any s783.env[113]? fun v858 =>
 C.any s783.env[114]? fun v859 =>
 C.any s783.env[115]? fun v860 =>
 C.any s783.env[116]? fun v861 =>
 C.any s783.env[117]? fun v862 =>
 C.any s783.env[118]? fun v863 =>
 C.any s783.env[119]? fun v864 =>
 C.any s783.env[120]? fun v865 =>
 C.any s783.env[121]? fun v866 =>
 C.any s783.env[122]? fun v867 =>
 C.any s783.env[123]? fun v868 =>
 C.any s783.env[124]? fun v869 =>
 C.any s783.env[125]? fun v870 =>
 C.any s783.env[126]? fun v871 =>
 C.any s783.env[127]? fun v872 =>
 C.any s783.env[128]? fun v873 =>
 C.any s783.env[129]? fun v874 =>
 C.any s783.env[130]? fun v875 =>
 C.any s783.env[131]? fun v876 =>
 C.any s783.env[132]? fun v877 =>
 C.any s783.env[133]? fun v878 =>
 C.any s783.env[134]? fun v879 =>
 C.any s783.env[135]? fun v880 =>
 C.any s783.env[136]? fun v881 =>
 C.any s783.env[137]? fun v882 =>
 C.any s783.env[138]? fun v883 =>
 C.any s783.env[139]? fun v884 =>
 C.any s783.env[140]? fun v885 =>
 C.any s783.env[141]? fun v886 =>
 C.any s783.env[142]? fun v887 =>
 C.any s783.env[143]? fun v888 =>
 C.any s783.env[144]? fun v889 =>
 C.any s783.env[145]? fun v890 =>
 C.any s783.env[146]? fun v891 =>
 C.any s783.env[147]? fun v892 =>
 C.any s783.env[148]? fun v893 =>
 C.any s783.env[149]? fun v894 =>
 C.any s783.env[150]? fun v895 =>
 C.any s783.env[151]? fun v896 =>
 C.any s783.env[152]? fun v897 =>
 C.any s783.env[153]? fun v898 =>
 C.any s783.env[154]? fun v899 =>
 C.any s783.env[155]? fun v900 =>
 C.any s783.env[156]? fun v901 =>
 C.any s783.env[157]? fun v902 =>
 C.any s783.env[158]? fun v903 =>
 C.any s783.env[159]? fun v904 =>
 C.any s783.env[160]? fun v905 =>
 C.any s783.env[161]? fun v906 =>
 C.any s783.env[162]? fun v907 =>
 C.any s783.env[163]? fun v908 =>
 C.any s783.env[164]? fun v909 =>
 C.any s783.env[165]? fun v910 =>
 C.any s783.env[166]? fun v911 =>
 C.fin (St.H s783) bt)
 (none)
def r6E1 (C : Cb) (d : Nat) (a0 a1 a2 a3 a4 a5 a6 a7 a8 a9 a10 a11 a12 a13 a14 a15 : Int) (v0 v2 : AV) (b59 b60 b61 : Bool) (v62 v63 v64 v65 : AV) (b66 b67 : Bool) (v68 v69 v70 v71 : AV) (x77 x78 x79 x80 : Int) (s81 : List UInt8) (x85 x86 x87 x88 x89 x90 x91 x92 x93 : Int) (s94 : List UInt8) (s95 : List UInt8) (v96 : AV) (x100 : Int) : St → Ans := fun s103 =>
 cnd ((List.length s103.env) == 167)
 (C.same s103.env[0]? (.agg [(iz a0), (iz a1), (iz a2), (iz a3)]) <|
 C.same s103.env[1]? (.agg [(iz a4), (iz a5), (iz a6), (iz a7), (iz a8), (iz a9), (iz a10), (iz a11), (iz a12)]) <|
 C.same s103.env[2]? (iz (IntKind.wrap .i64 (1 + (IntKind.wrap .i64 (Int.tmod (IntKind.wrap .u64 a13) 3))))) <|
 C.same s103.env[3]? (iz a14) <|
 C.same s103.env[4]? (.int .u32 a15) <|
 C.same s103.env[5]? v0 <|
 C.same s103.env[6]? v2 <|
 C.same s103.env[7]? tz <|
 C.same s103.env[8]? tz <|
 C.same s103.env[9]? tz <|
 C.bool s103.env[10]? fun b912 =>
 C.int .i64 s103.env[11]? fun x913 =>
 C.str s103.env[12]? fun s914 =>
 C.int .i64 s103.env[13]? fun x915 =>
 C.int .i64 s103.env[14]? fun x916 =>
 C.any s103.env[15]? fun v917 =>
 C.any s103.env[16]? fun v918 =>
 C.bool s103.env[17]? fun b919 =>
 C.any s103.env[18]? fun v920 =>
 C.any s103.env[19]? fun v921 =>
 C.int .i64 s103.env[20]? fun x922 =>
 C.same s103.env[21]? tz <|
 C.str s103.env[22]? fun s923 =>
 C.int .i64 s103.env[23]? fun x924 =>
 C.same s103.env[24]? (.bool b59) <|
 C.same s103.env[25]? (.bool b60) <|
 C.same s103.env[26]? (.bool b61) <|
 C.same s103.env[27]? v62 <|
 C.same s103.env[28]? v63 <|
 C.same s103.env[29]? v64 <|
 C.same s103.env[30]? v65 <|
 C.same s103.env[31]? (.bool b66) <|
 C.same s103.env[32]? (.bool b67) <|
 C.same s103.env[33]? v68 <|
 C.same s103.env[34]? v69 <|
 C.same s103.env[35]? v70 <|
 C.same s103.env[36]? v71 <|
 C.same s103.env[37]? bf <|
 C.same s103.env[38]? tz <|
 C.same s103.env[39]? (iz a13) <|
 C.same s103.env[40]? (.int .u64 (IntKind.wrap .u64 a13)) <|
 C.same s103.env[41]? (.int .u64 (Int.tmod (IntKind.wrap .u64 a13) 3)) <|
 C.same s103.env[42]? (iz (IntKind.wrap .i64 (Int.tmod (IntKind.wrap .u64 a13) 3))) <|
 C.same s103.env[43]? (iz (IntKind.wrap .i64 (1 + (IntKind.wrap .i64 (Int.tmod (IntKind.wrap .u64 a13) 3))))) <|
 C.same s103.env[44]? (.agg [(iz x77), (iz x78), (iz x79), (iz x80)]) <|
 C.same s103.env[45]? (.str s81) <|
 C.same s103.env[46]? (.agg [(iz x85), (iz x86), (iz x87), (iz x88), (iz x89), (iz x90), (iz x91), (iz x92), (iz x93)]) <|
 C.same s103.env[47]? (.str s94) <|
 C.same s103.env[48]? (iz (IntKind.wrap .i64 (1 + (IntKind.wrap .i64 (Int.tmod (IntKind.wrap .u64 a13) 3))))) <|
 C.same s103.env[49]? (.str s95) <|
 C.same s103.env[50]? v96 <|
 C.same s103.env[51]? (iz x100) <|
 C.int .i64 s103.env[52]? fun x925 =>
 C.any s103.env[53]? fun v926 =>
 C.int .i64 s103.env[54]? fun x927 =>
 C.any s103.env[55]? fun v928 =>
 C.str s103.env[56]? fun s929 =>
 C.str s103.env[57]? fun s930 =>
 C.int .i64 s103.env[58]? fun x931 =>
 C.int .i64 s103.env[59]? fun x932 =>
 C.int .i64 s103.env[60]? fun x933 =>
 C.int .i64 s103.env[61]? fun x934 =>
 C.int .u64 s103.env[62]? fun x935 =>
 C.int .i64 s103.env[63]? fun x936 =>
 C.int .u64 s103.env[64]? fun x937 =>
 C.int .u64 s103.env[65]? fun x938 =>
 C.int .i64 s103.env[66]? fun x939 =>
 C.str s103.env[67]? fun s940 =>
 C.any s103.env[68]? fun v941 =>
 C.str s103.env[69]? fun s942 =>
 C.any s103.env[70]? fun v943 =>
 C.int .i64 s103.env[71]? fun x944 =>
 C.bool s103.env[72]? fun b945 =>
 C.any s103.env[73]? fun v946 =>
 C.any s103.env[74]? fun v947 =>
 C.any s103.env[75]? fun v948 =>
 C.any s103.env[76]? fun v949 =>
 C.any s103.env[77]? fun v950 =>
 C.any s103.env[78]? fun v951 =>
 C.any s103.env[79]? fun v952 =>
 C.any s103.env[80]? fun v953 =>
 C.any s103.env[81]? fun v954 =>
 C.any s103.env[82]? fun v955 =>
 C.any s103.env[83]? fun v956 =>
 C.any s103.env[84]? fun v957 =>
 C.any s103.env[85]? fun v958 =>
 C.any s103.env[86]? fun v959 =>
 C.any s103.env[87]? fun v960 =>
 C.any s103.env[88]? fun v961 =>
 C.any s103.env[89]? fun v962 =>
 C.any s103.env[90]? fun v963 =>
 C.any s103.env[91]? fun v964 =>
 C.any s103.env[92]? fun v965 =>
 C.any s103.env[93]? fun v966 =>
 C.any s103.env[94]? fun v967 =>
 C.any s103.env[95]? fun v968 =>
 C.any s103.env[96]? fun v969 =>
 C.any s103.env[97]? fun v970 =>
 C.int .i64 s103.env[98]? fun x971 =>
 C.int .u64 s103.env[99]? fun x972 =>
 C.str s103.env[100]? fun s973 =>
 C.int .i64 s103.env[101]? fun x974 =>
 C.int .i64 s103.env[102]? fun x975 =>
 C.int .u64 s103.env[103]? fun x976 =>
 C.int .u64 s103.env[104]? fun x977 =>
 C.int .i64 s103.env[105]? fun x978 =>
 C.any s103.env[106]? fun v979 =>
 C.int .i64 s103.env[107]? fun x980 =>
 C.int .i64 s103.env[108]? fun x981 =>
 C.any s103.env[109]? fun v982 =>
 C.int .u8 s103.env[110]? fun x983 =>
 C.int .i64 s103.env[111]? fun x984 =>
 C.int .i64 s103.env[112]? fun x985 =>
 C.int .u8 s103.env[113]? fun x986 =>
 C.int .u8 s103.env[114]? fun x987 =>
 C.any s103.env[115]? fun v988 =>
 C.any s103.env[116]? fun v989 =>
 C.str s103.env[117]? fun s990 =>
 C.any s103.env[118]? fun v991 =>
 C.str s103.env[119]? fun s992 =>
 C.any s103.env[120]? fun v993 =>
 C.int .i64 s103.env[121]? fun x994 =>
 C.int .i64 s103.env[122]? fun x995 =>
 C.any s103.env[123]? fun v996 =>
 C.any s103.env[124]? fun v997 =>
 C.str s103.env[125]? fun s998 =>
 C.int .i64 s103.env[126]? fun x999 =>
 C.any s103.env[127]? fun v1000 =>
 C.any s103.env[128]? fun v1001 =>
 C.any s103.env[129]? fun v1002 =>
 C.any s103.env[130]? fun v1003 =>
 C.any s103.env[131]? fun v1004 =>
 C.bool s103.env[132]? fun b1005 =>
 C.bool s103.env[133]? fun b1006 =>
 C.any s103.env[134]? fun v1007 =>
 C.any s103.env[135]? fun v1008 =>
 C.any s103.env[136]? fun v1009 =>
 C.any s103.env[137]? fun v1010 =>
 C.any s103.env[138]? fun v1011 =>
 C.any s103.env[139]? fun v1012 =>
 C.any s103.env[140]? fun v1013 =>
 C.any s103.env[141]? fun v1014 =>
 C.any s103.env[142]? fun v1015 =>
 C.any s103.env[143]? fun v1016 =>
 C.any s103.env[144]? fun v1017 =>
 C.any s103.env[145]? fun v1018 =>
 C.str s103.env[146]? fun s1019 =>
 C.str s103.env[147]? fun s1020 =>
 C.bool s103.env[148]? fun b1021 =>
 C.bool s103.env[149]? fun b1022 =>
 C.any s103.env[150]? fun v1023 =>
 C.any s103.env[151]? fun v1024 =>
 C.bool s103.env[152]? fun b1025 =>
 C.bool s103.env[153]? fun b1026 =>
 C.any s103.env[154]? fun v1027 =>
 C.any s103.env[155]? fun v1028 =>
 C.any s103.env[156]? fun v1029 =>
 C.any s103.env[157]? fun v1030 =>
 C.any s103.env[158]? fun v1031 =>
 C.any s103.env[159]? fun v1032 =>
 C.any s103.env[160]? fun v1033 =>
 C.any s103.env[161]? fun v1034 =>
 C.any s103.env[162]? fun v1035 =>
 C.any s103.env[163]? fun v1036 =>
 C.bool s103.env[164]? fun b1037 =>
 C.any s103.env[165]? fun v1038 =>
 C.any s103.env[166]? fun v1039 =>
 C.fin (St.H s103) (.bool b912))
 (none)
def r6R0 (C : Cb) (d : Nat) (a0 a1 a2 a3 a4 a5 a6 a7 a8 a9 a10 a11 a12 a13 a14 a15 : Int) (v0 v2 : AV) : St → (Ex → St → Ans) → Ans := fun s4 k5 =>
 cnd ((List.length s4.env) == 167)
 (C.same s4.env[0]? (.agg [(iz a0), (iz a1), (iz a2), (iz a3)]) <|
 C.same s4.env[1]? (.agg [(iz a4), (iz a5), (iz a6), (iz a7), (iz a8), (iz a9), (iz a10), (iz a11), (iz a12)]) <|
 C.same s4.env[2]? (iz a13) <|
 C.same s4.env[3]? (iz a14) <|
 C.same s4.env[4]? (.int .u32 a15) <|
 C.same s4.env[5]? v0 <|
 C.same s4.env[6]? v2 <|
 C.same s4.env[7]? tz <|
 C.same s4.env[8]? tz <|
 C.same s4.env[9]? tz <|
 C.same s4.env[10]? bf <|
 C.same s4.env[11]? tz <|
 C.same s4.env[12]? tz <|
 C.same s4.env[13]? tz <|
 C.same s4.env[14]? tz <|
 C.same s4.env[15]? tz <|
 C.same s4.env[16]? tz <|
 C.same s4.env[17]? tz <|
 C.same s4.env[18]? tz <|
 C.same s4.env[19]? tz <|
 C.same s4.env[20]? tz <|
 C.same s4.env[21]? tz <|
 C.same s4.env[22]? tz <|
 C.same s4.env[23]? tz <|
 C.any s4.env[24]? fun v7 =>
 C.any s4.env[25]? fun v8 =>
 C.any s4.env[26]? fun v9 =>
 C.any s4.env[27]? fun v10 =>
 C.any s4.env[28]? fun v11 =>
 C.any s4.env[29]? fun v12 =>
 C.any s4.env[30]? fun v13 =>
 C.any s4.env[31]? fun v14 =>
 C.any s4.env[32]? fun v15 =>
 C.any s4.env[33]? fun v16 =>
 C.any s4.env[34]? fun v17 =>
 C.any s4.env[35]? fun v18 =>
 C.any s4.env[36]? fun v19 =>
 C.any s4.env[37]? fun v20 =>
 C.same s4.env[38]? tz <|
 C.same s4.env[39]? tz <|
 C.same s4.env[40]? tz <|
 C.same s4.env[41]? tz <|
 C.same s4.env[42]? tz <|
 C.same s4.env[43]? tz <|
 C.same s4.env[44]? tz <|
 C.same s4.env[45]? tz <|
 C.same s4.env[46]? tz <|
 C.same s4.env[47]? tz <|
 C.same s4.env[48]? tz <|
 C.same s4.env[49]? tz <|
 C.same s4.env[50]? tz <|
 C.same s4.env[51]? tz <|
 C.same s4.env[52]? tz <|
 C.same s4.env[53]? tz <|
 C.same s4.env[54]? tz <|
 C.same s4.env[55]? tz <|
 C.same s4.env[56]? tz <|
 C.same s4.env[57]? tz <|
 C.same s4.env[58]? tz <|
 C.same s4.env[59]? tz <|
 C.same s4.env[60]? tz <|
 C.same s4.env[61]? tz <|
 C.same s4.env[62]? tz <|
 C.same s4.env[63]? tz <|
 C.same s4.env[64]? tz <|
 C.same s4.env[65]? tz <|
 C.same s4.env[66]? tz <|
 C.same s4.env[67]? tz <|
 C.same s4.env[68]? tz <|
 C.same s4.env[69]? tz <|
 C.same s4.env[70]? tz <|
 C.same s4.env[71]? tz <|
 C.same s4.env[72]? tz <|
 C.same s4.env[73]? tz <|
 C.same s4.env[74]? tz <|
 C.same s4.env[75]? tz <|
 C.same s4.env[76]? tz <|
 C.same s4.env[77]? tz <|
 C.same s4.env[78]? tz <|
 C.same s4.env[79]? tz <|
 C.same s4.env[80]? tz <|
 C.same s4.env[81]? tz <|
 C.same s4.env[82]? tz <|
 C.same s4.env[83]? tz <|
 C.same s4.env[84]? tz <|
 C.same s4.env[85]? tz <|
 C.same s4.env[86]? tz <|
 C.same s4.env[87]? tz <|
 C.same s4.env[88]? tz <|
 C.same s4.env[89]? tz <|
 C.same s4.env[90]? tz <|
 C.same s4.env[91]? tz <|
 C.same s4.env[92]? tz <|
 C.same s4.env[93]? tz <|
 C.same s4.env[94]? tz <|
 C.same s4.env[95]? tz <|
 C.same s4.env[96]? tz <|
 C.same s4.env[97]? tz <|
 C.same s4.env[98]? tz <|
 C.same s4.env[99]? tz <|
 C.same s4.env[100]? tz <|
 C.same s4.env[101]? tz <|
 C.same s4.env[102]? tz <|
 C.same s4.env[103]? tz <|
 C.same s4.env[104]? tz <|
 C.same s4.env[105]? tz <|
 C.same s4.env[106]? tz <|
 C.same s4.env[107]? tz <|
 C.same s4.env[108]? tz <|
 C.same s4.env[109]? tz <|
 C.same s4.env[110]? tz <|
 C.same s4.env[111]? tz <|
 C.same s4.env[112]? tz <|
 C.same s4.env[113]? tz <|
 C.same s4.env[114]? tz <|
 C.same s4.env[115]? tz <|
 C.same s4.env[116]? tz <|
 C.same s4.env[117]? tz <|
 C.same s4.env[118]? tz <|
 C.same s4.env[119]? tz <|
 C.same s4.env[120]? tz <|
 C.same s4.env[121]? tz <|
 C.same s4.env[122]? tz <|
 C.same s4.env[123]? tz <|
 C.same s4.env[124]? tz <|
 C.same s4.env[125]? tz <|
 C.same s4.env[126]? tz <|
 C.same s4.env[127]? tz <|
 C.same s4.env[128]? tz <|
 C.same s4.env[129]? tz <|
 C.same s4.env[130]? tz <|
 C.same s4.env[131]? tz <|
 C.same s4.env[132]? tz <|
 C.same s4.env[133]? tz <|
 C.same s4.env[134]? tz <|
 C.same s4.env[135]? tz <|
 C.same s4.env[136]? tz <|
 C.same s4.env[137]? tz <|
 C.same s4.env[138]? tz <|
 C.same s4.env[139]? tz <|
 C.same s4.env[140]? tz <|
 C.same s4.env[141]? tz <|
 C.same s4.env[142]? tz <|
 C.same s4.env[143]? tz <|
 C.same s4.env[144]? tz <|
 C.same s4.env[145]? tz <|
 C.same s4.env[146]? tz <|
 C.same s4.env[147]? tz <|
 C.same s4.env[148]? tz <|
 C.same s4.env[149]? tz <|
 C.same s4.env[150]? tz <|
 C.same s4.env[151]? tz <|
 C.same s4.env[152]? tz <|
 C.same s4.env[153]? tz <|
 C.same s4.env[154]? tz <|
 C.same s4.env[155]? tz <|
 C.same s4.env[156]? tz <|
 C.same s4.env[157]? tz <|
 C.same s4.env[158]? tz <|
 C.same s4.env[159]? tz <|
 C.same s4.env[160]? tz <|
 C.same s4.env[161]? tz <|
 C.same s4.env[162]? tz <|
 C.same s4.env[163]? tz <|
 C.same s4.env[164]? tz <|
 C.same s4.env[165]? tz <|
 C.same s4.env[166]? tz <|
 C.bool (pcall M d 8 []) fun b21 =>
 cnd (!b21)
 (k5 (.exit 2000000) ⟨[(.agg [(iz a0), (iz a1), (iz a2), (iz a3)]), (.agg [(iz a4), (iz a5), (iz a6), (iz a7), (iz a8), (iz a9), (iz a10), (iz a11), (iz a12)]), (iz a13), (iz a14), (.int .u32 a15), v0, v2, tz, tz, tz, bf, tz, tz, tz, tz, tz, tz, tz, tz, tz, tz, tz, tz, tz, (.bool b21), (.bool (!b21)), bt, tz, tz, tz, tz, bt, bt, tz, tz, tz, tz, bt, tz, tz, tz, tz, tz, tz, tz, tz, tz, tz, tz, tz, tz, tz, tz, tz, tz, tz, tz, tz, tz, tz, tz, tz, tz, tz, tz, tz, tz, tz, tz, tz, tz, tz, tz, tz, tz, tz, tz, tz, tz, tz, tz, tz, tz, tz, tz, tz, tz, tz, tz, tz, tz, tz, tz, tz, tz, tz, tz, tz, tz, tz, tz, tz, tz, tz, tz, tz, tz, tz, tz, tz, tz, tz, tz, tz, tz, tz, tz, tz, tz, tz, tz, tz, tz, tz, tz, tz, tz, tz, tz, tz, tz, tz, tz, tz, tz, tz, tz, tz, tz, tz, tz, tz, tz, tz, tz, tz, tz, tz, tz, tz, tz, tz, tz, tz, tz, tz, tz, tz, tz, tz, tz, tz, tz, tz, tz, tz, tz], (St.H s4)⟩)
 (C.hop (St.H s4) (.load true 4 (.v v0)) fun v22 h23 =>
 C.agg 4 (some v22) fun l24 =>
 C.int .i64 l24[0]? fun x25 =>
 C.int .i64 l24[1]? fun x26 =>
 C.int .i64 l24[2]? fun x27 =>
 C.int .i64 l24[3]? fun x28 =>
 C.agg 4 (pcall M d 13 [(.agg [(iz x25), (iz x26), (iz x27), (iz x28)])]) fun l29 =>
 C.int .i64 l29[0]? fun x30 =>
 C.int .i64 l29[1]? fun x31 =>
 C.int .i64 l29[2]? fun x32 =>
 C.int .i64 l29[3]? fun x33 =>
 C.bool (pcall M d 23 [(.agg [(iz x30), (iz x31), (iz x32), (iz x33)])]) fun b34 =>
 cnd (!b34)
 (k5 (.exit 2000000) ⟨[(.agg [(iz a0), (iz a1), (iz a2), (iz a3)]), (.agg [(iz a4), (iz a5), (iz a6), (iz a7), (iz a8), (iz a9), (iz a10), (iz a11), (iz a12)]), (iz a13), (iz a14), (.int .u32 a15), v0, v2, tz, tz, tz, bf, tz, tz, tz, tz, tz, tz, tz, tz, tz, tz, tz, tz, tz, (.bool b21), (.bool (!b21)), bf, (.agg [(iz x25), (iz x26), (iz x27), (iz x28)]), (.agg [(iz x30), (iz x31), (iz x32), (iz x33)]), (.bool b34), (.bool (!b34)), (.bool (!b34)), bt, tz, tz, tz, tz, bt, tz, tz, tz, tz, tz, tz, tz, tz, tz, tz, tz, tz, tz, tz, tz, tz, tz, tz, tz, tz, tz, tz, tz, tz, tz, tz, tz, tz, tz, tz, tz, tz, tz, tz, tz, tz, tz, tz, tz, tz, tz, tz, tz, tz, tz, tz, tz, tz, tz, tz, tz, tz, tz, tz, tz, tz, tz, tz, tz, tz, tz, tz, tz, tz, tz, tz, tz, tz, tz, tz, tz, tz, tz, tz, tz, tz, tz, tz, tz, tz, tz, tz, tz, tz, tz, tz, tz, tz, tz, tz, tz, tz, tz, tz, tz, tz, tz, tz, tz, tz, tz, tz, tz, tz, tz, tz, tz, tz, tz, tz, tz, tz, tz, tz, tz, tz, tz, tz, tz, tz, tz, tz, tz, tz, tz, tz, tz, tz, tz], h23⟩)
 (C.hop h23 (.load true 9 (.v v2)) fun v35 h36 =>
 C.agg 9 (some v35) fun l37 =>
 C.int .i64 l37[0]? fun x38 =>
 C.int .i64 l37[1]? fun x39 =>
 C.int .i64 l37[2]? fun x40 =>
 C.int .i64 l37[3]? fun x41 =>
 C.int .i64 l37[4]? fun x42 =>
 C.int .i64 l37[5]? fun x43 =>
 C.int .i64 l37[6]? fun x44 =>
 C.int .i64 l37[7]? fun x45 =>
 C.int .i64 l37[8]? fun x46 =>
 C.agg 9 (pcall M d 18 [(.agg [(iz x38), (iz x39), (iz x40), (iz x41), (iz x42), (iz x43), (iz x44), (iz x45), (iz x46)])]) fun l47 =>
 C.int .i64 l47[0]? fun x48 =>
 C.int .i64 l47[1]? fun x49 =>
 C.int .i64 l47[2]? fun x50 =>
 C.int .i64 l47[3]? fun x51 =>
 C.int .i64 l47[4]? fun x52 =>
 C.int .i64 l47[5]? fun x53 =>
 C.int .i64 l47[6]? fun x54 =>
 C.int .i64 l47[7]? fun x55 =>
 C.int .i64 l47[8]? fun x56 =>
 C.bool (pcall M d 24 [(.agg [(iz x48), (iz x49), (iz x50), (iz x51), (iz x52), (iz x53), (iz x54), (iz x55), (iz x56)])]) fun b57 =>
 k5 (.exit 2000000) ⟨[(.agg [(iz a0), (iz a1), (iz a2), (iz a3)]), (.agg [(iz a4), (iz a5), (iz a6), (iz a7), (iz a8), (iz a9), (iz a10), (iz a11), (iz a12)]), (iz a13), (iz a14), (.int .u32 a15), v0, v2, tz, tz, tz, bf, tz, tz, tz, tz, tz, tz, tz, tz, tz, tz, tz, tz, tz, (.bool b21), (.bool (!b21)), bf, (.agg [(iz x25), (iz x26), (iz x27), (iz x28)]), (.agg [(iz x30), (iz x31), (iz x32), (iz x33)]), (.bool b34), (.bool (!b34)), (.bool (!b34)), bf, (.agg [(iz x38), (iz x39), (iz x40), (iz x41), (iz x42), (iz x43), (iz x44), (iz x45), (iz x46)]), (.agg [(iz x48), (iz x49), (iz x50), (iz x51), (iz x52), (iz x53), (iz x54), (iz x55), (iz x56)]), (.bool b57), (.bool (!b57)), (.bool (!b57)), tz, tz, tz, tz, tz, tz, tz, tz, tz, tz, tz, tz, tz, tz, tz, tz, tz, tz, tz, tz, tz, tz, tz, tz, tz, tz, tz, tz, tz, tz, tz, tz, tz, tz, tz, tz, tz, tz, tz, tz, tz, tz, tz, tz, tz, tz, tz, tz, tz, tz, tz, tz, tz, tz, tz, tz, tz, tz, tz, tz, tz, tz, tz, tz, tz, tz, tz, tz, tz, tz, tz, tz, tz, tz, tz, tz, tz, tz, tz, tz, tz, tz, tz, tz, tz, tz, tz, tz, tz, tz, tz, tz, tz, tz, tz, tz, tz, tz, tz, tz, tz, tz, tz, tz, tz, tz, tz, tz, tz, tz, tz, tz, tz, tz, tz, tz, tz, tz, tz, tz, tz, tz, tz, tz, tz, tz, tz, tz, tz], h36⟩)))
 (none)
def r6X0_0 (C : Cb) (d : Nat) (a0 a1 a2 a3 a4 a5 a6 a7 a8 a9 a10 a11 a12 a13 a14 a15 : Int) (v0 v2 : AV) : St → Ans := fun s58 =>
 cnd ((List.length s58.env) == 167)
 (C.same s58.env[0]? (.agg [(iz a0), (iz a1), (iz a2), (iz a3)]) <|
 C.same s58.env[1]? (.agg [(iz a4), (iz a5), (iz a6), (iz a7), (iz a8), (iz a9), (iz a10), (iz a11), (iz a12)]) <|
 C.same s58.env[2]? (iz a13) <|
 C.same s58.env[3]? (iz a14) <|
 C.same s58.env[4]? (.int .u32 a15) <|
 C.same s58.env[5]? v0 <|
 C.same s58.env[6]? v2 <|
 C.same s58.env[7]? tz <|
 C.same s58.env[8]? tz <|
 C.same s58.env[9]? tz <|
 C.same s58.env[10]? bf <|
 C.same s58.env[11]? tz <|
 C.same s58.env[12]? tz <|
 C.same s58.env[13]? tz <|
 C.same s58.env[14]? tz <|
 C.same s58.env[15]? tz <|
 C.same s58.env[16]? tz <|
 C.same s58.env[17]? tz <|
 C.same s58.env[18]? tz <|
 C.same s58.env[19]? tz <|
 C.same s58.env[20]? tz <|
 C.same s58.env[21]? tz <|
 C.same s58.env[22]? tz <|
 C.same s58.env[23]? tz <|
 C.bool s58.env[24]? fun b59 =>
 C.bool s58.env[25]? fun b60 =>
 C.bool s58.env[26]? fun b61 =>
 C.any s58.env[27]? fun v62 =>
 C.any s58.env[28]? fun v63 =>
 C.any s58.env[29]? fun v64 =>
 C.any s58.env[30]? fun v65 =>
 C.bool s58.env[31]? fun b66 =>
 C.bool s58.env[32]? fun b67 =>
 C.any s58.env[33]? fun v68 =>
 C.any s58.env[34]? fun v69 =>
 C.any s58.env[35]? fun v70 =>
 C.any s58.env[36]? fun v71 =>
 C.bool s58.env[37]? fun b72 =>
 C.same s58.env[38]? tz <|
 C.same s58.env[39]? tz <|
 C.same s58.env[40]? tz <|
 C.same s58.env[41]? tz <|
 C.same s58.env[42]? tz <|
 C.same s58.env[43]? tz <|
 C.same s58.env[44]? tz <|
 C.same s58.env[45]? tz <|
 C.same s58.env[46]? tz <|
 C.same s58.env[47]? tz <|
 C.same s58.env[48]? tz <|
 C.same s58.env[49]? tz <|
 C.same s58.env[50]? tz <|
 C.same s58.env[51]? tz <|
 C.same s58.env[52]? tz <|
 C.same s58.env[53]? tz <|
 C.same s58.env[54]? tz <|
 C.same s58.env[55]? tz <|
 C.same s58.env[56]? tz <|
 C.same s58.env[57]? tz <|
 C.same s58.env[58]? tz <|
 C.same s58.env[59]? tz <|
 C.same s58.env[60]? tz <|
 C.same s58.env[61]? tz <|
 C.same s58.env[62]? tz <|
 C.same s58.env[63]? tz <|
 C.same s58.env[64]? tz <|
 C.same s58.env[65]? tz <|
 C.same s58.env[66]? tz <|
 C.same s58.env[67]? tz <|
 C.same s58.env[68]? tz <|
 C.same s58.env[69]? tz <|
 C.same s58.env[70]? tz <|
 C.same s58.env[71]? tz <|
 C.same s58.env[72]? tz <|
 C.same s58.env[73]? tz <|
 C.same s58.env[74]? tz <|
 C.same s58.env[75]? tz <|
 C.same s58.env[76]? tz <|
 C.same s58.env[77]? tz <|
 C.same s58.env[78]? tz <|
 C.same s58.env[79]? tz <|
 C.same s58.env[80]? tz <|
 C.same s58.env[81]? tz <|
 C.same s58.env[82]? tz <|
 C.same s58.env[83]? tz <|
 C.same s58.env[84]? tz <|
 C.same s58.env[85]? tz <|
 C.same s58.env[86]? tz <|
 C.same s58.env[87]? tz <|
 C.same s58.env[88]? tz <|
 C.same s58.env[89]? tz <|
 C.same s58.env[90]? tz <|
 C.same s58.env[91]? tz <|
 C.same s58.env[92]? tz <|
 C.same s58.env[93]? tz <|
 C.same s58.env[94]? tz <|
 C.same s58.env[95]? tz <|
 C.same s58.env[96]? tz <|
 C.same s58.env[97]? tz <|
 C.same s58.env[98]? tz <|
 C.same s58.env[99]? tz <|
 C.same s58.env[100]? tz <|
 C.same s58.env[101]? tz <|
 C.same s58.env[102]? tz <|
 C.same s58.env[103]? tz <|
 C.same s58.env[104]? tz <|
 C.same s58.env[105]? tz <|
 C.same s58.env[106]? tz <|
 C.same s58.env[107]? tz <|
 C.same s58.env[108]? tz <|
 C.same s58.env[109]? tz <|
 C.same s58.env[110]? tz <|
 C.same s58.env[111]? tz <|
 C.same s58.env[112]? tz <|
 C.same s58.env[113]? tz <|
 C.same s58.env[114]? tz <|
 C.same s58.env[115]? tz <|
 C.same s58.env[116]? tz <|
 C.same s58.env[117]? tz <|
 C.same s58.env[118]? tz <|
 C.same s58.env[119]? tz <|
 C.same s58.env[120]? tz <|
 C.same s58.env[121]? tz <|
 C.same s58.env[122]? tz <|
 C.same s58.env[123]? tz <|
 C.same s58.env[124]? tz <|
 C.same s58.env[125]? tz <|
 C.same s58.env[126]? tz <|
 C.same s58.env[127]? tz <|
 C.same s58.env[128]? tz <|
 C.same s58.env[129]? tz <|
 C.same s58.env[130]? tz <|
 C.same s58.env[131]? tz <|
 C.same s58.env[132]? tz <|
 C.same s58.env[133]? tz <|
 C.same s58.env[134]? tz <|
 C.same s58.env[135]? tz <|
 C.same s58.env[136]? tz <|
 C.same s58.env[137]? tz <|
 C.same s58.env[138]? tz <|
 C.same s58.env[139]? tz <|
 C.same s58.env[140]? tz <|
 C.same s58.env[141]? tz <|
 C.same s58.env[142]? tz <|
 C.same s58.env[143]? tz <|
 C.same s58.env[144]? tz <|
 C.same s58.env[145]? tz <|
 C.same s58.env[146]? tz <|
 C.same s58.env[147]? tz <|
 C.same s58.env[148]? tz <|
 C.same s58.env[149]? tz <|
 C.same s58.env[150]? tz <|
 C.same s58.env[151]? tz <|
 C.same s58.env[152]? tz <|
 C.same s58.env[153]? tz <|
 C.same s58.env[154]? tz <|
 C.same s58.env[155]? tz <|
 C.same s58.env[156]? tz <|
 C.same s58.env[157]? tz <|
 C.same s58.env[158]? tz <|
 C.same s58.env[159]? tz <|
 C.same s58.env[160]? tz <|
 C.same s58.env[161]? tz <|
 C.same s58.env[162]? tz <|
 C.same s58.env[163]? tz <|
 C.same s58.env[164]? tz <|
 C.same s58.env[165]? tz <|
 C.same s58.env[166]? tz <|
 cnd b72
 (C.bool (pcall M d 8 []) fun b73 =>
 C.fin (St.H s58) (.bool b73))
 (C.hop (St.H s58) (.load true 4 (.v v0)) fun v74 h75 =>
 C.agg 4 (some v74) fun l76 =>
 C.int .i64 l76[0]? fun x77 =>
 C.int .i64 l76[1]? fun x78 =>
 C.int .i64 l76[2]? fun x79 =>
 C.int .i64 l76[3]? fun x80 =>
 C.str (pcall M d 9 [(.agg [(iz x77), (iz x78), (iz x79), (iz x80)])]) fun s81 =>
 C.hop h75 (.load true 9 (.v v2)) fun v82 h83 =>
 C.agg 9 (some v82) fun l84 =>
 C.int .i64 l84[0]? fun x85 =>
 C.int .i64 l84[1]? fun x86 =>
 C.int .i64 l84[2]? fun x87 =>
 C.int .i64 l84[3]? fun x88 =>
 C.int .i64 l84[4]? fun x89 =>
 C.int .i64 l84[5]? fun x90 =>
 C.int .i64 l84[6]? fun x91 =>
 C.int .i64 l84[7]? fun x92 =>
 C.int .i64 l84[8]? fun x93 =>
 C.str (pcall M d 14 [(.agg [(iz x85), (iz x86), (iz x87), (iz x88), (iz x89), (iz x90), (iz x91), (iz x92), (iz x93)])]) fun s94 =>
 C.str (pcall M d 19 [(iz (IntKind.wrap .i64 (1 + (IntKind.wrap .i64 (Int.tmod (IntKind.wrap .u64 a13) 3)))))]) fun s95 =>
 C.hop h83 (.mkrow E9 3 [(0, (.v (.str s81))), (1, (.v (.str s94))), (2, (.v (.str s95)))]) fun v96 h97 =>
 C.hop h97 (.bk .lenV [(.v v96)]) fun v98 h99 =>
 C.int .i64 (some v98) fun x100 =>
 C.iter (r6R1 C d a0 a1 a2 a3 a4 a5 a6 a7 a8 a9 a10 a11 a12 a13 a14 a15 v0 v2 b59 b60 b61 v62 v63 v64 v65 b66 b67 v68 v69 v70 v71 x77 x78 x79 x80 s81 x85 x86 x87 x88 x89 x90 x91 x92 x93 s94 s95 v96 x100) 1000000000000000000 ⟨[(.agg [(iz a0), (iz a1), (iz a2), (iz a3)]), (.agg [(iz a4), (iz a5), (iz a6), (iz a7), (iz a8), (iz a9), (iz a10), (iz a11), (iz a12)]), (iz (IntKind.wrap .i64 (1 + (IntKind.wrap .i64 (Int.tmod (IntKind.wrap .u64 a13) 3))))), (iz a14), (.int .u32 a15), v0, v2, tz, tz, tz, bf, tz, tz, tz, tz, tz, tz, tz, tz, tz, tz, tz, tz, tz, (.bool b59), (.bool b60), (.bool b61), v62, v63, v64, v65, (.bool b66), (.bool b67), v68, v69, v70, v71, bf, tz, (iz a13), (.int .u64 (IntKind.wrap .u64 a13)), (.int .u64 (Int.tmod (IntKind.wrap .u64 a13) 3)), (iz (IntKind.wrap .i64 (Int.tmod (IntKind.wrap .u64 a13) 3))), (iz (IntKind.wrap .i64 (1 + (IntKind.wrap .i64 (Int.tmod (IntKind.wrap .u64 a13) 3))))), (.agg [(iz x77), (iz x78), (iz x79), (iz x80)]), (.str s81), (.agg [(iz x85), (iz x86), (iz x87), (iz x88), (iz x89), (iz x90), (iz x91), (iz x92), (iz x93)]), (.str s94), (iz (IntKind.wrap .i64 (1 + (IntKind.wrap .i64 (Int.tmod (IntKind.wrap .u64 a13) 3))))), (.str s95), v96, (iz x100), (iz 0), tz, tz, tz, tz, tz, tz, tz, tz, tz, tz, tz, tz, tz, tz, tz, tz, tz, tz, tz, tz, tz, tz, tz, tz, tz, tz, tz, tz, tz, tz, tz, tz, tz, tz, tz, tz, tz, tz, tz, tz, tz, tz, tz, tz, tz, tz, tz, tz, tz, tz, tz, tz, tz, tz, tz, tz, tz, tz, tz, tz, tz, tz, tz, tz, tz, tz, tz, tz, tz, tz, tz, tz, tz, tz, tz, tz, tz, tz, tz, tz, tz, tz, tz, tz, tz, tz, tz, tz, tz, tz, tz, tz, tz, tz, tz, tz, tz, tz, tz, tz, tz, tz, tz, tz, tz, tz, tz, tz, tz, tz, tz, tz, tz, tz], h99⟩ [0] [r6X1_0 C d a0 a1 a2 a3 a4 a5 a6 a7 a8 a9 a10 a11 a12 a13 a14 a15 v0 v2 b59 b60 b61 v62 v63 v64 v65 b66 b67 v68 v69 v70 v71 x77 x78 x79 x80 s81 x85 x86 x87 x88 x89 x90 x91 x92 x93 s94 s95 v96 x100] (r6E1 C d a0 a1 a2 a3 a4 a5 a6 a7 a8 a9 a10 a11 a12 a13 a14 a15 v0 v2 b59 b60 b61 v62 v63 v64 v65 b66 b67 v68 v69 v70 v71 x77 x78 x79 x80 s81 x85 x86 x87 x88 x89 x90 x91 x92 x93 s94 s95 v96 x100)))
 (none)
def r6E0 (C : Cb) (d : Nat) (a0 a1 a2 a3 a4 a5 a6 a7 a8 a9 a10 a11 a12 a13 a14 a15 : Int) (v0 v2 : AV) : St → Ans := fun s6 =>
 cnd ((List.length s6.env) == 167)
 (C.same s6.env[0]? (.agg [(iz a0), (iz a1), (iz a2), (iz a3)]) <|
 C.same s6.env[1]? (.agg [(iz a4), (iz a5), (iz a6), (iz a7), (iz a8), (iz a9), (iz a10), (iz a11), (iz a12)]) <|
 C.same s6.env[2]? (iz a13) <|
 C.same s6.env[3]? (iz a14) <|
 C.same s6.env[4]? (.int .u32 a15) <|
 C.same s6.env[5]? v0 <|
 C.same s6.env[6]? v2 <|
 C.same s6.env[7]? tz <|
 C.same s6.env[8]? tz <|
 C.same s6.env[9]? tz <|
 C.same s6.env[10]? bf <|
 C.same s6.env[11]? tz <|
 C.same s6.env[12]? tz <|
 C.same s6.env[13]? tz <|
 C.same s6.env[14]? tz <|
 C.same s6.env[15]? tz <|
 C.same s6.env[16]? tz <|
 C.same s6.env[17]? tz <|
 C.same s6.env[18]? tz <|
 C.same s6.env[19]? tz <|
 C.same s6.env[20]? tz <|
 C.same s6.env[21]? tz <|
 C.same s6.env[22]? tz <|
 C.same s6.env[23]? tz <|
 C.any s6.env[24]? fun v1040 =>
 C.any s6.env[25]? fun v1041 =>
 C.any s6.env[26]? fun v1042 =>
 C.any s6.env[27]? fun v1043 =>
 C.any s6.env[28]? fun v1044 =>
 C.any s6.env[29]? fun v1045 =>
 C.any s6.env[30]? fun v1046 =>
 C.any s6.env[31]? fun v1047 =>
 C.any s6.env[32]? fun v1048 =>
 C.any s6.env[33]? fun v1049 =>
 C.any s6.env[34]? fun v1050 =>
 C.any s6.env[35]? fun v1051 =>
 C.any s6.env[36]? fun v1052 =>
 C.any s6.env[37]? fun v1053 =>
 C.same s6.env[38]? tz <|
 C.same s6.env[39]? tz <|
 C.same s6.env[40]? tz <|
 C.same s6.env[41]? tz <|
 C.same s6.env[42]? tz <|
 C.same s6.env[43]? tz <|
 C.same s6.env[44]? tz <|
 C.same s6.env[45]? tz <|
 C.same s6.env[46]? tz <|
 C.same s6.env[47]? tz <|
 C.same s6.env[48]? tz <|
 C.same s6.env[49]? tz <|
 C.same s6.env[50]? tz <|
 C.same s6.env[51]? tz <|
 C.same s6.env[52]? tz <|
 C.same s6.env[53]? tz <|
 C.same s6.env[54]? tz <|
 C.same s6.env[55]? tz <|
 C.same s6.env[56]? tz <|
 C.same s6.env[57]? tz <|
 C.same s6.env[58]? tz <|
 C.same s6.env[59]? tz <|
 C.same s6.env[60]? tz <|
 C.same s6.env[61]? tz <|
 C.same s6.env[62]? tz <|
 C.same s6.env[63]? tz <|
 C.same s6.env[64]? tz <|
 C.same s6.env[65]? tz <|
 C.same s6.env[66]? tz <|
 C.same s6.env[67]? tz <|
 C.same s6.env[68]? tz <|
 C.same s6.env[69]? tz <|
 C.same s6.env[70]? tz <|
 C.same s6.env[71]? tz <|
 C.same s6.env[72]? tz <|
 C.same s6.env[73]? tz <|
 C.same s6.env[74]? tz <|
 C.same s6.env[75]? tz <|
 C.same s6.env[76]? tz <|
 C.same s6.env[77]? tz <|
 C.same s6.env[78]? tz <|
 C.same s6.env[79]? tz <|
 C.same s6.env[80]? tz <|
 C.same s6.env[81]? tz <|
 C.same s6.env[82]? tz <|
 C.same s6.env[83]? tz <|
 C.same s6.env[84]? tz <|
 C.same s6.env[85]? tz <|
 C.same s6.env[86]? tz <|
 C.same s6.env[87]? tz <|
 C.same s6.env[88]? tz <|
 C.same s6.env[89]? tz <|
 C.same s6.env[90]? tz <|
 C.same s6.env[91]? tz <|
 C.same s6.env[92]? tz <|
 C.same s6.env[93]? tz <|
 C.same s6.env[94]? tz <|
 C.same s6.env[95]? tz <|
 C.same s6.env[96]? tz <|
 C.same s6.env[97]? tz <|
 C.same s6.env[98]? tz <|
 C.same s6.env[99]? tz <|
 C.same s6.env[100]? tz <|
 C.same s6.env[101]? tz <|
 C.same s6.env[102]? tz <|
 C.same s6.env[103]? tz <|
 C.same s6.env[104]? tz <|
 C.same s6.env[105]? tz <|
 C.same s6.env[106]? tz <|
 C.same s6.env[107]? tz <|
 C.same s6.env[108]? tz <|
 C.same s6.env[109]? tz <|
 C.same s6.env[110]? tz <|
 C.same s6.env[111]? tz <|
 C.same s6.env[112]? tz <|
 C.same s6.env[113]? tz <|
 C.same s6.env[114]? tz <|
 C.same s6.env[115]? tz <|
 C.same s6.env[116]? tz <|
 C.same s6.env[117]? tz <|
 C.same s6.env[118]? tz <|
 C.same s6.env[119]? tz <|
 C.same s6.env[120]? tz <|
 C.same s6.env[121]? tz <|
 C.same s6.env[122]? tz <|
 C.same s6.env[123]? tz <|
 C.same s6.env[124]? tz <|
 C.same s6.env[125]? tz <|
 C.same s6.env[126]? tz <|
 C.same s6.env[127]? tz <|
 C.same s6.env[128]? tz <|
 C.same s6.env[129]? tz <|
 C.same s6.env[130]? tz <|
 C.same s6.env[131]? tz <|
 C.same s6.env[132]? tz <|
 C.same s6.env[133]? tz <|
 C.same s6.env[134]? tz <|
 C.same s6.env[135]? tz <|
 C.same s6.env[136]? tz <|
 C.same s6.env[137]? tz <|
 C.same s6.env[138]? tz <|
 C.same s6.env[139]? tz <|
 C.same s6.env[140]? tz <|
 C.same s6.env[141]? tz <|
 C.same s6.env[142]? tz <|
 C.same s6.env[143]? tz <|
 C.same s6.env[144]? tz <|
 C.same s6.env[145]? tz <|
 C.same s6.env[146]? tz <|
 C.same s6.env[147]? tz <|
 C.same s6.env[148]? tz <|
 C.same s6.env[149]? tz <|
 C.same s6.env[150]? tz <|
 C.same s6.env[151]? tz <|
 C.same s6.env[152]? tz <|
 C.same s6.env[153]? tz <|
 C.same s6.env[154]? tz <|
 C.same s6.env[155]? tz <|
 C.same s6.env[156]? tz <|
 C.same s6.env[157]? tz <|
 C.same s6.env[158]? tz <|
 C.same s6.env[159]? tz <|
 C.same s6.env[160]? tz <|
 C.same s6.env[161]? tz <|
 C.same s6.env[162]? tz <|
 C.same s6.env[163]? tz <|
 C.same s6.env[164]? tz <|
 C.same s6.env[165]? tz <|
 C.same s6.env[166]? tz <|
 none)
 (none)
/-- apogee/apogeelaw07.PeerBits -/
theorem r6 (C : Cb) (d : Nat) (a0 a1 a2 a3 a4 a5 a6 a7 a8 a9 a10 a11 a12 a13 a14 a15 : Int) : xcall C M unr d 6 [(.agg [(iz a0), (iz a1), (iz a2), (iz a3)]), (.agg [(iz a4), (iz a5), (iz a6), (iz a7), (iz a8), (iz a9), (iz a10), (iz a11), (iz a12)]), (iz a13), (iz a14), (.int .u32 a15)] =
 C.hop [] (.box E23 (.v (.agg [(iz a0), (iz a1), (iz a2), (iz a3)]))) fun v0 h1 =>
 C.hop h1 (.box E37 (.v (.agg [(iz a4), (iz a5), (iz a6), (iz a7), (iz a8), (iz a9), (iz a10), (iz a11), (iz a12)]))) fun v2 h3 =>
 C.iter (r6R0 C d a0 a1 a2 a3 a4 a5 a6 a7 a8 a9 a10 a11 a12 a13 a14 a15 v0 v2) 1 ⟨[(.agg [(iz a0), (iz a1), (iz a2), (iz a3)]), (.agg [(iz a4), (iz a5), (iz a6), (iz a7), (iz a8), (iz a9), (iz a10), (iz a11), (iz a12)]), (iz a13), (iz a14), (.int .u32 a15), v0, v2, tz, tz, tz, bf, tz, tz, tz, tz, tz, tz, tz, tz, tz, tz, tz, tz, tz, tz, tz, tz, tz, tz, tz, tz, tz, tz, tz, tz, tz, tz, tz, tz, tz, tz, tz, tz, tz, tz, tz, tz, tz, tz, tz, tz, tz, tz, tz, tz, tz, tz, tz, tz, tz, tz, tz, tz, tz, tz, tz, tz, tz, tz, tz, tz, tz, tz, tz, tz, tz, tz, tz, tz, tz, tz, tz, tz, tz, tz, tz, tz, tz, tz, tz, tz, tz, tz, tz, tz, tz, tz, tz, tz, tz, tz, tz, tz, tz, tz, tz, tz, tz, tz, tz, tz, tz, tz, tz, tz, tz, tz, tz, tz, tz, tz, tz, tz, tz, tz, tz, tz, tz, tz, tz, tz, tz, tz, tz, tz, tz, tz, tz, tz, tz, tz, tz, tz, tz, tz, tz, tz, tz, tz, tz, tz, tz, tz, tz, tz, tz, tz, tz, tz, tz, tz, tz, tz, tz, tz, tz, tz], h3⟩ [2000000] [r6X0_0 C d a0 a1 a2 a3 a4 a5 a6 a7 a8 a9 a10 a11 a12 a13 a14 a15 v0 v2] (r6E0 C d a0 a1 a2 a3 a4 a5 a6 a7 a8 a9 a10 a11 a12 a13 a14 a15 v0 v2) := by kernel_rfl
end Go.Proofs.Ytoceckjagfhfmaa.AE
