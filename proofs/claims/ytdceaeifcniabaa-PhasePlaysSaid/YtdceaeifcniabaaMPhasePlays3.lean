/- The texts that the law PhasePlays needs, part 3. No conditions. -/
import Derived.ChangeArms
import Derived.WideShapes
import Derived.OpenShut
import Derived.Deep.Slices
import Derived.Test.YtdceaeifcniabaaMPhasePlays2
namespace Go.Proofs.Ytdceaeifcniabaa.AE
set_option linter.unusedVariables false
set_option linter.unusedSimpArgs false
set_option linter.constructorNameAsVariable false
open Go
set_option maxRecDepth 100000
set_option maxHeartbeats 0
def r36R0 (C:Cb) (d:Nat) (a0:List AV):St→(Ex→St→Ans)→Ans:=fun s0 k1 =>
 cnd ((List.length s0.env) == 47)
 (sames C s0.env 0 [(.lst a0),tz] <|
 C.bool s0.env[2]? fun b3 =>
 C.int .i64 s0.env[3]? fun x4 =>
 anys C s0.env 4 9 <|
 C.any s0.env[13]? fun v14 =>
 C.any s0.env[14]? fun v15 =>
 C.any s0.env[15]? fun v16 =>
 C.any s0.env[16]? fun v17 =>
 C.any s0.env[17]? fun v18 =>
 C.any s0.env[18]? fun v19 =>
 C.any s0.env[19]? fun v20 =>
 C.any s0.env[20]? fun v21 =>
 C.any s0.env[21]? fun v22 =>
 C.any s0.env[22]? fun v23 =>
 C.any s0.env[23]? fun v24 =>
 C.any s0.env[24]? fun v25 =>
 C.any s0.env[25]? fun v26 =>
 C.any s0.env[26]? fun v27 =>
 C.any s0.env[27]? fun v28 =>
 C.any s0.env[28]? fun v29 =>
 C.any s0.env[29]? fun v30 =>
 C.any s0.env[30]? fun v31 =>
 C.any s0.env[31]? fun v32 =>
 C.any s0.env[32]? fun v33 =>
 C.any s0.env[33]? fun v34 =>
 C.any s0.env[34]? fun v35 =>
 C.any s0.env[35]? fun v36 =>
 C.any s0.env[36]? fun v37 =>
 C.any s0.env[37]? fun v38 =>
 C.any s0.env[38]? fun v39 =>
 C.any s0.env[39]? fun v40 =>
 C.any s0.env[40]? fun v41 =>
 C.any s0.env[41]? fun v42 =>
 C.any s0.env[42]? fun v43 =>
 C.any s0.env[43]? fun v44 =>
 C.any s0.env[44]? fun v45 =>
 sames C s0.env 45 [tz,tz] <|
 C.sameH (St.H s0) [] <|
 cnd (decide (x4 < (((List.length a0):Nat):Int)))
 (cnd (decide ((((List.length a0):Nat):Int)≤8))
 (cnd (decide ((0:Int)≤x4))
 (C.agg 2 a0[(Int.toNat x4)]? fun l46 =>
 C.int .i64 l46[0]? fun x47 =>
 C.int .i64 l46[1]? fun x48 =>
 cnd (decide (x47 < (-1073741824)))
 (k1 .ret ⟨[(.lst a0),tz,bf,(iz x4),(iz x4),(.lst a0),(iz (((List.length a0):Nat):Int)),(.bool (decide (x4 < (((List.length a0):Nat):Int)))),bt,(.lst a0),(iz (((List.length a0):Nat):Int)),(.bool (decide ((((List.length a0):Nat):Int)≤8))),bt,v14,v15,(.lst a0),(iz x4),(.fptr (.agg [(iz x47),(iz x48)]) 0),(.fptr (.agg [(iz x47),(iz x48)]) 0),(iz x47),(.bool (decide (x47 < (-1073741824)))),bt,tz,tz,tz,tz,tz,tz,bt,bt,tz,tz,tz,tz,tz,tz,bt,bt,tz,tz,tz,tz,tz,tz,bt,tz,tz],[]⟩)
 (cnd (decide ((0:Int)≤x4))
 (C.agg 2 a0[(Int.toNat x4)]? fun l49 =>
 C.int .i64 l49[0]? fun x50 =>
 C.int .i64 l49[1]? fun x51 =>
 cnd (decide (x50 > 1073741824))
 (k1 .ret ⟨[(.lst a0),tz,bf,(iz x4),(iz x4),(.lst a0),(iz (((List.length a0):Nat):Int)),(.bool (decide (x4 < (((List.length a0):Nat):Int)))),bt,(.lst a0),(iz (((List.length a0):Nat):Int)),(.bool (decide ((((List.length a0):Nat):Int)≤8))),bt,v14,v15,(.lst a0),(iz x4),(.fptr (.agg [(iz x47),(iz x48)]) 0),(.fptr (.agg [(iz x47),(iz x48)]) 0),(iz x47),(.bool (decide (x47 < (-1073741824)))),bf,(.lst a0),(iz x4),(.fptr (.agg [(iz x50),(iz x51)]) 0),(.fptr (.agg [(iz x50),(iz x51)]) 0),(iz x50),(.bool (decide (x50 > 1073741824))),(.bool (decide (x50 > 1073741824))),bt,tz,tz,tz,tz,tz,tz,bt,bt,tz,tz,tz,tz,tz,tz,bt,tz,tz],[]⟩)
 (cnd (decide ((0:Int)≤x4))
 (C.agg 2 a0[(Int.toNat x4)]? fun l52 =>
 C.int .i64 l52[0]? fun x53 =>
 C.int .i64 l52[1]? fun x54 =>
 cnd (decide (x54 < (-1073741824)))
 (k1 .ret ⟨[(.lst a0),tz,bf,(iz x4),(iz x4),(.lst a0),(iz (((List.length a0):Nat):Int)),(.bool (decide (x4 < (((List.length a0):Nat):Int)))),bt,(.lst a0),(iz (((List.length a0):Nat):Int)),(.bool (decide ((((List.length a0):Nat):Int)≤8))),bt,v14,v15,(.lst a0),(iz x4),(.fptr (.agg [(iz x47),(iz x48)]) 0),(.fptr (.agg [(iz x47),(iz x48)]) 0),(iz x47),(.bool (decide (x47 < (-1073741824)))),bf,(.lst a0),(iz x4),(.fptr (.agg [(iz x50),(iz x51)]) 0),(.fptr (.agg [(iz x50),(iz x51)]) 0),(iz x50),(.bool (decide (x50 > 1073741824))),(.bool (decide (x50 > 1073741824))),bf,(.lst a0),(iz x4),(.fptr (.agg [(iz x53),(iz x54)]) 0),(.fptr (.agg [(iz x53),(iz x54)]) 1),(iz x54),(.bool (decide (x54 < (-1073741824)))),(.bool (decide (x54 < (-1073741824)))),bt,tz,tz,tz,tz,tz,tz,bt,tz,tz],[]⟩)
 (cnd (decide ((0:Int)≤x4))
 (C.agg 2 a0[(Int.toNat x4)]? fun l55 =>
 C.int .i64 l55[0]? fun x56 =>
 C.int .i64 l55[1]? fun x57 =>
 cnd (decide (x57 > 1073741824))
 (k1 .ret ⟨[(.lst a0),tz,bf,(iz x4),(iz x4),(.lst a0),(iz (((List.length a0):Nat):Int)),(.bool (decide (x4 < (((List.length a0):Nat):Int)))),bt,(.lst a0),(iz (((List.length a0):Nat):Int)),(.bool (decide ((((List.length a0):Nat):Int)≤8))),bt,v14,v15,(.lst a0),(iz x4),(.fptr (.agg [(iz x47),(iz x48)]) 0),(.fptr (.agg [(iz x47),(iz x48)]) 0),(iz x47),(.bool (decide (x47 < (-1073741824)))),bf,(.lst a0),(iz x4),(.fptr (.agg [(iz x50),(iz x51)]) 0),(.fptr (.agg [(iz x50),(iz x51)]) 0),(iz x50),(.bool (decide (x50 > 1073741824))),(.bool (decide (x50 > 1073741824))),bf,(.lst a0),(iz x4),(.fptr (.agg [(iz x53),(iz x54)]) 0),(.fptr (.agg [(iz x53),(iz x54)]) 1),(iz x54),(.bool (decide (x54 < (-1073741824)))),(.bool (decide (x54 < (-1073741824)))),bf,(.lst a0),(iz x4),(.fptr (.agg [(iz x56),(iz x57)]) 0),(.fptr (.agg [(iz x56),(iz x57)]) 1),(iz x57),(.bool (decide (x57 > 1073741824))),bt,tz,tz],[]⟩)
 (k1 .normal ⟨[(.lst a0),tz,(.bool b3),(iz (IntKind.wrap .i64 (x4+1))),(iz x4),(.lst a0),(iz (((List.length a0):Nat):Int)),(.bool (decide (x4 < (((List.length a0):Nat):Int)))),bt,(.lst a0),(iz (((List.length a0):Nat):Int)),(.bool (decide ((((List.length a0):Nat):Int)≤8))),bt,(iz x4),(iz (IntKind.wrap .i64 (x4+1))),(.lst a0),(iz x4),(.fptr (.agg [(iz x47),(iz x48)]) 0),(.fptr (.agg [(iz x47),(iz x48)]) 0),(iz x47),(.bool (decide (x47 < (-1073741824)))),bf,(.lst a0),(iz x4),(.fptr (.agg [(iz x50),(iz x51)]) 0),(.fptr (.agg [(iz x50),(iz x51)]) 0),(iz x50),(.bool (decide (x50 > 1073741824))),(.bool (decide (x50 > 1073741824))),bf,(.lst a0),(iz x4),(.fptr (.agg [(iz x53),(iz x54)]) 0),(.fptr (.agg [(iz x53),(iz x54)]) 1),(iz x54),(.bool (decide (x54 < (-1073741824)))),(.bool (decide (x54 < (-1073741824)))),bf,(.lst a0),(iz x4),(.fptr (.agg [(iz x56),(iz x57)]) 0),(.fptr (.agg [(iz x56),(iz x57)]) 1),(iz x57),(.bool (decide (x57 > 1073741824))),bf,tz,tz],[]⟩))
 (none)))
 (none)))
 (none)))
 (none))
 (k1 (.exit 0) ⟨[(.lst a0),tz,(.bool b3),(iz x4),(iz x4),(.lst a0),(iz (((List.length a0):Nat):Int)),(.bool (decide (x4 < (((List.length a0):Nat):Int)))),bt,(.lst a0),(iz (((List.length a0):Nat):Int)),(.bool (decide ((((List.length a0):Nat):Int)≤8))),bf,v14,v15,v16,v17,v18,v19,v20,v21,v22,v23,v24,v25,v26,v27,v28,v29,v30,v31,v32,v33,v34,v35,v36,v37,v38,v39,v40,v41,v42,v43,v44,v45,tz,tz],[]⟩))
 (k1 (.exit 0) ⟨[(.lst a0),tz,(.bool b3),(iz x4),(iz x4),(.lst a0),(iz (((List.length a0):Nat):Int)),(.bool (decide (x4 < (((List.length a0):Nat):Int)))),bf,tz,tz,tz,bf,v14,v15,v16,v17,v18,v19,v20,v21,v22,v23,v24,v25,v26,v27,v28,v29,v30,v31,v32,v33,v34,v35,v36,v37,v38,v39,v40,v41,v42,v43,v44,v45,tz,tz],[]⟩))
 (none)
def r36X0_0 (C:Cb) (d:Nat) (a0:List AV):St→Ans:=fun s58 =>
 cnd ((List.length s58.env) == 47)
 (sames C s58.env 0 [(.lst a0),tz] <|
 C.bool s58.env[2]? fun b59 =>
 C.int .i64 s58.env[3]? fun x60 =>
 C.int .i64 s58.env[4]? fun x61 =>
 C.any s58.env[5]? fun v62 =>
 C.int .i64 s58.env[6]? fun x63 =>
 C.bool s58.env[7]? fun b64 =>
 C.bool s58.env[8]? fun b65 =>
 anys C s58.env 9 3 <|
 C.bool s58.env[12]? fun b69 =>
 anys C s58.env 13 32 <|
 sames C s58.env 45 [tz,tz] <|
 C.sameH (St.H s58) [] <|
 C.bool (pcall M d 46 [(.lst a0)]) fun b102 =>
 some (.bool b102))
 (none)
def r36E0 (C:Cb) (d:Nat) (a0:List AV):St→Ans:=fun s2 =>
 cnd ((List.length s2.env) == 47)
 (sames C s2.env 0 [(.lst a0),tz] <|
 C.bool s2.env[2]? fun b103 =>
 C.int .i64 s2.env[3]? fun x104 =>
 C.int .i64 s2.env[4]? fun x105 =>
 C.any s2.env[5]? fun v106 =>
 C.int .i64 s2.env[6]? fun x107 =>
 C.bool s2.env[7]? fun b108 =>
 C.bool s2.env[8]? fun b109 =>
 anys C s2.env 9 3 <|
 C.bool s2.env[12]? fun b113 =>
 anys C s2.env 13 3 <|
 C.int .i64 s2.env[16]? fun x117 =>
 anys C s2.env 17 2 <|
 C.int .i64 s2.env[19]? fun x120 =>
 C.bool s2.env[20]? fun b121 =>
 C.bool s2.env[21]? fun b122 =>
 anys C s2.env 22 6 <|
 C.bool s2.env[28]? fun b129 =>
 C.bool s2.env[29]? fun b130 =>
 anys C s2.env 30 6 <|
 C.bool s2.env[36]? fun b137 =>
 C.bool s2.env[37]? fun b138 =>
 anys C s2.env 38 6 <|
 C.bool s2.env[44]? fun b145 =>
 sames C s2.env 45 [tz,tz] <|
 C.sameH (St.H s2) [] <|
 some (.bool b103))
 (none)
theorem r36 (C:Cb) (d:Nat) (a0:List AV):xcall C M unr d 36 [(.lst a0)] =
 C.iter (r36R0 C d a0) 10000000000000000000 ⟨[(.lst a0),tz,bf,(iz 0),tz,tz,tz,tz,tz,tz,tz,tz,tz,tz,tz,tz,tz,tz,tz,tz,tz,tz,tz,tz,tz,tz,tz,tz,tz,tz,tz,tz,tz,tz,tz,tz,tz,tz,tz,tz,tz,tz,tz,tz,tz,tz,tz],[]⟩ [0] [r36X0_0 C d a0] (r36E0 C d a0):=by kernel_rfl
def r46R2 (C:Cb) (d:Nat) (a0:List AV) (x2 x29 x30 x31:Int) (b32:Bool) (v33 v34 v35 v36 v37 v38 v39 v40:AV) (k42:Ex→St→Ans) (x45:Int) (v54 v55:AV):St→(Ex→St→Ans)→Ans:=fun s121 k122 =>
 cnd ((List.length s121.env) == 100)
 (sames C s121.env 0 [(.lst a0),tz] <|
 C.bool s121.env[2]? fun b124 =>
 sames C s121.env 3 [(iz x2),(iz x29),(iz x45)] <|
 C.int .i64 s121.env[6]? fun x125 =>
 C.any s121.env[7]? fun v126 =>
 C.any s121.env[8]? fun v127 =>
 C.any s121.env[9]? fun v128 =>
 C.any s121.env[10]? fun v129 =>
 sames C s121.env 11 [(.lst a0),(iz x2),(iz x2),(.bool (decide (x2 < 3))),bf,(iz x2),(.bool (decide (x2 > 8))),bf,(iz x30),(iz x31),(.bool b32),v33,v34,v35,v36,v37,v38,v39,v40,(iz x45),(iz x2),bt,v54,v55,(iz x45),(iz (IntKind.wrap .i64 (x45+1)))] <|
 anys C s121.env 37 3 <|
 C.any s121.env[40]? fun v133 =>
 C.any s121.env[41]? fun v134 =>
 C.any s121.env[42]? fun v135 =>
 C.any s121.env[43]? fun v136 =>
 C.any s121.env[44]? fun v137 =>
 C.any s121.env[45]? fun v138 =>
 C.any s121.env[46]? fun v139 =>
 C.any s121.env[47]? fun v140 =>
 C.any s121.env[48]? fun v141 =>
 C.any s121.env[49]? fun v142 =>
 C.any s121.env[50]? fun v143 =>
 C.any s121.env[51]? fun v144 =>
 C.any s121.env[52]? fun v145 =>
 C.any s121.env[53]? fun v146 =>
 C.any s121.env[54]? fun v147 =>
 C.any s121.env[55]? fun v148 =>
 C.any s121.env[56]? fun v149 =>
 C.any s121.env[57]? fun v150 =>
 C.any s121.env[58]? fun v151 =>
 C.any s121.env[59]? fun v152 =>
 C.any s121.env[60]? fun v153 =>
 C.any s121.env[61]? fun v154 =>
 C.any s121.env[62]? fun v155 =>
 C.any s121.env[63]? fun v156 =>
 C.any s121.env[64]? fun v157 =>
 C.any s121.env[65]? fun v158 =>
 C.any s121.env[66]? fun v159 =>
 C.any s121.env[67]? fun v160 =>
 C.any s121.env[68]? fun v161 =>
 C.any s121.env[69]? fun v162 =>
 C.any s121.env[70]? fun v163 =>
 C.any s121.env[71]? fun v164 =>
 C.any s121.env[72]? fun v165 =>
 C.any s121.env[73]? fun v166 =>
 C.any s121.env[74]? fun v167 =>
 C.any s121.env[75]? fun v168 =>
 C.any s121.env[76]? fun v169 =>
 C.any s121.env[77]? fun v170 =>
 C.any s121.env[78]? fun v171 =>
 C.any s121.env[79]? fun v172 =>
 C.any s121.env[80]? fun v173 =>
 C.any s121.env[81]? fun v174 =>
 C.any s121.env[82]? fun v175 =>
 C.any s121.env[83]? fun v176 =>
 C.any s121.env[84]? fun v177 =>
 C.any s121.env[85]? fun v178 =>
 C.any s121.env[86]? fun v179 =>
 C.any s121.env[87]? fun v180 =>
 C.any s121.env[88]? fun v181 =>
 C.any s121.env[89]? fun v182 =>
 C.any s121.env[90]? fun v183 =>
 C.any s121.env[91]? fun v184 =>
 C.any s121.env[92]? fun v185 =>
 C.any s121.env[93]? fun v186 =>
 C.any s121.env[94]? fun v187 =>
 C.any s121.env[95]? fun v188 =>
 C.any s121.env[96]? fun v189 =>
 C.any s121.env[97]? fun v190 =>
 C.any s121.env[98]? fun v191 =>
 C.any s121.env[99]? fun v192 =>
 cnd (decide (x125 < x2))
 (C.hop (St.H s121) (.ixAS .any 2 (.v (.lst a0)) (.v (iz x45))) fun v193 h194 =>
 C.hop h194 (.load true 2 (.v v193)) fun v195 h196 =>
 C.agg 2 (some v195) fun l197 =>
 C.int .i64 l197[0]? fun x198 =>
 C.int .i64 l197[1]? fun x199 =>
 C.snp h196 [(.lst a0),(iz x45)] fun l200 b201 =>
 C.agg 2 (pcall M d 53 l200) fun l202 =>
 C.int .i64 l202[0]? fun x203 =>
 C.int .i64 l202[1]? fun x204 =>
 cnd (b201 || true)
 (C.hop h196 (.ixAS .any 2 (.v (.lst a0)) (.v (iz x125))) fun v205 h206 =>
 C.hop h206 (.load true 2 (.v v205)) fun v207 h208 =>
 C.agg 2 (some v207) fun l209 =>
 C.int .i64 l209[0]? fun x210 =>
 C.int .i64 l209[1]? fun x211 =>
 C.snp h208 [(.lst a0),(iz x125)] fun l212 b213 =>
 C.agg 2 (pcall M d 53 l212) fun l214 =>
 C.int .i64 l214[0]? fun x215 =>
 C.int .i64 l214[1]? fun x216 =>
 cnd (b213 || true)
 (C.hop h208 (.alloc E62) fun v217 h218 =>
 C.hop h218 (.alloc E62) fun v219 h220 =>
 C.hop h220 (.alloc E62) fun v221 h222 =>
 C.hop h222 (.alloc E62) fun v223 h224 =>
 C.disj (.addr v205) (.addr v217) <|
 C.hop h224 (.store 2 (.v v217) (.v (.agg [(iz x198),(iz x199)]))) fun v225 h226 =>
 C.disj (.addr v205) (.addr v219) <|
 C.hop h226 (.store 2 (.v v219) (.v (.agg [(iz x203),(iz x204)]))) fun v227 h228 =>
 C.hop h228 (.store 2 (.v v221) (.v (.agg [(iz x210),(iz x211)]))) fun v229 h230 =>
 C.hop h230 (.store 2 (.v v223) (.v (.agg [(iz x215),(iz x216)]))) fun v231 h232 =>
 C.hop h232 (.load true 2 (.v v217)) fun v233 h234 =>
 C.agg 2 (some v233) fun l235 =>
 C.int .i64 l235[0]? fun x236 =>
 C.int .i64 l235[1]? fun x237 =>
 C.hop h234 (.load true 2 (.v v221)) fun v238 h239 =>
 C.agg 2 (some v238) fun l240 =>
 C.int .i64 l240[0]? fun x241 =>
 C.int .i64 l240[1]? fun x242 =>
 cnd (xor false ((x236 == x241) && ((x237 == x242) && true)))
 (k122 .ret ⟨[(.lst a0),tz,bf,(iz x2),(iz x29),(iz x45),(iz x125),v217,v219,v221,v223,(.lst a0),(iz x2),(iz x2),(bz (decide (x2 < 3))),bf,(iz x2),(bz (decide (x2 > 8))),bf,(iz x30),(iz x31),(bz b32),v33,v34,v35,v36,v37,v38,v39,v40,(iz x45),(iz x2),bt,v54,v55,(iz x45),(iz (IntKind.wrap .i64 (x45+1))),(iz x125),(iz x2),bt,v133,v134,(.lst a0),(iz x45),v193,(.agg [(iz x198),(iz x199)]),(.lst a0),(iz x45),(.agg [(iz x203),(iz x204)]),(.lst a0),(iz x125),v205,(.agg [(iz x210),(iz x211)]),(.lst a0),(iz x125),(.agg [(iz x215),(iz x216)]),bt,(.agg [(iz x236),(iz x237)]),(.agg [(iz x241),(iz x242)]),(bz (xor false ((x236 == x241) && ((x237 == x242) && true)))),v153,v154,v155,v156,v157,v158,v159,v160,v161,v162,v163,v164,v165,v166,v167,v168,v169,v170,v171,v172,v173,v174,v175,v176,v177,v178,v179,v180,v181,v182,v183,v184,v185,v186,v187,v188,v189,v190,v191,v192],h239⟩)
 (cnd (x125 == (IntKind.wrap .i64 (x45+1)))
 (C.hop h239 (.load true 2 (.v v223)) fun v243 h244 =>
 C.agg 2 (some v243) fun l245 =>
 C.int .i64 l245[0]? fun x246 =>
 C.int .i64 l245[1]? fun x247 =>
 C.hop h244 (.load true 2 (.v v217)) fun v248 h249 =>
 C.agg 2 (some v248) fun l250 =>
 C.int .i64 l250[0]? fun x251 =>
 C.int .i64 l250[1]? fun x252 =>
 C.hop h249 (.load true 2 (.v v219)) fun v253 h254 =>
 C.agg 2 (some v253) fun l255 =>
 C.int .i64 l255[0]? fun x256 =>
 C.int .i64 l255[1]? fun x257 =>
 C.bool (pcall M d 54 [(.agg [(iz x246),(iz x247)]),(.agg [(iz x251),(iz x252)]),(.agg [(iz x256),(iz x257)])]) fun b258 =>
 cnd b258
 (k122 .ret ⟨[(.lst a0),tz,bf,(iz x2),(iz x29),(iz x45),(iz x125),v217,v219,v221,v223,(.lst a0),(iz x2),(iz x2),(bz (decide (x2 < 3))),bf,(iz x2),(bz (decide (x2 > 8))),bf,(iz x30),(iz x31),(bz b32),v33,v34,v35,v36,v37,v38,v39,v40,(iz x45),(iz x2),bt,v54,v55,(iz x45),(iz (IntKind.wrap .i64 (x45+1))),(iz x125),(iz x2),bt,v133,v134,(.lst a0),(iz x45),v193,(.agg [(iz x198),(iz x199)]),(.lst a0),(iz x45),(.agg [(iz x203),(iz x204)]),(.lst a0),(iz x125),v205,(.agg [(iz x210),(iz x211)]),(.lst a0),(iz x125),(.agg [(iz x215),(iz x216)]),bf,(.agg [(iz x236),(iz x237)]),(.agg [(iz x241),(iz x242)]),(bz (xor false ((x236 == x241) && ((x237 == x242) && true)))),bt,(iz x125),(iz x45),(iz (IntKind.wrap .i64 (x45+1))),(bz (x125 == (IntKind.wrap .i64 (x45+1)))),(.agg [(iz x246),(iz x247)]),(.agg [(iz x251),(iz x252)]),(.agg [(iz x256),(iz x257)]),(bz b258),bt,tz,tz,tz,tz,bt,v168,v169,v170,v171,v172,v173,v174,v175,v176,v177,v178,v179,v180,v181,v182,v183,v184,v185,v186,v187,v188,v189,v190,v191,v192],h254⟩)
 (C.hop h254 (.load true 2 (.v v217)) fun v259 h260 =>
 C.agg 2 (some v259) fun l261 =>
 C.int .i64 l261[0]? fun x262 =>
 C.int .i64 l261[1]? fun x263 =>
 C.hop h260 (.load true 2 (.v v221)) fun v264 h265 =>
 C.agg 2 (some v264) fun l266 =>
 C.int .i64 l266[0]? fun x267 =>
 C.int .i64 l266[1]? fun x268 =>
 C.hop h265 (.load true 2 (.v v223)) fun v269 h270 =>
 C.agg 2 (some v269) fun l271 =>
 C.int .i64 l271[0]? fun x272 =>
 C.int .i64 l271[1]? fun x273 =>
 C.bool (pcall M d 54 [(.agg [(iz x262),(iz x263)]),(.agg [(iz x267),(iz x268)]),(.agg [(iz x272),(iz x273)])]) fun b274 =>
 cnd b274
 (k122 .ret ⟨[(.lst a0),tz,bf,(iz x2),(iz x29),(iz x45),(iz x125),v217,v219,v221,v223,(.lst a0),(iz x2),(iz x2),(bz (decide (x2 < 3))),bf,(iz x2),(bz (decide (x2 > 8))),bf,(iz x30),(iz x31),(bz b32),v33,v34,v35,v36,v37,v38,v39,v40,(iz x45),(iz x2),bt,v54,v55,(iz x45),(iz (IntKind.wrap .i64 (x45+1))),(iz x125),(iz x2),bt,v133,v134,(.lst a0),(iz x45),v193,(.agg [(iz x198),(iz x199)]),(.lst a0),(iz x45),(.agg [(iz x203),(iz x204)]),(.lst a0),(iz x125),v205,(.agg [(iz x210),(iz x211)]),(.lst a0),(iz x125),(.agg [(iz x215),(iz x216)]),bf,(.agg [(iz x236),(iz x237)]),(.agg [(iz x241),(iz x242)]),(bz (xor false ((x236 == x241) && ((x237 == x242) && true)))),bt,(iz x125),(iz x45),(iz (IntKind.wrap .i64 (x45+1))),(bz (x125 == (IntKind.wrap .i64 (x45+1)))),(.agg [(iz x246),(iz x247)]),(.agg [(iz x251),(iz x252)]),(.agg [(iz x256),(iz x257)]),(bz b258),bf,(.agg [(iz x262),(iz x263)]),(.agg [(iz x267),(iz x268)]),(.agg [(iz x272),(iz x273)]),(bz b274),bt,v168,v169,v170,v171,v172,v173,v174,v175,v176,v177,v178,v179,v180,v181,v182,v183,v184,v185,v186,v187,v188,v189,v190,v191,v192],h270⟩)
 (k122 .normal ⟨[(.lst a0),tz,(bz b124),(iz x2),(iz x29),(iz x45),(iz (IntKind.wrap .i64 (x125+1))),v217,v219,v221,v223,(.lst a0),(iz x2),(iz x2),(bz (decide (x2 < 3))),bf,(iz x2),(bz (decide (x2 > 8))),bf,(iz x30),(iz x31),(bz b32),v33,v34,v35,v36,v37,v38,v39,v40,(iz x45),(iz x2),bt,v54,v55,(iz x45),(iz (IntKind.wrap .i64 (x45+1))),(iz x125),(iz x2),bt,(iz x125),(iz (IntKind.wrap .i64 (x125+1))),(.lst a0),(iz x45),v193,(.agg [(iz x198),(iz x199)]),(.lst a0),(iz x45),(.agg [(iz x203),(iz x204)]),(.lst a0),(iz x125),v205,(.agg [(iz x210),(iz x211)]),(.lst a0),(iz x125),(.agg [(iz x215),(iz x216)]),bf,(.agg [(iz x236),(iz x237)]),(.agg [(iz x241),(iz x242)]),(bz (xor false ((x236 == x241) && ((x237 == x242) && true)))),bt,(iz x125),(iz x45),(iz (IntKind.wrap .i64 (x45+1))),(bz (x125 == (IntKind.wrap .i64 (x45+1)))),(.agg [(iz x246),(iz x247)]),(.agg [(iz x251),(iz x252)]),(.agg [(iz x256),(iz x257)]),(bz b258),bf,(.agg [(iz x262),(iz x263)]),(.agg [(iz x267),(iz x268)]),(.agg [(iz x272),(iz x273)]),(bz b274),bf,v168,v169,v170,v171,v172,v173,v174,v175,v176,v177,v178,v179,v180,v181,v182,v183,v184,v185,v186,v187,v188,v189,v190,v191,v192],h270⟩)))
 (cnd (x45 == 0)
 (cnd (x125 == (IntKind.wrap .i64 (x2 - 1)))
 (C.hop h239 (.load true 2 (.v v221)) fun v275 h276 =>
 C.agg 2 (some v275) fun l277 =>
 C.int .i64 l277[0]? fun x278 =>
 C.int .i64 l277[1]? fun x279 =>
 C.hop h276 (.load true 2 (.v v217)) fun v280 h281 =>
 C.agg 2 (some v280) fun l282 =>
 C.int .i64 l282[0]? fun x283 =>
 C.int .i64 l282[1]? fun x284 =>
 C.hop h281 (.load true 2 (.v v219)) fun v285 h286 =>
 C.agg 2 (some v285) fun l287 =>
 C.int .i64 l287[0]? fun x288 =>
 C.int .i64 l287[1]? fun x289 =>
 C.bool (pcall M d 54 [(.agg [(iz x278),(iz x279)]),(.agg [(iz x283),(iz x284)]),(.agg [(iz x288),(iz x289)])]) fun b290 =>
 cnd b290
 (k122 .ret ⟨[(.lst a0),tz,bf,(iz x2),(iz x29),(iz x45),(iz x125),v217,v219,v221,v223,(.lst a0),(iz x2),(iz x2),(bz (decide (x2 < 3))),bf,(iz x2),(bz (decide (x2 > 8))),bf,(iz x30),(iz x31),(bz b32),v33,v34,v35,v36,v37,v38,v39,v40,(iz x45),(iz x2),bt,v54,v55,(iz x45),(iz (IntKind.wrap .i64 (x45+1))),(iz x125),(iz x2),bt,v133,v134,(.lst a0),(iz x45),v193,(.agg [(iz x198),(iz x199)]),(.lst a0),(iz x45),(.agg [(iz x203),(iz x204)]),(.lst a0),(iz x125),v205,(.agg [(iz x210),(iz x211)]),(.lst a0),(iz x125),(.agg [(iz x215),(iz x216)]),bf,(.agg [(iz x236),(iz x237)]),(.agg [(iz x241),(iz x242)]),(bz (xor false ((x236 == x241) && ((x237 == x242) && true)))),bf,(iz x125),(iz x45),(iz (IntKind.wrap .i64 (x45+1))),(bz (x125 == (IntKind.wrap .i64 (x45+1)))),v158,v159,v160,v161,v162,v163,v164,v165,v166,v167,bt,(iz x45),(bz (x45 == 0)),bt,(iz x125),(iz x2),(iz (IntKind.wrap .i64 (x2 - 1))),(bz (x125 == (IntKind.wrap .i64 (x2 - 1)))),(bz (x125 == (IntKind.wrap .i64 (x2 - 1)))),(.agg [(iz x278),(iz x279)]),(.agg [(iz x283),(iz x284)]),(.agg [(iz x288),(iz x289)]),(bz b290),bt,tz,tz,tz,tz,bt,v187,v188,v189,v190,v191,v192],h286⟩)
 (C.hop h286 (.load true 2 (.v v219)) fun v291 h292 =>
 C.agg 2 (some v291) fun l293 =>
 C.int .i64 l293[0]? fun x294 =>
 C.int .i64 l293[1]? fun x295 =>
 C.hop h292 (.load true 2 (.v v221)) fun v296 h297 =>
 C.agg 2 (some v296) fun l298 =>
 C.int .i64 l298[0]? fun x299 =>
 C.int .i64 l298[1]? fun x300 =>
 C.hop h297 (.load true 2 (.v v223)) fun v301 h302 =>
 C.agg 2 (some v301) fun l303 =>
 C.int .i64 l303[0]? fun x304 =>
 C.int .i64 l303[1]? fun x305 =>
 C.bool (pcall M d 54 [(.agg [(iz x294),(iz x295)]),(.agg [(iz x299),(iz x300)]),(.agg [(iz x304),(iz x305)])]) fun b306 =>
 cnd b306
 (k122 .ret ⟨[(.lst a0),tz,bf,(iz x2),(iz x29),(iz x45),(iz x125),v217,v219,v221,v223,(.lst a0),(iz x2),(iz x2),(bz (decide (x2 < 3))),bf,(iz x2),(bz (decide (x2 > 8))),bf,(iz x30),(iz x31),(bz b32),v33,v34,v35,v36,v37,v38,v39,v40,(iz x45),(iz x2),bt,v54,v55,(iz x45),(iz (IntKind.wrap .i64 (x45+1))),(iz x125),(iz x2),bt,v133,v134,(.lst a0),(iz x45),v193,(.agg [(iz x198),(iz x199)]),(.lst a0),(iz x45),(.agg [(iz x203),(iz x204)]),(.lst a0),(iz x125),v205,(.agg [(iz x210),(iz x211)]),(.lst a0),(iz x125),(.agg [(iz x215),(iz x216)]),bf,(.agg [(iz x236),(iz x237)]),(.agg [(iz x241),(iz x242)]),(bz (xor false ((x236 == x241) && ((x237 == x242) && true)))),bf,(iz x125),(iz x45),(iz (IntKind.wrap .i64 (x45+1))),(bz (x125 == (IntKind.wrap .i64 (x45+1)))),v158,v159,v160,v161,v162,v163,v164,v165,v166,v167,bt,(iz x45),(bz (x45 == 0)),bt,(iz x125),(iz x2),(iz (IntKind.wrap .i64 (x2 - 1))),(bz (x125 == (IntKind.wrap .i64 (x2 - 1)))),(bz (x125 == (IntKind.wrap .i64 (x2 - 1)))),(.agg [(iz x278),(iz x279)]),(.agg [(iz x283),(iz x284)]),(.agg [(iz x288),(iz x289)]),(bz b290),bf,(.agg [(iz x294),(iz x295)]),(.agg [(iz x299),(iz x300)]),(.agg [(iz x304),(iz x305)]),(bz b306),bt,v187,v188,v189,v190,v191,v192],h302⟩)
 (k122 .normal ⟨[(.lst a0),tz,(bz b124),(iz x2),(iz x29),(iz x45),(iz (IntKind.wrap .i64 (x125+1))),v217,v219,v221,v223,(.lst a0),(iz x2),(iz x2),(bz (decide (x2 < 3))),bf,(iz x2),(bz (decide (x2 > 8))),bf,(iz x30),(iz x31),(bz b32),v33,v34,v35,v36,v37,v38,v39,v40,(iz x45),(iz x2),bt,v54,v55,(iz x45),(iz (IntKind.wrap .i64 (x45+1))),(iz x125),(iz x2),bt,(iz x125),(iz (IntKind.wrap .i64 (x125+1))),(.lst a0),(iz x45),v193,(.agg [(iz x198),(iz x199)]),(.lst a0),(iz x45),(.agg [(iz x203),(iz x204)]),(.lst a0),(iz x125),v205,(.agg [(iz x210),(iz x211)]),(.lst a0),(iz x125),(.agg [(iz x215),(iz x216)]),bf,(.agg [(iz x236),(iz x237)]),(.agg [(iz x241),(iz x242)]),(bz (xor false ((x236 == x241) && ((x237 == x242) && true)))),bf,(iz x125),(iz x45),(iz (IntKind.wrap .i64 (x45+1))),(bz (x125 == (IntKind.wrap .i64 (x45+1)))),v158,v159,v160,v161,v162,v163,v164,v165,v166,v167,bt,(iz x45),(bz (x45 == 0)),bt,(iz x125),(iz x2),(iz (IntKind.wrap .i64 (x2 - 1))),(bz (x125 == (IntKind.wrap .i64 (x2 - 1)))),(bz (x125 == (IntKind.wrap .i64 (x2 - 1)))),(.agg [(iz x278),(iz x279)]),(.agg [(iz x283),(iz x284)]),(.agg [(iz x288),(iz x289)]),(bz b290),bf,(.agg [(iz x294),(iz x295)]),(.agg [(iz x299),(iz x300)]),(.agg [(iz x304),(iz x305)]),(bz b306),bf,v187,v188,v189,v190,v191,v192],h302⟩)))
 (C.hop h239 (.load true 2 (.v v217)) fun v307 h308 =>
 C.agg 2 (some v307) fun l309 =>
 C.int .i64 l309[0]? fun x310 =>
 C.int .i64 l309[1]? fun x311 =>
 C.hop h308 (.load true 2 (.v v219)) fun v312 h313 =>
 C.agg 2 (some v312) fun l314 =>
 C.int .i64 l314[0]? fun x315 =>
 C.int .i64 l314[1]? fun x316 =>
 C.hop h313 (.load true 2 (.v v221)) fun v317 h318 =>
 C.agg 2 (some v317) fun l319 =>
 C.int .i64 l319[0]? fun x320 =>
 C.int .i64 l319[1]? fun x321 =>
 C.hop h318 (.load true 2 (.v v223)) fun v322 h323 =>
 C.agg 2 (some v322) fun l324 =>
 C.int .i64 l324[0]? fun x325 =>
 C.int .i64 l324[1]? fun x326 =>
 C.bool (pcall M d 55 [(.agg [(iz x310),(iz x311)]),(.agg [(iz x315),(iz x316)]),(.agg [(iz x320),(iz x321)]),(.agg [(iz x325),(iz x326)])]) fun b327 =>
 cnd b327
 (k122 .ret ⟨[(.lst a0),tz,bf,(iz x2),(iz x29),(iz x45),(iz x125),v217,v219,v221,v223,(.lst a0),(iz x2),(iz x2),(bz (decide (x2 < 3))),bf,(iz x2),(bz (decide (x2 > 8))),bf,(iz x30),(iz x31),(bz b32),v33,v34,v35,v36,v37,v38,v39,v40,(iz x45),(iz x2),bt,v54,v55,(iz x45),(iz (IntKind.wrap .i64 (x45+1))),(iz x125),(iz x2),bt,v133,v134,(.lst a0),(iz x45),v193,(.agg [(iz x198),(iz x199)]),(.lst a0),(iz x45),(.agg [(iz x203),(iz x204)]),(.lst a0),(iz x125),v205,(.agg [(iz x210),(iz x211)]),(.lst a0),(iz x125),(.agg [(iz x215),(iz x216)]),bf,(.agg [(iz x236),(iz x237)]),(.agg [(iz x241),(iz x242)]),(bz (xor false ((x236 == x241) && ((x237 == x242) && true)))),bf,(iz x125),(iz x45),(iz (IntKind.wrap .i64 (x45+1))),(bz (x125 == (IntKind.wrap .i64 (x45+1)))),v158,v159,v160,v161,v162,v163,v164,v165,v166,v167,bf,(iz x45),(bz (x45 == 0)),bt,(iz x125),(iz x2),(iz (IntKind.wrap .i64 (x2 - 1))),(bz (x125 == (IntKind.wrap .i64 (x2 - 1)))),(bz (x125 == (IntKind.wrap .i64 (x2 - 1)))),v177,v178,v179,v180,v181,v182,v183,v184,v185,v186,bt,(.agg [(iz x310),(iz x311)]),(.agg [(iz x315),(iz x316)]),(.agg [(iz x320),(iz x321)]),(.agg [(iz x325),(iz x326)]),(bz b327)],h323⟩)
 (k122 .normal ⟨[(.lst a0),tz,(bz b124),(iz x2),(iz x29),(iz x45),(iz (IntKind.wrap .i64 (x125+1))),v217,v219,v221,v223,(.lst a0),(iz x2),(iz x2),(bz (decide (x2 < 3))),bf,(iz x2),(bz (decide (x2 > 8))),bf,(iz x30),(iz x31),(bz b32),v33,v34,v35,v36,v37,v38,v39,v40,(iz x45),(iz x2),bt,v54,v55,(iz x45),(iz (IntKind.wrap .i64 (x45+1))),(iz x125),(iz x2),bt,(iz x125),(iz (IntKind.wrap .i64 (x125+1))),(.lst a0),(iz x45),v193,(.agg [(iz x198),(iz x199)]),(.lst a0),(iz x45),(.agg [(iz x203),(iz x204)]),(.lst a0),(iz x125),v205,(.agg [(iz x210),(iz x211)]),(.lst a0),(iz x125),(.agg [(iz x215),(iz x216)]),bf,(.agg [(iz x236),(iz x237)]),(.agg [(iz x241),(iz x242)]),(bz (xor false ((x236 == x241) && ((x237 == x242) && true)))),bf,(iz x125),(iz x45),(iz (IntKind.wrap .i64 (x45+1))),(bz (x125 == (IntKind.wrap .i64 (x45+1)))),v158,v159,v160,v161,v162,v163,v164,v165,v166,v167,bf,(iz x45),(bz (x45 == 0)),bt,(iz x125),(iz x2),(iz (IntKind.wrap .i64 (x2 - 1))),(bz (x125 == (IntKind.wrap .i64 (x2 - 1)))),(bz (x125 == (IntKind.wrap .i64 (x2 - 1)))),v177,v178,v179,v180,v181,v182,v183,v184,v185,v186,bf,(.agg [(iz x310),(iz x311)]),(.agg [(iz x315),(iz x316)]),(.agg [(iz x320),(iz x321)]),(.agg [(iz x325),(iz x326)]),(bz b327)],h323⟩)))
 (C.hop h239 (.load true 2 (.v v217)) fun v328 h329 =>
 C.agg 2 (some v328) fun l330 =>
 C.int .i64 l330[0]? fun x331 =>
 C.int .i64 l330[1]? fun x332 =>
 C.hop h329 (.load true 2 (.v v219)) fun v333 h334 =>
 C.agg 2 (some v333) fun l335 =>
 C.int .i64 l335[0]? fun x336 =>
 C.int .i64 l335[1]? fun x337 =>
 C.hop h334 (.load true 2 (.v v221)) fun v338 h339 =>
 C.agg 2 (some v338) fun l340 =>
 C.int .i64 l340[0]? fun x341 =>
 C.int .i64 l340[1]? fun x342 =>
 C.hop h339 (.load true 2 (.v v223)) fun v343 h344 =>
 C.agg 2 (some v343) fun l345 =>
 C.int .i64 l345[0]? fun x346 =>
 C.int .i64 l345[1]? fun x347 =>
 C.bool (pcall M d 55 [(.agg [(iz x331),(iz x332)]),(.agg [(iz x336),(iz x337)]),(.agg [(iz x341),(iz x342)]),(.agg [(iz x346),(iz x347)])]) fun b348 =>
 cnd b348
 (k122 .ret ⟨[(.lst a0),tz,bf,(iz x2),(iz x29),(iz x45),(iz x125),v217,v219,v221,v223,(.lst a0),(iz x2),(iz x2),(bz (decide (x2 < 3))),bf,(iz x2),(bz (decide (x2 > 8))),bf,(iz x30),(iz x31),(bz b32),v33,v34,v35,v36,v37,v38,v39,v40,(iz x45),(iz x2),bt,v54,v55,(iz x45),(iz (IntKind.wrap .i64 (x45+1))),(iz x125),(iz x2),bt,v133,v134,(.lst a0),(iz x45),v193,(.agg [(iz x198),(iz x199)]),(.lst a0),(iz x45),(.agg [(iz x203),(iz x204)]),(.lst a0),(iz x125),v205,(.agg [(iz x210),(iz x211)]),(.lst a0),(iz x125),(.agg [(iz x215),(iz x216)]),bf,(.agg [(iz x236),(iz x237)]),(.agg [(iz x241),(iz x242)]),(bz (xor false ((x236 == x241) && ((x237 == x242) && true)))),bf,(iz x125),(iz x45),(iz (IntKind.wrap .i64 (x45+1))),(bz (x125 == (IntKind.wrap .i64 (x45+1)))),v158,v159,v160,v161,v162,v163,v164,v165,v166,v167,bf,(iz x45),(bz (x45 == 0)),bf,tz,tz,tz,tz,bf,v177,v178,v179,v180,v181,v182,v183,v184,v185,v186,bt,(.agg [(iz x331),(iz x332)]),(.agg [(iz x336),(iz x337)]),(.agg [(iz x341),(iz x342)]),(.agg [(iz x346),(iz x347)]),(bz b348)],h344⟩)
 (k122 .normal ⟨[(.lst a0),tz,(bz b124),(iz x2),(iz x29),(iz x45),(iz (IntKind.wrap .i64 (x125+1))),v217,v219,v221,v223,(.lst a0),(iz x2),(iz x2),(bz (decide (x2 < 3))),bf,(iz x2),(bz (decide (x2 > 8))),bf,(iz x30),(iz x31),(bz b32),v33,v34,v35,v36,v37,v38,v39,v40,(iz x45),(iz x2),bt,v54,v55,(iz x45),(iz (IntKind.wrap .i64 (x45+1))),(iz x125),(iz x2),bt,(iz x125),(iz (IntKind.wrap .i64 (x125+1))),(.lst a0),(iz x45),v193,(.agg [(iz x198),(iz x199)]),(.lst a0),(iz x45),(.agg [(iz x203),(iz x204)]),(.lst a0),(iz x125),v205,(.agg [(iz x210),(iz x211)]),(.lst a0),(iz x125),(.agg [(iz x215),(iz x216)]),bf,(.agg [(iz x236),(iz x237)]),(.agg [(iz x241),(iz x242)]),(bz (xor false ((x236 == x241) && ((x237 == x242) && true)))),bf,(iz x125),(iz x45),(iz (IntKind.wrap .i64 (x45+1))),(bz (x125 == (IntKind.wrap .i64 (x45+1)))),v158,v159,v160,v161,v162,v163,v164,v165,v166,v167,bf,(iz x45),(bz (x45 == 0)),bf,tz,tz,tz,tz,bf,v177,v178,v179,v180,v181,v182,v183,v184,v185,v186,bf,(.agg [(iz x331),(iz x332)]),(.agg [(iz x336),(iz x337)]),(.agg [(iz x341),(iz x342)]),(.agg [(iz x346),(iz x347)]),(bz b348)],h344⟩)))))
 (none))
 (none))
 (k122 (.exit 4) ⟨[(.lst a0),tz,(bz b124),(iz x2),(iz x29),(iz x45),(iz x125),v126,v127,v128,v129,(.lst a0),(iz x2),(iz x2),(bz (decide (x2 < 3))),bf,(iz x2),(bz (decide (x2 > 8))),bf,(iz x30),(iz x31),(bz b32),v33,v34,v35,v36,v37,v38,v39,v40,(iz x45),(iz x2),bt,v54,v55,(iz x45),(iz (IntKind.wrap .i64 (x45+1))),(iz x125),(iz x2),bf,v133,v134,v135,v136,v137,v138,v139,v140,v141,v142,v143,v144,v145,v146,v147,v148,v149,v150,v151,v152,v153,v154,v155,v156,v157,v158,v159,v160,v161,v162,v163,v164,v165,v166,v167,v168,v169,v170,v171,v172,v173,v174,v175,v176,v177,v178,v179,v180,v181,v182,v183,v184,v185,v186,v187,v188,v189,v190,v191,v192],(St.H s121)⟩))
 (none)
def r46X2_0 (C:Cb) (d:Nat) (a0:List AV) (x2 x29 x30 x31:Int) (b32:Bool) (v33 v34 v35 v36 v37 v38 v39 v40:AV) (k42:Ex→St→Ans) (x45:Int) (v54 v55:AV):St→Ans:=fun s349 =>
 cnd ((List.length s349.env) == 100)
 (sames C s349.env 0 [(.lst a0),tz] <|
 C.bool s349.env[2]? fun b350 =>
 sames C s349.env 3 [(iz x2),(iz x29),(iz x45)] <|
 C.int .i64 s349.env[6]? fun x351 =>
 C.any s349.env[7]? fun v352 =>
 C.any s349.env[8]? fun v353 =>
 C.any s349.env[9]? fun v354 =>
 C.any s349.env[10]? fun v355 =>
 sames C s349.env 11 [(.lst a0),(iz x2),(iz x2),(.bool (decide (x2 < 3))),bf,(iz x2),(.bool (decide (x2 > 8))),bf,(iz x30),(iz x31),(.bool b32),v33,v34,v35,v36,v37,v38,v39,v40,(iz x45),(iz x2),bt,v54,v55,(iz x45),(iz (IntKind.wrap .i64 (x45+1)))] <|
 C.int .i64 s349.env[37]? fun x356 =>
 C.int .i64 s349.env[38]? fun x357 =>
 C.bool s349.env[39]? fun b358 =>
 C.any s349.env[40]? fun v359 =>
 C.any s349.env[41]? fun v360 =>
 C.any s349.env[42]? fun v361 =>
 C.any s349.env[43]? fun v362 =>
 C.any s349.env[44]? fun v363 =>
 C.any s349.env[45]? fun v364 =>
 C.any s349.env[46]? fun v365 =>
 C.any s349.env[47]? fun v366 =>
 C.any s349.env[48]? fun v367 =>
 C.any s349.env[49]? fun v368 =>
 C.any s349.env[50]? fun v369 =>
 C.any s349.env[51]? fun v370 =>
 C.any s349.env[52]? fun v371 =>
 C.any s349.env[53]? fun v372 =>
 C.any s349.env[54]? fun v373 =>
 C.any s349.env[55]? fun v374 =>
 C.any s349.env[56]? fun v375 =>
 C.any s349.env[57]? fun v376 =>
 C.any s349.env[58]? fun v377 =>
 C.any s349.env[59]? fun v378 =>
 C.any s349.env[60]? fun v379 =>
 C.any s349.env[61]? fun v380 =>
 C.any s349.env[62]? fun v381 =>
 C.any s349.env[63]? fun v382 =>
 C.any s349.env[64]? fun v383 =>
 C.any s349.env[65]? fun v384 =>
 C.any s349.env[66]? fun v385 =>
 C.any s349.env[67]? fun v386 =>
 C.any s349.env[68]? fun v387 =>
 C.any s349.env[69]? fun v388 =>
 C.any s349.env[70]? fun v389 =>
 C.any s349.env[71]? fun v390 =>
 C.any s349.env[72]? fun v391 =>
 C.any s349.env[73]? fun v392 =>
 C.any s349.env[74]? fun v393 =>
 C.any s349.env[75]? fun v394 =>
 C.any s349.env[76]? fun v395 =>
 C.any s349.env[77]? fun v396 =>
 C.any s349.env[78]? fun v397 =>
 C.any s349.env[79]? fun v398 =>
 C.any s349.env[80]? fun v399 =>
 C.any s349.env[81]? fun v400 =>
 C.any s349.env[82]? fun v401 =>
 C.any s349.env[83]? fun v402 =>
 C.any s349.env[84]? fun v403 =>
 C.any s349.env[85]? fun v404 =>
 C.any s349.env[86]? fun v405 =>
 C.any s349.env[87]? fun v406 =>
 C.any s349.env[88]? fun v407 =>
 C.any s349.env[89]? fun v408 =>
 C.any s349.env[90]? fun v409 =>
 C.any s349.env[91]? fun v410 =>
 C.any s349.env[92]? fun v411 =>
 C.any s349.env[93]? fun v412 =>
 C.any s349.env[94]? fun v413 =>
 C.any s349.env[95]? fun v414 =>
 C.any s349.env[96]? fun v415 =>
 C.any s349.env[97]? fun v416 =>
 C.any s349.env[98]? fun v417 =>
 C.any s349.env[99]? fun v418 =>
 k42 .normal ⟨[(.lst a0),tz,(bz b350),(iz x2),(iz x29),(iz (IntKind.wrap .i64 (x45+1))),(iz x351),v352,v353,v354,v355,(.lst a0),(iz x2),(iz x2),(bz (decide (x2 < 3))),bf,(iz x2),(bz (decide (x2 > 8))),bf,(iz x30),(iz x31),(bz b32),v33,v34,v35,v36,v37,v38,v39,v40,(iz x45),(iz x2),bt,(iz x45),(iz (IntKind.wrap .i64 (x45+1))),(iz x45),(iz (IntKind.wrap .i64 (x45+1))),(iz x356),(iz x357),(bz b358),v359,v360,v361,v362,v363,v364,v365,v366,v367,v368,v369,v370,v371,v372,v373,v374,v375,v376,v377,v378,v379,v380,v381,v382,v383,v384,v385,v386,v387,v388,v389,v390,v391,v392,v393,v394,v395,v396,v397,v398,v399,v400,v401,v402,v403,v404,v405,v406,v407,v408,v409,v410,v411,v412,v413,v414,v415,v416,v417,v418],(St.H s349)⟩)
 (none)
def r46E2 (C:Cb) (d:Nat) (a0:List AV) (x2 x29 x30 x31:Int) (b32:Bool) (v33 v34 v35 v36 v37 v38 v39 v40:AV) (k42:Ex→St→Ans) (x45:Int) (v54 v55:AV):St→Ans:=fun s123 =>
 cnd ((List.length s123.env) == 100)
 (sames C s123.env 0 [(.lst a0),tz] <|
 C.bool s123.env[2]? fun b419 =>
 sames C s123.env 3 [(iz x2),(iz x29),(iz x45)] <|
 C.int .i64 s123.env[6]? fun x420 =>
 C.any s123.env[7]? fun v421 =>
 C.any s123.env[8]? fun v422 =>
 C.any s123.env[9]? fun v423 =>
 C.any s123.env[10]? fun v424 =>
 sames C s123.env 11 [(.lst a0),(iz x2),(iz x2),(.bool (decide (x2 < 3))),bf,(iz x2),(.bool (decide (x2 > 8))),bf,(iz x30),(iz x31),(.bool b32),v33,v34,v35,v36,v37,v38,v39,v40,(iz x45),(iz x2),bt,v54,v55,(iz x45),(iz (IntKind.wrap .i64 (x45+1)))] <|
 C.int .i64 s123.env[37]? fun x425 =>
 C.int .i64 s123.env[38]? fun x426 =>
 C.bool s123.env[39]? fun b427 =>
 C.any s123.env[40]? fun v428 =>
 C.any s123.env[41]? fun v429 =>
 C.any s123.env[42]? fun v430 =>
 C.int .i64 s123.env[43]? fun x431 =>
 C.any s123.env[44]? fun v432 =>
 C.agg 2 s123.env[45]? fun l433 =>
 C.int .i64 l433[0]? fun x434 =>
 C.int .i64 l433[1]? fun x435 =>
 C.any s123.env[46]? fun v436 =>
 C.int .i64 s123.env[47]? fun x437 =>
 C.agg 2 s123.env[48]? fun l438 =>
 C.int .i64 l438[0]? fun x439 =>
 C.int .i64 l438[1]? fun x440 =>
 C.any s123.env[49]? fun v441 =>
 C.int .i64 s123.env[50]? fun x442 =>
 C.any s123.env[51]? fun v443 =>
 C.agg 2 s123.env[52]? fun l444 =>
 C.int .i64 l444[0]? fun x445 =>
 C.int .i64 l444[1]? fun x446 =>
 C.any s123.env[53]? fun v447 =>
 C.int .i64 s123.env[54]? fun x448 =>
 C.agg 2 s123.env[55]? fun l449 =>
 C.int .i64 l449[0]? fun x450 =>
 C.int .i64 l449[1]? fun x451 =>
 C.bool s123.env[56]? fun b452 =>
 C.agg 2 s123.env[57]? fun l453 =>
 C.int .i64 l453[0]? fun x454 =>
 C.int .i64 l453[1]? fun x455 =>
 C.agg 2 s123.env[58]? fun l456 =>
 C.int .i64 l456[0]? fun x457 =>
 C.int .i64 l456[1]? fun x458 =>
 C.bool s123.env[59]? fun b459 =>
 C.any s123.env[60]? fun v460 =>
 C.any s123.env[61]? fun v461 =>
 C.any s123.env[62]? fun v462 =>
 C.any s123.env[63]? fun v463 =>
 C.any s123.env[64]? fun v464 =>
 C.any s123.env[65]? fun v465 =>
 C.any s123.env[66]? fun v466 =>
 C.any s123.env[67]? fun v467 =>
 C.any s123.env[68]? fun v468 =>
 C.any s123.env[69]? fun v469 =>
 C.any s123.env[70]? fun v470 =>
 C.any s123.env[71]? fun v471 =>
 C.any s123.env[72]? fun v472 =>
 C.any s123.env[73]? fun v473 =>
 C.any s123.env[74]? fun v474 =>
 C.any s123.env[75]? fun v475 =>
 C.any s123.env[76]? fun v476 =>
 C.any s123.env[77]? fun v477 =>
 C.any s123.env[78]? fun v478 =>
 C.any s123.env[79]? fun v479 =>
 C.any s123.env[80]? fun v480 =>
 C.any s123.env[81]? fun v481 =>
 C.any s123.env[82]? fun v482 =>
 C.any s123.env[83]? fun v483 =>
 C.any s123.env[84]? fun v484 =>
 C.any s123.env[85]? fun v485 =>
 C.any s123.env[86]? fun v486 =>
 C.any s123.env[87]? fun v487 =>
 C.any s123.env[88]? fun v488 =>
 C.any s123.env[89]? fun v489 =>
 C.any s123.env[90]? fun v490 =>
 C.any s123.env[91]? fun v491 =>
 C.any s123.env[92]? fun v492 =>
 C.any s123.env[93]? fun v493 =>
 C.any s123.env[94]? fun v494 =>
 C.any s123.env[95]? fun v495 =>
 C.any s123.env[96]? fun v496 =>
 C.any s123.env[97]? fun v497 =>
 C.any s123.env[98]? fun v498 =>
 C.any s123.env[99]? fun v499 =>
 k42 .ret ⟨[(.lst a0),tz,(bz b419),(iz x2),(iz x29),(iz x45),(iz x420),v421,v422,v423,v424,(.lst a0),(iz x2),(iz x2),(bz (decide (x2 < 3))),bf,(iz x2),(bz (decide (x2 > 8))),bf,(iz x30),(iz x31),(bz b32),v33,v34,v35,v36,v37,v38,v39,v40,(iz x45),(iz x2),bt,v54,v55,(iz x45),(iz (IntKind.wrap .i64 (x45+1))),(iz x425),(iz x426),(bz b427),v428,v429,v430,(iz x431),v432,(.agg [(iz x434),(iz x435)]),v436,(iz x437),(.agg [(iz x439),(iz x440)]),v441,(iz x442),v443,(.agg [(iz x445),(iz x446)]),v447,(iz x448),(.agg [(iz x450),(iz x451)]),(bz b452),(.agg [(iz x454),(iz x455)]),(.agg [(iz x457),(iz x458)]),(bz b459),v460,v461,v462,v463,v464,v465,v466,v467,v468,v469,v470,v471,v472,v473,v474,v475,v476,v477,v478,v479,v480,v481,v482,v483,v484,v485,v486,v487,v488,v489,v490,v491,v492,v493,v494,v495,v496,v497,v498,v499],(St.H s123)⟩)
 (none)
def r46R1 (C:Cb) (d:Nat) (a0:List AV) (x2 x29 x30 x31:Int) (b32:Bool) (v33 v34 v35 v36 v37 v38 v39 v40:AV):St→(Ex→St→Ans)→Ans:=fun s41 k42 =>
 cnd ((List.length s41.env) == 100)
 (sames C s41.env 0 [(.lst a0),tz] <|
 C.bool s41.env[2]? fun b44 =>
 sames C s41.env 3 [(iz x2),(iz x29)] <|
 C.int .i64 s41.env[5]? fun x45 =>
 C.any s41.env[6]? fun v46 =>
 C.any s41.env[7]? fun v47 =>
 C.any s41.env[8]? fun v48 =>
 C.any s41.env[9]? fun v49 =>
 C.any s41.env[10]? fun v50 =>
 sames C s41.env 11 [(.lst a0),(iz x2),(iz x2),(.bool (decide (x2 < 3))),bf,(iz x2),(.bool (decide (x2 > 8))),bf,(iz x30),(iz x31),(.bool b32),v33,v34,v35,v36,v37,v38,v39,v40] <|
 anys C s41.env 30 3 <|
 C.any s41.env[33]? fun v54 =>
 C.any s41.env[34]? fun v55 =>
 C.any s41.env[35]? fun v56 =>
 C.any s41.env[36]? fun v57 =>
 C.any s41.env[37]? fun v58 =>
 C.any s41.env[38]? fun v59 =>
 C.any s41.env[39]? fun v60 =>
 C.any s41.env[40]? fun v61 =>
 C.any s41.env[41]? fun v62 =>
 C.any s41.env[42]? fun v63 =>
 C.any s41.env[43]? fun v64 =>
 C.any s41.env[44]? fun v65 =>
 C.any s41.env[45]? fun v66 =>
 C.any s41.env[46]? fun v67 =>
 C.any s41.env[47]? fun v68 =>
 C.any s41.env[48]? fun v69 =>
 C.any s41.env[49]? fun v70 =>
 C.any s41.env[50]? fun v71 =>
 C.any s41.env[51]? fun v72 =>
 C.any s41.env[52]? fun v73 =>
 C.any s41.env[53]? fun v74 =>
 C.any s41.env[54]? fun v75 =>
 C.any s41.env[55]? fun v76 =>
 C.any s41.env[56]? fun v77 =>
 C.any s41.env[57]? fun v78 =>
 C.any s41.env[58]? fun v79 =>
 C.any s41.env[59]? fun v80 =>
 C.any s41.env[60]? fun v81 =>
 C.any s41.env[61]? fun v82 =>
 C.any s41.env[62]? fun v83 =>
 C.any s41.env[63]? fun v84 =>
 C.any s41.env[64]? fun v85 =>
 C.any s41.env[65]? fun v86 =>
 C.any s41.env[66]? fun v87 =>
 C.any s41.env[67]? fun v88 =>
 C.any s41.env[68]? fun v89 =>
 C.any s41.env[69]? fun v90 =>
 C.any s41.env[70]? fun v91 =>
 C.any s41.env[71]? fun v92 =>
 C.any s41.env[72]? fun v93 =>
 C.any s41.env[73]? fun v94 =>
 C.any s41.env[74]? fun v95 =>
 C.any s41.env[75]? fun v96 =>
 C.any s41.env[76]? fun v97 =>
 C.any s41.env[77]? fun v98 =>
 C.any s41.env[78]? fun v99 =>
 C.any s41.env[79]? fun v100 =>
 C.any s41.env[80]? fun v101 =>
 C.any s41.env[81]? fun v102 =>
 C.any s41.env[82]? fun v103 =>
 C.any s41.env[83]? fun v104 =>
 C.any s41.env[84]? fun v105 =>
 C.any s41.env[85]? fun v106 =>
 C.any s41.env[86]? fun v107 =>
 C.any s41.env[87]? fun v108 =>
 C.any s41.env[88]? fun v109 =>
 C.any s41.env[89]? fun v110 =>
 C.any s41.env[90]? fun v111 =>
 C.any s41.env[91]? fun v112 =>
 C.any s41.env[92]? fun v113 =>
 C.any s41.env[93]? fun v114 =>
 C.any s41.env[94]? fun v115 =>
 C.any s41.env[95]? fun v116 =>
 C.any s41.env[96]? fun v117 =>
 C.any s41.env[97]? fun v118 =>
 C.any s41.env[98]? fun v119 =>
 C.any s41.env[99]? fun v120 =>
 cnd (decide (x45 < x2))
 (C.iter (r46R2 C d a0 x2 x29 x30 x31 b32 v33 v34 v35 v36 v37 v38 v39 v40 k42 x45 v54 v55) 10000000000000000000 ⟨[(.lst a0),tz,(bz b44),(iz x2),(iz x29),(iz x45),(iz (IntKind.wrap .i64 (x45+1))),v47,v48,v49,v50,(.lst a0),(iz x2),(iz x2),(bz (decide (x2 < 3))),bf,(iz x2),(bz (decide (x2 > 8))),bf,(iz x30),(iz x31),(bz b32),v33,v34,v35,v36,v37,v38,v39,v40,(iz x45),(iz x2),bt,v54,v55,(iz x45),(iz (IntKind.wrap .i64 (x45+1))),v58,v59,v60,v61,v62,v63,v64,v65,v66,v67,v68,v69,v70,v71,v72,v73,v74,v75,v76,v77,v78,v79,v80,v81,v82,v83,v84,v85,v86,v87,v88,v89,v90,v91,v92,v93,v94,v95,v96,v97,v98,v99,v100,v101,v102,v103,v104,v105,v106,v107,v108,v109,v110,v111,v112,v113,v114,v115,v116,v117,v118,v119,v120],(St.H s41)⟩ [4] [r46X2_0 C d a0 x2 x29 x30 x31 b32 v33 v34 v35 v36 v37 v38 v39 v40 k42 x45 v54 v55] (r46E2 C d a0 x2 x29 x30 x31 b32 v33 v34 v35 v36 v37 v38 v39 v40 k42 x45 v54 v55))
 (k42 (.exit 2) ⟨[(.lst a0),tz,(bz b44),(iz x2),(iz x29),(iz x45),v46,v47,v48,v49,v50,(.lst a0),(iz x2),(iz x2),(bz (decide (x2 < 3))),bf,(iz x2),(bz (decide (x2 > 8))),bf,(iz x30),(iz x31),(bz b32),v33,v34,v35,v36,v37,v38,v39,v40,(iz x45),(iz x2),bf,v54,v55,v56,v57,v58,v59,v60,v61,v62,v63,v64,v65,v66,v67,v68,v69,v70,v71,v72,v73,v74,v75,v76,v77,v78,v79,v80,v81,v82,v83,v84,v85,v86,v87,v88,v89,v90,v91,v92,v93,v94,v95,v96,v97,v98,v99,v100,v101,v102,v103,v104,v105,v106,v107,v108,v109,v110,v111,v112,v113,v114,v115,v116,v117,v118,v119,v120],(St.H s41)⟩))
 (none)
def r46X1_0 (C:Cb) (d:Nat) (a0:List AV) (x2 x29 x30 x31:Int) (b32:Bool) (v33 v34 v35 v36 v37 v38 v39 v40:AV):St→Ans:=fun s500 =>
 cnd ((List.length s500.env) == 100)
 (sames C s500.env 0 [(.lst a0),tz] <|
 C.bool s500.env[2]? fun b501 =>
 sames C s500.env 3 [(iz x2),(iz x29)] <|
 C.int .i64 s500.env[5]? fun x502 =>
 anys C s500.env 6 5 <|
 sames C s500.env 11 [(.lst a0),(iz x2),(iz x2),(.bool (decide (x2 < 3))),bf,(iz x2),(.bool (decide (x2 > 8))),bf,(iz x30),(iz x31),(.bool b32),v33,v34,v35,v36,v37,v38,v39,v40] <|
 C.int .i64 s500.env[30]? fun x508 =>
 C.int .i64 s500.env[31]? fun x509 =>
 C.bool s500.env[32]? fun b510 =>
 anys C s500.env 33 67 <|
 C.fin (St.H s500) bt)
 (none)
def r46E1 (C:Cb) (d:Nat) (a0:List AV) (x2 x29 x30 x31:Int) (b32:Bool) (v33 v34 v35 v36 v37 v38 v39 v40:AV):St→Ans:=fun s43 =>
 cnd ((List.length s43.env) == 100)
 (sames C s43.env 0 [(.lst a0),tz] <|
 C.bool s43.env[2]? fun b578 =>
 sames C s43.env 3 [(iz x2),(iz x29)] <|
 C.int .i64 s43.env[5]? fun x579 =>
 C.int .i64 s43.env[6]? fun x580 =>
 anys C s43.env 7 4 <|
 sames C s43.env 11 [(.lst a0),(iz x2),(iz x2),(.bool (decide (x2 < 3))),bf,(iz x2),(.bool (decide (x2 > 8))),bf,(iz x30),(iz x31),(.bool b32),v33,v34,v35,v36,v37,v38,v39,v40] <|
 C.int .i64 s43.env[30]? fun x585 =>
 C.int .i64 s43.env[31]? fun x586 =>
 C.bool s43.env[32]? fun b587 =>
 anys C s43.env 33 2 <|
 C.int .i64 s43.env[35]? fun x590 =>
 C.int .i64 s43.env[36]? fun x591 =>
 C.int .i64 s43.env[37]? fun x592 =>
 C.int .i64 s43.env[38]? fun x593 =>
 C.bool s43.env[39]? fun b594 =>
 anys C s43.env 40 3 <|
 C.int .i64 s43.env[43]? fun x598 =>
 C.any s43.env[44]? fun v599 =>
 C.agg 2 s43.env[45]? fun l600 =>
 C.int .i64 l600[0]? fun x601 =>
 C.int .i64 l600[1]? fun x602 =>
 C.any s43.env[46]? fun v603 =>
 C.int .i64 s43.env[47]? fun x604 =>
 C.agg 2 s43.env[48]? fun l605 =>
 C.int .i64 l605[0]? fun x606 =>
 C.int .i64 l605[1]? fun x607 =>
 C.any s43.env[49]? fun v608 =>
 C.int .i64 s43.env[50]? fun x609 =>
 C.any s43.env[51]? fun v610 =>
 C.agg 2 s43.env[52]? fun l611 =>
 C.int .i64 l611[0]? fun x612 =>
 C.int .i64 l611[1]? fun x613 =>
 C.any s43.env[53]? fun v614 =>
 C.int .i64 s43.env[54]? fun x615 =>
 C.agg 2 s43.env[55]? fun l616 =>
 C.int .i64 l616[0]? fun x617 =>
 C.int .i64 l616[1]? fun x618 =>
 C.bool s43.env[56]? fun b619 =>
 C.agg 2 s43.env[57]? fun l620 =>
 C.int .i64 l620[0]? fun x621 =>
 C.int .i64 l620[1]? fun x622 =>
 C.agg 2 s43.env[58]? fun l623 =>
 C.int .i64 l623[0]? fun x624 =>
 C.int .i64 l623[1]? fun x625 =>
 C.bool s43.env[59]? fun b626 =>
 anys C s43.env 60 40 <|
 C.fin (St.H s43) (.bool b578))
 (none)
def r46R0 (C:Cb) (d:Nat) (a0:List AV) (x2:Int):St→(Ex→St→Ans)→Ans:=fun s3 k4 =>
 cnd ((List.length s3.env) == 100)
 (sames C s3.env 0 [(.lst a0),tz] <|
 C.bool s3.env[2]? fun b6 =>
 C.same s3.env[3]? (iz x2) <|
 C.int .i64 s3.env[4]? fun x7 =>
 sames C s3.env 5 [tz,tz,tz,tz,tz,tz,(.lst a0),(iz x2),(iz x2),(.bool (decide (x2 < 3))),bf,(iz x2),(.bool (decide (x2 > 8))),bf] <|
 anys C s3.env 19 3 <|
 C.any s3.env[22]? fun v11 =>
 C.any s3.env[23]? fun v12 =>
 C.any s3.env[24]? fun v13 =>
 C.any s3.env[25]? fun v14 =>
 C.any s3.env[26]? fun v15 =>
 C.any s3.env[27]? fun v16 =>
 C.any s3.env[28]? fun v17 =>
 C.any s3.env[29]? fun v18 =>
 sames C s3.env 30 [tz,tz,tz,tz,tz,tz,tz,tz,tz,tz,tz,tz,tz,tz,tz,tz,tz,tz,tz,tz,tz,tz,tz,tz,tz,tz,tz,tz,tz,tz,tz,tz,tz,tz,tz,tz,tz,tz,tz,tz,tz,tz,tz,tz,tz,tz,tz,tz,tz,tz,tz,tz,tz,tz,tz,tz,tz,tz,tz,tz,tz,tz,tz,tz,tz,tz,tz,tz,tz,tz] <|
 cnd (decide (x7 < x2))
 (C.hop (St.H s3) (.ixAS .any 2 (.v (.lst a0)) (.v (iz x7))) fun v19 h20 =>
 C.hop h20 (.load true 2 (.v v19)) fun v21 h22 =>
 C.agg 2 (some v21) fun l23 =>
 C.int .i64 l23[0]? fun x24 =>
 C.int .i64 l23[1]? fun x25 =>
 C.bool (pcall M d 52 [(.agg [(iz x24),(iz x25)])]) fun b26 =>
 cnd (!b26)
 (k4 .ret ⟨[(.lst a0),tz,bf,(iz x2),(iz x7),tz,tz,tz,tz,tz,tz,(.lst a0),(iz x2),(iz x2),(bz (decide (x2 < 3))),bf,(iz x2),(bz (decide (x2 > 8))),bf,(iz x7),(iz x2),bt,v11,v12,(.lst a0),(iz x7),v19,(.agg [(iz x24),(iz x25)]),(bz b26),bt,tz,tz,tz,tz,tz,tz,tz,tz,tz,tz,tz,tz,tz,tz,tz,tz,tz,tz,tz,tz,tz,tz,tz,tz,tz,tz,tz,tz,tz,tz,tz,tz,tz,tz,tz,tz,tz,tz,tz,tz,tz,tz,tz,tz,tz,tz,tz,tz,tz,tz,tz,tz,tz,tz,tz,tz,tz,tz,tz,tz,tz,tz,tz,tz,tz,tz,tz,tz,tz,tz],h22⟩)
 (k4 .normal ⟨[(.lst a0),tz,(bz b6),(iz x2),(iz (IntKind.wrap .i64 (x7+1))),tz,tz,tz,tz,tz,tz,(.lst a0),(iz x2),(iz x2),(bz (decide (x2 < 3))),bf,(iz x2),(bz (decide (x2 > 8))),bf,(iz x7),(iz x2),bt,(iz x7),(iz (IntKind.wrap .i64 (x7+1))),(.lst a0),(iz x7),v19,(.agg [(iz x24),(iz x25)]),(bz b26),bf,tz,tz,tz,tz,tz,tz,tz,tz,tz,tz,tz,tz,tz,tz,tz,tz,tz,tz,tz,tz,tz,tz,tz,tz,tz,tz,tz,tz,tz,tz,tz,tz,tz,tz,tz,tz,tz,tz,tz,tz,tz,tz,tz,tz,tz,tz,tz,tz,tz,tz,tz,tz,tz,tz,tz,tz,tz,tz,tz,tz,tz,tz,tz,tz,tz,tz,tz,tz,tz,tz],h22⟩))
 (k4 (.exit 0) ⟨[(.lst a0),tz,(bz b6),(iz x2),(iz x7),tz,tz,tz,tz,tz,tz,(.lst a0),(iz x2),(iz x2),(bz (decide (x2 < 3))),bf,(iz x2),(bz (decide (x2 > 8))),bf,(iz x7),(iz x2),bf,v11,v12,v13,v14,v15,v16,v17,v18,tz,tz,tz,tz,tz,tz,tz,tz,tz,tz,tz,tz,tz,tz,tz,tz,tz,tz,tz,tz,tz,tz,tz,tz,tz,tz,tz,tz,tz,tz,tz,tz,tz,tz,tz,tz,tz,tz,tz,tz,tz,tz,tz,tz,tz,tz,tz,tz,tz,tz,tz,tz,tz,tz,tz,tz,tz,tz,tz,tz,tz,tz,tz,tz,tz,tz,tz,tz,tz,tz],(St.H s3)⟩))
 (none)
def r46X0_0 (C:Cb) (d:Nat) (a0:List AV) (x2:Int):St→Ans:=fun s27 =>
 cnd ((List.length s27.env) == 100)
 (sames C s27.env 0 [(.lst a0),tz] <|
 C.bool s27.env[2]? fun b28 =>
 C.same s27.env[3]? (iz x2) <|
 C.int .i64 s27.env[4]? fun x29 =>
 sames C s27.env 5 [tz,tz,tz,tz,tz,tz,(.lst a0),(iz x2),(iz x2),(.bool (decide (x2 < 3))),bf,(iz x2),(.bool (decide (x2 > 8))),bf] <|
 C.int .i64 s27.env[19]? fun x30 =>
 C.int .i64 s27.env[20]? fun x31 =>
 C.bool s27.env[21]? fun b32 =>
 C.any s27.env[22]? fun v33 =>
 C.any s27.env[23]? fun v34 =>
 C.any s27.env[24]? fun v35 =>
 C.any s27.env[25]? fun v36 =>
 C.any s27.env[26]? fun v37 =>
 C.any s27.env[27]? fun v38 =>
 C.any s27.env[28]? fun v39 =>
 C.any s27.env[29]? fun v40 =>
 sames C s27.env 30 [tz,tz,tz,tz,tz,tz,tz,tz,tz,tz,tz,tz,tz,tz,tz,tz,tz,tz,tz,tz,tz,tz,tz,tz,tz,tz,tz,tz,tz,tz,tz,tz,tz,tz,tz,tz,tz,tz,tz,tz,tz,tz,tz,tz,tz,tz,tz,tz,tz,tz,tz,tz,tz,tz,tz,tz,tz,tz,tz,tz,tz,tz,tz,tz,tz,tz,tz,tz,tz,tz] <|
 C.iter (r46R1 C d a0 x2 x29 x30 x31 b32 v33 v34 v35 v36 v37 v38 v39 v40) 10000000000000000000 ⟨[(.lst a0),tz,(bz b28),(iz x2),(iz x29),(iz 0),tz,tz,tz,tz,tz,(.lst a0),(iz x2),(iz x2),(bz (decide (x2 < 3))),bf,(iz x2),(bz (decide (x2 > 8))),bf,(iz x30),(iz x31),(bz b32),v33,v34,v35,v36,v37,v38,v39,v40,tz,tz,tz,tz,tz,tz,tz,tz,tz,tz,tz,tz,tz,tz,tz,tz,tz,tz,tz,tz,tz,tz,tz,tz,tz,tz,tz,tz,tz,tz,tz,tz,tz,tz,tz,tz,tz,tz,tz,tz,tz,tz,tz,tz,tz,tz,tz,tz,tz,tz,tz,tz,tz,tz,tz,tz,tz,tz,tz,tz,tz,tz,tz,tz,tz,tz,tz,tz,tz,tz],(St.H s27)⟩ [2] [r46X1_0 C d a0 x2 x29 x30 x31 b32 v33 v34 v35 v36 v37 v38 v39 v40] (r46E1 C d a0 x2 x29 x30 x31 b32 v33 v34 v35 v36 v37 v38 v39 v40))
 (none)
def r46E0 (C:Cb) (d:Nat) (a0:List AV) (x2:Int):St→Ans:=fun s5 =>
 cnd ((List.length s5.env) == 100)
 (sames C s5.env 0 [(.lst a0),tz] <|
 C.bool s5.env[2]? fun b667 =>
 C.same s5.env[3]? (iz x2) <|
 C.int .i64 s5.env[4]? fun x668 =>
 sames C s5.env 5 [tz,tz,tz,tz,tz,tz,(.lst a0),(iz x2),(iz x2),(.bool (decide (x2 < 3))),bf,(iz x2),(.bool (decide (x2 > 8))),bf] <|
 C.int .i64 s5.env[19]? fun x669 =>
 C.int .i64 s5.env[20]? fun x670 =>
 C.bool s5.env[21]? fun b671 =>
 anys C s5.env 22 3 <|
 C.int .i64 s5.env[25]? fun x675 =>
 C.any s5.env[26]? fun v676 =>
 C.agg 2 s5.env[27]? fun l677 =>
 C.int .i64 l677[0]? fun x678 =>
 C.int .i64 l677[1]? fun x679 =>
 C.bool s5.env[28]? fun b680 =>
 C.bool s5.env[29]? fun b681 =>
 sames C s5.env 30 [tz,tz,tz,tz,tz,tz,tz,tz,tz,tz,tz,tz,tz,tz,tz,tz,tz,tz,tz,tz,tz,tz,tz,tz,tz,tz,tz,tz,tz,tz,tz,tz,tz,tz,tz,tz,tz,tz,tz,tz,tz,tz,tz,tz,tz,tz,tz,tz,tz,tz,tz,tz,tz,tz,tz,tz,tz,tz,tz,tz,tz,tz,tz,tz,tz,tz,tz,tz,tz,tz] <|
 C.fin (St.H s5) (.bool b667))
 (none)
theorem r46 (C:Cb) (d:Nat) (a0:List AV):xcall C M unr d 46 [(.lst a0)] =
 C.hop [] (.bk .lenV [(.v (.lst a0))]) fun v0 h1 =>
 C.int .i64 (some v0) fun x2 =>
 cnd (decide (x2 < 3))
 (C.fin h1 bf)
 (cnd (decide (x2 > 8))
 (C.fin h1 bf)
 (C.iter (r46R0 C d a0 x2) 10000000000000000000 ⟨[(.lst a0),tz,bf,(iz x2),(iz 0),tz,tz,tz,tz,tz,tz,(.lst a0),(iz x2),(iz x2),(bz (decide (x2 < 3))),bf,(iz x2),(bz (decide (x2 > 8))),bf,tz,tz,tz,tz,tz,tz,tz,tz,tz,tz,tz,tz,tz,tz,tz,tz,tz,tz,tz,tz,tz,tz,tz,tz,tz,tz,tz,tz,tz,tz,tz,tz,tz,tz,tz,tz,tz,tz,tz,tz,tz,tz,tz,tz,tz,tz,tz,tz,tz,tz,tz,tz,tz,tz,tz,tz,tz,tz,tz,tz,tz,tz,tz,tz,tz,tz,tz,tz,tz,tz,tz,tz,tz,tz,tz,tz,tz,tz,tz,tz,tz],h1⟩ [0] [r46X0_0 C d a0 x2] (r46E0 C d a0 x2))):=by kernel_rfl
theorem r51 (C:Cb) (d:Nat) (a0:List AV):xcall C M unr d 51 [(.lst a0)] =
 C.bool (pcall M d 57 [(.lst a0)]) fun b0 =>
 cnd b0
 (C.bool (pcall M d 58 [(.lst a0),(.fn 59 [] [])]) fun b1 =>
 some (.bool (!b1)))
 (some bf):=by kernel_rfl
theorem r53 (C:Cb) (d:Nat) (a0:List AV) (a1:Int):xcall C M unr d 53 [(.lst a0),(iz a1)] =
 cnd (decide ((((List.length a0):Nat):Int)=0))
 (none)
 (cnd (decide ((0:Int)≤(Int.tmod (IntKind.wrap .i64 (a1+1)) (((List.length a0):Nat):Int))))
 (C.agg 2 a0[(Int.toNat (Int.tmod (IntKind.wrap .i64 (a1+1)) (((List.length a0):Nat):Int)))]? fun l0 =>
 C.int .i64 l0[0]? fun x1 =>
 C.int .i64 l0[1]? fun x2 =>
 some (.agg [(iz x1),(iz x2)]))
 (none)):=by kernel_rfl
def r57R1 (C:Cb) (d:Nat) (a0:List AV) (b0:Bool) (k2:Ex→St→Ans) (x7:Int) (v31:AV):St→(Ex→St→Ans)→Ans:=fun s32 k33 =>
 cnd ((List.length s32.env) == 44)
 (sames C s32.env 0 [(.lst a0),tz] <|
 C.bool s32.env[2]? fun b35 =>
 sames C s32.env 3 [(iz (((List.length a0):Nat):Int)),(iz x7)] <|
 C.any s32.env[5]? fun v36 =>
 sames C s32.env 6 [(.lst a0),(iz (((List.length a0):Nat):Int)),(iz (((List.length a0):Nat):Int)),(.bool (decide ((((List.length a0):Nat):Int) < 3))),bf,(iz (((List.length a0):Nat):Int)),(.bool (decide ((((List.length a0):Nat):Int) > 8))),(.bool (decide ((((List.length a0):Nat):Int) > 8))),bf,(.lst a0),(.bool b0),bf,(iz (((List.length a0):Nat):Int)),(iz x7),bt,(iz x7),(iz x7)] <|
 C.int .i64 s32.env[23]? fun x37 =>
 C.any s32.env[24]? fun v38 =>
 C.any s32.env[25]? fun v39 =>
 C.any s32.env[26]? fun v40 =>
 C.any s32.env[27]? fun v41 =>
 C.any s32.env[28]? fun v42 =>
 C.any s32.env[29]? fun v43 =>
 C.any s32.env[30]? fun v44 =>
 C.any s32.env[31]? fun v45 =>
 C.any s32.env[32]? fun v46 =>
 C.any s32.env[33]? fun v47 =>
 C.any s32.env[34]? fun v48 =>
 C.any s32.env[35]? fun v49 =>
 C.any s32.env[36]? fun v50 =>
 C.any s32.env[37]? fun v51 =>
 C.any s32.env[38]? fun v52 =>
 C.any s32.env[39]? fun v53 =>
 C.any s32.env[40]? fun v54 =>
 C.any s32.env[41]? fun v55 =>
 C.any s32.env[42]? fun v56 =>
 C.same s32.env[43]? v31 <|
 C.sameH (St.H s32) [] <|
 cnd (decide (x37 < x7))
 (cnd (decide ((0:Int)≤x7))
 (C.agg 2 a0[(Int.toNat x7)]? fun l57 =>
 C.int .i64 l57[0]? fun x58 =>
 C.int .i64 l57[1]? fun x59 =>
 cnd (decide ((0:Int)≤x37))
 (C.agg 2 a0[(Int.toNat x37)]? fun l60 =>
 C.int .i64 l60[0]? fun x61 =>
 C.int .i64 l60[1]? fun x62 =>
 cnd (xor false ((x58 == x61) && ((x59 == x62) && true)))
 (k33 .ret ⟨[(.lst a0),tz,bf,(iz (((List.length a0):Nat):Int)),(iz x7),(iz x37),(.lst a0),(iz (((List.length a0):Nat):Int)),(iz (((List.length a0):Nat):Int)),(.bool (decide ((((List.length a0):Nat):Int) < 3))),bf,(iz (((List.length a0):Nat):Int)),(.bool (decide ((((List.length a0):Nat):Int) > 8))),(.bool (decide ((((List.length a0):Nat):Int) > 8))),bf,(.lst a0),(.bool b0),bf,(iz (((List.length a0):Nat):Int)),(iz x7),bt,(iz x7),(iz x7),(iz x37),bt,(iz x37),(.lst a0),(iz x7),(.fptr (.agg [(iz x58),(iz x59)]) 0),(.agg [(iz x58),(iz x59)]),(.lst a0),(iz x37),(.fptr (.agg [(iz x61),(iz x62)]) 0),(.agg [(iz x61),(iz x62)]),(.bool (xor false ((x58 == x61) && ((x59 == x62) && true)))),bt,tz,tz,tz,tz,tz,bt,v56,v31],[]⟩)
 (C.bool (pcall M d 63 [(.lst a0),(iz x37),(iz x7)]) fun b63 =>
 cnd (!b63)
 (k33 .ret ⟨[(.lst a0),tz,bf,(iz (((List.length a0):Nat):Int)),(iz x7),(iz x37),(.lst a0),(iz (((List.length a0):Nat):Int)),(iz (((List.length a0):Nat):Int)),(.bool (decide ((((List.length a0):Nat):Int) < 3))),bf,(iz (((List.length a0):Nat):Int)),(.bool (decide ((((List.length a0):Nat):Int) > 8))),(.bool (decide ((((List.length a0):Nat):Int) > 8))),bf,(.lst a0),(.bool b0),bf,(iz (((List.length a0):Nat):Int)),(iz x7),bt,(iz x7),(iz x7),(iz x37),bt,(iz x37),(.lst a0),(iz x7),(.fptr (.agg [(iz x58),(iz x59)]) 0),(.agg [(iz x58),(iz x59)]),(.lst a0),(iz x37),(.fptr (.agg [(iz x61),(iz x62)]) 0),(.agg [(iz x61),(iz x62)]),(.bool (xor false ((x58 == x61) && ((x59 == x62) && true)))),bf,(.lst a0),(iz x37),(iz x7),(.bool b63),(.bool (!b63)),bt,v56,v31],[]⟩)
 (k33 .normal ⟨[(.lst a0),tz,(.bool b35),(iz (((List.length a0):Nat):Int)),(iz x7),(iz x37),(.lst a0),(iz (((List.length a0):Nat):Int)),(iz (((List.length a0):Nat):Int)),(.bool (decide ((((List.length a0):Nat):Int) < 3))),bf,(iz (((List.length a0):Nat):Int)),(.bool (decide ((((List.length a0):Nat):Int) > 8))),(.bool (decide ((((List.length a0):Nat):Int) > 8))),bf,(.lst a0),(.bool b0),bf,(iz (((List.length a0):Nat):Int)),(iz x7),bt,(iz x7),(iz x7),(iz (IntKind.wrap .i64 (x37+1))),bt,(iz x37),(.lst a0),(iz x7),(.fptr (.agg [(iz x58),(iz x59)]) 0),(.agg [(iz x58),(iz x59)]),(.lst a0),(iz x37),(.fptr (.agg [(iz x61),(iz x62)]) 0),(.agg [(iz x61),(iz x62)]),(.bool (xor false ((x58 == x61) && ((x59 == x62) && true)))),bf,(.lst a0),(iz x37),(iz x7),(.bool b63),(.bool (!b63)),bf,(iz (IntKind.wrap .i64 (x37+1))),v31],[]⟩)))
 (none))
 (none))
 (k33 (.exit 2) ⟨[(.lst a0),tz,(.bool b35),(iz (((List.length a0):Nat):Int)),(iz x7),v36,(.lst a0),(iz (((List.length a0):Nat):Int)),(iz (((List.length a0):Nat):Int)),(.bool (decide ((((List.length a0):Nat):Int) < 3))),bf,(iz (((List.length a0):Nat):Int)),(.bool (decide ((((List.length a0):Nat):Int) > 8))),(.bool (decide ((((List.length a0):Nat):Int) > 8))),bf,(.lst a0),(.bool b0),bf,(iz (((List.length a0):Nat):Int)),(iz x7),bt,(iz x7),(iz x7),(iz x37),bf,v39,v40,v41,v42,v43,v44,v45,v46,v47,v48,v49,v50,v51,v52,v53,v54,v55,v56,v31],[]⟩))
 (none)
def r57X1_0 (C:Cb) (d:Nat) (a0:List AV) (b0:Bool) (k2:Ex→St→Ans) (x7:Int) (v31:AV):St→Ans:=fun s64 =>
 cnd ((List.length s64.env) == 44)
 (sames C s64.env 0 [(.lst a0),tz] <|
 C.bool s64.env[2]? fun b65 =>
 sames C s64.env 3 [(iz (((List.length a0):Nat):Int)),(iz x7)] <|
 C.any s64.env[5]? fun v66 =>
 sames C s64.env 6 [(.lst a0),(iz (((List.length a0):Nat):Int)),(iz (((List.length a0):Nat):Int)),(.bool (decide ((((List.length a0):Nat):Int) < 3))),bf,(iz (((List.length a0):Nat):Int)),(.bool (decide ((((List.length a0):Nat):Int) > 8))),(.bool (decide ((((List.length a0):Nat):Int) > 8))),bf,(.lst a0),(.bool b0),bf,(iz (((List.length a0):Nat):Int)),(iz x7),bt,(iz x7),(iz x7)] <|
 C.int .i64 s64.env[23]? fun x67 =>
 C.bool s64.env[24]? fun b68 =>
 C.any s64.env[25]? fun v69 =>
 C.any s64.env[26]? fun v70 =>
 C.any s64.env[27]? fun v71 =>
 C.any s64.env[28]? fun v72 =>
 C.any s64.env[29]? fun v73 =>
 C.any s64.env[30]? fun v74 =>
 C.any s64.env[31]? fun v75 =>
 C.any s64.env[32]? fun v76 =>
 C.any s64.env[33]? fun v77 =>
 C.any s64.env[34]? fun v78 =>
 C.any s64.env[35]? fun v79 =>
 C.any s64.env[36]? fun v80 =>
 C.any s64.env[37]? fun v81 =>
 C.any s64.env[38]? fun v82 =>
 C.any s64.env[39]? fun v83 =>
 C.any s64.env[40]? fun v84 =>
 C.any s64.env[41]? fun v85 =>
 C.any s64.env[42]? fun v86 =>
 C.same s64.env[43]? v31 <|
 C.sameH (St.H s64) [] <|
 k2 .normal ⟨[(.lst a0),tz,(.bool b65),(iz (((List.length a0):Nat):Int)),(iz x7),v66,(.lst a0),(iz (((List.length a0):Nat):Int)),(iz (((List.length a0):Nat):Int)),(.bool (decide ((((List.length a0):Nat):Int) < 3))),bf,(iz (((List.length a0):Nat):Int)),(.bool (decide ((((List.length a0):Nat):Int) > 8))),(.bool (decide ((((List.length a0):Nat):Int) > 8))),bf,(.lst a0),(.bool b0),bf,(iz (((List.length a0):Nat):Int)),(iz (IntKind.wrap .i64 (x7+1))),bt,(iz x7),(iz x7),(iz x67),(.bool b68),v69,v70,v71,v72,v73,v74,v75,v76,v77,v78,v79,v80,v81,v82,v83,v84,v85,v86,(iz (IntKind.wrap .i64 (x7+1)))],[]⟩)
 (none)
def r57E1 (C:Cb) (d:Nat) (a0:List AV) (b0:Bool) (k2:Ex→St→Ans) (x7:Int) (v31:AV):St→Ans:=fun s34 =>
 cnd ((List.length s34.env) == 44)
 (sames C s34.env 0 [(.lst a0),tz] <|
 C.bool s34.env[2]? fun b87 =>
 sames C s34.env 3 [(iz (((List.length a0):Nat):Int)),(iz x7)] <|
 C.int .i64 s34.env[5]? fun x88 =>
 sames C s34.env 6 [(.lst a0),(iz (((List.length a0):Nat):Int)),(iz (((List.length a0):Nat):Int)),(.bool (decide ((((List.length a0):Nat):Int) < 3))),bf,(iz (((List.length a0):Nat):Int)),(.bool (decide ((((List.length a0):Nat):Int) > 8))),(.bool (decide ((((List.length a0):Nat):Int) > 8))),bf,(.lst a0),(.bool b0),bf,(iz (((List.length a0):Nat):Int)),(iz x7),bt,(iz x7),(iz x7)] <|
 C.int .i64 s34.env[23]? fun x89 =>
 C.bool s34.env[24]? fun b90 =>
 C.int .i64 s34.env[25]? fun x91 =>
 C.any s34.env[26]? fun v92 =>
 C.int .i64 s34.env[27]? fun x93 =>
 C.any s34.env[28]? fun v94 =>
 C.agg 2 s34.env[29]? fun l95 =>
 C.int .i64 l95[0]? fun x96 =>
 C.int .i64 l95[1]? fun x97 =>
 C.any s34.env[30]? fun v98 =>
 C.int .i64 s34.env[31]? fun x99 =>
 C.any s34.env[32]? fun v100 =>
 C.agg 2 s34.env[33]? fun l101 =>
 C.int .i64 l101[0]? fun x102 =>
 C.int .i64 l101[1]? fun x103 =>
 C.bool s34.env[34]? fun b104 =>
 C.bool s34.env[35]? fun b105 =>
 C.any s34.env[36]? fun v106 =>
 C.any s34.env[37]? fun v107 =>
 C.any s34.env[38]? fun v108 =>
 C.any s34.env[39]? fun v109 =>
 C.any s34.env[40]? fun v110 =>
 C.bool s34.env[41]? fun b111 =>
 C.any s34.env[42]? fun v112 =>
 C.same s34.env[43]? v31 <|
 C.sameH (St.H s34) [] <|
 k2 .ret ⟨[(.lst a0),tz,(.bool b87),(iz (((List.length a0):Nat):Int)),(iz x7),(iz x88),(.lst a0),(iz (((List.length a0):Nat):Int)),(iz (((List.length a0):Nat):Int)),(.bool (decide ((((List.length a0):Nat):Int) < 3))),bf,(iz (((List.length a0):Nat):Int)),(.bool (decide ((((List.length a0):Nat):Int) > 8))),(.bool (decide ((((List.length a0):Nat):Int) > 8))),bf,(.lst a0),(.bool b0),bf,(iz (((List.length a0):Nat):Int)),(iz x7),bt,(iz x7),(iz x7),(iz x89),(.bool b90),(iz x91),v92,(iz x93),v94,(.agg [(iz x96),(iz x97)]),v98,(iz x99),v100,(.agg [(iz x102),(iz x103)]),(.bool b104),(.bool b105),v106,v107,v108,v109,v110,(.bool b111),v112,v31],[]⟩)
 (none)
def r57R0 (C:Cb) (d:Nat) (a0:List AV) (b0:Bool):St→(Ex→St→Ans)→Ans:=fun s1 k2 =>
 cnd ((List.length s1.env) == 44)
 (sames C s1.env 0 [(.lst a0),tz] <|
 C.bool s1.env[2]? fun b4 =>
 C.same s1.env[3]? (iz (((List.length a0):Nat):Int)) <|
 C.any s1.env[4]? fun v5 =>
 C.any s1.env[5]? fun v6 =>
 sames C s1.env 6 [(.lst a0),(iz (((List.length a0):Nat):Int)),(iz (((List.length a0):Nat):Int)),(.bool (decide ((((List.length a0):Nat):Int) < 3))),bf,(iz (((List.length a0):Nat):Int)),(.bool (decide ((((List.length a0):Nat):Int) > 8))),(.bool (decide ((((List.length a0):Nat):Int) > 8))),bf,(.lst a0),(.bool b0),bf,(iz (((List.length a0):Nat):Int))] <|
 C.int .i64 s1.env[19]? fun x7 =>
 C.any s1.env[20]? fun v8 =>
 C.any s1.env[21]? fun v9 =>
 C.any s1.env[22]? fun v10 =>
 C.any s1.env[23]? fun v11 =>
 C.any s1.env[24]? fun v12 =>
 C.any s1.env[25]? fun v13 =>
 C.any s1.env[26]? fun v14 =>
 C.any s1.env[27]? fun v15 =>
 C.any s1.env[28]? fun v16 =>
 C.any s1.env[29]? fun v17 =>
 C.any s1.env[30]? fun v18 =>
 C.any s1.env[31]? fun v19 =>
 C.any s1.env[32]? fun v20 =>
 C.any s1.env[33]? fun v21 =>
 C.any s1.env[34]? fun v22 =>
 C.any s1.env[35]? fun v23 =>
 C.any s1.env[36]? fun v24 =>
 C.any s1.env[37]? fun v25 =>
 C.any s1.env[38]? fun v26 =>
 C.any s1.env[39]? fun v27 =>
 C.any s1.env[40]? fun v28 =>
 C.any s1.env[41]? fun v29 =>
 C.any s1.env[42]? fun v30 =>
 C.any s1.env[43]? fun v31 =>
 C.sameH (St.H s1) [] <|
 cnd (decide (x7 < (((List.length a0):Nat):Int)))
 (C.iter (r57R1 C d a0 b0 k2 x7 v31) 10000000000000000000 ⟨[(.lst a0),tz,(.bool b4),(iz (((List.length a0):Nat):Int)),(iz x7),v6,(.lst a0),(iz (((List.length a0):Nat):Int)),(iz (((List.length a0):Nat):Int)),(.bool (decide ((((List.length a0):Nat):Int) < 3))),bf,(iz (((List.length a0):Nat):Int)),(.bool (decide ((((List.length a0):Nat):Int) > 8))),(.bool (decide ((((List.length a0):Nat):Int) > 8))),bf,(.lst a0),(.bool b0),bf,(iz (((List.length a0):Nat):Int)),(iz x7),bt,(iz x7),(iz x7),(iz 0),v12,v13,v14,v15,v16,v17,v18,v19,v20,v21,v22,v23,v24,v25,v26,v27,v28,v29,v30,v31],[]⟩ [2] [r57X1_0 C d a0 b0 k2 x7 v31] (r57E1 C d a0 b0 k2 x7 v31))
 (k2 (.exit 0) ⟨[(.lst a0),tz,(.bool b4),(iz (((List.length a0):Nat):Int)),v5,v6,(.lst a0),(iz (((List.length a0):Nat):Int)),(iz (((List.length a0):Nat):Int)),(.bool (decide ((((List.length a0):Nat):Int) < 3))),bf,(iz (((List.length a0):Nat):Int)),(.bool (decide ((((List.length a0):Nat):Int) > 8))),(.bool (decide ((((List.length a0):Nat):Int) > 8))),bf,(.lst a0),(.bool b0),bf,(iz (((List.length a0):Nat):Int)),(iz x7),bf,v9,v10,v11,v12,v13,v14,v15,v16,v17,v18,v19,v20,v21,v22,v23,v24,v25,v26,v27,v28,v29,v30,v31],[]⟩))
 (none)
def r57X0_0 (C:Cb) (d:Nat) (a0:List AV) (b0:Bool):St→Ans:=fun s113 =>
 cnd ((List.length s113.env) == 44)
 (sames C s113.env 0 [(.lst a0),tz] <|
 C.bool s113.env[2]? fun b114 =>
 C.same s113.env[3]? (iz (((List.length a0):Nat):Int)) <|
 anys C s113.env 4 2 <|
 sames C s113.env 6 [(.lst a0),(iz (((List.length a0):Nat):Int)),(iz (((List.length a0):Nat):Int)),(.bool (decide ((((List.length a0):Nat):Int) < 3))),bf,(iz (((List.length a0):Nat):Int)),(.bool (decide ((((List.length a0):Nat):Int) > 8))),(.bool (decide ((((List.length a0):Nat):Int) > 8))),bf,(.lst a0),(.bool b0),bf,(iz (((List.length a0):Nat):Int))] <|
 C.int .i64 s113.env[19]? fun x117 =>
 C.bool s113.env[20]? fun b118 =>
 anys C s113.env 21 23 <|
 C.sameH (St.H s113) [] <|
 some bt)
 (none)
def r57E0 (C:Cb) (d:Nat) (a0:List AV) (b0:Bool):St→Ans:=fun s3 =>
 cnd ((List.length s3.env) == 44)
 (sames C s3.env 0 [(.lst a0),tz] <|
 C.bool s3.env[2]? fun b142 =>
 C.same s3.env[3]? (iz (((List.length a0):Nat):Int)) <|
 C.int .i64 s3.env[4]? fun x143 =>
 C.int .i64 s3.env[5]? fun x144 =>
 sames C s3.env 6 [(.lst a0),(iz (((List.length a0):Nat):Int)),(iz (((List.length a0):Nat):Int)),(.bool (decide ((((List.length a0):Nat):Int) < 3))),bf,(iz (((List.length a0):Nat):Int)),(.bool (decide ((((List.length a0):Nat):Int) > 8))),(.bool (decide ((((List.length a0):Nat):Int) > 8))),bf,(.lst a0),(.bool b0),bf,(iz (((List.length a0):Nat):Int))] <|
 C.int .i64 s3.env[19]? fun x145 =>
 C.bool s3.env[20]? fun b146 =>
 C.int .i64 s3.env[21]? fun x147 =>
 C.int .i64 s3.env[22]? fun x148 =>
 C.int .i64 s3.env[23]? fun x149 =>
 C.bool s3.env[24]? fun b150 =>
 C.int .i64 s3.env[25]? fun x151 =>
 C.any s3.env[26]? fun v152 =>
 C.int .i64 s3.env[27]? fun x153 =>
 C.any s3.env[28]? fun v154 =>
 C.agg 2 s3.env[29]? fun l155 =>
 C.int .i64 l155[0]? fun x156 =>
 C.int .i64 l155[1]? fun x157 =>
 C.any s3.env[30]? fun v158 =>
 C.int .i64 s3.env[31]? fun x159 =>
 C.any s3.env[32]? fun v160 =>
 C.agg 2 s3.env[33]? fun l161 =>
 C.int .i64 l161[0]? fun x162 =>
 C.int .i64 l161[1]? fun x163 =>
 C.bool s3.env[34]? fun b164 =>
 C.bool s3.env[35]? fun b165 =>
 anys C s3.env 36 5 <|
 C.bool s3.env[41]? fun b171 =>
 anys C s3.env 42 2 <|
 C.sameH (St.H s3) [] <|
 some (.bool b142))
 (none)
theorem r57 (C:Cb) (d:Nat) (a0:List AV):xcall C M unr d 57 [(.lst a0)] =
 cnd (decide ((((List.length a0):Nat):Int) < 3))
 (some bf)
 (cnd (decide ((((List.length a0):Nat):Int) > 8))
 (some bf)
 (C.bool (pcall M d 58 [(.lst a0),(.fn 61 [] [])]) fun b0 =>
 cnd b0
 (some bf)
 (C.iter (r57R0 C d a0 b0) 10000000000000000000 ⟨[(.lst a0),tz,bf,(iz (((List.length a0):Nat):Int)),tz,tz,(.lst a0),(iz (((List.length a0):Nat):Int)),(iz (((List.length a0):Nat):Int)),(.bool (decide ((((List.length a0):Nat):Int) < 3))),bf,(iz (((List.length a0):Nat):Int)),(.bool (decide ((((List.length a0):Nat):Int) > 8))),(.bool (decide ((((List.length a0):Nat):Int) > 8))),bf,(.lst a0),(.bool b0),bf,(iz (((List.length a0):Nat):Int)),(iz 0),tz,tz,tz,tz,tz,tz,tz,tz,tz,tz,tz,tz,tz,tz,tz,tz,tz,tz,tz,tz,tz,tz,tz,tz],[]⟩ [0] [r57X0_0 C d a0 b0] (r57E0 C d a0 b0)))):=by kernel_rfl
theorem r58f61 (C:Cb) (d:Nat) (a0:List AV) (a1:AV):xcall C M unr d 58 [(.lst a0),(.fn 61 [] [])] =
 C.int .i64 (pcall M d 64 [(.lst a0),(.fn 61 [] [])]) fun x0 =>
 some (.bool (decide (x0 ≥ 0))):=by kernel_rfl
theorem r58f59 (C:Cb) (d:Nat) (a0:List AV) (a1:AV):xcall C M unr d 58 [(.lst a0),(.fn 59 [] [])] =
 C.int .i64 (pcall M d 64 [(.lst a0),(.fn 59 [] [])]) fun x0 =>
 some (.bool (decide (x0 ≥ 0))):=by kernel_rfl
theorem r59 (C:Cb) (d:Nat) (a0 a1:Int):xcall C M unr d 59 [(.agg [(iz a0),(iz a1)])] =
 some (.bool (decide ((if ((IntKind.wrap .i64 (0 - a1)) > (if (a1 > (if ((IntKind.wrap .i64 (0 - a0)) > a0) then (IntKind.wrap .i64 (0 - a0)) else a0)) then a1 else (if ((IntKind.wrap .i64 (0 - a0)) > a0) then (IntKind.wrap .i64 (0 - a0)) else a0))) then (IntKind.wrap .i64 (0 - a1)) else (if (a1 > (if ((IntKind.wrap .i64 (0 - a0)) > a0) then (IntKind.wrap .i64 (0 - a0)) else a0)) then a1 else (if ((IntKind.wrap .i64 (0 - a0)) > a0) then (IntKind.wrap .i64 (0 - a0)) else a0))) > 1073741824))):=by kernel_rfl
theorem r61 (C:Cb) (d:Nat) (a0 a1:Int):xcall C M unr d 61 [(.agg [(iz a0),(iz a1)])] =
 C.bool (pcall M d 62 [(.agg [(iz a0),(iz a1)])]) fun b0 =>
 some (.bool (!b0)):=by kernel_rfl
theorem r63 (C:Cb) (d:Nat) (a0:List AV) (a1 a2:Int):xcall C M unr d 63 [(.lst a0),(iz a1),(iz a2)] =
 C.tup 2 (pcall M d 68 [(.lst a0),(iz a1)]) fun l0 =>
 C.agg 2 l0[0]? fun l1 =>
 C.int .i64 l1[0]? fun x2 =>
 C.int .i64 l1[1]? fun x3 =>
 C.agg 2 l0[1]? fun l4 =>
 C.int .i64 l4[0]? fun x5 =>
 C.int .i64 l4[1]? fun x6 =>
 C.tup 2 (pcall M d 68 [(.lst a0),(iz a2)]) fun l7 =>
 C.agg 2 l7[0]? fun l8 =>
 C.int .i64 l8[0]? fun x9 =>
 C.int .i64 l8[1]? fun x10 =>
 C.agg 2 l7[1]? fun l11 =>
 C.int .i64 l11[0]? fun x12 =>
 C.int .i64 l11[1]? fun x13 =>
 cnd (decide ((((List.length a0):Nat):Int)=0))
 (none)
 (cnd ((Int.tmod (IntKind.wrap .i64 (a1+1)) (((List.length a0):Nat):Int)) == a2)
 (C.bool (pcall M d 69 [(.agg [(iz x12),(iz x13)]),(.agg [(iz x2),(iz x3)]),(.agg [(iz x5),(iz x6)])]) fun b14 =>
 cnd (!b14)
 (C.bool (pcall M d 69 [(.agg [(iz x2),(iz x3)]),(.agg [(iz x9),(iz x10)]),(.agg [(iz x12),(iz x13)])]) fun b15 =>
 some (.bool (!b15)))
 (some bf))
 (cnd (decide ((((List.length a0):Nat):Int)=0))
 (none)
 (cnd ((Int.tmod (IntKind.wrap .i64 (a2+1)) (((List.length a0):Nat):Int)) == a1)
 (C.bool (pcall M d 69 [(.agg [(iz x9),(iz x10)]),(.agg [(iz x2),(iz x3)]),(.agg [(iz x5),(iz x6)])]) fun b16 =>
 cnd (!b16)
 (C.bool (pcall M d 69 [(.agg [(iz x5),(iz x6)]),(.agg [(iz x9),(iz x10)]),(.agg [(iz x12),(iz x13)])]) fun b17 =>
 some (.bool (!b17)))
 (some bf))
 (C.bool (pcall M d 70 [(.agg [(iz x2),(iz x3)]),(.agg [(iz x5),(iz x6)]),(.agg [(iz x9),(iz x10)]),(.agg [(iz x12),(iz x13)])]) fun b18 =>
 some (.bool (!b18)))))):=by kernel_rfl
def r64f61R0 (C:Cb) (d:Nat) (a0:List AV):St→(Ex→St→Ans)→Ans:=fun s0 k1 =>
 cnd ((List.length s0.env) == 19)
 (sames C s0.env 0 [(.lst a0),(.fn 61 [] []),tz,tz] <|
 C.int .i64 s0.env[4]? fun x3 =>
 C.any s0.env[5]? fun v4 =>
 sames C s0.env 6 [(.lst a0),(iz (((List.length a0):Nat):Int))] <|
 C.int .i64 s0.env[8]? fun x5 =>
 C.any s0.env[9]? fun v6 =>
 C.any s0.env[10]? fun v7 =>
 C.any s0.env[11]? fun v8 =>
 C.any s0.env[12]? fun v9 =>
 C.any s0.env[13]? fun v10 =>
 C.any s0.env[14]? fun v11 =>
 C.any s0.env[15]? fun v12 =>
 C.any s0.env[16]? fun v13 =>
 C.any s0.env[17]? fun v14 =>
 C.any s0.env[18]? fun v15 =>
 C.sameH (St.H s0) [] <|
 cnd (decide (x5 < (((List.length a0):Nat):Int)))
 (cnd (decide ((0:Int)≤x5))
 (C.agg 2 a0[(Int.toNat x5)]? fun l16 =>
 C.int .i64 l16[0]? fun x17 =>
 C.int .i64 l16[1]? fun x18 =>
 C.bool (pcall M d 61 [(.agg [(iz x17),(iz x18)])]) fun b19 =>
 cnd b19
 (k1 .ret ⟨[(.lst a0),(.fn 61 [] []),tz,tz,(iz x5),(iz x5),(.lst a0),(iz (((List.length a0):Nat):Int)),(iz x5),bt,(iz x5),(.fn 61 [] []),(.lst a0),(iz x5),(.fptr (.agg [(iz x17),(iz x18)]) 0),(.agg [(iz x17),(iz x18)]),bt,(iz x5),v15],[]⟩)
 (k1 .normal ⟨[(.lst a0),(.fn 61 [] []),tz,tz,(iz x3),(iz x5),(.lst a0),(iz (((List.length a0):Nat):Int)),(iz (IntKind.wrap .i64 (x5+1))),bt,(iz x5),(.fn 61 [] []),(.lst a0),(iz x5),(.fptr (.agg [(iz x17),(iz x18)]) 0),(.agg [(iz x17),(iz x18)]),bf,v14,(iz (IntKind.wrap .i64 (x5+1)))],[]⟩))
 (none))
 (k1 (.exit 0) ⟨[(.lst a0),(.fn 61 [] []),tz,tz,(iz x3),v4,(.lst a0),(iz (((List.length a0):Nat):Int)),(iz x5),bf,v7,v8,v9,v10,v11,v12,v13,v14,v15],[]⟩))
 (none)
def r64f61X0_0 (C:Cb) (d:Nat) (a0:List AV):St→Ans:=fun s20 =>
 cnd ((List.length s20.env) == 19)
 (sames C s20.env 0 [(.lst a0),(.fn 61 [] []),tz,tz] <|
 C.int .i64 s20.env[4]? fun x21 =>
 C.any s20.env[5]? fun v22 =>
 sames C s20.env 6 [(.lst a0),(iz (((List.length a0):Nat):Int))] <|
 C.int .i64 s20.env[8]? fun x23 =>
 anys C s20.env 9 10 <|
 C.sameH (St.H s20) [] <|
 some (iz (-1)))
 (none)
def r64f61E0 (C:Cb) (d:Nat) (a0:List AV):St→Ans:=fun s2 =>
 cnd ((List.length s2.env) == 19)
 (sames C s2.env 0 [(.lst a0),(.fn 61 [] []),tz,tz] <|
 C.int .i64 s2.env[4]? fun x34 =>
 C.int .i64 s2.env[5]? fun x35 =>
 sames C s2.env 6 [(.lst a0),(iz (((List.length a0):Nat):Int))] <|
 C.int .i64 s2.env[8]? fun x36 =>
 C.any s2.env[9]? fun v37 =>
 C.int .i64 s2.env[10]? fun x38 =>
 anys C s2.env 11 2 <|
 C.int .i64 s2.env[13]? fun x41 =>
 C.any s2.env[14]? fun v42 =>
 C.agg 2 s2.env[15]? fun l43 =>
 C.int .i64 l43[0]? fun x44 =>
 C.int .i64 l43[1]? fun x45 =>
 C.bool s2.env[16]? fun b46 =>
 C.int .i64 s2.env[17]? fun x47 =>
 C.any s2.env[18]? fun v48 =>
 C.sameH (St.H s2) [] <|
 some (iz x34))
 (none)
theorem r64f61 (C:Cb) (d:Nat) (a0:List AV) (a1:AV):xcall C M unr d 64 [(.lst a0),(.fn 61 [] [])] =
 C.iter (r64f61R0 C d a0) 10000000000000000000 ⟨[(.lst a0),(.fn 61 [] []),tz,tz,(iz 0),tz,(.lst a0),(iz (((List.length a0):Nat):Int)),(iz 0),tz,tz,tz,tz,tz,tz,tz,tz,tz,tz],[]⟩ [0] [r64f61X0_0 C d a0] (r64f61E0 C d a0):=by kernel_rfl
def r64f59R0 (C:Cb) (d:Nat) (a0:List AV):St→(Ex→St→Ans)→Ans:=fun s0 k1 =>
 cnd ((List.length s0.env) == 19)
 (sames C s0.env 0 [(.lst a0),(.fn 59 [] []),tz,tz] <|
 C.int .i64 s0.env[4]? fun x3 =>
 C.any s0.env[5]? fun v4 =>
 sames C s0.env 6 [(.lst a0),(iz (((List.length a0):Nat):Int))] <|
 C.int .i64 s0.env[8]? fun x5 =>
 C.any s0.env[9]? fun v6 =>
 C.any s0.env[10]? fun v7 =>
 C.any s0.env[11]? fun v8 =>
 C.any s0.env[12]? fun v9 =>
 C.any s0.env[13]? fun v10 =>
 C.any s0.env[14]? fun v11 =>
 C.any s0.env[15]? fun v12 =>
 C.any s0.env[16]? fun v13 =>
 C.any s0.env[17]? fun v14 =>
 C.any s0.env[18]? fun v15 =>
 C.sameH (St.H s0) [] <|
 cnd (decide (x5 < (((List.length a0):Nat):Int)))
 (cnd (decide ((0:Int)≤x5))
 (C.agg 2 a0[(Int.toNat x5)]? fun l16 =>
 C.int .i64 l16[0]? fun x17 =>
 C.int .i64 l16[1]? fun x18 =>
 C.bool (pcall M d 59 [(.agg [(iz x17),(iz x18)])]) fun b19 =>
 cnd b19
 (k1 .ret ⟨[(.lst a0),(.fn 59 [] []),tz,tz,(iz x5),(iz x5),(.lst a0),(iz (((List.length a0):Nat):Int)),(iz x5),bt,(iz x5),(.fn 59 [] []),(.lst a0),(iz x5),(.fptr (.agg [(iz x17),(iz x18)]) 0),(.agg [(iz x17),(iz x18)]),bt,(iz x5),v15],[]⟩)
 (k1 .normal ⟨[(.lst a0),(.fn 59 [] []),tz,tz,(iz x3),(iz x5),(.lst a0),(iz (((List.length a0):Nat):Int)),(iz (IntKind.wrap .i64 (x5+1))),bt,(iz x5),(.fn 59 [] []),(.lst a0),(iz x5),(.fptr (.agg [(iz x17),(iz x18)]) 0),(.agg [(iz x17),(iz x18)]),bf,v14,(iz (IntKind.wrap .i64 (x5+1)))],[]⟩))
 (none))
 (k1 (.exit 0) ⟨[(.lst a0),(.fn 59 [] []),tz,tz,(iz x3),v4,(.lst a0),(iz (((List.length a0):Nat):Int)),(iz x5),bf,v7,v8,v9,v10,v11,v12,v13,v14,v15],[]⟩))
 (none)
def r64f59X0_0 (C:Cb) (d:Nat) (a0:List AV):St→Ans:=fun s20 =>
 cnd ((List.length s20.env) == 19)
 (sames C s20.env 0 [(.lst a0),(.fn 59 [] []),tz,tz] <|
 C.int .i64 s20.env[4]? fun x21 =>
 C.any s20.env[5]? fun v22 =>
 sames C s20.env 6 [(.lst a0),(iz (((List.length a0):Nat):Int))] <|
 C.int .i64 s20.env[8]? fun x23 =>
 anys C s20.env 9 10 <|
 C.sameH (St.H s20) [] <|
 some (iz (-1)))
 (none)
def r64f59E0 (C:Cb) (d:Nat) (a0:List AV):St→Ans:=fun s2 =>
 cnd ((List.length s2.env) == 19)
 (sames C s2.env 0 [(.lst a0),(.fn 59 [] []),tz,tz] <|
 C.int .i64 s2.env[4]? fun x34 =>
 C.int .i64 s2.env[5]? fun x35 =>
 sames C s2.env 6 [(.lst a0),(iz (((List.length a0):Nat):Int))] <|
 C.int .i64 s2.env[8]? fun x36 =>
 C.any s2.env[9]? fun v37 =>
 C.int .i64 s2.env[10]? fun x38 =>
 anys C s2.env 11 2 <|
 C.int .i64 s2.env[13]? fun x41 =>
 C.any s2.env[14]? fun v42 =>
 C.agg 2 s2.env[15]? fun l43 =>
 C.int .i64 l43[0]? fun x44 =>
 C.int .i64 l43[1]? fun x45 =>
 C.bool s2.env[16]? fun b46 =>
 C.int .i64 s2.env[17]? fun x47 =>
 C.any s2.env[18]? fun v48 =>
 C.sameH (St.H s2) [] <|
 some (iz x34))
 (none)
theorem r64f59 (C:Cb) (d:Nat) (a0:List AV) (a1:AV):xcall C M unr d 64 [(.lst a0),(.fn 59 [] [])] =
 C.iter (r64f59R0 C d a0) 10000000000000000000 ⟨[(.lst a0),(.fn 59 [] []),tz,tz,(iz 0),tz,(.lst a0),(iz (((List.length a0):Nat):Int)),(iz 0),tz,tz,tz,tz,tz,tz,tz,tz,tz,tz],[]⟩ [0] [r64f59X0_0 C d a0] (r64f59E0 C d a0):=by kernel_rfl
theorem r68 (C:Cb) (d:Nat) (a0:List AV) (a1:Int):xcall C M unr d 68 [(.lst a0),(iz a1)] =
 cnd (decide ((0:Int)≤a1))
 (C.agg 2 a0[(Int.toNat a1)]? fun l0 =>
 C.int .i64 l0[0]? fun x1 =>
 C.int .i64 l0[1]? fun x2 =>
 cnd (decide ((((List.length a0):Nat):Int)=0))
 (none)
 (cnd (decide ((0:Int)≤(Int.tmod (IntKind.wrap .i64 (a1+1)) (((List.length a0):Nat):Int))))
 (C.agg 2 a0[(Int.toNat (Int.tmod (IntKind.wrap .i64 (a1+1)) (((List.length a0):Nat):Int)))]? fun l3 =>
 C.int .i64 l3[0]? fun x4 =>
 C.int .i64 l3[1]? fun x5 =>
 some (.tup [(.agg [(iz x1),(iz x2)]),(.agg [(iz x4),(iz x5)])]))
 (none)))
 (none):=by kernel_rfl
noncomputable def X36_0_0 (d:Nat) (a0:List AV) :Ans :=
 C0.bool (pcall M d 46 [(.lst a0)]) fun b102 =>
  some (.bool b102)
theorem X36_0_0_ok (d:Nat) (a0:List AV) (b59:Bool) (x60 x61:Int) (v62:AV) (x63:Int) (b64 b65:Bool) (v66 v67 v68:AV) (b69:Bool) (v70 v71 v72 v73 v74 v75 v76 v77 v78 v79 v80 v81 v82 v83 v84 v85 v86 v87 v88 v89 v90 v91 v92 v93 v94 v95 v96 v97 v98 v99 v100 v101:AV):r36X0_0 C0 d a0 ⟨[(.lst a0),tz,(.bool b59),(iz x60),(iz x61),v62,(iz x63),(.bool b64),(.bool b65),v66,v67,v68,(.bool b69),v70,v71,v72,v73,v74,v75,v76,v77,v78,v79,v80,v81,v82,v83,v84,v85,v86,v87,v88,v89,v90,v91,v92,v93,v94,v95,v96,v97,v98,v99,v100,v101,tz,tz],[]⟩=X36_0_0 d a0 :=by
 unfold r36X0_0; refine Eq.trans (pl_len (by rfl)) ?_; refine yt ySs ?_; refine yt yB ?_; (iterate 2 (refine yt yI ?_)); refine yt yA ?_; refine yt yI ?_; (iterate 2 (refine yt yB ?_)); refine yt yAs ?_; refine yt yB ?_; refine yt yAs ?_; refine yt ySs ?_; refine Eq.trans (pl_sameH) ?_
 rfl
noncomputable def E36_0 (d:Nat) (a0:List AV) (b103:Bool):Ans :=
 some (.bool b103)
theorem E36_0_ok (d:Nat) (a0:List AV) (b103:Bool) (x104 x105:Int) (v106:AV) (x107:Int) (b108 b109:Bool) (v110 v111 v112:AV) (b113:Bool) (v114 v115 v116:AV) (x117:Int) (v118 v119:AV) (x120:Int) (b121 b122:Bool) (v123 v124 v125 v126 v127 v128:AV) (b129 b130:Bool) (v131 v132 v133 v134 v135 v136:AV) (b137 b138:Bool) (v139 v140 v141 v142 v143 v144:AV) (b145:Bool):r36E0 C0 d a0 ⟨[(.lst a0),tz,(.bool b103),(iz x104),(iz x105),v106,(iz x107),(.bool b108),(.bool b109),v110,v111,v112,(.bool b113),v114,v115,v116,(iz x117),v118,v119,(iz x120),(.bool b121),(.bool b122),v123,v124,v125,v126,v127,v128,(.bool b129),(.bool b130),v131,v132,v133,v134,v135,v136,(.bool b137),(.bool b138),v139,v140,v141,v142,v143,v144,(.bool b145),tz,tz],[]⟩=E36_0 d a0 b103:=by
 unfold r36E0; refine Eq.trans (pl_len (by rfl)) ?_; refine yt ySs ?_; refine yt yB ?_; (iterate 2 (refine yt yI ?_)); refine yt yA ?_; refine yt yI ?_; (iterate 2 (refine yt yB ?_)); refine yt yAs ?_; refine yt yB ?_; refine yt yAs ?_; refine yt yI ?_; refine yt yAs ?_; refine yt yI ?_; (iterate 2 (refine yt yB ?_)); refine yt yAs ?_; (iterate 2 (refine yt yB ?_)); refine yt yAs ?_; (iterate 2 (refine yt yB ?_)); refine yt yAs ?_; refine yt yB ?_; refine yt ySs ?_; refine Eq.trans (pl_sameH) ?_
 rfl
noncomputable def L36_0 (d:Nat) (a0:List AV):Nat→Int→Ans
 | 0,_=>none
 | n+1,x4 =>
 cnd (decide (x4 < (((List.length a0):Nat):Int)))
  (cnd (decide ((((List.length a0):Nat):Int)≤8))
  (cnd (decide ((0:Int)≤x4))
  (C0.agg 2 a0[(Int.toNat x4)]? fun l46 =>
  C0.int .i64 l46[0]? fun x47 =>
  C0.int .i64 l46[1]? fun x48 =>
  cnd (decide (x47 < (-1073741824)))
  (E36_0 d a0 false)
  (cnd (decide ((0:Int)≤x4))
  (C0.agg 2 a0[(Int.toNat x4)]? fun l49 =>
  C0.int .i64 l49[0]? fun x50 =>
  C0.int .i64 l49[1]? fun x51 =>
  cnd (decide (x50 > 1073741824))
  (E36_0 d a0 false)
  (cnd (decide ((0:Int)≤x4))
  (C0.agg 2 a0[(Int.toNat x4)]? fun l52 =>
  C0.int .i64 l52[0]? fun x53 =>
  C0.int .i64 l52[1]? fun x54 =>
  cnd (decide (x54 < (-1073741824)))
  (E36_0 d a0 false)
  (cnd (decide ((0:Int)≤x4))
  (C0.agg 2 a0[(Int.toNat x4)]? fun l55 =>
  C0.int .i64 l55[0]? fun x56 =>
  C0.int .i64 l55[1]? fun x57 =>
  cnd (decide (x57 > 1073741824))
  (E36_0 d a0 false)
  (L36_0 d a0 n (IntKind.wrap .i64 (x4+1))))
  (none)))
  (none)))
  (none)))
  (none))
  (X36_0_0 d a0))
  (X36_0_0 d a0)
theorem L36_0_s (d:Nat) (a0:List AV) (n:Nat) (x4:Int):L36_0 d a0 (n+1) x4=(cnd (decide (x4 < (((List.length a0):Nat):Int)))
 (cnd (decide ((((List.length a0):Nat):Int)≤8))
 (cnd (decide ((0:Int)≤x4))
 (C0.agg 2 a0[(Int.toNat x4)]? fun l46 =>
 C0.int .i64 l46[0]? fun x47 =>
 C0.int .i64 l46[1]? fun x48 =>
 cnd (decide (x47 < (-1073741824)))
 (E36_0 d a0 false)
 (cnd (decide ((0:Int)≤x4))
 (C0.agg 2 a0[(Int.toNat x4)]? fun l49 =>
 C0.int .i64 l49[0]? fun x50 =>
 C0.int .i64 l49[1]? fun x51 =>
 cnd (decide (x50 > 1073741824))
 (E36_0 d a0 false)
 (cnd (decide ((0:Int)≤x4))
 (C0.agg 2 a0[(Int.toNat x4)]? fun l52 =>
 C0.int .i64 l52[0]? fun x53 =>
 C0.int .i64 l52[1]? fun x54 =>
 cnd (decide (x54 < (-1073741824)))
 (E36_0 d a0 false)
 (cnd (decide ((0:Int)≤x4))
 (C0.agg 2 a0[(Int.toNat x4)]? fun l55 =>
 C0.int .i64 l55[0]? fun x56 =>
 C0.int .i64 l55[1]? fun x57 =>
 cnd (decide (x57 > 1073741824))
 (E36_0 d a0 false)
 (L36_0 d a0 n (IntKind.wrap .i64 (x4+1))))
 (none)))
 (none)))
 (none)))
 (none))
 (X36_0_0 d a0))
 (X36_0_0 d a0)):=by kernel_rfl
theorem it36_0 (d:Nat) (a0:List AV)  :∀ (n:Nat) (b3:Bool) (x4:Int) (v5 v6 v7 v8 v9 v10 v11 v12 v13 v14 v15 v16 v17 v18 v19 v20 v21 v22 v23 v24 v25 v26 v27 v28 v29 v30 v31 v32 v33 v34 v35 v36 v37 v38 v39 v40 v41 v42 v43 v44 v45:AV),C0.iter (r36R0 C0 d a0) n ⟨[(.lst a0),tz,(.bool b3),(iz x4),v5,v6,v7,v8,v9,v10,v11,v12,v13,v14,v15,v16,v17,v18,v19,v20,v21,v22,v23,v24,v25,v26,v27,v28,v29,v30,v31,v32,v33,v34,v35,v36,v37,v38,v39,v40,v41,v42,v43,v44,v45,tz,tz],[]⟩ [0] [r36X0_0 C0 d a0] (r36E0 C0 d a0)=L36_0 d a0 n x4:=by
 generalize hR:r36R0 C0 d a0=R
 intro n
 induction n with
 | zero=>intros; rfl
 | succ n ih =>
   intro b3 x4 v5 v6 v7 v8 v9 v10 v11 v12 v13 v14 v15 v16 v17 v18 v19 v20 v21 v22 v23 v24 v25 v26 v27 v28 v29 v30 v31 v32 v33 v34 v35 v36 v37 v38 v39 v40 v41 v42 v43 v44 v45
   simp only [it_ret] at ih
   rw [it_ret,xiter_s]
   refine Eq.trans (congrFun (congrFun hR.symm _) _) ?_
   unfold r36R0
   refine Eq.trans (pl_len (by rfl)) ?_; refine yt ySs ?_; refine yt yB ?_; refine yt yI ?_; refine yt yAs ?_; (iterate 32 (refine yt yA ?_)); refine yt ySs ?_; refine Eq.trans (pl_sameH) ?_
   simp only [kIter_n,kIter_x,kIter_r,kOut_x,kOut_r,xgo_hit,xgo_miss,ih,X36_0_0_ok d a0  ,E36_0_ok d a0  ]
   exact (L36_0_s d a0 n x4).symm
theorem q36 (d:Nat) (a0:List AV):xcall C0 M unr d 36 [(.lst a0)] =
 L36_0 d a0 10000000000000000000 0:=(r36 C0 d a0).trans (by simp only [it36_0])
noncomputable def X46_2_0 (d:Nat) (a0:List AV) (x2 x45:Int) (k42N:Int→Heap→Ans) (k42R:Bool→Heap→Ans) (H:Heap):Ans :=
 k42N (IntKind.wrap .i64 (x45+1)) H
theorem X46_2_0_ok (d:Nat) (a0:List AV) (x2 x29 x30 x31:Int) (b32:Bool) (v33 v34 v35 v36 v37 v38 v39 v40:AV) (k42:Ex→St→Ans) (x45:Int) (v54 v55:AV) (k42N:Int→Heap→Ans) (k42R:Bool→Heap→Ans) (hk42N:∀ (b44:Bool) (x45:Int) (v46 v47 v48 v49 v50 v51 v52 v53 v54 v55 v56 v57 v58 v59 v60 v61 v62 v63 v64 v65 v66 v67 v68 v69 v70 v71 v72 v73 v74 v75 v76 v77 v78 v79 v80 v81 v82 v83 v84 v85 v86 v87 v88 v89 v90 v91 v92 v93 v94 v95 v96 v97 v98 v99 v100 v101 v102 v103 v104 v105 v106 v107 v108 v109 v110 v111 v112 v113 v114 v115 v116 v117 v118 v119 v120:AV) (H:Heap),k42 .normal ⟨[(.lst a0),tz,(bz b44),(iz x2),(iz x29),(iz x45),v46,v47,v48,v49,v50,(.lst a0),(iz x2),(iz x2),(bz (decide (x2 < 3))),bf,(iz x2),(bz (decide (x2 > 8))),bf,(iz x30),(iz x31),(bz b32),v33,v34,v35,v36,v37,v38,v39,v40,v51,v52,v53,v54,v55,v56,v57,v58,v59,v60,v61,v62,v63,v64,v65,v66,v67,v68,v69,v70,v71,v72,v73,v74,v75,v76,v77,v78,v79,v80,v81,v82,v83,v84,v85,v86,v87,v88,v89,v90,v91,v92,v93,v94,v95,v96,v97,v98,v99,v100,v101,v102,v103,v104,v105,v106,v107,v108,v109,v110,v111,v112,v113,v114,v115,v116,v117,v118,v119,v120],H⟩=k42N x45 H) (hk42R:∀ (b578:Bool) (x579 x580:Int) (v581 v582 v583 v584:AV) (x585 x586:Int) (b587:Bool) (v588 v589:AV) (x590 x591 x592 x593:Int) (b594:Bool) (v595 v596 v597:AV) (x598:Int) (v599:AV) (x601 x602:Int) (v603:AV) (x604 x606 x607:Int) (v608:AV) (x609:Int) (v610:AV) (x612 x613:Int) (v614:AV) (x615 x617 x618:Int) (b619:Bool) (x621 x622 x624 x625:Int) (b626:Bool) (v627 v628 v629 v630 v631 v632 v633 v634 v635 v636 v637 v638 v639 v640 v641 v642 v643 v644 v645 v646 v647 v648 v649 v650 v651 v652 v653 v654 v655 v656 v657 v658 v659 v660 v661 v662 v663 v664 v665 v666:AV) (H:Heap),k42 .ret ⟨[(.lst a0),tz,(bz b578),(iz x2),(iz x29),(iz x579),(iz x580),v581,v582,v583,v584,(.lst a0),(iz x2),(iz x2),(bz (decide (x2 < 3))),bf,(iz x2),(bz (decide (x2 > 8))),bf,(iz x30),(iz x31),(bz b32),v33,v34,v35,v36,v37,v38,v39,v40,(iz x585),(iz x586),(bz b587),v588,v589,(iz x590),(iz x591),(iz x592),(iz x593),(bz b594),v595,v596,v597,(iz x598),v599,(.agg [(iz x601),(iz x602)]),v603,(iz x604),(.agg [(iz x606),(iz x607)]),v608,(iz x609),v610,(.agg [(iz x612),(iz x613)]),v614,(iz x615),(.agg [(iz x617),(iz x618)]),(bz b619),(.agg [(iz x621),(iz x622)]),(.agg [(iz x624),(iz x625)]),(bz b626),v627,v628,v629,v630,v631,v632,v633,v634,v635,v636,v637,v638,v639,v640,v641,v642,v643,v644,v645,v646,v647,v648,v649,v650,v651,v652,v653,v654,v655,v656,v657,v658,v659,v660,v661,v662,v663,v664,v665,v666],H⟩=k42R b578 H) (b350:Bool) (x351:Int) (v352 v353 v354 v355:AV) (x356 x357:Int) (b358:Bool) (v359 v360 v361 v362 v363 v364 v365 v366 v367 v368 v369 v370 v371 v372 v373 v374 v375 v376 v377 v378 v379 v380 v381 v382 v383 v384 v385 v386 v387 v388 v389 v390 v391 v392 v393 v394 v395 v396 v397 v398 v399 v400 v401 v402 v403 v404 v405 v406 v407 v408 v409 v410 v411 v412 v413 v414 v415 v416 v417 v418:AV) (H:Heap):r46X2_0 C0 d a0 x2 x29 x30 x31 b32 v33 v34 v35 v36 v37 v38 v39 v40 k42 x45 v54 v55 ⟨[(.lst a0),tz,(bz b350),(iz x2),(iz x29),(iz x45),(iz x351),v352,v353,v354,v355,(.lst a0),(iz x2),(iz x2),(bz (decide (x2 < 3))),bf,(iz x2),(bz (decide (x2 > 8))),bf,(iz x30),(iz x31),(bz b32),v33,v34,v35,v36,v37,v38,v39,v40,(iz x45),(iz x2),bt,v54,v55,(iz x45),(iz (IntKind.wrap .i64 (x45+1))),(iz x356),(iz x357),(bz b358),v359,v360,v361,v362,v363,v364,v365,v366,v367,v368,v369,v370,v371,v372,v373,v374,v375,v376,v377,v378,v379,v380,v381,v382,v383,v384,v385,v386,v387,v388,v389,v390,v391,v392,v393,v394,v395,v396,v397,v398,v399,v400,v401,v402,v403,v404,v405,v406,v407,v408,v409,v410,v411,v412,v413,v414,v415,v416,v417,v418],H⟩=X46_2_0 d a0 x2 x45 k42N k42R H:=by
 try dsimp only at hk42N
 try dsimp only at hk42R
 unfold r46X2_0; refine Eq.trans (pl_len (by rfl)) ?_; refine yt ySs ?_; refine yt yB ?_; refine yt ySs ?_; refine yt yI ?_; (iterate 4 (refine yt yA ?_)); refine yt ySs ?_; (iterate 2 (refine yt yI ?_)); refine yt yB ?_; (iterate 60 (refine yt yA ?_))
 first | (simp only [hk42N,hk42R] <;> rfl) | rfl
noncomputable def E46_2 (d:Nat) (a0:List AV) (x2 x45:Int) (k42N:Int→Heap→Ans) (k42R:Bool→Heap→Ans) (b419:Bool) (H:Heap):Ans :=
 k42R b419 H
theorem E46_2_ok (d:Nat) (a0:List AV) (x2 x29 x30 x31:Int) (b32:Bool) (v33 v34 v35 v36 v37 v38 v39 v40:AV) (k42:Ex→St→Ans) (x45:Int) (v54 v55:AV) (k42N:Int→Heap→Ans) (k42R:Bool→Heap→Ans) (hk42N:∀ (b44:Bool) (x45:Int) (v46 v47 v48 v49 v50 v51 v52 v53 v54 v55 v56 v57 v58 v59 v60 v61 v62 v63 v64 v65 v66 v67 v68 v69 v70 v71 v72 v73 v74 v75 v76 v77 v78 v79 v80 v81 v82 v83 v84 v85 v86 v87 v88 v89 v90 v91 v92 v93 v94 v95 v96 v97 v98 v99 v100 v101 v102 v103 v104 v105 v106 v107 v108 v109 v110 v111 v112 v113 v114 v115 v116 v117 v118 v119 v120:AV) (H:Heap),k42 .normal ⟨[(.lst a0),tz,(bz b44),(iz x2),(iz x29),(iz x45),v46,v47,v48,v49,v50,(.lst a0),(iz x2),(iz x2),(bz (decide (x2 < 3))),bf,(iz x2),(bz (decide (x2 > 8))),bf,(iz x30),(iz x31),(bz b32),v33,v34,v35,v36,v37,v38,v39,v40,v51,v52,v53,v54,v55,v56,v57,v58,v59,v60,v61,v62,v63,v64,v65,v66,v67,v68,v69,v70,v71,v72,v73,v74,v75,v76,v77,v78,v79,v80,v81,v82,v83,v84,v85,v86,v87,v88,v89,v90,v91,v92,v93,v94,v95,v96,v97,v98,v99,v100,v101,v102,v103,v104,v105,v106,v107,v108,v109,v110,v111,v112,v113,v114,v115,v116,v117,v118,v119,v120],H⟩=k42N x45 H) (hk42R:∀ (b578:Bool) (x579 x580:Int) (v581 v582 v583 v584:AV) (x585 x586:Int) (b587:Bool) (v588 v589:AV) (x590 x591 x592 x593:Int) (b594:Bool) (v595 v596 v597:AV) (x598:Int) (v599:AV) (x601 x602:Int) (v603:AV) (x604 x606 x607:Int) (v608:AV) (x609:Int) (v610:AV) (x612 x613:Int) (v614:AV) (x615 x617 x618:Int) (b619:Bool) (x621 x622 x624 x625:Int) (b626:Bool) (v627 v628 v629 v630 v631 v632 v633 v634 v635 v636 v637 v638 v639 v640 v641 v642 v643 v644 v645 v646 v647 v648 v649 v650 v651 v652 v653 v654 v655 v656 v657 v658 v659 v660 v661 v662 v663 v664 v665 v666:AV) (H:Heap),k42 .ret ⟨[(.lst a0),tz,(bz b578),(iz x2),(iz x29),(iz x579),(iz x580),v581,v582,v583,v584,(.lst a0),(iz x2),(iz x2),(bz (decide (x2 < 3))),bf,(iz x2),(bz (decide (x2 > 8))),bf,(iz x30),(iz x31),(bz b32),v33,v34,v35,v36,v37,v38,v39,v40,(iz x585),(iz x586),(bz b587),v588,v589,(iz x590),(iz x591),(iz x592),(iz x593),(bz b594),v595,v596,v597,(iz x598),v599,(.agg [(iz x601),(iz x602)]),v603,(iz x604),(.agg [(iz x606),(iz x607)]),v608,(iz x609),v610,(.agg [(iz x612),(iz x613)]),v614,(iz x615),(.agg [(iz x617),(iz x618)]),(bz b619),(.agg [(iz x621),(iz x622)]),(.agg [(iz x624),(iz x625)]),(bz b626),v627,v628,v629,v630,v631,v632,v633,v634,v635,v636,v637,v638,v639,v640,v641,v642,v643,v644,v645,v646,v647,v648,v649,v650,v651,v652,v653,v654,v655,v656,v657,v658,v659,v660,v661,v662,v663,v664,v665,v666],H⟩=k42R b578 H) (b419:Bool) (x420:Int) (v421 v422 v423 v424:AV) (x425 x426:Int) (b427:Bool) (v428 v429 v430:AV) (x431:Int) (v432:AV) (x434 x435:Int) (v436:AV) (x437 x439 x440:Int) (v441:AV) (x442:Int) (v443:AV) (x445 x446:Int) (v447:AV) (x448 x450 x451:Int) (b452:Bool) (x454 x455 x457 x458:Int) (b459:Bool) (v460 v461 v462 v463 v464 v465 v466 v467 v468 v469 v470 v471 v472 v473 v474 v475 v476 v477 v478 v479 v480 v481 v482 v483 v484 v485 v486 v487 v488 v489 v490 v491 v492 v493 v494 v495 v496 v497 v498 v499:AV) (H:Heap):r46E2 C0 d a0 x2 x29 x30 x31 b32 v33 v34 v35 v36 v37 v38 v39 v40 k42 x45 v54 v55 ⟨[(.lst a0),tz,(bz b419),(iz x2),(iz x29),(iz x45),(iz x420),v421,v422,v423,v424,(.lst a0),(iz x2),(iz x2),(bz (decide (x2 < 3))),bf,(iz x2),(bz (decide (x2 > 8))),bf,(iz x30),(iz x31),(bz b32),v33,v34,v35,v36,v37,v38,v39,v40,(iz x45),(iz x2),bt,v54,v55,(iz x45),(iz (IntKind.wrap .i64 (x45+1))),(iz x425),(iz x426),(bz b427),v428,v429,v430,(iz x431),v432,(.agg [(iz x434),(iz x435)]),v436,(iz x437),(.agg [(iz x439),(iz x440)]),v441,(iz x442),v443,(.agg [(iz x445),(iz x446)]),v447,(iz x448),(.agg [(iz x450),(iz x451)]),(bz b452),(.agg [(iz x454),(iz x455)]),(.agg [(iz x457),(iz x458)]),(bz b459),v460,v461,v462,v463,v464,v465,v466,v467,v468,v469,v470,v471,v472,v473,v474,v475,v476,v477,v478,v479,v480,v481,v482,v483,v484,v485,v486,v487,v488,v489,v490,v491,v492,v493,v494,v495,v496,v497,v498,v499],H⟩=E46_2 d a0 x2 x45 k42N k42R b419 H:=by
 try dsimp only at hk42N
 try dsimp only at hk42R
 unfold r46E2; refine Eq.trans (pl_len (by rfl)) ?_; refine yt ySs ?_; refine yt yB ?_; refine yt ySs ?_; refine yt yI ?_; (iterate 4 (refine yt yA ?_)); refine yt ySs ?_; (iterate 2 (refine yt yI ?_)); refine yt yB ?_; (iterate 3 (refine yt yA ?_)); refine yt yI ?_; refine yt yA ?_; refine yt yG ?_; (iterate 2 (refine yt yI ?_)); refine yt yA ?_; refine yt yI ?_; refine yt yG ?_; (iterate 2 (refine yt yI ?_)); refine yt yA ?_; refine yt yI ?_; refine yt yA ?_; refine yt yG ?_; (iterate 2 (refine yt yI ?_)); refine yt yA ?_; refine yt yI ?_; refine yt yG ?_; (iterate 2 (refine yt yI ?_)); refine yt yB ?_; refine yt yG ?_; (iterate 2 (refine yt yI ?_)); refine yt yG ?_; (iterate 2 (refine yt yI ?_)); refine yt yB ?_; (iterate 40 (refine yt yA ?_))
 first | (simp only [hk42N,hk42R] <;> rfl) | rfl
noncomputable def L46_2 (d:Nat) (a0:List AV) (x2 x45:Int) (k42N:Int→Heap→Ans) (k42R:Bool→Heap→Ans):Nat→Int→Heap→Ans
 | 0,_,_=>none
 | n+1,x125,H =>
 cnd (decide (x125 < x2))
  (C0.hop H (.ixAS .any 2 (.v (.lst a0)) (.v (iz x45))) fun v193 h194 =>
  C0.hop h194 (.load true 2 (.v v193)) fun v195 h196 =>
  C0.agg 2 (some v195) fun l197 =>
  C0.int .i64 l197[0]? fun x198 =>
  C0.int .i64 l197[1]? fun x199 =>
  C0.snp h196 [(.lst a0),(iz x45)] fun l200 b201 =>
  C0.agg 2 (pcall M d 53 l200) fun l202 =>
  C0.int .i64 l202[0]? fun x203 =>
  C0.int .i64 l202[1]? fun x204 =>
  cnd (b201 || true)
  (C0.hop h196 (.ixAS .any 2 (.v (.lst a0)) (.v (iz x125))) fun v205 h206 =>
  C0.hop h206 (.load true 2 (.v v205)) fun v207 h208 =>
  C0.agg 2 (some v207) fun l209 =>
  C0.int .i64 l209[0]? fun x210 =>
  C0.int .i64 l209[1]? fun x211 =>
  C0.snp h208 [(.lst a0),(iz x125)] fun l212 b213 =>
  C0.agg 2 (pcall M d 53 l212) fun l214 =>
  C0.int .i64 l214[0]? fun x215 =>
  C0.int .i64 l214[1]? fun x216 =>
  cnd (b213 || true)
  (C0.hop h208 (.alloc E62) fun v217 h218 =>
  C0.hop h218 (.alloc E62) fun v219 h220 =>
  C0.hop h220 (.alloc E62) fun v221 h222 =>
  C0.hop h222 (.alloc E62) fun v223 h224 =>
  C0.disj (.addr v205) (.addr v217) <|
  C0.hop h224 (.store 2 (.v v217) (.v (.agg [(iz x198),(iz x199)]))) fun v225 h226 =>
  C0.disj (.addr v205) (.addr v219) <|
  C0.hop h226 (.store 2 (.v v219) (.v (.agg [(iz x203),(iz x204)]))) fun v227 h228 =>
  C0.hop h228 (.store 2 (.v v221) (.v (.agg [(iz x210),(iz x211)]))) fun v229 h230 =>
  C0.hop h230 (.store 2 (.v v223) (.v (.agg [(iz x215),(iz x216)]))) fun v231 h232 =>
  C0.hop h232 (.load true 2 (.v v217)) fun v233 h234 =>
  C0.agg 2 (some v233) fun l235 =>
  C0.int .i64 l235[0]? fun x236 =>
  C0.int .i64 l235[1]? fun x237 =>
  C0.hop h234 (.load true 2 (.v v221)) fun v238 h239 =>
  C0.agg 2 (some v238) fun l240 =>
  C0.int .i64 l240[0]? fun x241 =>
  C0.int .i64 l240[1]? fun x242 =>
  cnd (xor false ((x236 == x241) && ((x237 == x242) && true)))
  (E46_2 d a0 x2 x45 k42N k42R false h239)
  (cnd (x125 == (IntKind.wrap .i64 (x45+1)))
  (C0.hop h239 (.load true 2 (.v v223)) fun v243 h244 =>
  C0.agg 2 (some v243) fun l245 =>
  C0.int .i64 l245[0]? fun x246 =>
  C0.int .i64 l245[1]? fun x247 =>
  C0.hop h244 (.load true 2 (.v v217)) fun v248 h249 =>
  C0.agg 2 (some v248) fun l250 =>
  C0.int .i64 l250[0]? fun x251 =>
  C0.int .i64 l250[1]? fun x252 =>
  C0.hop h249 (.load true 2 (.v v219)) fun v253 h254 =>
  C0.agg 2 (some v253) fun l255 =>
  C0.int .i64 l255[0]? fun x256 =>
  C0.int .i64 l255[1]? fun x257 =>
  C0.bool (pcall M d 54 [(.agg [(iz x246),(iz x247)]),(.agg [(iz x251),(iz x252)]),(.agg [(iz x256),(iz x257)])]) fun b258 =>
  cnd b258
  (E46_2 d a0 x2 x45 k42N k42R false h254)
  (C0.hop h254 (.load true 2 (.v v217)) fun v259 h260 =>
  C0.agg 2 (some v259) fun l261 =>
  C0.int .i64 l261[0]? fun x262 =>
  C0.int .i64 l261[1]? fun x263 =>
  C0.hop h260 (.load true 2 (.v v221)) fun v264 h265 =>
  C0.agg 2 (some v264) fun l266 =>
  C0.int .i64 l266[0]? fun x267 =>
  C0.int .i64 l266[1]? fun x268 =>
  C0.hop h265 (.load true 2 (.v v223)) fun v269 h270 =>
  C0.agg 2 (some v269) fun l271 =>
  C0.int .i64 l271[0]? fun x272 =>
  C0.int .i64 l271[1]? fun x273 =>
  C0.bool (pcall M d 54 [(.agg [(iz x262),(iz x263)]),(.agg [(iz x267),(iz x268)]),(.agg [(iz x272),(iz x273)])]) fun b274 =>
  cnd b274
  (E46_2 d a0 x2 x45 k42N k42R false h270)
  (L46_2 d a0 x2 x45 k42N k42R n (IntKind.wrap .i64 (x125+1)) h270)))
  (cnd (x45 == 0)
  (cnd (x125 == (IntKind.wrap .i64 (x2 - 1)))
  (C0.hop h239 (.load true 2 (.v v221)) fun v275 h276 =>
  C0.agg 2 (some v275) fun l277 =>
  C0.int .i64 l277[0]? fun x278 =>
  C0.int .i64 l277[1]? fun x279 =>
  C0.hop h276 (.load true 2 (.v v217)) fun v280 h281 =>
  C0.agg 2 (some v280) fun l282 =>
  C0.int .i64 l282[0]? fun x283 =>
  C0.int .i64 l282[1]? fun x284 =>
  C0.hop h281 (.load true 2 (.v v219)) fun v285 h286 =>
  C0.agg 2 (some v285) fun l287 =>
  C0.int .i64 l287[0]? fun x288 =>
  C0.int .i64 l287[1]? fun x289 =>
  C0.bool (pcall M d 54 [(.agg [(iz x278),(iz x279)]),(.agg [(iz x283),(iz x284)]),(.agg [(iz x288),(iz x289)])]) fun b290 =>
  cnd b290
  (E46_2 d a0 x2 x45 k42N k42R false h286)
  (C0.hop h286 (.load true 2 (.v v219)) fun v291 h292 =>
  C0.agg 2 (some v291) fun l293 =>
  C0.int .i64 l293[0]? fun x294 =>
  C0.int .i64 l293[1]? fun x295 =>
  C0.hop h292 (.load true 2 (.v v221)) fun v296 h297 =>
  C0.agg 2 (some v296) fun l298 =>
  C0.int .i64 l298[0]? fun x299 =>
  C0.int .i64 l298[1]? fun x300 =>
  C0.hop h297 (.load true 2 (.v v223)) fun v301 h302 =>
  C0.agg 2 (some v301) fun l303 =>
  C0.int .i64 l303[0]? fun x304 =>
  C0.int .i64 l303[1]? fun x305 =>
  C0.bool (pcall M d 54 [(.agg [(iz x294),(iz x295)]),(.agg [(iz x299),(iz x300)]),(.agg [(iz x304),(iz x305)])]) fun b306 =>
  cnd b306
  (E46_2 d a0 x2 x45 k42N k42R false h302)
  (L46_2 d a0 x2 x45 k42N k42R n (IntKind.wrap .i64 (x125+1)) h302)))
  (C0.hop h239 (.load true 2 (.v v217)) fun v307 h308 =>
  C0.agg 2 (some v307) fun l309 =>
  C0.int .i64 l309[0]? fun x310 =>
  C0.int .i64 l309[1]? fun x311 =>
  C0.hop h308 (.load true 2 (.v v219)) fun v312 h313 =>
  C0.agg 2 (some v312) fun l314 =>
  C0.int .i64 l314[0]? fun x315 =>
  C0.int .i64 l314[1]? fun x316 =>
  C0.hop h313 (.load true 2 (.v v221)) fun v317 h318 =>
  C0.agg 2 (some v317) fun l319 =>
  C0.int .i64 l319[0]? fun x320 =>
  C0.int .i64 l319[1]? fun x321 =>
  C0.hop h318 (.load true 2 (.v v223)) fun v322 h323 =>
  C0.agg 2 (some v322) fun l324 =>
  C0.int .i64 l324[0]? fun x325 =>
  C0.int .i64 l324[1]? fun x326 =>
  C0.bool (pcall M d 55 [(.agg [(iz x310),(iz x311)]),(.agg [(iz x315),(iz x316)]),(.agg [(iz x320),(iz x321)]),(.agg [(iz x325),(iz x326)])]) fun b327 =>
  cnd b327
  (E46_2 d a0 x2 x45 k42N k42R false h323)
  (L46_2 d a0 x2 x45 k42N k42R n (IntKind.wrap .i64 (x125+1)) h323)))
  (C0.hop h239 (.load true 2 (.v v217)) fun v328 h329 =>
  C0.agg 2 (some v328) fun l330 =>
  C0.int .i64 l330[0]? fun x331 =>
  C0.int .i64 l330[1]? fun x332 =>
  C0.hop h329 (.load true 2 (.v v219)) fun v333 h334 =>
  C0.agg 2 (some v333) fun l335 =>
  C0.int .i64 l335[0]? fun x336 =>
  C0.int .i64 l335[1]? fun x337 =>
  C0.hop h334 (.load true 2 (.v v221)) fun v338 h339 =>
  C0.agg 2 (some v338) fun l340 =>
  C0.int .i64 l340[0]? fun x341 =>
  C0.int .i64 l340[1]? fun x342 =>
  C0.hop h339 (.load true 2 (.v v223)) fun v343 h344 =>
  C0.agg 2 (some v343) fun l345 =>
  C0.int .i64 l345[0]? fun x346 =>
  C0.int .i64 l345[1]? fun x347 =>
  C0.bool (pcall M d 55 [(.agg [(iz x331),(iz x332)]),(.agg [(iz x336),(iz x337)]),(.agg [(iz x341),(iz x342)]),(.agg [(iz x346),(iz x347)])]) fun b348 =>
  cnd b348
  (E46_2 d a0 x2 x45 k42N k42R false h344)
  (L46_2 d a0 x2 x45 k42N k42R n (IntKind.wrap .i64 (x125+1)) h344)))))
  (none))
  (none))
  (X46_2_0 d a0 x2 x45 k42N k42R H)
theorem L46_2_s (d:Nat) (a0:List AV) (x2 x45:Int) (k42N:Int→Heap→Ans) (k42R:Bool→Heap→Ans) (n:Nat) (x125:Int) (H:Heap):L46_2 d a0 x2 x45 k42N k42R (n+1) x125 H=(cnd (decide (x125 < x2))
 (C0.hop H (.ixAS .any 2 (.v (.lst a0)) (.v (iz x45))) fun v193 h194 =>
 C0.hop h194 (.load true 2 (.v v193)) fun v195 h196 =>
 C0.agg 2 (some v195) fun l197 =>
 C0.int .i64 l197[0]? fun x198 =>
 C0.int .i64 l197[1]? fun x199 =>
 C0.snp h196 [(.lst a0),(iz x45)] fun l200 b201 =>
 C0.agg 2 (pcall M d 53 l200) fun l202 =>
 C0.int .i64 l202[0]? fun x203 =>
 C0.int .i64 l202[1]? fun x204 =>
 cnd (b201 || true)
 (C0.hop h196 (.ixAS .any 2 (.v (.lst a0)) (.v (iz x125))) fun v205 h206 =>
 C0.hop h206 (.load true 2 (.v v205)) fun v207 h208 =>
 C0.agg 2 (some v207) fun l209 =>
 C0.int .i64 l209[0]? fun x210 =>
 C0.int .i64 l209[1]? fun x211 =>
 C0.snp h208 [(.lst a0),(iz x125)] fun l212 b213 =>
 C0.agg 2 (pcall M d 53 l212) fun l214 =>
 C0.int .i64 l214[0]? fun x215 =>
 C0.int .i64 l214[1]? fun x216 =>
 cnd (b213 || true)
 (C0.hop h208 (.alloc E62) fun v217 h218 =>
 C0.hop h218 (.alloc E62) fun v219 h220 =>
 C0.hop h220 (.alloc E62) fun v221 h222 =>
 C0.hop h222 (.alloc E62) fun v223 h224 =>
 C0.disj (.addr v205) (.addr v217) <|
 C0.hop h224 (.store 2 (.v v217) (.v (.agg [(iz x198),(iz x199)]))) fun v225 h226 =>
 C0.disj (.addr v205) (.addr v219) <|
 C0.hop h226 (.store 2 (.v v219) (.v (.agg [(iz x203),(iz x204)]))) fun v227 h228 =>
 C0.hop h228 (.store 2 (.v v221) (.v (.agg [(iz x210),(iz x211)]))) fun v229 h230 =>
 C0.hop h230 (.store 2 (.v v223) (.v (.agg [(iz x215),(iz x216)]))) fun v231 h232 =>
 C0.hop h232 (.load true 2 (.v v217)) fun v233 h234 =>
 C0.agg 2 (some v233) fun l235 =>
 C0.int .i64 l235[0]? fun x236 =>
 C0.int .i64 l235[1]? fun x237 =>
 C0.hop h234 (.load true 2 (.v v221)) fun v238 h239 =>
 C0.agg 2 (some v238) fun l240 =>
 C0.int .i64 l240[0]? fun x241 =>
 C0.int .i64 l240[1]? fun x242 =>
 cnd (xor false ((x236 == x241) && ((x237 == x242) && true)))
 (E46_2 d a0 x2 x45 k42N k42R false h239)
 (cnd (x125 == (IntKind.wrap .i64 (x45+1)))
 (C0.hop h239 (.load true 2 (.v v223)) fun v243 h244 =>
 C0.agg 2 (some v243) fun l245 =>
 C0.int .i64 l245[0]? fun x246 =>
 C0.int .i64 l245[1]? fun x247 =>
 C0.hop h244 (.load true 2 (.v v217)) fun v248 h249 =>
 C0.agg 2 (some v248) fun l250 =>
 C0.int .i64 l250[0]? fun x251 =>
 C0.int .i64 l250[1]? fun x252 =>
 C0.hop h249 (.load true 2 (.v v219)) fun v253 h254 =>
 C0.agg 2 (some v253) fun l255 =>
 C0.int .i64 l255[0]? fun x256 =>
 C0.int .i64 l255[1]? fun x257 =>
 C0.bool (pcall M d 54 [(.agg [(iz x246),(iz x247)]),(.agg [(iz x251),(iz x252)]),(.agg [(iz x256),(iz x257)])]) fun b258 =>
 cnd b258
 (E46_2 d a0 x2 x45 k42N k42R false h254)
 (C0.hop h254 (.load true 2 (.v v217)) fun v259 h260 =>
 C0.agg 2 (some v259) fun l261 =>
 C0.int .i64 l261[0]? fun x262 =>
 C0.int .i64 l261[1]? fun x263 =>
 C0.hop h260 (.load true 2 (.v v221)) fun v264 h265 =>
 C0.agg 2 (some v264) fun l266 =>
 C0.int .i64 l266[0]? fun x267 =>
 C0.int .i64 l266[1]? fun x268 =>
 C0.hop h265 (.load true 2 (.v v223)) fun v269 h270 =>
 C0.agg 2 (some v269) fun l271 =>
 C0.int .i64 l271[0]? fun x272 =>
 C0.int .i64 l271[1]? fun x273 =>
 C0.bool (pcall M d 54 [(.agg [(iz x262),(iz x263)]),(.agg [(iz x267),(iz x268)]),(.agg [(iz x272),(iz x273)])]) fun b274 =>
 cnd b274
 (E46_2 d a0 x2 x45 k42N k42R false h270)
 (L46_2 d a0 x2 x45 k42N k42R n (IntKind.wrap .i64 (x125+1)) h270)))
 (cnd (x45 == 0)
 (cnd (x125 == (IntKind.wrap .i64 (x2 - 1)))
 (C0.hop h239 (.load true 2 (.v v221)) fun v275 h276 =>
 C0.agg 2 (some v275) fun l277 =>
 C0.int .i64 l277[0]? fun x278 =>
 C0.int .i64 l277[1]? fun x279 =>
 C0.hop h276 (.load true 2 (.v v217)) fun v280 h281 =>
 C0.agg 2 (some v280) fun l282 =>
 C0.int .i64 l282[0]? fun x283 =>
 C0.int .i64 l282[1]? fun x284 =>
 C0.hop h281 (.load true 2 (.v v219)) fun v285 h286 =>
 C0.agg 2 (some v285) fun l287 =>
 C0.int .i64 l287[0]? fun x288 =>
 C0.int .i64 l287[1]? fun x289 =>
 C0.bool (pcall M d 54 [(.agg [(iz x278),(iz x279)]),(.agg [(iz x283),(iz x284)]),(.agg [(iz x288),(iz x289)])]) fun b290 =>
 cnd b290
 (E46_2 d a0 x2 x45 k42N k42R false h286)
 (C0.hop h286 (.load true 2 (.v v219)) fun v291 h292 =>
 C0.agg 2 (some v291) fun l293 =>
 C0.int .i64 l293[0]? fun x294 =>
 C0.int .i64 l293[1]? fun x295 =>
 C0.hop h292 (.load true 2 (.v v221)) fun v296 h297 =>
 C0.agg 2 (some v296) fun l298 =>
 C0.int .i64 l298[0]? fun x299 =>
 C0.int .i64 l298[1]? fun x300 =>
 C0.hop h297 (.load true 2 (.v v223)) fun v301 h302 =>
 C0.agg 2 (some v301) fun l303 =>
 C0.int .i64 l303[0]? fun x304 =>
 C0.int .i64 l303[1]? fun x305 =>
 C0.bool (pcall M d 54 [(.agg [(iz x294),(iz x295)]),(.agg [(iz x299),(iz x300)]),(.agg [(iz x304),(iz x305)])]) fun b306 =>
 cnd b306
 (E46_2 d a0 x2 x45 k42N k42R false h302)
 (L46_2 d a0 x2 x45 k42N k42R n (IntKind.wrap .i64 (x125+1)) h302)))
 (C0.hop h239 (.load true 2 (.v v217)) fun v307 h308 =>
 C0.agg 2 (some v307) fun l309 =>
 C0.int .i64 l309[0]? fun x310 =>
 C0.int .i64 l309[1]? fun x311 =>
 C0.hop h308 (.load true 2 (.v v219)) fun v312 h313 =>
 C0.agg 2 (some v312) fun l314 =>
 C0.int .i64 l314[0]? fun x315 =>
 C0.int .i64 l314[1]? fun x316 =>
 C0.hop h313 (.load true 2 (.v v221)) fun v317 h318 =>
 C0.agg 2 (some v317) fun l319 =>
 C0.int .i64 l319[0]? fun x320 =>
 C0.int .i64 l319[1]? fun x321 =>
 C0.hop h318 (.load true 2 (.v v223)) fun v322 h323 =>
 C0.agg 2 (some v322) fun l324 =>
 C0.int .i64 l324[0]? fun x325 =>
 C0.int .i64 l324[1]? fun x326 =>
 C0.bool (pcall M d 55 [(.agg [(iz x310),(iz x311)]),(.agg [(iz x315),(iz x316)]),(.agg [(iz x320),(iz x321)]),(.agg [(iz x325),(iz x326)])]) fun b327 =>
 cnd b327
 (E46_2 d a0 x2 x45 k42N k42R false h323)
 (L46_2 d a0 x2 x45 k42N k42R n (IntKind.wrap .i64 (x125+1)) h323)))
 (C0.hop h239 (.load true 2 (.v v217)) fun v328 h329 =>
 C0.agg 2 (some v328) fun l330 =>
 C0.int .i64 l330[0]? fun x331 =>
 C0.int .i64 l330[1]? fun x332 =>
 C0.hop h329 (.load true 2 (.v v219)) fun v333 h334 =>
 C0.agg 2 (some v333) fun l335 =>
 C0.int .i64 l335[0]? fun x336 =>
 C0.int .i64 l335[1]? fun x337 =>
 C0.hop h334 (.load true 2 (.v v221)) fun v338 h339 =>
 C0.agg 2 (some v338) fun l340 =>
 C0.int .i64 l340[0]? fun x341 =>
 C0.int .i64 l340[1]? fun x342 =>
 C0.hop h339 (.load true 2 (.v v223)) fun v343 h344 =>
 C0.agg 2 (some v343) fun l345 =>
 C0.int .i64 l345[0]? fun x346 =>
 C0.int .i64 l345[1]? fun x347 =>
 C0.bool (pcall M d 55 [(.agg [(iz x331),(iz x332)]),(.agg [(iz x336),(iz x337)]),(.agg [(iz x341),(iz x342)]),(.agg [(iz x346),(iz x347)])]) fun b348 =>
 cnd b348
 (E46_2 d a0 x2 x45 k42N k42R false h344)
 (L46_2 d a0 x2 x45 k42N k42R n (IntKind.wrap .i64 (x125+1)) h344)))))
 (none))
 (none))
 (X46_2_0 d a0 x2 x45 k42N k42R H)):=by kernel_rfl
theorem it46_2 (d:Nat) (a0:List AV) (x2 x29 x30 x31:Int) (b32:Bool) (v33 v34 v35 v36 v37 v38 v39 v40:AV) (k42:Ex→St→Ans) (x45:Int) (v54 v55:AV) (k42N:Int→Heap→Ans) (k42R:Bool→Heap→Ans) (hk42N:∀ (b44:Bool) (x45:Int) (v46 v47 v48 v49 v50 v51 v52 v53 v54 v55 v56 v57 v58 v59 v60 v61 v62 v63 v64 v65 v66 v67 v68 v69 v70 v71 v72 v73 v74 v75 v76 v77 v78 v79 v80 v81 v82 v83 v84 v85 v86 v87 v88 v89 v90 v91 v92 v93 v94 v95 v96 v97 v98 v99 v100 v101 v102 v103 v104 v105 v106 v107 v108 v109 v110 v111 v112 v113 v114 v115 v116 v117 v118 v119 v120:AV) (H:Heap),k42 .normal ⟨[(.lst a0),tz,(bz b44),(iz x2),(iz x29),(iz x45),v46,v47,v48,v49,v50,(.lst a0),(iz x2),(iz x2),(bz (decide (x2 < 3))),bf,(iz x2),(bz (decide (x2 > 8))),bf,(iz x30),(iz x31),(bz b32),v33,v34,v35,v36,v37,v38,v39,v40,v51,v52,v53,v54,v55,v56,v57,v58,v59,v60,v61,v62,v63,v64,v65,v66,v67,v68,v69,v70,v71,v72,v73,v74,v75,v76,v77,v78,v79,v80,v81,v82,v83,v84,v85,v86,v87,v88,v89,v90,v91,v92,v93,v94,v95,v96,v97,v98,v99,v100,v101,v102,v103,v104,v105,v106,v107,v108,v109,v110,v111,v112,v113,v114,v115,v116,v117,v118,v119,v120],H⟩=k42N x45 H) (hk42R:∀ (b578:Bool) (x579 x580:Int) (v581 v582 v583 v584:AV) (x585 x586:Int) (b587:Bool) (v588 v589:AV) (x590 x591 x592 x593:Int) (b594:Bool) (v595 v596 v597:AV) (x598:Int) (v599:AV) (x601 x602:Int) (v603:AV) (x604 x606 x607:Int) (v608:AV) (x609:Int) (v610:AV) (x612 x613:Int) (v614:AV) (x615 x617 x618:Int) (b619:Bool) (x621 x622 x624 x625:Int) (b626:Bool) (v627 v628 v629 v630 v631 v632 v633 v634 v635 v636 v637 v638 v639 v640 v641 v642 v643 v644 v645 v646 v647 v648 v649 v650 v651 v652 v653 v654 v655 v656 v657 v658 v659 v660 v661 v662 v663 v664 v665 v666:AV) (H:Heap),k42 .ret ⟨[(.lst a0),tz,(bz b578),(iz x2),(iz x29),(iz x579),(iz x580),v581,v582,v583,v584,(.lst a0),(iz x2),(iz x2),(bz (decide (x2 < 3))),bf,(iz x2),(bz (decide (x2 > 8))),bf,(iz x30),(iz x31),(bz b32),v33,v34,v35,v36,v37,v38,v39,v40,(iz x585),(iz x586),(bz b587),v588,v589,(iz x590),(iz x591),(iz x592),(iz x593),(bz b594),v595,v596,v597,(iz x598),v599,(.agg [(iz x601),(iz x602)]),v603,(iz x604),(.agg [(iz x606),(iz x607)]),v608,(iz x609),v610,(.agg [(iz x612),(iz x613)]),v614,(iz x615),(.agg [(iz x617),(iz x618)]),(bz b619),(.agg [(iz x621),(iz x622)]),(.agg [(iz x624),(iz x625)]),(bz b626),v627,v628,v629,v630,v631,v632,v633,v634,v635,v636,v637,v638,v639,v640,v641,v642,v643,v644,v645,v646,v647,v648,v649,v650,v651,v652,v653,v654,v655,v656,v657,v658,v659,v660,v661,v662,v663,v664,v665,v666],H⟩=k42R b578 H):∀ (n:Nat) (b124:Bool) (x125:Int) (v126 v127 v128 v129 v130 v131 v132 v133 v134 v135 v136 v137 v138 v139 v140 v141 v142 v143 v144 v145 v146 v147 v148 v149 v150 v151 v152 v153 v154 v155 v156 v157 v158 v159 v160 v161 v162 v163 v164 v165 v166 v167 v168 v169 v170 v171 v172 v173 v174 v175 v176 v177 v178 v179 v180 v181 v182 v183 v184 v185 v186 v187 v188 v189 v190 v191 v192:AV) (H:Heap),C0.iter (r46R2 C0 d a0 x2 x29 x30 x31 b32 v33 v34 v35 v36 v37 v38 v39 v40 k42 x45 v54 v55) n ⟨[(.lst a0),tz,(bz b124),(iz x2),(iz x29),(iz x45),(iz x125),v126,v127,v128,v129,(.lst a0),(iz x2),(iz x2),(bz (decide (x2 < 3))),bf,(iz x2),(bz (decide (x2 > 8))),bf,(iz x30),(iz x31),(bz b32),v33,v34,v35,v36,v37,v38,v39,v40,(iz x45),(iz x2),bt,v54,v55,(iz x45),(iz (IntKind.wrap .i64 (x45+1))),v130,v131,v132,v133,v134,v135,v136,v137,v138,v139,v140,v141,v142,v143,v144,v145,v146,v147,v148,v149,v150,v151,v152,v153,v154,v155,v156,v157,v158,v159,v160,v161,v162,v163,v164,v165,v166,v167,v168,v169,v170,v171,v172,v173,v174,v175,v176,v177,v178,v179,v180,v181,v182,v183,v184,v185,v186,v187,v188,v189,v190,v191,v192],H⟩ [4] [r46X2_0 C0 d a0 x2 x29 x30 x31 b32 v33 v34 v35 v36 v37 v38 v39 v40 k42 x45 v54 v55] (r46E2 C0 d a0 x2 x29 x30 x31 b32 v33 v34 v35 v36 v37 v38 v39 v40 k42 x45 v54 v55)=L46_2 d a0 x2 x45 k42N k42R n x125 H:=by
 generalize hR:r46R2 C0 d a0 x2 x29 x30 x31 b32 v33 v34 v35 v36 v37 v38 v39 v40 k42 x45 v54 v55=R
 intro n
 induction n with
 | zero=>intros; rfl
 | succ n ih =>
   intro b124 x125 v126 v127 v128 v129 v130 v131 v132 v133 v134 v135 v136 v137 v138 v139 v140 v141 v142 v143 v144 v145 v146 v147 v148 v149 v150 v151 v152 v153 v154 v155 v156 v157 v158 v159 v160 v161 v162 v163 v164 v165 v166 v167 v168 v169 v170 v171 v172 v173 v174 v175 v176 v177 v178 v179 v180 v181 v182 v183 v184 v185 v186 v187 v188 v189 v190 v191 v192 H
   simp only [it_ret] at ih
   rw [it_ret,xiter_s]
   refine Eq.trans (congrFun (congrFun hR.symm _) _) ?_
   unfold r46R2
   refine Eq.trans (pl_len (by rfl)) ?_; refine yt ySs ?_; refine yt yB ?_; refine yt ySs ?_; refine yt yI ?_; (iterate 4 (refine yt yA ?_)); refine yt ySs ?_; refine yt yAs ?_; (iterate 60 (refine yt yA ?_))
   simp only [kIter_n,kIter_x,kIter_r,kOut_x,kOut_r,xgo_hit,xgo_miss,ih,X46_2_0_ok d a0 x2 x29 x30 x31 b32 v33 v34 v35 v36 v37 v38 v39 v40 k42 x45 v54 v55 k42N k42R hk42N hk42R,E46_2_ok d a0 x2 x29 x30 x31 b32 v33 v34 v35 v36 v37 v38 v39 v40 k42 x45 v54 v55 k42N k42R hk42N hk42R]
   exact (L46_2_s d a0 x2 x45 k42N k42R n x125 H).symm
noncomputable def X46_1_0 (d:Nat) (a0:List AV) (x2:Int) (H:Heap):Ans :=
 C0.fin H bt
theorem X46_1_0_ok (d:Nat) (a0:List AV) (x2 x29 x30 x31:Int) (b32:Bool) (v33 v34 v35 v36 v37 v38 v39 v40:AV) (b501:Bool) (x502:Int) (v503 v504 v505 v506 v507:AV) (x508 x509:Int) (b510:Bool) (v511 v512 v513 v514 v515 v516 v517 v518 v519 v520 v521 v522 v523 v524 v525 v526 v527 v528 v529 v530 v531 v532 v533 v534 v535 v536 v537 v538 v539 v540 v541 v542 v543 v544 v545 v546 v547 v548 v549 v550 v551 v552 v553 v554 v555 v556 v557 v558 v559 v560 v561 v562 v563 v564 v565 v566 v567 v568 v569 v570 v571 v572 v573 v574 v575 v576 v577:AV) (H:Heap):r46X1_0 C0 d a0 x2 x29 x30 x31 b32 v33 v34 v35 v36 v37 v38 v39 v40 ⟨[(.lst a0),tz,(bz b501),(iz x2),(iz x29),(iz x502),v503,v504,v505,v506,v507,(.lst a0),(iz x2),(iz x2),(bz (decide (x2 < 3))),bf,(iz x2),(bz (decide (x2 > 8))),bf,(iz x30),(iz x31),(bz b32),v33,v34,v35,v36,v37,v38,v39,v40,(iz x508),(iz x509),(bz b510),v511,v512,v513,v514,v515,v516,v517,v518,v519,v520,v521,v522,v523,v524,v525,v526,v527,v528,v529,v530,v531,v532,v533,v534,v535,v536,v537,v538,v539,v540,v541,v542,v543,v544,v545,v546,v547,v548,v549,v550,v551,v552,v553,v554,v555,v556,v557,v558,v559,v560,v561,v562,v563,v564,v565,v566,v567,v568,v569,v570,v571,v572,v573,v574,v575,v576,v577],H⟩=X46_1_0 d a0 x2 H:=by
 unfold r46X1_0; refine Eq.trans (pl_len (by rfl)) ?_; refine yt ySs ?_; refine yt yB ?_; refine yt ySs ?_; refine yt yI ?_; refine yt yAs ?_; refine yt ySs ?_; (iterate 2 (refine yt yI ?_)); refine yt yB ?_; refine yt yAs ?_
 rfl
noncomputable def E46_1 (d:Nat) (a0:List AV) (x2:Int) (b578:Bool) (H:Heap):Ans :=
 C0.fin H (.bool b578)
theorem E46_1_ok (d:Nat) (a0:List AV) (x2 x29 x30 x31:Int) (b32:Bool) (v33 v34 v35 v36 v37 v38 v39 v40:AV) (b578:Bool) (x579 x580:Int) (v581 v582 v583 v584:AV) (x585 x586:Int) (b587:Bool) (v588 v589:AV) (x590 x591 x592 x593:Int) (b594:Bool) (v595 v596 v597:AV) (x598:Int) (v599:AV) (x601 x602:Int) (v603:AV) (x604 x606 x607:Int) (v608:AV) (x609:Int) (v610:AV) (x612 x613:Int) (v614:AV) (x615 x617 x618:Int) (b619:Bool) (x621 x622 x624 x625:Int) (b626:Bool) (v627 v628 v629 v630 v631 v632 v633 v634 v635 v636 v637 v638 v639 v640 v641 v642 v643 v644 v645 v646 v647 v648 v649 v650 v651 v652 v653 v654 v655 v656 v657 v658 v659 v660 v661 v662 v663 v664 v665 v666:AV) (H:Heap):r46E1 C0 d a0 x2 x29 x30 x31 b32 v33 v34 v35 v36 v37 v38 v39 v40 ⟨[(.lst a0),tz,(bz b578),(iz x2),(iz x29),(iz x579),(iz x580),v581,v582,v583,v584,(.lst a0),(iz x2),(iz x2),(bz (decide (x2 < 3))),bf,(iz x2),(bz (decide (x2 > 8))),bf,(iz x30),(iz x31),(bz b32),v33,v34,v35,v36,v37,v38,v39,v40,(iz x585),(iz x586),(bz b587),v588,v589,(iz x590),(iz x591),(iz x592),(iz x593),(bz b594),v595,v596,v597,(iz x598),v599,(.agg [(iz x601),(iz x602)]),v603,(iz x604),(.agg [(iz x606),(iz x607)]),v608,(iz x609),v610,(.agg [(iz x612),(iz x613)]),v614,(iz x615),(.agg [(iz x617),(iz x618)]),(bz b619),(.agg [(iz x621),(iz x622)]),(.agg [(iz x624),(iz x625)]),(bz b626),v627,v628,v629,v630,v631,v632,v633,v634,v635,v636,v637,v638,v639,v640,v641,v642,v643,v644,v645,v646,v647,v648,v649,v650,v651,v652,v653,v654,v655,v656,v657,v658,v659,v660,v661,v662,v663,v664,v665,v666],H⟩=E46_1 d a0 x2 b578 H:=by
 unfold r46E1; refine Eq.trans (pl_len (by rfl)) ?_; refine yt ySs ?_; refine yt yB ?_; refine yt ySs ?_; (iterate 2 (refine yt yI ?_)); refine yt yAs ?_; refine yt ySs ?_; (iterate 2 (refine yt yI ?_)); refine yt yB ?_; refine yt yAs ?_; (iterate 4 (refine yt yI ?_)); refine yt yB ?_; refine yt yAs ?_; refine yt yI ?_; refine yt yA ?_; refine yt yG ?_; (iterate 2 (refine yt yI ?_)); refine yt yA ?_; refine yt yI ?_; refine yt yG ?_; (iterate 2 (refine yt yI ?_)); refine yt yA ?_; refine yt yI ?_; refine yt yA ?_; refine yt yG ?_; (iterate 2 (refine yt yI ?_)); refine yt yA ?_; refine yt yI ?_; refine yt yG ?_; (iterate 2 (refine yt yI ?_)); refine yt yB ?_; refine yt yG ?_; (iterate 2 (refine yt yI ?_)); refine yt yG ?_; (iterate 2 (refine yt yI ?_)); refine yt yB ?_; refine yt yAs ?_
 rfl
noncomputable def L46_1 (d:Nat) (a0:List AV) (x2:Int):Nat→Int→Heap→Ans
 | 0,_,_=>none
 | n+1,x45,H =>
 cnd (decide (x45 < x2))
  (L46_2 d a0 x2 x45 (fun x45 H=>L46_1 d a0 x2 n x45 H) (fun b578 H=>E46_1 d a0 x2 b578 H) 10000000000000000000 (IntKind.wrap .i64 (x45+1)) H)
  (X46_1_0 d a0 x2 H)
theorem L46_1_s (d:Nat) (a0:List AV) (x2:Int) (n:Nat) (x45:Int) (H:Heap):L46_1 d a0 x2 (n+1) x45 H=(cnd (decide (x45 < x2))
 (L46_2 d a0 x2 x45 (fun x45 H=>L46_1 d a0 x2 n x45 H) (fun b578 H=>E46_1 d a0 x2 b578 H) 10000000000000000000 (IntKind.wrap .i64 (x45+1)) H)
 (X46_1_0 d a0 x2 H)):=by kernel_rfl
theorem it46_1 (d:Nat) (a0:List AV) (x2 x29 x30 x31:Int) (b32:Bool) (v33 v34 v35 v36 v37 v38 v39 v40:AV)  :∀ (n:Nat) (b44:Bool) (x45:Int) (v46 v47 v48 v49 v50 v51 v52 v53 v54 v55 v56 v57 v58 v59 v60 v61 v62 v63 v64 v65 v66 v67 v68 v69 v70 v71 v72 v73 v74 v75 v76 v77 v78 v79 v80 v81 v82 v83 v84 v85 v86 v87 v88 v89 v90 v91 v92 v93 v94 v95 v96 v97 v98 v99 v100 v101 v102 v103 v104 v105 v106 v107 v108 v109 v110 v111 v112 v113 v114 v115 v116 v117 v118 v119 v120:AV) (H:Heap),C0.iter (r46R1 C0 d a0 x2 x29 x30 x31 b32 v33 v34 v35 v36 v37 v38 v39 v40) n ⟨[(.lst a0),tz,(bz b44),(iz x2),(iz x29),(iz x45),v46,v47,v48,v49,v50,(.lst a0),(iz x2),(iz x2),(bz (decide (x2 < 3))),bf,(iz x2),(bz (decide (x2 > 8))),bf,(iz x30),(iz x31),(bz b32),v33,v34,v35,v36,v37,v38,v39,v40,v51,v52,v53,v54,v55,v56,v57,v58,v59,v60,v61,v62,v63,v64,v65,v66,v67,v68,v69,v70,v71,v72,v73,v74,v75,v76,v77,v78,v79,v80,v81,v82,v83,v84,v85,v86,v87,v88,v89,v90,v91,v92,v93,v94,v95,v96,v97,v98,v99,v100,v101,v102,v103,v104,v105,v106,v107,v108,v109,v110,v111,v112,v113,v114,v115,v116,v117,v118,v119,v120],H⟩ [2] [r46X1_0 C0 d a0 x2 x29 x30 x31 b32 v33 v34 v35 v36 v37 v38 v39 v40] (r46E1 C0 d a0 x2 x29 x30 x31 b32 v33 v34 v35 v36 v37 v38 v39 v40)=L46_1 d a0 x2 n x45 H:=by
 generalize hR:r46R1 C0 d a0 x2 x29 x30 x31 b32 v33 v34 v35 v36 v37 v38 v39 v40=R
 intro n
 induction n with
 | zero=>intros; rfl
 | succ n ih =>
   intro b44 x45 v46 v47 v48 v49 v50 v51 v52 v53 v54 v55 v56 v57 v58 v59 v60 v61 v62 v63 v64 v65 v66 v67 v68 v69 v70 v71 v72 v73 v74 v75 v76 v77 v78 v79 v80 v81 v82 v83 v84 v85 v86 v87 v88 v89 v90 v91 v92 v93 v94 v95 v96 v97 v98 v99 v100 v101 v102 v103 v104 v105 v106 v107 v108 v109 v110 v111 v112 v113 v114 v115 v116 v117 v118 v119 v120 H
   simp only [it_ret] at ih
   rw [it_ret,xiter_s]
   refine Eq.trans (congrFun (congrFun hR.symm _) _) ?_
   unfold r46R1
   refine Eq.trans (pl_len (by rfl)) ?_; refine yt ySs ?_; refine yt yB ?_; refine yt ySs ?_; refine yt yI ?_; (iterate 5 (refine yt yA ?_)); refine yt ySs ?_; refine yt yAs ?_; (iterate 67 (refine yt yA ?_))
   have I0:=it46_2 d a0 x2 x29 x30 x31 b32 v33 v34 v35 v36 v37 v38 v39 v40 (kIter R n (kOut [2] [r46X1_0 C0 d a0 x2 x29 x30 x31 b32 v33 v34 v35 v36 v37 v38 v39 v40] (r46E1 C0 d a0 x2 x29 x30 x31 b32 v33 v34 v35 v36 v37 v38 v39 v40))) x45 v54 v55 (fun x45 H=>L46_1 d a0 x2 n x45 H) (fun b578 H=>E46_1 d a0 x2 b578 H) (fun b44 x45 v46 v47 v48 v49 v50 v51 v52 v53 v54 v55 v56 v57 v58 v59 v60 v61 v62 v63 v64 v65 v66 v67 v68 v69 v70 v71 v72 v73 v74 v75 v76 v77 v78 v79 v80 v81 v82 v83 v84 v85 v86 v87 v88 v89 v90 v91 v92 v93 v94 v95 v96 v97 v98 v99 v100 v101 v102 v103 v104 v105 v106 v107 v108 v109 v110 v111 v112 v113 v114 v115 v116 v117 v118 v119 v120 H=>ih b44 x45 v46 v47 v48 v49 v50 v51 v52 v53 v54 v55 v56 v57 v58 v59 v60 v61 v62 v63 v64 v65 v66 v67 v68 v69 v70 v71 v72 v73 v74 v75 v76 v77 v78 v79 v80 v81 v82 v83 v84 v85 v86 v87 v88 v89 v90 v91 v92 v93 v94 v95 v96 v97 v98 v99 v100 v101 v102 v103 v104 v105 v106 v107 v108 v109 v110 v111 v112 v113 v114 v115 v116 v117 v118 v119 v120 H) (fun b578 x579 x580 v581 v582 v583 v584 x585 x586 b587 v588 v589 x590 x591 x592 x593 b594 v595 v596 v597 x598 v599 x601 x602 v603 x604 x606 x607 v608 x609 v610 x612 x613 v614 x615 x617 x618 b619 x621 x622 x624 x625 b626 v627 v628 v629 v630 v631 v632 v633 v634 v635 v636 v637 v638 v639 v640 v641 v642 v643 v644 v645 v646 v647 v648 v649 v650 v651 v652 v653 v654 v655 v656 v657 v658 v659 v660 v661 v662 v663 v664 v665 v666 H=>E46_1_ok d a0 x2 x29 x30 x31 b32 v33 v34 v35 v36 v37 v38 v39 v40   b578 x579 x580 v581 v582 v583 v584 x585 x586 b587 v588 v589 x590 x591 x592 x593 b594 v595 v596 v597 x598 v599 x601 x602 v603 x604 x606 x607 v608 x609 v610 x612 x613 v614 x615 x617 x618 b619 x621 x622 x624 x625 b626 v627 v628 v629 v630 v631 v632 v633 v634 v635 v636 v637 v638 v639 v640 v641 v642 v643 v644 v645 v646 v647 v648 v649 v650 v651 v652 v653 v654 v655 v656 v657 v658 v659 v660 v661 v662 v663 v664 v665 v666 H)
   try dsimp only at I0
   simp only [kIter_n,kIter_x,kIter_r,kOut_x,kOut_r,xgo_hit,xgo_miss,ih,I0,X46_1_0_ok d a0 x2 x29 x30 x31 b32 v33 v34 v35 v36 v37 v38 v39 v40  ,E46_1_ok d a0 x2 x29 x30 x31 b32 v33 v34 v35 v36 v37 v38 v39 v40  ]
   exact (L46_1_s d a0 x2 n x45 H).symm
noncomputable def X46_0_0 (d:Nat) (a0:List AV) (x2:Int) (H:Heap):Ans :=
 L46_1 d a0 x2 10000000000000000000 0 H
theorem X46_0_0_ok (d:Nat) (a0:List AV) (x2:Int) (b28:Bool) (x29 x30 x31:Int) (b32:Bool) (v33 v34 v35 v36 v37 v38 v39 v40:AV) (H:Heap):r46X0_0 C0 d a0 x2 ⟨[(.lst a0),tz,(bz b28),(iz x2),(iz x29),tz,tz,tz,tz,tz,tz,(.lst a0),(iz x2),(iz x2),(bz (decide (x2 < 3))),bf,(iz x2),(bz (decide (x2 > 8))),bf,(iz x30),(iz x31),(bz b32),v33,v34,v35,v36,v37,v38,v39,v40,tz,tz,tz,tz,tz,tz,tz,tz,tz,tz,tz,tz,tz,tz,tz,tz,tz,tz,tz,tz,tz,tz,tz,tz,tz,tz,tz,tz,tz,tz,tz,tz,tz,tz,tz,tz,tz,tz,tz,tz,tz,tz,tz,tz,tz,tz,tz,tz,tz,tz,tz,tz,tz,tz,tz,tz,tz,tz,tz,tz,tz,tz,tz,tz,tz,tz,tz,tz,tz,tz],H⟩=X46_0_0 d a0 x2 H:=by
 unfold r46X0_0; refine Eq.trans (pl_len (by rfl)) ?_; refine yt ySs ?_; refine yt yB ?_; refine yt yS ?_; refine yt yI ?_; refine yt ySs ?_; (iterate 2 (refine yt yI ?_)); refine yt yB ?_; (iterate 8 (refine yt yA ?_)); refine yt ySs ?_
 first | (simp only [it46_1] <;> rfl) | rfl
noncomputable def E46_0 (d:Nat) (a0:List AV) (x2:Int) (b667:Bool) (H:Heap):Ans :=
 C0.fin H (.bool b667)
theorem E46_0_ok (d:Nat) (a0:List AV) (x2:Int) (b667:Bool) (x668 x669 x670:Int) (b671:Bool) (v672 v673 v674:AV) (x675:Int) (v676:AV) (x678 x679:Int) (b680 b681:Bool) (H:Heap):r46E0 C0 d a0 x2 ⟨[(.lst a0),tz,(bz b667),(iz x2),(iz x668),tz,tz,tz,tz,tz,tz,(.lst a0),(iz x2),(iz x2),(bz (decide (x2 < 3))),bf,(iz x2),(bz (decide (x2 > 8))),bf,(iz x669),(iz x670),(bz b671),v672,v673,v674,(iz x675),v676,(.agg [(iz x678),(iz x679)]),(bz b680),(bz b681),tz,tz,tz,tz,tz,tz,tz,tz,tz,tz,tz,tz,tz,tz,tz,tz,tz,tz,tz,tz,tz,tz,tz,tz,tz,tz,tz,tz,tz,tz,tz,tz,tz,tz,tz,tz,tz,tz,tz,tz,tz,tz,tz,tz,tz,tz,tz,tz,tz,tz,tz,tz,tz,tz,tz,tz,tz,tz,tz,tz,tz,tz,tz,tz,tz,tz,tz,tz,tz,tz],H⟩=E46_0 d a0 x2 b667 H:=by
 unfold r46E0; refine Eq.trans (pl_len (by rfl)) ?_; refine yt ySs ?_; refine yt yB ?_; refine yt yS ?_; refine yt yI ?_; refine yt ySs ?_; (iterate 2 (refine yt yI ?_)); refine yt yB ?_; refine yt yAs ?_; refine yt yI ?_; refine yt yA ?_; refine yt yG ?_; (iterate 2 (refine yt yI ?_)); (iterate 2 (refine yt yB ?_)); refine yt ySs ?_
 rfl
noncomputable def L46_0 (d:Nat) (a0:List AV) (x2:Int):Nat→Int→Heap→Ans
 | 0,_,_=>none
 | n+1,x7,H =>
 cnd (decide (x7 < x2))
  (C0.hop H (.ixAS .any 2 (.v (.lst a0)) (.v (iz x7))) fun v19 h20 =>
  C0.hop h20 (.load true 2 (.v v19)) fun v21 h22 =>
  C0.agg 2 (some v21) fun l23 =>
  C0.int .i64 l23[0]? fun x24 =>
  C0.int .i64 l23[1]? fun x25 =>
  C0.bool (pcall M d 52 [(.agg [(iz x24),(iz x25)])]) fun b26 =>
  cnd (!b26)
  (E46_0 d a0 x2 false h22)
  (L46_0 d a0 x2 n (IntKind.wrap .i64 (x7+1)) h22))
  (X46_0_0 d a0 x2 H)
theorem L46_0_s (d:Nat) (a0:List AV) (x2:Int) (n:Nat) (x7:Int) (H:Heap):L46_0 d a0 x2 (n+1) x7 H=(cnd (decide (x7 < x2))
 (C0.hop H (.ixAS .any 2 (.v (.lst a0)) (.v (iz x7))) fun v19 h20 =>
 C0.hop h20 (.load true 2 (.v v19)) fun v21 h22 =>
 C0.agg 2 (some v21) fun l23 =>
 C0.int .i64 l23[0]? fun x24 =>
 C0.int .i64 l23[1]? fun x25 =>
 C0.bool (pcall M d 52 [(.agg [(iz x24),(iz x25)])]) fun b26 =>
 cnd (!b26)
 (E46_0 d a0 x2 false h22)
 (L46_0 d a0 x2 n (IntKind.wrap .i64 (x7+1)) h22))
 (X46_0_0 d a0 x2 H)):=by kernel_rfl
theorem it46_0 (d:Nat) (a0:List AV) (x2:Int)  :∀ (n:Nat) (b6:Bool) (x7:Int) (v8 v9 v10 v11 v12 v13 v14 v15 v16 v17 v18:AV) (H:Heap),C0.iter (r46R0 C0 d a0 x2) n ⟨[(.lst a0),tz,(bz b6),(iz x2),(iz x7),tz,tz,tz,tz,tz,tz,(.lst a0),(iz x2),(iz x2),(bz (decide (x2 < 3))),bf,(iz x2),(bz (decide (x2 > 8))),bf,v8,v9,v10,v11,v12,v13,v14,v15,v16,v17,v18,tz,tz,tz,tz,tz,tz,tz,tz,tz,tz,tz,tz,tz,tz,tz,tz,tz,tz,tz,tz,tz,tz,tz,tz,tz,tz,tz,tz,tz,tz,tz,tz,tz,tz,tz,tz,tz,tz,tz,tz,tz,tz,tz,tz,tz,tz,tz,tz,tz,tz,tz,tz,tz,tz,tz,tz,tz,tz,tz,tz,tz,tz,tz,tz,tz,tz,tz,tz,tz,tz],H⟩ [0] [r46X0_0 C0 d a0 x2] (r46E0 C0 d a0 x2)=L46_0 d a0 x2 n x7 H:=by
 generalize hR:r46R0 C0 d a0 x2=R
 intro n
 induction n with
 | zero=>intros; rfl
 | succ n ih =>
   intro b6 x7 v8 v9 v10 v11 v12 v13 v14 v15 v16 v17 v18 H
   simp only [it_ret] at ih
   rw [it_ret,xiter_s]
   refine Eq.trans (congrFun (congrFun hR.symm _) _) ?_
   unfold r46R0
   refine Eq.trans (pl_len (by rfl)) ?_; refine yt ySs ?_; refine yt yB ?_; refine yt yS ?_; refine yt yI ?_; refine yt ySs ?_; refine yt yAs ?_; (iterate 8 (refine yt yA ?_)); refine yt ySs ?_
   simp only [kIter_n,kIter_x,kIter_r,kOut_x,kOut_r,xgo_hit,xgo_miss,ih,X46_0_0_ok d a0 x2  ,E46_0_ok d a0 x2  ]
   exact (L46_0_s d a0 x2 n x7 H).symm
theorem q46 (d:Nat) (a0:List AV):xcall C0 M unr d 46 [(.lst a0)] =
 C0.hop [] (.bk .lenV [(.v (.lst a0))]) fun v0 h1 =>
 C0.int .i64 (some v0) fun x2 =>
 cnd (decide (x2 < 3))
  (C0.fin h1 bf)
  (cnd (decide (x2 > 8))
  (C0.fin h1 bf)
  (L46_0 d a0 x2 10000000000000000000 0 h1)):=(r46 C0 d a0).trans (by simp only [it46_0])
noncomputable def X57_1_0 (d:Nat) (a0:List AV) (x7:Int) (k2N:Int→Ans) (k2R:Bool→Ans) :Ans :=
 k2N (IntKind.wrap .i64 (x7+1))
theorem X57_1_0_ok (d:Nat) (a0:List AV) (b0:Bool) (k2:Ex→St→Ans) (x7:Int) (v31:AV) (k2N:Int→Ans) (k2R:Bool→Ans) (hk2N:∀ (b4:Bool) (v5 v6:AV) (x7:Int) (v8 v9 v10 v11 v12 v13 v14 v15 v16 v17 v18 v19 v20 v21 v22 v23 v24 v25 v26 v27 v28 v29 v30 v31:AV),k2 .normal ⟨[(.lst a0),tz,(.bool b4),(iz (((List.length a0):Nat):Int)),v5,v6,(.lst a0),(iz (((List.length a0):Nat):Int)),(iz (((List.length a0):Nat):Int)),(.bool (decide ((((List.length a0):Nat):Int) < 3))),bf,(iz (((List.length a0):Nat):Int)),(.bool (decide ((((List.length a0):Nat):Int) > 8))),(.bool (decide ((((List.length a0):Nat):Int) > 8))),bf,(.lst a0),(.bool b0),bf,(iz (((List.length a0):Nat):Int)),(iz x7),v8,v9,v10,v11,v12,v13,v14,v15,v16,v17,v18,v19,v20,v21,v22,v23,v24,v25,v26,v27,v28,v29,v30,v31],[]⟩=k2N x7) (hk2R:∀ (b142:Bool) (x143 x144 x145:Int) (b146:Bool) (x147 x148 x149:Int) (b150:Bool) (x151:Int) (v152:AV) (x153:Int) (v154:AV) (x156 x157:Int) (v158:AV) (x159:Int) (v160:AV) (x162 x163:Int) (b164 b165:Bool) (v166 v167 v168 v169 v170:AV) (b171:Bool) (v172 v173:AV),k2 .ret ⟨[(.lst a0),tz,(.bool b142),(iz (((List.length a0):Nat):Int)),(iz x143),(iz x144),(.lst a0),(iz (((List.length a0):Nat):Int)),(iz (((List.length a0):Nat):Int)),(.bool (decide ((((List.length a0):Nat):Int) < 3))),bf,(iz (((List.length a0):Nat):Int)),(.bool (decide ((((List.length a0):Nat):Int) > 8))),(.bool (decide ((((List.length a0):Nat):Int) > 8))),bf,(.lst a0),(.bool b0),bf,(iz (((List.length a0):Nat):Int)),(iz x145),(.bool b146),(iz x147),(iz x148),(iz x149),(.bool b150),(iz x151),v152,(iz x153),v154,(.agg [(iz x156),(iz x157)]),v158,(iz x159),v160,(.agg [(iz x162),(iz x163)]),(.bool b164),(.bool b165),v166,v167,v168,v169,v170,(.bool b171),v172,v173],[]⟩=k2R b142) (b65:Bool) (v66:AV) (x67:Int) (b68:Bool) (v69 v70 v71 v72 v73 v74 v75 v76 v77 v78 v79 v80 v81 v82 v83 v84 v85 v86:AV):r57X1_0 C0 d a0 b0 k2 x7 v31 ⟨[(.lst a0),tz,(.bool b65),(iz (((List.length a0):Nat):Int)),(iz x7),v66,(.lst a0),(iz (((List.length a0):Nat):Int)),(iz (((List.length a0):Nat):Int)),(.bool (decide ((((List.length a0):Nat):Int) < 3))),bf,(iz (((List.length a0):Nat):Int)),(.bool (decide ((((List.length a0):Nat):Int) > 8))),(.bool (decide ((((List.length a0):Nat):Int) > 8))),bf,(.lst a0),(.bool b0),bf,(iz (((List.length a0):Nat):Int)),(iz x7),bt,(iz x7),(iz x7),(iz x67),(.bool b68),v69,v70,v71,v72,v73,v74,v75,v76,v77,v78,v79,v80,v81,v82,v83,v84,v85,v86,v31],[]⟩=X57_1_0 d a0 x7 k2N k2R :=by
 try dsimp only at hk2N
 try dsimp only at hk2R
 unfold r57X1_0; refine Eq.trans (pl_len (by rfl)) ?_; refine yt ySs ?_; refine yt yB ?_; refine yt ySs ?_; refine yt yA ?_; refine yt ySs ?_; refine yt yI ?_; refine yt yB ?_; (iterate 18 (refine yt yA ?_)); refine yt yS ?_; refine Eq.trans (pl_sameH) ?_
 first | (simp only [hk2N,hk2R] <;> rfl) | rfl
noncomputable def E57_1 (d:Nat) (a0:List AV) (x7:Int) (k2N:Int→Ans) (k2R:Bool→Ans) (b87:Bool):Ans :=
 k2R b87
theorem E57_1_ok (d:Nat) (a0:List AV) (b0:Bool) (k2:Ex→St→Ans) (x7:Int) (v31:AV) (k2N:Int→Ans) (k2R:Bool→Ans) (hk2N:∀ (b4:Bool) (v5 v6:AV) (x7:Int) (v8 v9 v10 v11 v12 v13 v14 v15 v16 v17 v18 v19 v20 v21 v22 v23 v24 v25 v26 v27 v28 v29 v30 v31:AV),k2 .normal ⟨[(.lst a0),tz,(.bool b4),(iz (((List.length a0):Nat):Int)),v5,v6,(.lst a0),(iz (((List.length a0):Nat):Int)),(iz (((List.length a0):Nat):Int)),(.bool (decide ((((List.length a0):Nat):Int) < 3))),bf,(iz (((List.length a0):Nat):Int)),(.bool (decide ((((List.length a0):Nat):Int) > 8))),(.bool (decide ((((List.length a0):Nat):Int) > 8))),bf,(.lst a0),(.bool b0),bf,(iz (((List.length a0):Nat):Int)),(iz x7),v8,v9,v10,v11,v12,v13,v14,v15,v16,v17,v18,v19,v20,v21,v22,v23,v24,v25,v26,v27,v28,v29,v30,v31],[]⟩=k2N x7) (hk2R:∀ (b142:Bool) (x143 x144 x145:Int) (b146:Bool) (x147 x148 x149:Int) (b150:Bool) (x151:Int) (v152:AV) (x153:Int) (v154:AV) (x156 x157:Int) (v158:AV) (x159:Int) (v160:AV) (x162 x163:Int) (b164 b165:Bool) (v166 v167 v168 v169 v170:AV) (b171:Bool) (v172 v173:AV),k2 .ret ⟨[(.lst a0),tz,(.bool b142),(iz (((List.length a0):Nat):Int)),(iz x143),(iz x144),(.lst a0),(iz (((List.length a0):Nat):Int)),(iz (((List.length a0):Nat):Int)),(.bool (decide ((((List.length a0):Nat):Int) < 3))),bf,(iz (((List.length a0):Nat):Int)),(.bool (decide ((((List.length a0):Nat):Int) > 8))),(.bool (decide ((((List.length a0):Nat):Int) > 8))),bf,(.lst a0),(.bool b0),bf,(iz (((List.length a0):Nat):Int)),(iz x145),(.bool b146),(iz x147),(iz x148),(iz x149),(.bool b150),(iz x151),v152,(iz x153),v154,(.agg [(iz x156),(iz x157)]),v158,(iz x159),v160,(.agg [(iz x162),(iz x163)]),(.bool b164),(.bool b165),v166,v167,v168,v169,v170,(.bool b171),v172,v173],[]⟩=k2R b142) (b87:Bool) (x88 x89:Int) (b90:Bool) (x91:Int) (v92:AV) (x93:Int) (v94:AV) (x96 x97:Int) (v98:AV) (x99:Int) (v100:AV) (x102 x103:Int) (b104 b105:Bool) (v106 v107 v108 v109 v110:AV) (b111:Bool) (v112:AV):r57E1 C0 d a0 b0 k2 x7 v31 ⟨[(.lst a0),tz,(.bool b87),(iz (((List.length a0):Nat):Int)),(iz x7),(iz x88),(.lst a0),(iz (((List.length a0):Nat):Int)),(iz (((List.length a0):Nat):Int)),(.bool (decide ((((List.length a0):Nat):Int) < 3))),bf,(iz (((List.length a0):Nat):Int)),(.bool (decide ((((List.length a0):Nat):Int) > 8))),(.bool (decide ((((List.length a0):Nat):Int) > 8))),bf,(.lst a0),(.bool b0),bf,(iz (((List.length a0):Nat):Int)),(iz x7),bt,(iz x7),(iz x7),(iz x89),(.bool b90),(iz x91),v92,(iz x93),v94,(.agg [(iz x96),(iz x97)]),v98,(iz x99),v100,(.agg [(iz x102),(iz x103)]),(.bool b104),(.bool b105),v106,v107,v108,v109,v110,(.bool b111),v112,v31],[]⟩=E57_1 d a0 x7 k2N k2R b87:=by
 try dsimp only at hk2N
 try dsimp only at hk2R
 unfold r57E1; refine Eq.trans (pl_len (by rfl)) ?_; refine yt ySs ?_; refine yt yB ?_; refine yt ySs ?_; refine yt yI ?_; refine yt ySs ?_; refine yt yI ?_; refine yt yB ?_; refine yt yI ?_; refine yt yA ?_; refine yt yI ?_; refine yt yA ?_; refine yt yG ?_; (iterate 2 (refine yt yI ?_)); refine yt yA ?_; refine yt yI ?_; refine yt yA ?_; refine yt yG ?_; (iterate 2 (refine yt yI ?_)); (iterate 2 (refine yt yB ?_)); (iterate 5 (refine yt yA ?_)); refine yt yB ?_; refine yt yA ?_; refine yt yS ?_; refine Eq.trans (pl_sameH) ?_
 first | (simp only [hk2N,hk2R] <;> rfl) | rfl
noncomputable def L57_1 (d:Nat) (a0:List AV) (x7:Int) (k2N:Int→Ans) (k2R:Bool→Ans):Nat→Int→Ans
 | 0,_=>none
 | n+1,x37 =>
 cnd (decide (x37 < x7))
  (cnd (decide ((0:Int)≤x7))
  (C0.agg 2 a0[(Int.toNat x7)]? fun l57 =>
  C0.int .i64 l57[0]? fun x58 =>
  C0.int .i64 l57[1]? fun x59 =>
  cnd (decide ((0:Int)≤x37))
  (C0.agg 2 a0[(Int.toNat x37)]? fun l60 =>
  C0.int .i64 l60[0]? fun x61 =>
  C0.int .i64 l60[1]? fun x62 =>
  cnd (xor false ((x58 == x61) && ((x59 == x62) && true)))
  (E57_1 d a0 x7 k2N k2R false)
  (C0.bool (pcall M d 63 [(.lst a0),(iz x37),(iz x7)]) fun b63 =>
  cnd (!b63)
  (E57_1 d a0 x7 k2N k2R false)
  (L57_1 d a0 x7 k2N k2R n (IntKind.wrap .i64 (x37+1)))))
  (none))
  (none))
  (X57_1_0 d a0 x7 k2N k2R)
theorem L57_1_s (d:Nat) (a0:List AV) (x7:Int) (k2N:Int→Ans) (k2R:Bool→Ans) (n:Nat) (x37:Int):L57_1 d a0 x7 k2N k2R (n+1) x37=(cnd (decide (x37 < x7))
 (cnd (decide ((0:Int)≤x7))
 (C0.agg 2 a0[(Int.toNat x7)]? fun l57 =>
 C0.int .i64 l57[0]? fun x58 =>
 C0.int .i64 l57[1]? fun x59 =>
 cnd (decide ((0:Int)≤x37))
 (C0.agg 2 a0[(Int.toNat x37)]? fun l60 =>
 C0.int .i64 l60[0]? fun x61 =>
 C0.int .i64 l60[1]? fun x62 =>
 cnd (xor false ((x58 == x61) && ((x59 == x62) && true)))
 (E57_1 d a0 x7 k2N k2R false)
 (C0.bool (pcall M d 63 [(.lst a0),(iz x37),(iz x7)]) fun b63 =>
 cnd (!b63)
 (E57_1 d a0 x7 k2N k2R false)
 (L57_1 d a0 x7 k2N k2R n (IntKind.wrap .i64 (x37+1)))))
 (none))
 (none))
 (X57_1_0 d a0 x7 k2N k2R)):=by kernel_rfl
theorem it57_1 (d:Nat) (a0:List AV) (b0:Bool) (k2:Ex→St→Ans) (x7:Int) (v31:AV) (k2N:Int→Ans) (k2R:Bool→Ans) (hk2N:∀ (b4:Bool) (v5 v6:AV) (x7:Int) (v8 v9 v10 v11 v12 v13 v14 v15 v16 v17 v18 v19 v20 v21 v22 v23 v24 v25 v26 v27 v28 v29 v30 v31:AV),k2 .normal ⟨[(.lst a0),tz,(.bool b4),(iz (((List.length a0):Nat):Int)),v5,v6,(.lst a0),(iz (((List.length a0):Nat):Int)),(iz (((List.length a0):Nat):Int)),(.bool (decide ((((List.length a0):Nat):Int) < 3))),bf,(iz (((List.length a0):Nat):Int)),(.bool (decide ((((List.length a0):Nat):Int) > 8))),(.bool (decide ((((List.length a0):Nat):Int) > 8))),bf,(.lst a0),(.bool b0),bf,(iz (((List.length a0):Nat):Int)),(iz x7),v8,v9,v10,v11,v12,v13,v14,v15,v16,v17,v18,v19,v20,v21,v22,v23,v24,v25,v26,v27,v28,v29,v30,v31],[]⟩=k2N x7) (hk2R:∀ (b142:Bool) (x143 x144 x145:Int) (b146:Bool) (x147 x148 x149:Int) (b150:Bool) (x151:Int) (v152:AV) (x153:Int) (v154:AV) (x156 x157:Int) (v158:AV) (x159:Int) (v160:AV) (x162 x163:Int) (b164 b165:Bool) (v166 v167 v168 v169 v170:AV) (b171:Bool) (v172 v173:AV),k2 .ret ⟨[(.lst a0),tz,(.bool b142),(iz (((List.length a0):Nat):Int)),(iz x143),(iz x144),(.lst a0),(iz (((List.length a0):Nat):Int)),(iz (((List.length a0):Nat):Int)),(.bool (decide ((((List.length a0):Nat):Int) < 3))),bf,(iz (((List.length a0):Nat):Int)),(.bool (decide ((((List.length a0):Nat):Int) > 8))),(.bool (decide ((((List.length a0):Nat):Int) > 8))),bf,(.lst a0),(.bool b0),bf,(iz (((List.length a0):Nat):Int)),(iz x145),(.bool b146),(iz x147),(iz x148),(iz x149),(.bool b150),(iz x151),v152,(iz x153),v154,(.agg [(iz x156),(iz x157)]),v158,(iz x159),v160,(.agg [(iz x162),(iz x163)]),(.bool b164),(.bool b165),v166,v167,v168,v169,v170,(.bool b171),v172,v173],[]⟩=k2R b142):∀ (n:Nat) (b35:Bool) (v36:AV) (x37:Int) (v38 v39 v40 v41 v42 v43 v44 v45 v46 v47 v48 v49 v50 v51 v52 v53 v54 v55 v56:AV),C0.iter (r57R1 C0 d a0 b0 k2 x7 v31) n ⟨[(.lst a0),tz,(.bool b35),(iz (((List.length a0):Nat):Int)),(iz x7),v36,(.lst a0),(iz (((List.length a0):Nat):Int)),(iz (((List.length a0):Nat):Int)),(.bool (decide ((((List.length a0):Nat):Int) < 3))),bf,(iz (((List.length a0):Nat):Int)),(.bool (decide ((((List.length a0):Nat):Int) > 8))),(.bool (decide ((((List.length a0):Nat):Int) > 8))),bf,(.lst a0),(.bool b0),bf,(iz (((List.length a0):Nat):Int)),(iz x7),bt,(iz x7),(iz x7),(iz x37),v38,v39,v40,v41,v42,v43,v44,v45,v46,v47,v48,v49,v50,v51,v52,v53,v54,v55,v56,v31],[]⟩ [2] [r57X1_0 C0 d a0 b0 k2 x7 v31] (r57E1 C0 d a0 b0 k2 x7 v31)=L57_1 d a0 x7 k2N k2R n x37:=by
 generalize hR:r57R1 C0 d a0 b0 k2 x7 v31=R
 intro n
 induction n with
 | zero=>intros; rfl
 | succ n ih =>
   intro b35 v36 x37 v38 v39 v40 v41 v42 v43 v44 v45 v46 v47 v48 v49 v50 v51 v52 v53 v54 v55 v56
   simp only [it_ret] at ih
   rw [it_ret,xiter_s]
   refine Eq.trans (congrFun (congrFun hR.symm _) _) ?_
   unfold r57R1
   refine Eq.trans (pl_len (by rfl)) ?_; refine yt ySs ?_; refine yt yB ?_; refine yt ySs ?_; refine yt yA ?_; refine yt ySs ?_; refine yt yI ?_; (iterate 19 (refine yt yA ?_)); refine yt yS ?_; refine Eq.trans (pl_sameH) ?_
   simp only [kIter_n,kIter_x,kIter_r,kOut_x,kOut_r,xgo_hit,xgo_miss,ih,X57_1_0_ok d a0 b0 k2 x7 v31 k2N k2R hk2N hk2R,E57_1_ok d a0 b0 k2 x7 v31 k2N k2R hk2N hk2R]
   exact (L57_1_s d a0 x7 k2N k2R n x37).symm
noncomputable def X57_0_0 (d:Nat) (a0:List AV) :Ans :=
 some bt
theorem X57_0_0_ok (d:Nat) (a0:List AV) (b0 b114:Bool) (v115 v116:AV) (x117:Int) (b118:Bool) (v119 v120 v121 v122 v123 v124 v125 v126 v127 v128 v129 v130 v131 v132 v133 v134 v135 v136 v137 v138 v139 v140 v141:AV):r57X0_0 C0 d a0 b0 ⟨[(.lst a0),tz,(.bool b114),(iz (((List.length a0):Nat):Int)),v115,v116,(.lst a0),(iz (((List.length a0):Nat):Int)),(iz (((List.length a0):Nat):Int)),(.bool (decide ((((List.length a0):Nat):Int) < 3))),bf,(iz (((List.length a0):Nat):Int)),(.bool (decide ((((List.length a0):Nat):Int) > 8))),(.bool (decide ((((List.length a0):Nat):Int) > 8))),bf,(.lst a0),(.bool b0),bf,(iz (((List.length a0):Nat):Int)),(iz x117),(.bool b118),v119,v120,v121,v122,v123,v124,v125,v126,v127,v128,v129,v130,v131,v132,v133,v134,v135,v136,v137,v138,v139,v140,v141],[]⟩=X57_0_0 d a0 :=by
 unfold r57X0_0; refine Eq.trans (pl_len (by rfl)) ?_; refine yt ySs ?_; refine yt yB ?_; refine yt yS ?_; refine yt yAs ?_; refine yt ySs ?_; refine yt yI ?_; refine yt yB ?_; refine yt yAs ?_; refine Eq.trans (pl_sameH) ?_
 rfl
noncomputable def E57_0 (d:Nat) (a0:List AV) (b142:Bool):Ans :=
 some (.bool b142)
theorem E57_0_ok (d:Nat) (a0:List AV) (b0 b142:Bool) (x143 x144 x145:Int) (b146:Bool) (x147 x148 x149:Int) (b150:Bool) (x151:Int) (v152:AV) (x153:Int) (v154:AV) (x156 x157:Int) (v158:AV) (x159:Int) (v160:AV) (x162 x163:Int) (b164 b165:Bool) (v166 v167 v168 v169 v170:AV) (b171:Bool) (v172 v173:AV):r57E0 C0 d a0 b0 ⟨[(.lst a0),tz,(.bool b142),(iz (((List.length a0):Nat):Int)),(iz x143),(iz x144),(.lst a0),(iz (((List.length a0):Nat):Int)),(iz (((List.length a0):Nat):Int)),(.bool (decide ((((List.length a0):Nat):Int) < 3))),bf,(iz (((List.length a0):Nat):Int)),(.bool (decide ((((List.length a0):Nat):Int) > 8))),(.bool (decide ((((List.length a0):Nat):Int) > 8))),bf,(.lst a0),(.bool b0),bf,(iz (((List.length a0):Nat):Int)),(iz x145),(.bool b146),(iz x147),(iz x148),(iz x149),(.bool b150),(iz x151),v152,(iz x153),v154,(.agg [(iz x156),(iz x157)]),v158,(iz x159),v160,(.agg [(iz x162),(iz x163)]),(.bool b164),(.bool b165),v166,v167,v168,v169,v170,(.bool b171),v172,v173],[]⟩=E57_0 d a0 b142:=by
 unfold r57E0; refine Eq.trans (pl_len (by rfl)) ?_; refine yt ySs ?_; refine yt yB ?_; refine yt yS ?_; (iterate 2 (refine yt yI ?_)); refine yt ySs ?_; refine yt yI ?_; refine yt yB ?_; (iterate 3 (refine yt yI ?_)); refine yt yB ?_; refine yt yI ?_; refine yt yA ?_; refine yt yI ?_; refine yt yA ?_; refine yt yG ?_; (iterate 2 (refine yt yI ?_)); refine yt yA ?_; refine yt yI ?_; refine yt yA ?_; refine yt yG ?_; (iterate 2 (refine yt yI ?_)); (iterate 2 (refine yt yB ?_)); refine yt yAs ?_; refine yt yB ?_; refine yt yAs ?_; refine Eq.trans (pl_sameH) ?_
 rfl
noncomputable def L57_0 (d:Nat) (a0:List AV):Nat→Int→Ans
 | 0,_=>none
 | n+1,x7 =>
 cnd (decide (x7 < (((List.length a0):Nat):Int)))
  (L57_1 d a0 x7 (fun x7=>L57_0 d a0 n x7) (fun b142=>E57_0 d a0 b142) 10000000000000000000 0)
  (X57_0_0 d a0)
theorem L57_0_s (d:Nat) (a0:List AV) (n:Nat) (x7:Int):L57_0 d a0 (n+1) x7=(cnd (decide (x7 < (((List.length a0):Nat):Int)))
 (L57_1 d a0 x7 (fun x7=>L57_0 d a0 n x7) (fun b142=>E57_0 d a0 b142) 10000000000000000000 0)
 (X57_0_0 d a0)):=by kernel_rfl
theorem it57_0 (d:Nat) (a0:List AV) (b0:Bool)  :∀ (n:Nat) (b4:Bool) (v5 v6:AV) (x7:Int) (v8 v9 v10 v11 v12 v13 v14 v15 v16 v17 v18 v19 v20 v21 v22 v23 v24 v25 v26 v27 v28 v29 v30 v31:AV),C0.iter (r57R0 C0 d a0 b0) n ⟨[(.lst a0),tz,(.bool b4),(iz (((List.length a0):Nat):Int)),v5,v6,(.lst a0),(iz (((List.length a0):Nat):Int)),(iz (((List.length a0):Nat):Int)),(.bool (decide ((((List.length a0):Nat):Int) < 3))),bf,(iz (((List.length a0):Nat):Int)),(.bool (decide ((((List.length a0):Nat):Int) > 8))),(.bool (decide ((((List.length a0):Nat):Int) > 8))),bf,(.lst a0),(.bool b0),bf,(iz (((List.length a0):Nat):Int)),(iz x7),v8,v9,v10,v11,v12,v13,v14,v15,v16,v17,v18,v19,v20,v21,v22,v23,v24,v25,v26,v27,v28,v29,v30,v31],[]⟩ [0] [r57X0_0 C0 d a0 b0] (r57E0 C0 d a0 b0)=L57_0 d a0 n x7:=by
 generalize hR:r57R0 C0 d a0 b0=R
 intro n
 induction n with
 | zero=>intros; rfl
 | succ n ih =>
   intro b4 v5 v6 x7 v8 v9 v10 v11 v12 v13 v14 v15 v16 v17 v18 v19 v20 v21 v22 v23 v24 v25 v26 v27 v28 v29 v30 v31
   simp only [it_ret] at ih
   rw [it_ret,xiter_s]
   refine Eq.trans (congrFun (congrFun hR.symm _) _) ?_
   unfold r57R0
   refine Eq.trans (pl_len (by rfl)) ?_; refine yt ySs ?_; refine yt yB ?_; refine yt yS ?_; (iterate 2 (refine yt yA ?_)); refine yt ySs ?_; refine yt yI ?_; (iterate 24 (refine yt yA ?_)); refine Eq.trans (pl_sameH) ?_
   have I0:=it57_1 d a0 b0 (kIter R n (kOut [0] [r57X0_0 C0 d a0 b0] (r57E0 C0 d a0 b0))) x7 v31 (fun x7=>L57_0 d a0 n x7) (fun b142=>E57_0 d a0 b142) (fun b4 v5 v6 x7 v8 v9 v10 v11 v12 v13 v14 v15 v16 v17 v18 v19 v20 v21 v22 v23 v24 v25 v26 v27 v28 v29 v30 v31=>ih b4 v5 v6 x7 v8 v9 v10 v11 v12 v13 v14 v15 v16 v17 v18 v19 v20 v21 v22 v23 v24 v25 v26 v27 v28 v29 v30 v31) (fun b142 x143 x144 x145 b146 x147 x148 x149 b150 x151 v152 x153 v154 x156 x157 v158 x159 v160 x162 x163 b164 b165 v166 v167 v168 v169 v170 b171 v172 v173=>E57_0_ok d a0 b0   b142 x143 x144 x145 b146 x147 x148 x149 b150 x151 v152 x153 v154 x156 x157 v158 x159 v160 x162 x163 b164 b165 v166 v167 v168 v169 v170 b171 v172 v173)
   try dsimp only at I0
   simp only [kIter_n,kIter_x,kIter_r,kOut_x,kOut_r,xgo_hit,xgo_miss,ih,I0,X57_0_0_ok d a0 b0  ,E57_0_ok d a0 b0  ]
   exact (L57_0_s d a0 n x7).symm
theorem q57 (d:Nat) (a0:List AV):xcall C0 M unr d 57 [(.lst a0)] =
 cnd (decide ((((List.length a0):Nat):Int) < 3))
  (some bf)
  (cnd (decide ((((List.length a0):Nat):Int) > 8))
  (some bf)
  (C0.bool (pcall M d 58 [(.lst a0),(.fn 61 [] [])]) fun b0 =>
  cnd b0
  (some bf)
  (L57_0 d a0 10000000000000000000 0))):=(r57 C0 d a0).trans (by simp only [it57_0])
noncomputable def X64f61_0_0 (d:Nat) (a0:List AV) :Ans :=
 some (iz (-1))
theorem X64f61_0_0_ok (d:Nat) (a0:List AV) (x21:Int) (v22:AV) (x23:Int) (v24 v25 v26 v27 v28 v29 v30 v31 v32 v33:AV):r64f61X0_0 C0 d a0 ⟨[(.lst a0),(.fn 61 [] []),tz,tz,(iz x21),v22,(.lst a0),(iz (((List.length a0):Nat):Int)),(iz x23),v24,v25,v26,v27,v28,v29,v30,v31,v32,v33],[]⟩=X64f61_0_0 d a0 :=by
 unfold r64f61X0_0; refine Eq.trans (pl_len (by rfl)) ?_; refine yt ySs ?_; refine yt yI ?_; refine yt yA ?_; refine yt ySs ?_; refine yt yI ?_; refine yt yAs ?_; refine Eq.trans (pl_sameH) ?_
 rfl
noncomputable def E64f61_0 (d:Nat) (a0:List AV) (x34:Int):Ans :=
 some (iz x34)
theorem E64f61_0_ok (d:Nat) (a0:List AV) (x34 x35 x36:Int) (v37:AV) (x38:Int) (v39 v40:AV) (x41:Int) (v42:AV) (x44 x45:Int) (b46:Bool) (x47:Int) (v48:AV):r64f61E0 C0 d a0 ⟨[(.lst a0),(.fn 61 [] []),tz,tz,(iz x34),(iz x35),(.lst a0),(iz (((List.length a0):Nat):Int)),(iz x36),v37,(iz x38),v39,v40,(iz x41),v42,(.agg [(iz x44),(iz x45)]),(.bool b46),(iz x47),v48],[]⟩=E64f61_0 d a0 x34:=by
 unfold r64f61E0; refine Eq.trans (pl_len (by rfl)) ?_; refine yt ySs ?_; (iterate 2 (refine yt yI ?_)); refine yt ySs ?_; refine yt yI ?_; refine yt yA ?_; refine yt yI ?_; refine yt yAs ?_; refine yt yI ?_; refine yt yA ?_; refine yt yG ?_; (iterate 2 (refine yt yI ?_)); refine yt yB ?_; refine yt yI ?_; refine yt yA ?_; refine Eq.trans (pl_sameH) ?_
 rfl
noncomputable def L64f61_0 (d:Nat) (a0:List AV):Nat→Int→Ans
 | 0,_=>none
 | n+1,x5 =>
 cnd (decide (x5 < (((List.length a0):Nat):Int)))
  (cnd (decide ((0:Int)≤x5))
  (C0.agg 2 a0[(Int.toNat x5)]? fun l16 =>
  C0.int .i64 l16[0]? fun x17 =>
  C0.int .i64 l16[1]? fun x18 =>
  C0.bool (pcall M d 61 [(.agg [(iz x17),(iz x18)])]) fun b19 =>
  cnd b19
  (E64f61_0 d a0 x5)
  (L64f61_0 d a0 n (IntKind.wrap .i64 (x5+1))))
  (none))
  (X64f61_0_0 d a0)
theorem L64f61_0_s (d:Nat) (a0:List AV) (n:Nat) (x5:Int):L64f61_0 d a0 (n+1) x5=(cnd (decide (x5 < (((List.length a0):Nat):Int)))
 (cnd (decide ((0:Int)≤x5))
 (C0.agg 2 a0[(Int.toNat x5)]? fun l16 =>
 C0.int .i64 l16[0]? fun x17 =>
 C0.int .i64 l16[1]? fun x18 =>
 C0.bool (pcall M d 61 [(.agg [(iz x17),(iz x18)])]) fun b19 =>
 cnd b19
 (E64f61_0 d a0 x5)
 (L64f61_0 d a0 n (IntKind.wrap .i64 (x5+1))))
 (none))
 (X64f61_0_0 d a0)):=by kernel_rfl
theorem it64f61_0 (d:Nat) (a0:List AV)  :∀ (n:Nat) (x3:Int) (v4:AV) (x5:Int) (v6 v7 v8 v9 v10 v11 v12 v13 v14 v15:AV),C0.iter (r64f61R0 C0 d a0) n ⟨[(.lst a0),(.fn 61 [] []),tz,tz,(iz x3),v4,(.lst a0),(iz (((List.length a0):Nat):Int)),(iz x5),v6,v7,v8,v9,v10,v11,v12,v13,v14,v15],[]⟩ [0] [r64f61X0_0 C0 d a0] (r64f61E0 C0 d a0)=L64f61_0 d a0 n x5:=by
 generalize hR:r64f61R0 C0 d a0=R
 intro n
 induction n with
 | zero=>intros; rfl
 | succ n ih =>
   intro x3 v4 x5 v6 v7 v8 v9 v10 v11 v12 v13 v14 v15
   simp only [it_ret] at ih
   rw [it_ret,xiter_s]
   refine Eq.trans (congrFun (congrFun hR.symm _) _) ?_
   unfold r64f61R0
   refine Eq.trans (pl_len (by rfl)) ?_; refine yt ySs ?_; refine yt yI ?_; refine yt yA ?_; refine yt ySs ?_; refine yt yI ?_; (iterate 10 (refine yt yA ?_)); refine Eq.trans (pl_sameH) ?_
   simp only [kIter_n,kIter_x,kIter_r,kOut_x,kOut_r,xgo_hit,xgo_miss,ih,X64f61_0_0_ok d a0  ,E64f61_0_ok d a0  ]
   exact (L64f61_0_s d a0 n x5).symm
theorem q64f61 (d:Nat) (a0:List AV) (a1:AV):xcall C0 M unr d 64 [(.lst a0),(.fn 61 [] [])] =
 L64f61_0 d a0 10000000000000000000 0:=(r64f61 C0 d a0 a1).trans (by simp only [it64f61_0])
noncomputable def X64f59_0_0 (d:Nat) (a0:List AV) :Ans :=
 some (iz (-1))
theorem X64f59_0_0_ok (d:Nat) (a0:List AV) (x21:Int) (v22:AV) (x23:Int) (v24 v25 v26 v27 v28 v29 v30 v31 v32 v33:AV):r64f59X0_0 C0 d a0 ⟨[(.lst a0),(.fn 59 [] []),tz,tz,(iz x21),v22,(.lst a0),(iz (((List.length a0):Nat):Int)),(iz x23),v24,v25,v26,v27,v28,v29,v30,v31,v32,v33],[]⟩=X64f59_0_0 d a0 :=by
 unfold r64f59X0_0; refine Eq.trans (pl_len (by rfl)) ?_; refine yt ySs ?_; refine yt yI ?_; refine yt yA ?_; refine yt ySs ?_; refine yt yI ?_; refine yt yAs ?_; refine Eq.trans (pl_sameH) ?_
 rfl
noncomputable def E64f59_0 (d:Nat) (a0:List AV) (x34:Int):Ans :=
 some (iz x34)
theorem E64f59_0_ok (d:Nat) (a0:List AV) (x34 x35 x36:Int) (v37:AV) (x38:Int) (v39 v40:AV) (x41:Int) (v42:AV) (x44 x45:Int) (b46:Bool) (x47:Int) (v48:AV):r64f59E0 C0 d a0 ⟨[(.lst a0),(.fn 59 [] []),tz,tz,(iz x34),(iz x35),(.lst a0),(iz (((List.length a0):Nat):Int)),(iz x36),v37,(iz x38),v39,v40,(iz x41),v42,(.agg [(iz x44),(iz x45)]),(.bool b46),(iz x47),v48],[]⟩=E64f59_0 d a0 x34:=by
 unfold r64f59E0; refine Eq.trans (pl_len (by rfl)) ?_; refine yt ySs ?_; (iterate 2 (refine yt yI ?_)); refine yt ySs ?_; refine yt yI ?_; refine yt yA ?_; refine yt yI ?_; refine yt yAs ?_; refine yt yI ?_; refine yt yA ?_; refine yt yG ?_; (iterate 2 (refine yt yI ?_)); refine yt yB ?_; refine yt yI ?_; refine yt yA ?_; refine Eq.trans (pl_sameH) ?_
 rfl
noncomputable def L64f59_0 (d:Nat) (a0:List AV):Nat→Int→Ans
 | 0,_=>none
 | n+1,x5 =>
 cnd (decide (x5 < (((List.length a0):Nat):Int)))
  (cnd (decide ((0:Int)≤x5))
  (C0.agg 2 a0[(Int.toNat x5)]? fun l16 =>
  C0.int .i64 l16[0]? fun x17 =>
  C0.int .i64 l16[1]? fun x18 =>
  C0.bool (pcall M d 59 [(.agg [(iz x17),(iz x18)])]) fun b19 =>
  cnd b19
  (E64f59_0 d a0 x5)
  (L64f59_0 d a0 n (IntKind.wrap .i64 (x5+1))))
  (none))
  (X64f59_0_0 d a0)
theorem L64f59_0_s (d:Nat) (a0:List AV) (n:Nat) (x5:Int):L64f59_0 d a0 (n+1) x5=(cnd (decide (x5 < (((List.length a0):Nat):Int)))
 (cnd (decide ((0:Int)≤x5))
 (C0.agg 2 a0[(Int.toNat x5)]? fun l16 =>
 C0.int .i64 l16[0]? fun x17 =>
 C0.int .i64 l16[1]? fun x18 =>
 C0.bool (pcall M d 59 [(.agg [(iz x17),(iz x18)])]) fun b19 =>
 cnd b19
 (E64f59_0 d a0 x5)
 (L64f59_0 d a0 n (IntKind.wrap .i64 (x5+1))))
 (none))
 (X64f59_0_0 d a0)):=by kernel_rfl
theorem it64f59_0 (d:Nat) (a0:List AV)  :∀ (n:Nat) (x3:Int) (v4:AV) (x5:Int) (v6 v7 v8 v9 v10 v11 v12 v13 v14 v15:AV),C0.iter (r64f59R0 C0 d a0) n ⟨[(.lst a0),(.fn 59 [] []),tz,tz,(iz x3),v4,(.lst a0),(iz (((List.length a0):Nat):Int)),(iz x5),v6,v7,v8,v9,v10,v11,v12,v13,v14,v15],[]⟩ [0] [r64f59X0_0 C0 d a0] (r64f59E0 C0 d a0)=L64f59_0 d a0 n x5:=by
 generalize hR:r64f59R0 C0 d a0=R
 intro n
 induction n with
 | zero=>intros; rfl
 | succ n ih =>
   intro x3 v4 x5 v6 v7 v8 v9 v10 v11 v12 v13 v14 v15
   simp only [it_ret] at ih
   rw [it_ret,xiter_s]
   refine Eq.trans (congrFun (congrFun hR.symm _) _) ?_
   unfold r64f59R0
   refine Eq.trans (pl_len (by rfl)) ?_; refine yt ySs ?_; refine yt yI ?_; refine yt yA ?_; refine yt ySs ?_; refine yt yI ?_; (iterate 10 (refine yt yA ?_)); refine Eq.trans (pl_sameH) ?_
   simp only [kIter_n,kIter_x,kIter_r,kOut_x,kOut_r,xgo_hit,xgo_miss,ih,X64f59_0_0_ok d a0  ,E64f59_0_ok d a0  ]
   exact (L64f59_0_s d a0 n x5).symm
theorem q64f59 (d:Nat) (a0:List AV) (a1:AV):xcall C0 M unr d 64 [(.lst a0),(.fn 59 [] [])] =
 L64f59_0 d a0 10000000000000000000 0:=(r64f59 C0 d a0 a1).trans (by simp only [it64f59_0])
end Go.Proofs.Ytdceaeifcniabaa.AE

namespace Go.Proofs.Ytdceaeifcniabaa.AE
set_option linter.unusedVariables false
set_option linter.unusedSimpArgs false
set_option linter.constructorNameAsVariable false
open Go
theorem hget_s {H S:Heap} {k:Nat} {b:Blk} (h:S[k]?=some (some b)):hget (H ++ S) (H.length+k)=some b:=by
 unfold hget; rw [List.getElem?_append_right (by omega),show H.length+k - H.length=k by omega,h]
theorem set_s {H S:Heap} {k:Nat} {x:Option Blk}:(H ++ S).set (H.length+k) x=H ++ S.set k x:=by
 rw [List.set_append_right _ _ (by omega),show H.length+k - H.length=k by omega]
theorem al_n {H:Heap} {e:ETy} {K:AV→Heap→Ans}:C0.hop H (.alloc e) K=K (.ptr (H.length+0) 0 0) (H ++ [some ⟨e,[e.zero]⟩]):=rfl
theorem al_s {H S:Heap} {e:ETy} {K:AV→Heap→Ans}:C0.hop (H ++ S) (.alloc e) K=K (.ptr (H.length+S.length) 0 0) (H ++ (S ++ [some ⟨e,[e.zero]⟩])):=by
 refine (hop_eq rfl).trans ?_
 simp only [evO,List.length_append,List.append_assoc]
theorem bx_n {H:Heap} {e:ETy} {x:AV} {K:AV→Heap→Ans} (h:elOk e x=true):C0.hop H (.box e (.v x)) K=K (.ptr (H.length+0) 0 0) (H ++ [some ⟨e,[x]⟩]):=hop_eq (by simp [aop,evO,h])
theorem ld_s {H S:Heap} {k i j n:Nat} {ag:Bool} {b:Blk} {el v:AV} {K:AV→Heap→Ans} (h:S[k]?=some (some b)) (hi:b.els[i]?=some el) (hs:sub ag n j el=some v) :
 C0.hop (H ++ S) (.load ag n (.v (.ptr (H.length+k) i j))) K=K v (H ++ S):=ld_ptr (hget_s h) hi hs
theorem st_s {H S:Heap} {k i j n:Nat} {b:Blk} {el el' x:AV} {K:AV→Heap→Ans} (h:S[k]?=some (some b)) (hi:b.els[i]?=some el) (hs:putSub n j x el=some el') :
 C0.hop (H ++ S) (.store n (.v (.ptr (H.length+k) i j)) (.v x)) K=K .undef (H ++ S.set k (some { b with els:=b.els.set i el' })):=by
 rw [st_ptr (hget_s h) hi hs,set_s]
end Go.Proofs.Ytdceaeifcniabaa.AE

namespace Go.Proofs.Ytdceaeifcniabaa.AE
set_option linter.unusedVariables false
set_option linter.unusedSimpArgs false
set_option linter.constructorNameAsVariable false
open Go Go.Proofs.Ytdceaeifcniabaa.Geo
def vv (ps:List Pt) (i:Nat):Pt:=ps.getD i (0,0)
theorem vv_at {ps:List Pt} {i:Nat} (h:i < ps.length):(ps.map pt)[((i:Nat):Int).toNat]?=some (pt (vv ps i)):=by
 simp [vv,List.getD_eq_getElem?_getD,h]
theorem pmap_len (ps:List Pt):((ps.map pt).length:Nat)=ps.length:=by simp
def nx (ps:List Pt) (i:Nat):Nat:=(i+1) % ps.length
theorem nx_lt {ps:List Pt} {i:Nat} (h:i < ps.length):nx ps i < ps.length:=Nat.mod_lt _ (by omega)
theorem nx_int {ps:List Pt} {i:Nat} (h:i < ps.length) (hl:ps.length≤140737488355328):Int.tmod (IntKind.wrap .i64 ((i:Int)+1)) (((ps.map pt).length:Nat):Int)=((nx ps i:Nat):Int):=by
 rw [pmap_len,i64_small (by omega) (by omega),Int.tmod_eq_emod_of_nonneg (by omega)]
 simp [nx]
theorem s68 (d:Nat) (ps:List Pt) (i:Nat) (h:i < ps.length) (hl:ps.length≤140737488355328):pcall M (d+1) 68 [.lst (ps.map pt),.int .i64 i]=some (.tup [pt (vv ps i),pt (vv ps (nx ps i))]):=told (r68 C0 d _ _) (by
 rw [decide_eq_true (by omega),cnd_t,vv_at h]
 refine Eq.trans (pl_agg (by rfl) (by rfl)) ?_; refine Eq.trans (pl_int (by rfl)) ?_; refine Eq.trans (pl_int (by rfl)) ?_
 rw [decide_eq_false (by rw [pmap_len]; omega),cnd_f,nx_int h hl,decide_eq_true (by omega),cnd_t,vv_at (nx_lt h)]
 refine Eq.trans (pl_agg (by rfl) (by rfl)) ?_; refine Eq.trans (pl_int (by rfl)) ?_; refine Eq.trans (pl_int (by rfl)) ?_
 rfl)
theorem s53 (d:Nat) (ps:List Pt) (i:Nat) (h:i < ps.length) (hl:ps.length≤140737488355328):pcall M (d+1) 53 [.lst (ps.map pt),.int .i64 i]=some (pt (vv ps (nx ps i))):=told (r53 C0 d _ _) (by
 rw [decide_eq_false (by rw [pmap_len]; omega),cnd_f,nx_int h hl,decide_eq_true (by omega),cnd_t,vv_at (nx_lt h)]
 refine Eq.trans (pl_agg (by rfl) (by rfl)) ?_; refine Eq.trans (pl_int (by rfl)) ?_; refine Eq.trans (pl_int (by rfl)) ?_
 rfl)
def apartB (ps:List Pt) (k i:Nat):Bool :=
 if nx ps k=i then !onB (vv ps (nx ps i)) (vv ps k) (vv ps (nx ps k)) && !onB (vv ps k) (vv ps i) (vv ps (nx ps i))
 else if nx ps i=k then !onB (vv ps i) (vv ps k) (vv ps (nx ps k)) && !onB (vv ps (nx ps k)) (vv ps i) (vv ps (nx ps i))
 else !meetB (vv ps k) (vv ps (nx ps k)) (vv ps i) (vv ps (nx ps i))
theorem cast_beq (a b:Nat):(((a:Nat):Int) == ((b:Nat):Int))=decide (a=b):=by
 by_cases h:a=b
 ·subst h; simp
 ·rw [decide_eq_false h]; simp; omega
theorem s63 (d:Nat) (ps:List Pt) (k i:Nat) (hk:k < ps.length) (hi:i < ps.length) (hl:ps.length≤140737488355328) :
 pcall M (d+10) 63 [.lst (ps.map pt),.int .i64 k,.int .i64 i]=some (.bool (apartB ps k i)):=told (r63 C0 (d+9) _ _ _) (by
 refine Eq.trans (pl_tup (s68 (d+8) ps k hk hl) (by rfl)) ?_
 refine Eq.trans (pl_agg (by rfl) (by rfl)) ?_; refine Eq.trans (pl_int (by rfl)) ?_; refine Eq.trans (pl_int (by rfl)) ?_; refine Eq.trans (pl_agg (by rfl) (by rfl)) ?_; refine Eq.trans (pl_int (by rfl)) ?_; refine Eq.trans (pl_int (by rfl)) ?_
 refine Eq.trans (pl_tup (s68 (d+8) ps i hi hl) (by rfl)) ?_
 refine Eq.trans (pl_agg (by rfl) (by rfl)) ?_; refine Eq.trans (pl_int (by rfl)) ?_; refine Eq.trans (pl_int (by rfl)) ?_; refine Eq.trans (pl_agg (by rfl) (by rfl)) ?_; refine Eq.trans (pl_int (by rfl)) ?_; refine Eq.trans (pl_int (by rfl)) ?_
 rw [decide_eq_false (by rw [pmap_len]; omega),cnd_f,cnd_f,nx_int hk hl,nx_int hi hl,cast_beq,cast_beq]
 have o:=fun p q r=>s69 (d+1) p q r
 have m:=s70 d (vv ps k) (vv ps (nx ps k)) (vv ps i) (vv ps (nx ps i))
 simp only [pt] at o m
 unfold apartB
 by_cases h1:nx ps k=i
 ·rw [decide_eq_true h1,cnd_t,if_pos h1,o,o,C0_bool,C0_bool]
  cases onB (vv ps (nx ps i)) (vv ps k) (vv ps (nx ps k)) <;> rfl
 ·rw [decide_eq_false h1,cnd_f,if_neg h1]
  by_cases h2:nx ps i=k
  ·rw [decide_eq_true h2,cnd_t,if_pos h2,o,o,C0_bool,C0_bool]
   cases onB (vv ps i) (vv ps k) (vv ps (nx ps k)) <;> rfl
  ·rw [decide_eq_false h2,cnd_f,if_neg h2,m,C0_bool])
def pairB (ps:List Pt) (k i:Nat):Bool:=!decide (vv ps i=vv ps k) && apartB ps k i
def upAll (f:Nat→Bool):Nat→Nat→Bool
 | 0,_=>true
 | m+1,i=>f i && upAll f m (i+1)
theorem upAll_iff (f:Nat→Bool):∀ (m i:Nat),upAll f m i=true ↔ ∀ j,i≤j→j < i+m→f j=true
 | 0,i=>by simp only [upAll]; exact ⟨fun _ j h1 h2=>by omega,fun _=>trivial⟩
 | m+1,i=>by
   simp only [upAll,Bool.and_eq_true,upAll_iff f m (i+1)]
   constructor
   ·rintro ⟨h,h'⟩ j h1 h2
    by_cases hj:j=i
    ·subst hj; exact h
    ·exact h' j (by omega) (by omega)
   ·intro h
    exact ⟨h i (Nat.le_refl _) (by omega),fun j h1 h2=>h j (by omega) (by omega)⟩
theorem pt_beq (p q:Pt):(xor false ((p.1 == q.1) && ((p.2 == q.2) && true)))=decide (p=q):=by
 rw [Bool.false_xor,Bool.and_true,Bool.eq_iff_iff,Bool.and_eq_true,beq_iff_eq,beq_iff_eq,decide_eq_true_iff]
 exact ⟨fun h=>Prod.ext h.1 h.2,fun h=>by rw [h]; exact ⟨rfl,rfl⟩⟩
theorem simple1 (d:Nat) (ps:List Pt) (i:Nat) (hi:i < ps.length) (hl:ps.length≤140737488355328) (kN:Int→Ans) (kR:Bool→Ans):∀ (m k f:Nat),k+m=i→m < f →
 L57_1 (d+10) (ps.map pt) (i:Nat) kN kR f (k:Nat)=bif upAll (fun k=>pairB ps k i) m k then kN ((i+1:Nat):Int) else kR false:=by
 intro m
 induction m with
 | zero =>
   intro k f hk hf
   obtain ⟨f,rfl⟩:∃ g,f=g+1:=⟨f - 1,by omega⟩
   rw [L57_1,decide_eq_false (by omega),cnd_f,X57_1_0,i64_small (by omega) (by omega)]; rfl
 | succ m ih =>
   intro k f hk hf
   obtain ⟨f,rfl⟩:∃ g,f=g+1:=⟨f - 1,by omega⟩
   rw [L57_1,decide_eq_true (by omega),cnd_t,decide_eq_true (by omega),cnd_t,vv_at hi]
   refine Eq.trans (pl_agg (by rfl) (by rfl)) ?_; refine Eq.trans (pl_int (by rfl)) ?_; refine Eq.trans (pl_int (by rfl)) ?_
   rw [decide_eq_true (by omega),cnd_t,vv_at (show k < ps.length by omega)]
   refine Eq.trans (pl_agg (by rfl) (by rfl)) ?_; refine Eq.trans (pl_int (by rfl)) ?_; refine Eq.trans (pl_int (by rfl)) ?_
   rw [pt_beq,s63 d ps k i (by omega) hi hl]
   simp only [upAll,pairB]
   by_cases he:vv ps i=vv ps k
   ·rw [decide_eq_true he,cnd_t]; rfl
   ·rw [decide_eq_false he,cnd_f,C0_bool]
    cases apartB ps k i
    ·rfl
    ·refine Eq.trans (pl_f (by rfl)) ?_
     rw [show IntKind.wrap .i64 ((k:Int)+1)=((k+1:Nat):Int) by rw [i64_small (by omega) (by omega)]; rfl,ih (k+1) f (by omega) (by omega)]
     simp only [Bool.not_false,Bool.true_and]
     rfl
theorem simple0 (d:Nat) (ps:List Pt) (hl:ps.length≤140737488355328):∀ (m i f:Nat),i+m=ps.length→m < f →
 L57_0 (d+10) (ps.map pt) f (i:Nat)=some (.bool (upAll (fun i=>upAll (fun k=>pairB ps k i) i 0) m i)):=by
 intro m
 induction m with
 | zero =>
   intro i f hk hf
   obtain ⟨f,rfl⟩:∃ g,f=g+1:=⟨f - 1,by omega⟩
   rw [L57_0,decide_eq_false (by rw [pmap_len]; omega),cnd_f]; rfl
 | succ m ih =>
   intro i f hk hf
   obtain ⟨f,rfl⟩:∃ g,f=g+1:=⟨f - 1,by omega⟩
   rw [L57_0,decide_eq_true (by rw [pmap_len]; omega),cnd_t]
   refine (simple1 d ps i (by omega) hl _ _ i 0 _ (by omega) (by omega)).trans ?_
   rw [ih (i+1) f (by omega) (by omega)]
   simp only [upAll]
   cases upAll (fun k=>pairB ps k i) i 0 <;> rfl
theorem pairs_two (g:Nat→Nat→Bool) (n:Nat):upAll (fun i=>upAll (fun k=>g k i) i 0) n 0=upAll (fun k=>upAll (fun i=>g k i) (n - k - 1) (k+1)) n 0:=by
 rw [Bool.eq_iff_iff]
 simp only [upAll_iff]
 constructor
 ·intro h k _ h2 i h3 h4; exact h i (by omega) (by omega) k (by omega) (by omega)
 ·intro h i _ h2 k h3 h4; exact h k (by omega) (by omega) i (by omega) (by omega)
def fiG (g:Pt→Bool):List Pt→Int→Int
 | [],_=>-1
 | p::l,i=>bif g p then i else fiG g l (i+1)
theorem fiG_any (g:Pt→Bool) (ps:List Pt):∀ i:Int,0≤i→decide (fiG g ps i ≥ 0)=ps.any g:=by
 induction ps with
 | nil=>intro i hi; simp [fiG]
 | cons p l ih =>
   intro i hi
   have h:=ih (i+1) (by omega)
   have e:∀ b:Bool,decide ((bif b then i else fiG g l (i+1)) ≥ 0)=(b || l.any g):=fun b=>by
    match b with
    | false=>exact h
    | true=>exact decide_eq_true hi
   exact e (g p)
theorem s64f61 (d:Nat) (g:Pt→Bool) (ps:List Pt) (hl:ps.length≤140737488355328) (hg:∀ p ∈ ps,pcall M d 61 [pt p]=some (.bool (g p))):∀ (l2:List Pt) (i f:Nat),ps.drop i=l2→l2.length < f →
 L64f61_0 d (ps.map pt) f (i:Nat)=some (.int .i64 (fiG g l2 (i:Nat))):=by
 intro l2
 induction l2 with
 | nil =>
   intro i f hd hf
   obtain ⟨f,rfl⟩:∃ m,f=m+1:=⟨f - 1,by omega⟩
   have:ps.length≤i:=List.drop_eq_nil_iff.mp hd
   rw [L64f61_0,decide_eq_false (by rw [pmap_len]; omega),cnd_f]; rfl
 | cons p l2 ih =>
   intro i f hd hf
   obtain ⟨f,rfl⟩:∃ m,f=m+1:=⟨f - 1,by simp at hf; omega⟩
   have hi:i < ps.length:=by
    rcases Nat.lt_or_ge i ps.length with h | h
    ·exact h
    ·rw [List.drop_eq_nil_of_le h] at hd; cases hd
   have hp:ps[i]=p:=by have:=List.drop_eq_getElem_cons hi; rw [hd] at this; exact (List.cons.inj this).1.symm
   have hd2:ps.drop (i+1)=l2:=by have:=List.drop_eq_getElem_cons hi; rw [hd] at this; exact (List.cons.inj this).2.symm
   have hg':=hg ps[i] (List.getElem_mem _)
   simp only [pt] at hg'
   rw [L64f61_0,decide_eq_true (by rw [pmap_len]; omega),cnd_t,decide_eq_true (by omega),cnd_t,pts_at hi]
   refine Eq.trans (pl_agg (by rfl) (by rfl)) ?_; refine Eq.trans (pl_int (by rfl)) ?_; refine Eq.trans (pl_int (by rfl)) ?_
   rw [hg',C0_bool,hp]
   simp only [fiG]
   cases g p
   ·refine Eq.trans (pl_f (by rfl)) ?_
    rw [show IntKind.wrap .i64 ((i:Int)+1)=((i+1:Nat):Int) by rw [IntKind.wrap_i64]; omega]
    exact (ih (i+1) f hd2 (by simp at hf; omega)).trans (by simp)
   ·rfl
theorem s58f61 (d:Nat) (g:Pt→Bool) (ps:List Pt) (hl:ps.length≤140737488355328) (hg:∀ p ∈ ps,pcall M d 61 [pt p]=some (.bool (g p))) :
 pcall M (d+2) 58 [.lst (ps.map pt),.fn 61 [] []]=some (.bool (ps.any g)):=told (r58f61 C0 (d+1) _ .nilp) (by
 have h:pcall M (d+1) 64 [.lst (ps.map pt),.fn 61 [] []]=some (.int .i64 (fiG g ps 0)) :=
  told (q64f61 d (ps.map pt) .nilp) (s64f61 d g ps hl hg ps 0 _ rfl (by omega))
 rw [h,C0_int,fiG_any g ps 0 (by decide)])
theorem s64f59 (d:Nat) (g:Pt→Bool) (ps:List Pt) (hl:ps.length≤140737488355328) (hg:∀ p ∈ ps,pcall M d 59 [pt p]=some (.bool (g p))):∀ (l2:List Pt) (i f:Nat),ps.drop i=l2→l2.length < f →
 L64f59_0 d (ps.map pt) f (i:Nat)=some (.int .i64 (fiG g l2 (i:Nat))):=by
 intro l2
 induction l2 with
 | nil =>
   intro i f hd hf
   obtain ⟨f,rfl⟩:∃ m,f=m+1:=⟨f - 1,by omega⟩
   have:ps.length≤i:=List.drop_eq_nil_iff.mp hd
   rw [L64f59_0,decide_eq_false (by rw [pmap_len]; omega),cnd_f]; rfl
 | cons p l2 ih =>
   intro i f hd hf
   obtain ⟨f,rfl⟩:∃ m,f=m+1:=⟨f - 1,by simp at hf; omega⟩
   have hi:i < ps.length:=by
    rcases Nat.lt_or_ge i ps.length with h | h
    ·exact h
    ·rw [List.drop_eq_nil_of_le h] at hd; cases hd
   have hp:ps[i]=p:=by have:=List.drop_eq_getElem_cons hi; rw [hd] at this; exact (List.cons.inj this).1.symm
   have hd2:ps.drop (i+1)=l2:=by have:=List.drop_eq_getElem_cons hi; rw [hd] at this; exact (List.cons.inj this).2.symm
   have hg':=hg ps[i] (List.getElem_mem _)
   simp only [pt] at hg'
   rw [L64f59_0,decide_eq_true (by rw [pmap_len]; omega),cnd_t,decide_eq_true (by omega),cnd_t,pts_at hi]
   refine Eq.trans (pl_agg (by rfl) (by rfl)) ?_; refine Eq.trans (pl_int (by rfl)) ?_; refine Eq.trans (pl_int (by rfl)) ?_
   rw [hg',C0_bool,hp]
   simp only [fiG]
   cases g p
   ·refine Eq.trans (pl_f (by rfl)) ?_
    rw [show IntKind.wrap .i64 ((i:Int)+1)=((i+1:Nat):Int) by rw [IntKind.wrap_i64]; omega]
    exact (ih (i+1) f hd2 (by simp at hf; omega)).trans (by simp)
   ·rfl
theorem s58f59 (d:Nat) (g:Pt→Bool) (ps:List Pt) (hl:ps.length≤140737488355328) (hg:∀ p ∈ ps,pcall M d 59 [pt p]=some (.bool (g p))) :
 pcall M (d+2) 58 [.lst (ps.map pt),.fn 59 [] []]=some (.bool (ps.any g)):=told (r58f59 C0 (d+1) _ .nilp) (by
 have h:pcall M (d+1) 64 [.lst (ps.map pt),.fn 59 [] []]=some (.int .i64 (fiG g ps 0)) :=
  told (q64f59 d (ps.map pt) .nilp) (s64f59 d g ps hl hg ps 0 _ rfl (by omega))
 rw [h,C0_int,fiG_any g ps 0 (by decide)])
theorem s61 (d:Nat) (p:Pt):pcall M (d+3) 61 [pt p]=some (.bool (!okb p)):=told (r61 C0 (d+2) _ _) (by
 have:=s62 d p
 simp only [pt] at this
 rw [this,C0_bool]; rfl)
def farB (p:Pt):Bool:=!decide (-1073741824≤p.1∧p.1≤1073741824∧-1073741824≤p.2∧p.2≤1073741824)
theorem s59 (d:Nat) (p:Pt) (h:OkP p):pcall M (d+1) 59 [pt p]=some (.bool (farB p)):=told (r59 C0 d _ _) (by
 obtain ⟨⟨h1,h2⟩,h3,h4⟩:=h
 rw [i64_small (n:=0 - p.1) (by omega) (by omega),i64_small (n:=0 - p.2) (by omega) (by omega)]
 congr 2
 rw [Bool.eq_iff_iff]
 unfold farB
 simp only [decide_eq_true_iff,Bool.not_eq_true',decide_eq_false_iff_not]
 split <;> split <;> split <;> omega)
def allPairs (ps:List Pt):Bool:=upAll (fun i=>upAll (fun k=>pairB ps k i) i 0) ps.length 0
def simpleB (ps:List Pt):Bool:=decide (3≤ps.length) && (decide (ps.length≤8) && (ps.all okb && allPairs ps))
def rightB (ps:List Pt):Bool:=simpleB ps && !ps.any farB
theorem any_not (ps:List Pt):(ps.any fun p=>!okb p)=!ps.all okb:=by
 induction ps with
 | nil=>rfl
 | cons p l ih=>simp only [List.any_cons,List.all_cons,ih,Bool.not_and]
theorem s57 (d:Nat) (ps:List Pt) (hl:ps.length≤140737488355328):pcall M (d+11) 57 [.lst (ps.map pt)]=some (.bool (simpleB ps)):=told (q57 (d+10) _) (by
 have hc:=s58f61 (d+8) (fun p=>!okb p) ps hl (fun p _=>s61 (d+5) p)
 have h0:=simple0 d ps hl ps.length 0 10000000000000000000 (by omega) (by omega)
 rw [hc,C0_bool,any_not,pmap_len,show (0:Int)=((0:Nat):Int) from rfl,h0]
 unfold simpleB
 by_cases h1:3≤ps.length
 ·rw [decide_eq_false (by omega),cnd_f,decide_eq_true h1]
  by_cases h2:ps.length≤8
  ·rw [decide_eq_false (by omega),cnd_f,decide_eq_true h2]
   cases ps.all okb <;> rfl
  ·rw [decide_eq_true (by omega),cnd_t,decide_eq_false h2]; rfl
 ·rw [decide_eq_true (by omega),cnd_t,decide_eq_false h1]; rfl)
theorem simple_ok {ps:List Pt} (h:simpleB ps=true):3≤ps.length∧ps.length≤8∧∀ p ∈ ps,OkP p:=by
 unfold simpleB at h
 simp only [Bool.and_eq_true,decide_eq_true_iff,List.all_eq_true,okb_t] at h
 exact ⟨h.1,h.2.1,h.2.2.1⟩
theorem s51 (d:Nat) (ps:List Pt) (hl:ps.length≤140737488355328):pcall M (d+12) 51 [.lst (ps.map pt)]=some (.bool (rightB ps)):=told (r51 C0 (d+11) _) (by
 rw [s57 d ps hl,C0_bool]
 unfold rightB
 cases hs:simpleB ps
 ·rfl
 ·have hc:=s58f59 (d+9) farB ps hl (fun p hp=>s59 (d+8) p ((simple_ok hs).2.2 p hp))
  rw [hc,cnd_t,C0_bool]; rfl)
theorem nx_up {ps:List Pt} {k i:Nat} (hk:k < i) (hi:i < ps.length):nx ps k=k+1:=Nat.mod_eq_of_lt (by omega)
theorem nx_back {ps:List Pt} {k i:Nat} (hk:k < i) (hi:i < ps.length):nx ps i=k ↔ k=0∧i=ps.length - 1:=by
 unfold nx
 by_cases h:i+1=ps.length
 ·rw [h,Nat.mod_self]; omega
 ·rw [Nat.mod_eq_of_lt (by omega)]; omega
theorem rsimple2 (d:Nat) (ps:List Pt) (k:Nat) (hl:ps.length≤140737488355328) (kN:Int→Heap→Ans) (kR:Bool→Heap→Ans) (rN rR:Ans) (hN:∀ H,kN ((k+1:Nat):Int) H=rN) (hR:∀ H,kR false H=rR) :
 ∀ (m i f:Nat) (H:Heap),i+m=ps.length→m < f→k < i →
 L46_2 (d+7) (ps.map pt) (ps.length:Nat) (k:Nat) kN kR f (i:Nat) H=bif upAll (fun i=>pairB ps k i) m i then rN else rR:=by
 intro m
 induction m with
 | zero =>
   intro i f H hi hf hk
   obtain ⟨f,rfl⟩:∃ g,f=g+1:=⟨f - 1,by omega⟩
   rw [L46_2,decide_eq_false (by omega),cnd_f,X46_2_0,i64_small (by omega) (by omega)]
   exact hN H
 | succ m ih =>
   intro i f H hi hf hk
   obtain ⟨f,rfl⟩:∃ g,f=g+1:=⟨f - 1,by omega⟩
   have hkl:k < ps.length:=by omega
   have hil:i < ps.length:=by omega
   have o:=fun p q r=>s54 (d+1) p q r
   have mt:=s55 d (vv ps k) (vv ps (nx ps k)) (vv ps i) (vv ps (nx ps i))
   simp only [pt] at o mt
   have w1:IntKind.wrap .i64 ((i:Int)+1)=((i+1:Nat):Int):=by rw [i64_small (by omega) (by omega)]; rfl
   have w2:IntKind.wrap .i64 ((k:Int)+1)=((k+1:Nat):Int):=by rw [i64_small (by omega) (by omega)]; rfl
   have w3:IntKind.wrap .i64 ((ps.length:Int) - 1)=((ps.length - 1:Nat):Int):=by rw [i64_small (by omega) (by omega)]; omega
   rw [L46_2,decide_eq_true (by omega),cnd_t]
   refine Eq.trans (ix_lst (by omega) (vv_at hkl) (by rfl)) ?_
   refine Eq.trans (hop_eq (by rfl)) ?_; refine Eq.trans (pl_agg (by rfl) (by rfl)) ?_; refine Eq.trans (pl_int (by rfl)) ?_; refine Eq.trans (pl_int (by rfl)) ?_
   refine Eq.trans (snp_free (by rfl)) ?_
   refine Eq.trans (pl_agg (s53 (d+6) ps k hkl hl) (by rfl)) ?_
   refine Eq.trans (pl_int (by rfl)) ?_; refine Eq.trans (pl_int (by rfl)) ?_; refine Eq.trans (pl_len (by rfl)) ?_
   refine Eq.trans (ix_lst (by omega) (vv_at hil) (by rfl)) ?_
   refine Eq.trans (hop_eq (by rfl)) ?_; refine Eq.trans (pl_agg (by rfl) (by rfl)) ?_; refine Eq.trans (pl_int (by rfl)) ?_; refine Eq.trans (pl_int (by rfl)) ?_
   refine Eq.trans (snp_free (by rfl)) ?_
   refine Eq.trans (pl_agg (s53 (d+6) ps i hil hl) (by rfl)) ?_
   refine Eq.trans (pl_int (by rfl)) ?_; refine Eq.trans (pl_int (by rfl)) ?_; refine Eq.trans (pl_len (by rfl)) ?_
   refine Eq.trans al_n ?_; refine Eq.trans al_s ?_; refine Eq.trans al_s ?_; refine Eq.trans al_s ?_
   refine Eq.trans (C0_disj (by rfl)) ?_
   refine Eq.trans (st_s (by rfl) (by rfl) (by rfl)) ?_
   refine Eq.trans (C0_disj (by rfl)) ?_
   refine Eq.trans (st_s (by rfl) (by rfl) (by rfl)) ?_; refine Eq.trans (st_s (by rfl) (by rfl) (by rfl)) ?_; refine Eq.trans (st_s (by rfl) (by rfl) (by rfl)) ?_; refine Eq.trans (ld_s (by rfl) (by rfl) (by rfl)) ?_; refine Eq.trans (pl_agg (by rfl) (by rfl)) ?_; refine Eq.trans (pl_int (by rfl)) ?_; refine Eq.trans (pl_int (by rfl)) ?_; refine Eq.trans (ld_s (by rfl) (by rfl) (by rfl)) ?_; refine Eq.trans (pl_agg (by rfl) (by rfl)) ?_; refine Eq.trans (pl_int (by rfl)) ?_; refine Eq.trans (pl_int (by rfl)) ?_
   rw [pt_beq,w1,w2,w3,cast_beq,cast_beq,show ((k:Int) == 0)=decide (k=0) from cast_beq k 0]
   simp only [upAll,pairB,apartB]
   by_cases he:vv ps i=vv ps k
   ·rw [decide_eq_true he.symm,cnd_t,decide_eq_true he]; exact hR _
   ·rw [decide_eq_false (fun h=>he h.symm),cnd_f,decide_eq_false he]
    by_cases h1:i=k+1
    ·rw [decide_eq_true h1,cnd_t,if_pos (by rw [nx_up hk hil,h1])]
     refine Eq.trans (ld_s (by rfl) (by rfl) (by rfl)) ?_; refine Eq.trans (pl_agg (by rfl) (by rfl)) ?_; refine Eq.trans (pl_int (by rfl)) ?_; refine Eq.trans (pl_int (by rfl)) ?_; refine Eq.trans (ld_s (by rfl) (by rfl) (by rfl)) ?_; refine Eq.trans (pl_agg (by rfl) (by rfl)) ?_; refine Eq.trans (pl_int (by rfl)) ?_; refine Eq.trans (pl_int (by rfl)) ?_; refine Eq.trans (ld_s (by rfl) (by rfl) (by rfl)) ?_; refine Eq.trans (pl_agg (by rfl) (by rfl)) ?_; refine Eq.trans (pl_int (by rfl)) ?_; refine Eq.trans (pl_int (by rfl)) ?_
     refine Eq.trans (pl_bool (o (vv ps (nx ps i)) (vv ps k) (vv ps (nx ps k)))) ?_
     cases onB (vv ps (nx ps i)) (vv ps k) (vv ps (nx ps k))
     ·refine Eq.trans (pl_f (by rfl)) ?_; refine Eq.trans (ld_s (by rfl) (by rfl) (by rfl)) ?_; refine Eq.trans (pl_agg (by rfl) (by rfl)) ?_; refine Eq.trans (pl_int (by rfl)) ?_; refine Eq.trans (pl_int (by rfl)) ?_; refine Eq.trans (ld_s (by rfl) (by rfl) (by rfl)) ?_; refine Eq.trans (pl_agg (by rfl) (by rfl)) ?_; refine Eq.trans (pl_int (by rfl)) ?_; refine Eq.trans (pl_int (by rfl)) ?_; refine Eq.trans (ld_s (by rfl) (by rfl) (by rfl)) ?_; refine Eq.trans (pl_agg (by rfl) (by rfl)) ?_; refine Eq.trans (pl_int (by rfl)) ?_; refine Eq.trans (pl_int (by rfl)) ?_
      refine Eq.trans (pl_bool (o (vv ps k) (vv ps i) (vv ps (nx ps i)))) ?_
      cases onB (vv ps k) (vv ps i) (vv ps (nx ps i))
      ·refine Eq.trans (pl_f (by rfl)) ?_
       exact ih (i+1) f _ (by omega) (by omega) (by omega)
      ·exact hR _
     ·exact hR _
    ·rw [decide_eq_false h1,cnd_f,if_neg (by rw [nx_up hk hil]; omega)]
     by_cases h2:k=0
     ·rw [decide_eq_true h2,cnd_t]
      by_cases h3:i=ps.length - 1
      ·rw [decide_eq_true h3,cnd_t,if_pos ((nx_back hk hil).mpr ⟨h2,h3⟩)]
       refine Eq.trans (ld_s (by rfl) (by rfl) (by rfl)) ?_; refine Eq.trans (pl_agg (by rfl) (by rfl)) ?_; refine Eq.trans (pl_int (by rfl)) ?_; refine Eq.trans (pl_int (by rfl)) ?_; refine Eq.trans (ld_s (by rfl) (by rfl) (by rfl)) ?_; refine Eq.trans (pl_agg (by rfl) (by rfl)) ?_; refine Eq.trans (pl_int (by rfl)) ?_; refine Eq.trans (pl_int (by rfl)) ?_; refine Eq.trans (ld_s (by rfl) (by rfl) (by rfl)) ?_; refine Eq.trans (pl_agg (by rfl) (by rfl)) ?_; refine Eq.trans (pl_int (by rfl)) ?_; refine Eq.trans (pl_int (by rfl)) ?_
       refine Eq.trans (pl_bool (o (vv ps i) (vv ps k) (vv ps (nx ps k)))) ?_
       cases onB (vv ps i) (vv ps k) (vv ps (nx ps k))
       ·refine Eq.trans (pl_f (by rfl)) ?_; refine Eq.trans (ld_s (by rfl) (by rfl) (by rfl)) ?_; refine Eq.trans (pl_agg (by rfl) (by rfl)) ?_; refine Eq.trans (pl_int (by rfl)) ?_; refine Eq.trans (pl_int (by rfl)) ?_; refine Eq.trans (ld_s (by rfl) (by rfl) (by rfl)) ?_; refine Eq.trans (pl_agg (by rfl) (by rfl)) ?_; refine Eq.trans (pl_int (by rfl)) ?_; refine Eq.trans (pl_int (by rfl)) ?_; refine Eq.trans (ld_s (by rfl) (by rfl) (by rfl)) ?_; refine Eq.trans (pl_agg (by rfl) (by rfl)) ?_; refine Eq.trans (pl_int (by rfl)) ?_; refine Eq.trans (pl_int (by rfl)) ?_
        refine Eq.trans (pl_bool (o (vv ps (nx ps k)) (vv ps i) (vv ps (nx ps i)))) ?_
        cases onB (vv ps (nx ps k)) (vv ps i) (vv ps (nx ps i))
        ·refine Eq.trans (pl_f (by rfl)) ?_
         exact ih (i+1) f _ (by omega) (by omega) (by omega)
        ·exact hR _
       ·exact hR _
      ·rw [decide_eq_false h3,cnd_f,if_neg (fun h=>h3 ((nx_back hk hil).mp h).2)]
       refine Eq.trans (ld_s (by rfl) (by rfl) (by rfl)) ?_; refine Eq.trans (pl_agg (by rfl) (by rfl)) ?_; refine Eq.trans (pl_int (by rfl)) ?_; refine Eq.trans (pl_int (by rfl)) ?_; refine Eq.trans (ld_s (by rfl) (by rfl) (by rfl)) ?_; refine Eq.trans (pl_agg (by rfl) (by rfl)) ?_; refine Eq.trans (pl_int (by rfl)) ?_; refine Eq.trans (pl_int (by rfl)) ?_; refine Eq.trans (ld_s (by rfl) (by rfl) (by rfl)) ?_; refine Eq.trans (pl_agg (by rfl) (by rfl)) ?_; refine Eq.trans (pl_int (by rfl)) ?_; refine Eq.trans (pl_int (by rfl)) ?_; refine Eq.trans (ld_s (by rfl) (by rfl) (by rfl)) ?_; refine Eq.trans (pl_agg (by rfl) (by rfl)) ?_; refine Eq.trans (pl_int (by rfl)) ?_; refine Eq.trans (pl_int (by rfl)) ?_
       refine Eq.trans (pl_bool mt) ?_
       cases meetB (vv ps k) (vv ps (nx ps k)) (vv ps i) (vv ps (nx ps i))
       ·refine Eq.trans (pl_f (by rfl)) ?_
        exact ih (i+1) f _ (by omega) (by omega) (by omega)
       ·exact hR _
     ·rw [decide_eq_false h2,cnd_f,if_neg (fun h=>h2 ((nx_back hk hil).mp h).1)]
      refine Eq.trans (ld_s (by rfl) (by rfl) (by rfl)) ?_; refine Eq.trans (pl_agg (by rfl) (by rfl)) ?_; refine Eq.trans (pl_int (by rfl)) ?_; refine Eq.trans (pl_int (by rfl)) ?_; refine Eq.trans (ld_s (by rfl) (by rfl) (by rfl)) ?_; refine Eq.trans (pl_agg (by rfl) (by rfl)) ?_; refine Eq.trans (pl_int (by rfl)) ?_; refine Eq.trans (pl_int (by rfl)) ?_; refine Eq.trans (ld_s (by rfl) (by rfl) (by rfl)) ?_; refine Eq.trans (pl_agg (by rfl) (by rfl)) ?_; refine Eq.trans (pl_int (by rfl)) ?_; refine Eq.trans (pl_int (by rfl)) ?_; refine Eq.trans (ld_s (by rfl) (by rfl) (by rfl)) ?_; refine Eq.trans (pl_agg (by rfl) (by rfl)) ?_; refine Eq.trans (pl_int (by rfl)) ?_; refine Eq.trans (pl_int (by rfl)) ?_
      refine Eq.trans (pl_bool mt) ?_
      cases meetB (vv ps k) (vv ps (nx ps k)) (vv ps i) (vv ps (nx ps i))
      ·refine Eq.trans (pl_f (by rfl)) ?_
       exact ih (i+1) f _ (by omega) (by omega) (by omega)
      ·exact hR _
theorem rsimple1 (d:Nat) (ps:List Pt) (hl:ps.length≤140737488355328):∀ (m k f:Nat) (H:Heap),k+m=ps.length→m < f →
 L46_1 (d+7) (ps.map pt) (ps.length:Nat) f (k:Nat) H=some (.bool (upAll (fun k=>upAll (fun i=>pairB ps k i) (ps.length - k - 1) (k+1)) m k)):=by
 intro m
 induction m with
 | zero =>
   intro k f H hk hf
   obtain ⟨f,rfl⟩:∃ g,f=g+1:=⟨f - 1,by omega⟩
   rw [L46_1,decide_eq_false (by omega),cnd_f]; rfl
 | succ m ih =>
   intro k f H hk hf
   obtain ⟨f,rfl⟩:∃ g,f=g+1:=⟨f - 1,by omega⟩
   rw [L46_1,decide_eq_true (by omega),cnd_t,show IntKind.wrap .i64 ((k:Int)+1)=((k+1:Nat):Int) by rw [i64_small (by omega) (by omega)]; rfl]
   refine (rsimple2 d ps k hl _ _ _ (some (.bool false)) (fun H=>ih (k+1) f H (by omega) (by omega)) (fun H=>rfl) (ps.length - k - 1) (k+1) _ H (by omega) (by omega) (by omega)).trans ?_
   simp only [upAll]
   cases upAll (fun i=>pairB ps k i) (ps.length - k - 1) (k+1) <;> rfl
theorem rsimple0 (d:Nat) (ps:List Pt) (hl:ps.length≤140737488355328):∀ (l2:List Pt) (i f:Nat) (H:Heap),ps.drop i=l2→l2.length < f →
 L46_0 (d+7) (ps.map pt) (ps.length:Nat) f (i:Nat) H=some (.bool (l2.all okb && allPairs ps)):=by
 intro l2
 induction l2 with
 | nil =>
   intro i f H hd hf
   obtain ⟨f,rfl⟩:∃ m,f=m+1:=⟨f - 1,by omega⟩
   have:ps.length≤i:=List.drop_eq_nil_iff.mp hd
   rw [L46_0,decide_eq_false (by omega),cnd_f,X46_0_0]
   refine (rsimple1 d ps hl ps.length 0 10000000000000000000 H (by omega) (by omega)).trans ?_
   unfold allPairs
   rw [pairs_two]; rfl
 | cons p l2 ih =>
   intro i f H hd hf
   obtain ⟨f,rfl⟩:∃ m,f=m+1:=⟨f - 1,by simp at hf; omega⟩
   have hi:i < ps.length:=by
    rcases Nat.lt_or_ge i ps.length with h | h
    ·exact h
    ·rw [List.drop_eq_nil_of_le h] at hd; cases hd
   have hp:ps[i]=p:=by have:=List.drop_eq_getElem_cons hi; rw [hd] at this; exact (List.cons.inj this).1.symm
   have hd2:ps.drop (i+1)=l2:=by have:=List.drop_eq_getElem_cons hi; rw [hd] at this; exact (List.cons.inj this).2.symm
   have hr:=s52 (d+6) ps[i]
   simp only [pt] at hr
   rw [L46_0,decide_eq_true (by omega),cnd_t]
   refine Eq.trans (ix_lst (by omega) (pts_at hi) (by rfl)) ?_
   refine Eq.trans (hop_eq (by rfl)) ?_; refine Eq.trans (pl_agg (by rfl) (by rfl)) ?_; refine Eq.trans (pl_int (by rfl)) ?_; refine Eq.trans (pl_int (by rfl)) ?_
   rw [hr,C0_bool,hp,List.all_cons]
   change cnd (!okb p) _ _=_
   cases okb p
   ·rfl
   ·refine Eq.trans (pl_f (by rfl)) ?_
    rw [show IntKind.wrap .i64 ((i:Int)+1)=((i+1:Nat):Int) by rw [IntKind.wrap_i64]; omega,ih (i+1) f _ hd2 (by simp at hf; omega),Bool.true_and]
theorem s46 (d:Nat) (ps:List Pt) (hl:ps.length≤140737488355328):pcall M (d+8) 46 [.lst (ps.map pt)]=some (.bool (simpleB ps)):=told (q46 (d+7) _) (by
 refine Eq.trans (hop_eq (by rfl)) ?_; refine Eq.trans (pl_int (by rfl)) ?_
 have h0:=rsimple0 d ps hl ps 0 10000000000000000000 [] rfl (by omega)
 rw [pmap_len]
 unfold simpleB
 by_cases h1:3≤ps.length
 ·rw [decide_eq_false (by omega),cnd_f,decide_eq_true h1]
  by_cases h2:ps.length≤8
  ·rw [decide_eq_false (by omega),cnd_f,decide_eq_true h2]
   exact h0
  ·rw [decide_eq_true (by omega),cnd_t,decide_eq_false h2]; rfl
 ·rw [decide_eq_true (by omega),cnd_t,decide_eq_false h1]; rfl)
theorem rright0 (d:Nat) (ps:List Pt) (h8:ps.length≤8):∀ (l2:List Pt) (i f:Nat),ps.drop i=l2→l2.length < f →
 L36_0 (d+8) (ps.map pt) f (i:Nat)=some (.bool (!l2.any farB && simpleB ps)):=by
 intro l2
 induction l2 with
 | nil =>
   intro i f hd hf
   obtain ⟨f,rfl⟩:∃ m,f=m+1:=⟨f - 1,by omega⟩
   have:ps.length≤i:=List.drop_eq_nil_iff.mp hd
   rw [L36_0,pmap_len,decide_eq_false (by omega),cnd_f,X36_0_0,s46 d ps (by omega),C0_bool]; rfl
 | cons p l2 ih =>
   intro i f hd hf
   obtain ⟨f,rfl⟩:∃ m,f=m+1:=⟨f - 1,by simp at hf; omega⟩
   have hi:i < ps.length:=by
    rcases Nat.lt_or_ge i ps.length with h | h
    ·exact h
    ·rw [List.drop_eq_nil_of_le h] at hd; cases hd
   have hp:ps[i]=p:=by have:=List.drop_eq_getElem_cons hi; rw [hd] at this; exact (List.cons.inj this).1.symm
   have hd2:ps.drop (i+1)=l2:=by have:=List.drop_eq_getElem_cons hi; rw [hd] at this; exact (List.cons.inj this).2.symm
   rw [L36_0,pmap_len,decide_eq_true (by omega),cnd_t,decide_eq_true (by omega),cnd_t,decide_eq_true (by omega),cnd_t,pts_at hi,hp]
   refine Eq.trans (pl_agg (by rfl) (by rfl)) ?_; refine Eq.trans (pl_int (by rfl)) ?_; refine Eq.trans (pl_int (by rfl)) ?_
   rw [List.any_cons]
   by_cases c1:p.1 < -1073741824
   ·rw [decide_eq_true c1,cnd_t,show farB p=true by unfold farB; rw [decide_eq_false (by omega)]; rfl]; rfl
   ·rw [decide_eq_false c1,cnd_f,cnd_t]
    refine Eq.trans (pl_agg (by rfl) (by rfl)) ?_; refine Eq.trans (pl_int (by rfl)) ?_; refine Eq.trans (pl_int (by rfl)) ?_
    by_cases c2:p.1 > 1073741824
    ·rw [decide_eq_true c2,cnd_t,show farB p=true by unfold farB; rw [decide_eq_false (by omega)]; rfl]; rfl
    ·rw [decide_eq_false c2,cnd_f,cnd_t]
     refine Eq.trans (pl_agg (by rfl) (by rfl)) ?_; refine Eq.trans (pl_int (by rfl)) ?_; refine Eq.trans (pl_int (by rfl)) ?_
     by_cases c3:p.2 < -1073741824
     ·rw [decide_eq_true c3,cnd_t,show farB p=true by unfold farB; rw [decide_eq_false (by omega)]; rfl]; rfl
     ·rw [decide_eq_false c3,cnd_f,cnd_t]
      refine Eq.trans (pl_agg (by rfl) (by rfl)) ?_; refine Eq.trans (pl_int (by rfl)) ?_; refine Eq.trans (pl_int (by rfl)) ?_
      by_cases c4:p.2 > 1073741824
      ·rw [decide_eq_true c4,cnd_t,show farB p=true by unfold farB; rw [decide_eq_false (by omega)]; rfl]; rfl
      ·rw [decide_eq_false c4,cnd_f,show farB p=false by unfold farB; rw [decide_eq_true (by omega)]; rfl,show IntKind.wrap .i64 ((i:Int)+1)=((i+1:Nat):Int) by rw [IntKind.wrap_i64]; omega,
        ih (i+1) f hd2 (by simp at hf; omega),Bool.false_or]
theorem s36 (d:Nat) (ps:List Pt) (hl:ps.length≤140737488355328):pcall M (d+9) 36 [.lst (ps.map pt)]=some (.bool (rightB ps)):=told (q36 (d+8) _) (by
 by_cases h8:ps.length≤8
 ·refine (rright0 d ps h8 ps 0 10000000000000000000 rfl (by omega)).trans ?_
  rw [Bool.and_comm]; rfl
 ·have:rightB ps=false:=by
   rw [← Bool.not_eq_true]; intro h
   unfold rightB at h
   exact h8 (simple_ok (Bool.and_eq_true_iff.mp h).1).2.1
  rw [this,show (10000000000000000000:Nat)=9999999999999999999+1 from rfl,L36_0,pmap_len,decide_eq_true (by omega),cnd_t,decide_eq_false (by omega),cnd_f,X36_0_0,s46 d ps hl,C0_bool]
  congr 2
  rw [← Bool.not_eq_true]; intro h; exact h8 (simple_ok h).2.1)
end Go.Proofs.Ytdceaeifcniabaa.AE

namespace Go.Proofs.Ytdceaeifcniabaa.AE
set_option linter.unusedVariables false
set_option linter.unusedSimpArgs false
set_option linter.constructorNameAsVariable false
open Go Go.WideShapes

inductive CT where
 | i (k:IntKind)
 | b
 | s
 | sl (ag:Bool) (es:List CT)
mutual
def CTok:CT→AV→Prop
 | .i k,v=>∃ n,v=.int k n∧(Lit.int k n).wf=true
 | .b,v=>∃ x,v=.bool x
 | .s,v=>∃ x,v=.str x∧x.length≤maxLen
 | .sl ag es,v=>∃ l,v=.lst l∧l.length≤maxLen∧∀ x ∈ l,∃ cs,(match ag with
   | true=>x=.agg cs
   | false=>cs=[x])∧CTall es cs
def CTall:List CT→List AV→Prop
 | [],l=>l=[]
 | c::cs,l=>∃ x t,l=x::t∧CTok c x∧CTall cs t
end
def TyOK (ag:Bool) (cs:List CT) (v:AV):Prop:=∃ l,(match ag with
 | true=>v=.agg l
 | false=>l=[v])∧CTall cs l
theorem CTall_len:∀ {cs:List CT} {l:List AV},CTall cs l→l.length=cs.length
 | [],l,h=>by simp only [CTall] at h; subst h; rfl
 | c::cs,l,h=>by
   simp only [CTall] at h
   obtain ⟨x,t,rfl,_,h⟩:=h
   simp [CTall_len h]
theorem CTall_app:∀ {a b:List CT} {l m:List AV},CTall a l→CTall b m→CTall (a ++ b) (l ++ m)
 | [],b,l,m,h,h'=>by simp only [CTall] at h; subst h; exact h'
 | c::cs,b,l,m,h,h'=>by
   simp only [CTall] at h
   obtain ⟨x,t,rfl,h1,h⟩:=h
   simp only [List.cons_append,CTall]
   exact ⟨x,t ++ m,rfl,h1,CTall_app h h'⟩

section
variable (P:Program)
def ctFs (g:TypeId→Option (List CT)):List Field→Nat→Option (List CT)
 | [],_=>some []
 | f::fs,off=>if f.offset=off then match g f.type with
     | some l=>if P.cellsOf f.type=l.length then match ctFs g fs (off+l.length) with
        | some m=>some (l ++ m)
        | none=>none
       else none
     | none=>none
   else none
def ctOf:Nat→TypeId→Option (List CT)
 | 0,_=>none
 | d+1,t=>match P.underlying t with
   | some (.int k)=>some [.i k]
   | some .bool=>some [.b]
   | some .string=>some [.s]
   | some (.slice e)=>match ctOf d e,agB P e with
     | some l,some ag=>if P.cellsOf e=l.length∧0 < l.length∧(ag || l.length == 1)=true then some [.sl ag l] else none
     | _,_=>none
   | some (.struct fs)=>match ctFs P (ctOf d) fs.toList 0 with
     | some l=>if P.cellsOf t=l.length then some l else none
     | none=>none
   | some (.array n e)=>match ctOf d e with
     | some l=>if P.cellsOf e=l.length∧P.cellsOf t=n * l.length then some (List.replicate n l).flatten else none
     | none=>none
   | _=>none
end

section
variable {H:Type} {enc:TypeId × Value→H} {P:Program} {w:World} {base:Nat} {spare:Nat→Bool} {held:Bool}
abbrev noBad:Nat→Prop:=fun _=>False

def Cells (w:World) (avs:List AV) (cs:List Value):Prop:=∀ (i:Nat) (c:AV) (u:Value),avs[i]?=some c→cs[i]?=some u→FRep w noBad c u

theorem cells_one {c:AV} {u:Value} (h:FRep w noBad c u):Cells w [c] [u]:=by
 intro i a b ha hb
 match i with
 | 0=>cases ha; cases hb; exact h
 | i+1=>cases ha

theorem ctFs_open {g:TypeId→Option (List CT)} {cs:List Value} (hg:∀ t l (ds:List Value) fuel x,g t=some l→DataW.trod enc P w base spare held fuel t ds=some x→∃ avs,avs.length=ds.length∧CTall l avs∧Cells w avs ds) :
 ∀ (fs:List Field) (off:Nat) (l:List CT),ctFs P g fs off=some l→(∀ f ∈ fs,∃ fuel y,DataW.trod enc P w base spare held fuel f.type ((cs.drop f.offset).take (P.cellsOf f.type))=some y) →
   ∃ avs,CTall l avs∧Cells w avs (cs.drop off)
 | [],off,l,h,_=>by
   simp only [ctFs] at h; cases h
   exact ⟨[],rfl,fun i c u hc _=>by cases hc⟩
 | f::fs,off,l,h,ht=>by
   simp only [ctFs] at h
   split at h
   ·rename_i ho
    split at h <;> (try (cases h; done))
    rename_i l1 h1
    split at h
    ·rename_i hn
     split at h <;> (try (cases h; done))
     rename_i m hm
     cases h
     obtain ⟨fuel,y,hy⟩:=ht f (List.mem_cons_self ..)
     obtain ⟨a1,e1,e2,e3⟩:=hg _ _ _ _ _ h1 hy
     obtain ⟨a2,q1,q2⟩:=ctFs_open hg fs (off+l1.length) m hm (fun f hf=>ht f (List.mem_cons_of_mem _ hf))
     refine ⟨a1 ++ a2,CTall_app e2 q1,?_⟩
     have hl:a1.length=l1.length:=CTall_len e2
     intro i c u hc hu
     by_cases hi:i < a1.length
     ·rw [List.getElem?_append_left hi] at hc
      refine e3 i c u hc ?_
      rw [ho,hn,List.getElem?_take,if_pos (by omega)]; exact hu
     ·rw [List.getElem?_append_right (by omega)] at hc
      refine q2 (i - a1.length) c u hc ?_
      rw [List.getElem?_drop] at hu ⊢
      rw [← hu]; congr 1; omega
    ·cases h
   ·cases h

theorem cells?_at {a:Addr} {n:Nat} {cs:List Value} (h:w.cells? base a n=some cs):cs.length=n∧∀ j u,cs[j]?=some u→w.cell? (a.add j)=some u:=by
 unfold World.cells? at h
 split at h
 ·have hl:cs.length=n:=by simpa using mapM_some_length h
  refine ⟨hl,fun j u hu=>?_⟩
  have hj:j < n:=by
   rcases Nat.lt_or_ge j n with h1 | h1
   ·exact h1
   ·rw [List.getElem?_eq_none (by omega)] at hu; cases hu
  have:=mapM_some_get h j j (by simp [hj])
  rw [hu] at this
  exact this
 ·cases h

theorem rng_at {n i j:Nat} (h:(List.range n)[i]?=some j):i < n∧i=j:=by
 rcases Nat.lt_or_ge i n with h1 | h1
 ·rw [List.getElem?_range h1] at h; exact ⟨h1,Option.some.inj h⟩
 ·rw [List.getElem?_eq_none (by simpa using h1)] at h; cases h
theorem add_pl (b o n:Nat):(⟨b,o,none⟩:Addr).add n=⟨b,o+n,none⟩:=by
 unfold Addr.add; split <;> simp_all

theorem open_cells:∀ (d:Nat) (t:TypeId) (l:List CT) (cs:List Value) (fuel:Nat) (x:DataW H × List MemPlace),ctOf P d t=some l→DataW.trod enc P w base spare held fuel t cs=some x →
 ∃ avs,avs.length=cs.length∧CTall l avs∧Cells w avs cs
 | 0,t,l,cs,fuel,x,h,_=>by cases h
 | d+1,t,l,cs,fuel,x,h,ht=>by
   simp only [ctOf] at h
   split at h <;> (try (cases h; done))
   ·rename_i k hu
    cases h
    obtain ⟨n,rfl,_,hw⟩:=DataW.trod_int hu ht
    exact ⟨[.int k n],rfl,⟨_,_,rfl,⟨n,rfl,hw⟩,rfl⟩,cells_one (.int k n)⟩
   ·rename_i hu
    cases h
    obtain ⟨b,rfl,_⟩:=DataW.trod_bool hu ht
    exact ⟨[.bool b],rfl,⟨_,_,rfl,⟨b,rfl⟩,rfl⟩,cells_one (.bool b)⟩
   ·rename_i hu
    cases h
    obtain ⟨s,rfl,_,hs⟩:=DataW.trod_string hu ht
    refine ⟨[.str s.data.toList],rfl,⟨_,_,rfl,⟨_,rfl,by simpa using hs⟩,rfl⟩,cells_one ?_⟩
    have:=FRep.str (w:=w) (bad:=noBad) s.data.toList
    simpa using this
   ·rename_i e hu
    split at h <;> (try (cases h; done))
    rename_i le ag hle hag
    split at h
    ·rename_i hc
     obtain ⟨hc1,hc2,hc3⟩:=hc
     cases h
     rcases DataW.trod_slice hu ht with ⟨rfl,_⟩ | ⟨a,len,cap,elems,rest,n,_,rfl,_,hb,hl,hm,hel,hat,_,_⟩
     ·exact ⟨[.lst []],rfl,⟨_,_,rfl,⟨[],rfl,by simp,fun x hx=>by cases hx⟩,rfl⟩,cells_one (.lst0 none 0 fun _=>rfl)⟩
     ·have each:∀ i,i < len→∃ ex:List AV × List Value,w.cells? base (a.add (i * P.cellsOf e)) (P.cellsOf e)=some ex.2∧CTall le ex.1∧Cells w ex.1 ex.2:=by
       intro i hi
       have h1:=hat i hi
       rw [List.getElem?_eq_getElem (by omega)] at h1
       obtain ⟨ds,h2,h3⟩:=Option.bind_eq_some_iff.mp h1
       obtain ⟨avs,_,q2,q3⟩:=open_cells d e le ds n _ hle h3
       exact ⟨(avs,ds),h2,q2,q3⟩
      obtain ⟨f,hf⟩:=Go.Deep.choose_lt each
      let el:List AV→AV:=fun cs=>match ag with
       | true=>.agg cs
       | false=>cs.headD .undef
      have elc:∀ cs,CTall le cs→(el cs).cells=cs ∨ (ag=false∧∃ v,cs=[v]∧el cs=v):=by
       intro cs hcs
       cases ag with
       | true=>exact .inl rfl
       | false =>
         have hl1:le.length=1:=by simpa using hc3
         have:=CTall_len hcs
         match cs,this.trans hl1 with
         | [v],_=>exact .inr ⟨rfl,v,rfl,rfl⟩
      have scal:∀ cs,CTall le cs→(el cs).cells=cs:=by
       intro cs hcs
       rcases elc cs hcs with h1 | ⟨hag',v,rfl,h2⟩
       ·exact h1
       ·rw [h2]
        match v,hcs with
        | .agg l',hcs =>
          exfalso
          cases le with
          | nil=>simp only [CTall] at hcs; cases hcs
          | cons c cs' =>
            simp only [CTall] at hcs
            obtain ⟨x',t',hx',hok,_⟩:=hcs
            injection hx' with hx1 _
            subst hx1
            cases c <;> simp [CTok] at hok
        | .int ..,_ | .bool _,_ | .str _,_ | .nilp,_ | .zsl _,_ | .ptr ..,_ | .slc ..,_ | .lst _,_ | .fptr ..,_ | .tup _,_ | .fn ..,_ | .nilf,_ | .undef,_ | .emp,_ | .slk ..,_=>rfl
      have hlen:∀ i,i < len→((f i).1).length=P.cellsOf e:=fun i hi=>by rw [CTall_len (hf i hi).2.1,hc1]
      refine ⟨[.lst ((List.range len).map fun i=>el (f i).1)],rfl,⟨_,_,rfl,⟨_,rfl,by simp; omega,?_⟩,rfl⟩,cells_one ?_⟩
      ·intro y hy
       obtain ⟨i,hi,rfl⟩:=List.mem_map.mp hy
       have hi:=List.mem_range.mp hi
       refine ⟨(f i).1,?_,(hf i hi).2.1⟩
       cases ag with
       | true=>rfl
       | false =>
         rcases elc _ (hf i hi).2.1 with h1 | ⟨_,v,h1,h2⟩
         ·have h3:=scal _ (hf i hi).2.1
          have hl1:le.length=1:=by simpa using hc3
          have h4:=(CTall_len (hf i hi).2.1).trans hl1
          show (f i).1=[(f i).1.headD .undef]
          match (f i).1,h4 with
          | [v],_=>rfl
         ·show (f i).1=[(f i).1.headD .undef]
          rw [h1]; rfl
      ·by_cases h0:len=0
       ·subst h0; exact .lst0 (some a) cap (fun h=>by cases h)
       ·have hsp:a.spot=none∧a.block < w.heap.size:=by
         obtain ⟨g1,g2,g3⟩:=hf 0 (by omega)
         obtain ⟨g4,g5⟩:=cells?_at g1
         have h6:∃ u,(f 0).2[0]?=some u:=⟨_,List.getElem?_eq_getElem (by omega)⟩
         obtain ⟨u,hu0⟩:=h6
         have:=g5 0 u hu0
         rw [Nat.zero_mul,show (a.add 0).add 0=a by simp [Addr.add]] at this
         unfold World.cell? at this
         split at this
         ·rename_i c _ _ hh
          split at this
          ·cases this
          ·rename_i hs
           refine ⟨by simpa using hs,?_⟩
           rcases Nat.lt_or_ge a.block w.heap.size with h7 | h7
           ·exact h7
           ·rw [Array.getElem?_eq_none h7] at hh; cases hh
         ·cases this
        obtain ⟨b,o,sp⟩:=a
        obtain ⟨hsp1,hsp2⟩:=hsp
        simp only at hsp1 hsp2
        subst hsp1
        have hlm:((List.range len).map fun i=>el (f i).1).length=len:=by simp
        have key:=FRep.lst (w:=w) (bad:=noBad) ((List.range len).map fun i=>el (f i).1) b o (P.cellsOf e) cap (fun i j=>(f i).2.getD j (.bool false)) (by rw [hlm]; exact hl) (by omega) (fun h=>h) hsp2 ?_ ?_ ?_
        ·rw [hlm] at key; exact key
        ·intro i y hy
         rw [List.getElem?_map] at hy
         obtain ⟨i',h1,rfl⟩:=Option.map_eq_some_iff.mp hy
         obtain ⟨h2,rfl⟩:=rng_at h1
         rw [scal _ (hf _ h2).2.1,hlen _ h2]
        ·intro i y j c hy hc
         rw [List.getElem?_map] at hy
         obtain ⟨i',h1,rfl⟩:=Option.map_eq_some_iff.mp hy
         obtain ⟨h2,rfl⟩:=rng_at h1
         rw [scal _ (hf _ h2).2.1] at hc
         obtain ⟨g4,g5⟩:=cells?_at (hf _ h2).1
         have hj:j < (f i).2.length:=by
          rw [g4,← hlen _ h2]
          rcases Nat.lt_or_ge j (f i).1.length with h7 | h7
          ·exact h7
          ·rw [List.getElem?_eq_none h7] at hc; cases hc
         have:=g5 j _ (List.getElem?_eq_getElem hj)
         rw [add_pl,add_pl] at this
         rw [List.getD_eq_getElem?_getD,List.getElem?_eq_getElem hj]
         simp only [Option.getD_some]
         rw [← Nat.add_assoc]; exact this
        ·intro i y j c hy hc
         rw [List.getElem?_map] at hy
         obtain ⟨i',h1,rfl⟩:=Option.map_eq_some_iff.mp hy
         obtain ⟨h2,rfl⟩:=rng_at h1
         rw [scal _ (hf _ h2).2.1] at hc
         obtain ⟨g4,g5⟩:=cells?_at (hf _ h2).1
         have hj:j < (f i).2.length:=by
          rw [g4,← hlen _ h2]
          rcases Nat.lt_or_ge j (f i).1.length with h7 | h7
          ·exact h7
          ·rw [List.getElem?_eq_none h7] at hc; cases hc
         refine (hf _ h2).2.2 j c _ hc ?_
         rw [List.getD_eq_getElem?_getD,List.getElem?_eq_getElem hj]; rfl
    ·cases h
   ·rename_i fs hu
    split at h <;> (try (cases h; done))
    rename_i l' hl'
    split at h
    ·rename_i hc
     cases h
     obtain ⟨xs,n,_,_,hlen,hxs,hf⟩:=DataW.trod_struct hu ht
     obtain ⟨avs,q1,q2⟩:=ctFs_open (cs:=cs) (enc:=enc) (base:=base) (spare:=spare) (held:=held) (fun t l ds fuel x=>open_cells d t l ds fuel x) fs.toList 0 l hl' (fun f hfm=>by
      obtain ⟨i,hi⟩:=List.getElem?_of_mem hfm
      have h1:=hf i f (by simpa using hi)
      have hi':i < xs.length:=by
       rw [hxs]
       rcases Nat.lt_or_ge i fs.size with h7 | h7
       ·exact h7
       ·rw [List.getElem?_eq_none (by simpa using h7)] at hi; cases hi
      exact ⟨n,_,h1.trans (List.getElem?_eq_getElem hi')⟩)
     exact ⟨avs,by rw [CTall_len q1,hlen,hc],q1,by simpa using q2⟩
    ·cases h
   ·rename_i n e hu
    split at h <;> (try (cases h; done))
    rename_i le hle
    split at h
    ·rename_i hc
     obtain ⟨hc1,hc2⟩:=hc
     cases h
     obtain ⟨xs,m,_,_,hlen,hxs,hf⟩:=DataW.trod_array hu ht
     have key:∀ k,k≤n→∃ avs,CTall (List.replicate k le).flatten avs∧Cells w avs (cs.drop ((n - k) * le.length)):=by
      intro k
      induction k with
      | zero=>intro _; exact ⟨[],rfl,fun i c u hc _=>by cases hc⟩
      | succ k ih =>
        intro hk
        obtain ⟨a2,q1,q2⟩:=ih (by omega)
        have h1:=hf (n - (k+1)) (by omega)
        rw [List.getElem?_eq_getElem (by omega)] at h1
        obtain ⟨a1,e1,e2,e3⟩:=open_cells d e le _ m _ hle h1
        refine ⟨a1 ++ a2,by rw [List.replicate_succ,List.flatten_cons]; exact CTall_app e2 q1,?_⟩
        have hl:a1.length=le.length:=CTall_len e2
        intro i c u hc hu
        by_cases hi:i < a1.length
        ·rw [List.getElem?_append_left hi] at hc
         refine e3 i c u hc ?_
         rw [hc1,List.getElem?_take,if_pos (by omega)]; exact hu
        ·rw [List.getElem?_append_right (by omega)] at hc
         refine q2 (i - a1.length) c u hc ?_
         rw [List.getElem?_drop] at hu ⊢
         rw [← hu]; congr 1
         have:n - k=n - (k+1)+1:=by omega
         rw [this,Nat.add_mul]; omega
     obtain ⟨avs,q1,q2⟩:=key n (Nat.le_refl _)
     refine ⟨avs,?_,q1,by simpa using q2⟩
     rw [CTall_len q1,hlen,hc2]; simp
    ·cases h

theorem okWide_array {r:Reach} {n:Nat} {t e:TypeId} {v:Value} (ht:P.underlying t=some (.array n e)) (h:Value.okWide P w r base t v):∃ cs,v=.agg cs∧cs.size=P.cellsOf t:=by
 simp only [Value.okWide,ht] at h
 obtain ⟨cs,h1,h2,_⟩:=h
 exact ⟨cs,h1,h2⟩
theorem open_sc {t:TypeId} {v:Value} {d:DataW H} {ps:List MemPlace} {l:List CT} (hv:v.cells.toList=[v]) (hl:ctOf P 9 t=some l) (h:DataW.Trod enc P w base spare held t v d ps) :
 ∃ a,TyOK false l a∧FRep w noBad a v:=by
 obtain ⟨fuel,h⟩:=h
 obtain ⟨avs,h1,h2,h3⟩:=open_cells 9 t l _ fuel _ hl h
 rw [hv] at h1 h3
 match avs,h1 with
 | [a],_=>exact ⟨a,⟨_,rfl,h2⟩,h3 0 a v rfl rfl⟩
theorem open_ag {t:TypeId} {cs:Array Value} {d:DataW H} {ps:List MemPlace} {l:List CT} (hl:ctOf P 9 t=some l) (h:DataW.Trod enc P w base spare held t (.agg cs) d ps) :
 ∃ a,TyOK true l a∧FRep w noBad a (.agg cs):=by
 obtain ⟨fuel,h⟩:=h
 obtain ⟨avs,h1,h2,h3⟩:=open_cells 9 t l _ fuel _ hl h
 refine ⟨.agg avs,⟨_,rfl,h2⟩,?_⟩
 have:=FRep.agg (w:=w) (bad:=noBad) avs cs.toList h1 h3
 simpa using this
end
end Go.Proofs.Ytdceaeifcniabaa.AE

namespace Go.Proofs.Ytdceaeifcniabaa.AE
set_option linter.unusedVariables false
set_option linter.unusedSimpArgs false
set_option linter.constructorNameAsVariable false
open Go Go.Proofs.Ytdceaeifcniabaa.Geo
theorem maxLen_eq:Go.maxLen=9223372036854775807:=by decide
theorem rows_pts:∀ l:List AV,(∀ x ∈ l,∃ cs,x=.agg cs∧CTall [(.i .i64),(.i .i64)] cs)→∃ ps:List Pt,l=ps.map pt
 | [],_=>⟨[],rfl⟩
 | x::l,h=>by
   obtain ⟨ps,rfl⟩:=rows_pts l fun y hy=>h y (List.mem_cons_of_mem _ hy)
   obtain ⟨_,rfl,_,_,rfl,⟨a,rfl,_⟩,_,_,rfl,⟨b,rfl,_⟩,rfl⟩:=h x (List.mem_cons_self ..)
   exact ⟨(a,b)::ps,rfl⟩
end Go.Proofs.Ytdceaeifcniabaa.AE

namespace Go.Proofs.Ytdceaeifcniabaa.AE
set_option linter.unusedVariables false
set_option linter.unusedSimpArgs false
set_option linter.constructorNameAsVariable false
open Go
theorem hg_z {Z X:Heap} {k:Nat} {b:Blk} (h:Z[k]?=some (some b)):hget (Z ++ X) k=some b:=by
 unfold hget
 have hk:k < Z.length:=by
  rcases Nat.lt_or_ge k Z.length with h1 | h1
  ·exact h1
  ·rw [List.getElem?_eq_none h1] at h; cases h
 rw [List.getElem?_append_left hk,h]
theorem set_z {Z X:Heap} {k:Nat} {b:Blk} {x:Option Blk} (h:Z[k]?=some (some b)):(Z ++ X).set k x=Z.set k x ++ X:=by
 have hk:k < Z.length:=by
  rcases Nat.lt_or_ge k Z.length with h1 | h1
  ·exact h1
  ·rw [List.getElem?_eq_none h1] at h; cases h
 rw [List.set_append_left _ _ hk]
theorem hg_o {Z G S:Heap} {z k:Nat} {b:Blk} (hz:Z.length=z) (h:S[k]?=some (some b)):hget (Z ++ (G ++ S)) (z+(G.length+k))=some b:=by
 subst hz
 unfold hget
 rw [List.getElem?_append_right (by omega),show Z.length+(G.length+k) - Z.length=G.length+k by omega,List.getElem?_append_right (by omega),show G.length+k - G.length=k by omega,h]
theorem set_o {Z G S:Heap} {z k:Nat} {x:Option Blk} (hz:Z.length=z):(Z ++ (G ++ S)).set (z+(G.length+k)) x=Z ++ (G ++ S.set k x):=by
 subst hz
 rw [List.set_append_right _ _ (by omega),show Z.length+(G.length+k) - Z.length=G.length+k by omega,List.set_append_right _ _ (by omega),show G.length+k - G.length=k by omega]
theorem al_o {Z G S:Heap} {z s:Nat} {e:ETy} {K:AV→Heap→Ans} (hz:Z.length=z) (hs:S.length=s):C0.hop (Z ++ (G ++ S)) (.alloc e) K=K (.ptr (z+(G.length+s)) 0 0) (Z ++ (G ++ (S ++ [some ⟨e,[e.zero]⟩]))):=by
 subst hz hs
 refine (hop_eq rfl).trans ?_
 simp only [evO,List.length_append,List.append_assoc]
theorem bx_o {Z G S:Heap} {z s:Nat} {e:ETy} {x:AV} {K:AV→Heap→Ans} (hz:Z.length=z) (hs:S.length=s) (h:elOk e x=true):C0.hop (Z ++ (G ++ S)) (.box e (.v x)) K=K (.ptr (z+(G.length+s)) 0 0) (Z ++ (G ++ (S ++ [some ⟨e,[x]⟩]))):=by
 subst hz hs
 refine (hop_eq (v:=.ptr (Z ++ (G ++ S)).length 0 0) (H':=(Z ++ (G ++ S)) ++ [some ⟨e,[x]⟩]) (by simp [aop,evO,h])).trans ?_
 simp only [List.length_append,List.append_assoc]
theorem ld_z {Z X:Heap} {k i j n:Nat} {ag:Bool} {b:Blk} {el v:AV} {K:AV→Heap→Ans} (h:Z[k]?=some (some b)) (hi:b.els[i]?=some el) (hs:sub ag n j el=some v) :
 C0.hop (Z ++ X) (.load ag n (.v (.ptr k i j))) K=K v (Z ++ X):=ld_ptr (hg_z h) hi hs
theorem ld_o {Z G S:Heap} {z k i j n:Nat} {ag:Bool} {b:Blk} {el v:AV} {K:AV→Heap→Ans} (hz:Z.length=z) (h:S[k]?=some (some b)) (hi:b.els[i]?=some el) (hs:sub ag n j el=some v) :
 C0.hop (Z ++ (G ++ S)) (.load ag n (.v (.ptr (z+(G.length+k)) i j))) K=K v (Z ++ (G ++ S)):=ld_ptr (hg_o hz h) hi hs
theorem st_z {Z X:Heap} {k i j n:Nat} {b:Blk} {el el' x:AV} {K:AV→Heap→Ans} (h:Z[k]?=some (some b)) (hi:b.els[i]?=some el) (hs:putSub n j x el=some el') :
 C0.hop (Z ++ X) (.store n (.v (.ptr k i j)) (.v x)) K=K .undef (Z.set k (some { b with els:=b.els.set i el' }) ++ X):=by
 rw [st_ptr (hg_z h) hi hs,set_z h]
theorem st_o {Z G S:Heap} {z k i j n:Nat} {b:Blk} {el el' x:AV} {K:AV→Heap→Ans} (hz:Z.length=z) (h:S[k]?=some (some b)) (hi:b.els[i]?=some el) (hs:putSub n j x el=some el') :
 C0.hop (Z ++ (G ++ S)) (.store n (.v (.ptr (z+(G.length+k)) i j)) (.v x)) K=K .undef (Z ++ (G ++ S.set k (some { b with els:=b.els.set i el' }))):=by
 rw [st_ptr (hg_o hz h) hi hs,set_o hz]
theorem sub_w {cs:List AV} {n:Nat} (h:cs.length=n):sub true n 0 (.agg cs)=some (.agg cs):=by
 subst h; simp [sub]
theorem ld_zw {Z X:Heap} {k i n:Nat} {b:Blk} {cs:List AV} {K:AV→Heap→Ans} (h:Z[k]?=some (some b)) (hi:b.els[i]?=some (.agg cs)) (hn:cs.length=n) :
 C0.hop (Z ++ X) (.load true n (.v (.ptr k i 0))) K=K (.agg cs) (Z ++ X):=ld_z h hi (sub_w hn)
theorem ld_ow {Z G S:Heap} {z k i n:Nat} {b:Blk} {cs:List AV} {K:AV→Heap→Ans} (hz:Z.length=z) (h:S[k]?=some (some b)) (hi:b.els[i]?=some (.agg cs)) (hn:cs.length=n) :
 C0.hop (Z ++ (G ++ S)) (.load true n (.v (.ptr (z+(G.length+k)) i 0))) K=K (.agg cs) (Z ++ (G ++ S)):=ld_o hz h hi (sub_w hn)
theorem gen_at {l:List AV} {i:Nat} {a:AV} (h:l[i]?=some a):l[i]?=some a:=h
theorem pl_zsl {o:Option AV} {b:Bool} {K:List AV→Ans} {Z:Bool→Ans} (h:o=some (.zsl b)):C0.lst o K Z=Z b:=by subst h; rfl
theorem c_ort {b:Bool} {x y:Ans}:cnd (b || true) x y=x:=by cases b <;> rfl
theorem c_nt {x y:Ans}:cnd (!true) x y=y:=rfl
theorem c_nf {x y:Ans}:cnd (!false) x y=x:=rfl
theorem at8 (a b c d e f g h i:AV) (l:List AV):(a::b::c::d::e::f::g::h::i::l)[8]?=some i:=rfl
theorem at9 (a b c d e f g h i j:AV) (l:List AV):(a::b::c::d::e::f::g::h::i::j::l)[9]?=some j:=rfl
theorem at10 (a b c d e f g h i j k:AV) (l:List AV):(a::b::c::d::e::f::g::h::i::j::k::l)[10]?=some k:=rfl
theorem tt {a b c:Ans} (h:a=b) (k:b=c):a=c:=h.trans k
theorem w2 {k:IntKind} {o:Option AV} {n:Int} {K:Int→Ans} (h:o=some (.int k n):=by first | with_reducible rfl | exact at0 _ _ | exact at1 _ _ _ | exact at2 _ _ _ _ | exact at3 _ _ _ _ _ | exact at4 _ _ _ _ _ _ | exact at5 _ _ _ _ _ _ _ | exact at6 _ _ _ _ _ _ _ _ | exact at7 _ _ _ _ _ _ _ _ _ | exact at8 _ _ _ _ _ _ _ _ _ _ | exact at9 _ _ _ _ _ _ _ _ _ _ _ | exact at10 _ _ _ _ _ _ _ _ _ _ _ _ | exact gen_at (by with_unfolding_all rfl)):C0.int k o K=K n:=pl_int h
theorem w3 {o:Option AV} {n:Bool} {K:Bool→Ans} (h:o=some (.bool n):=by first | with_reducible rfl | exact at0 _ _ | exact at1 _ _ _ | exact at2 _ _ _ _ | exact at3 _ _ _ _ _ | exact at4 _ _ _ _ _ _ | exact at5 _ _ _ _ _ _ _ | exact at6 _ _ _ _ _ _ _ _ | exact at7 _ _ _ _ _ _ _ _ _ | exact at8 _ _ _ _ _ _ _ _ _ _ | exact at9 _ _ _ _ _ _ _ _ _ _ _ | exact at10 _ _ _ _ _ _ _ _ _ _ _ _ | exact gen_at (by with_unfolding_all rfl)):C0.bool o K=K n:=pl_bool h
theorem w4 {o:Option AV} {v:AV} {K:AV→Ans} (h:o=some v:=by first | with_reducible rfl | exact at0 _ _ | exact at1 _ _ _ | exact at2 _ _ _ _ | exact at3 _ _ _ _ _ | exact at4 _ _ _ _ _ _ | exact at5 _ _ _ _ _ _ _ | exact at6 _ _ _ _ _ _ _ _ | exact at7 _ _ _ _ _ _ _ _ _ | exact at8 _ _ _ _ _ _ _ _ _ _ | exact at9 _ _ _ _ _ _ _ _ _ _ _ | exact at10 _ _ _ _ _ _ _ _ _ _ _ _ | exact gen_at (by with_unfolding_all rfl)):C0.any o K=K v:=pl_any h
theorem w5 {o:Option AV} {n:List UInt8} {K:List UInt8→Ans} (h:o=some (.str n):=by first | with_reducible rfl | exact at0 _ _ | exact at1 _ _ _ | exact at2 _ _ _ _ | exact at3 _ _ _ _ _ | exact at4 _ _ _ _ _ _ | exact at5 _ _ _ _ _ _ _ | exact at6 _ _ _ _ _ _ _ _ | exact at7 _ _ _ _ _ _ _ _ _ | exact at8 _ _ _ _ _ _ _ _ _ _ | exact at9 _ _ _ _ _ _ _ _ _ _ _ | exact at10 _ _ _ _ _ _ _ _ _ _ _ _ | exact gen_at (by with_unfolding_all rfl)):C0.str o K=K n:=pl_str h
theorem w6 {o:Option AV} {l:List AV} {K:List AV→Ans} {Z:Bool→Ans} (h:o=some (.lst l):=by first | with_reducible rfl | exact at0 _ _ | exact at1 _ _ _ | exact at2 _ _ _ _ | exact at3 _ _ _ _ _ | exact at4 _ _ _ _ _ _ | exact at5 _ _ _ _ _ _ _ | exact at6 _ _ _ _ _ _ _ _ | exact at7 _ _ _ _ _ _ _ _ _ | exact at8 _ _ _ _ _ _ _ _ _ _ | exact at9 _ _ _ _ _ _ _ _ _ _ _ | exact at10 _ _ _ _ _ _ _ _ _ _ _ _ | exact gen_at (by with_unfolding_all rfl)):C0.lst o K Z=K l:=pl_lst h
theorem w7 {o:Option AV} {b:Bool} {K:List AV→Ans} {Z:Bool→Ans} (h:o=some (.zsl b):=by first | with_reducible rfl | exact at0 _ _ | exact at1 _ _ _ | exact at2 _ _ _ _ | exact at3 _ _ _ _ _ | exact at4 _ _ _ _ _ _ | exact at5 _ _ _ _ _ _ _ | exact at6 _ _ _ _ _ _ _ _ | exact at7 _ _ _ _ _ _ _ _ _ | exact at8 _ _ _ _ _ _ _ _ _ _ | exact at9 _ _ _ _ _ _ _ _ _ _ _ | exact at10 _ _ _ _ _ _ _ _ _ _ _ _ | exact gen_at (by with_unfolding_all rfl)):C0.lst o K Z=Z b:=pl_zsl h
theorem w8 {n:Nat} {o:Option AV} {l:List AV} {K:List AV→Ans} (h:o=some (.agg l):=by first | with_reducible rfl | exact at0 _ _ | exact at1 _ _ _ | exact at2 _ _ _ _ | exact at3 _ _ _ _ _ | exact at4 _ _ _ _ _ _ | exact at5 _ _ _ _ _ _ _ | exact at6 _ _ _ _ _ _ _ _ | exact at7 _ _ _ _ _ _ _ _ _ | exact at8 _ _ _ _ _ _ _ _ _ _ | exact at9 _ _ _ _ _ _ _ _ _ _ _ | exact at10 _ _ _ _ _ _ _ _ _ _ _ _ | exact gen_at (by with_unfolding_all rfl)) (h2:l.length=n:=by with_unfolding_all rfl):C0.agg n o K=K l:=pl_agg h h2
theorem w9 {n:Nat} {o:Option AV} {l:List AV} {K:List AV→Ans} (h:o=some (.tup l):=by first | with_reducible rfl | exact at0 _ _ | exact at1 _ _ _ | exact at2 _ _ _ _ | exact at3 _ _ _ _ _ | exact at4 _ _ _ _ _ _ | exact at5 _ _ _ _ _ _ _ | exact at6 _ _ _ _ _ _ _ _ | exact at7 _ _ _ _ _ _ _ _ _ | exact at8 _ _ _ _ _ _ _ _ _ _ | exact at9 _ _ _ _ _ _ _ _ _ _ _ | exact at10 _ _ _ _ _ _ _ _ _ _ _ _ | exact gen_at (by with_unfolding_all rfl)) (h2:l.length=n:=by with_unfolding_all rfl):C0.tup n o K=K l:=pl_tup h h2
theorem wf {Z X:Heap} {k i n:Nat} {b:Blk} {cs:List AV} {K:AV→Heap→Ans} (h:Z[k]?=some (some b):=by with_unfolding_all rfl) (hi:b.els[i]?=some (.agg cs):=by with_unfolding_all rfl) (hn:cs.length=n:=by with_unfolding_all rfl) :
 C0.hop (Z ++ X) (.load true n (.v (.ptr k i 0))) K=K (.agg cs) (Z ++ X):=ld_zw h hi hn
theorem wg {Z G S:Heap} {z k i n:Nat} {b:Blk} {cs:List AV} {K:AV→Heap→Ans} (hz:Z.length=z:=by with_unfolding_all rfl) (h:S[k]?=some (some b):=by with_unfolding_all rfl) (hi:b.els[i]?=some (.agg cs):=by with_unfolding_all rfl) (hn:cs.length=n:=by with_unfolding_all rfl) :
 C0.hop (Z ++ (G ++ S)) (.load true n (.v (.ptr (z+(G.length+k)) i 0))) K=K (.agg cs) (Z ++ (G ++ S)):=ld_ow hz h hi hn
theorem wh {Z X:Heap} {k i j n:Nat} {ag:Bool} {b:Blk} {el v:AV} {K:AV→Heap→Ans} (h:Z[k]?=some (some b):=by with_unfolding_all rfl) (hi:b.els[i]?=some el:=by with_unfolding_all rfl) (hs:sub ag n j el=some v:=by with_unfolding_all rfl) :
 C0.hop (Z ++ X) (.load ag n (.v (.ptr k i j))) K=K v (Z ++ X):=ld_z h hi hs
theorem wi {Z G S:Heap} {z k i j n:Nat} {ag:Bool} {b:Blk} {el v:AV} {K:AV→Heap→Ans} (hz:Z.length=z:=by with_unfolding_all rfl) (h:S[k]?=some (some b):=by with_unfolding_all rfl) (hi:b.els[i]?=some el:=by with_unfolding_all rfl) (hs:sub ag n j el=some v:=by with_unfolding_all rfl) :
 C0.hop (Z ++ (G ++ S)) (.load ag n (.v (.ptr (z+(G.length+k)) i j))) K=K v (Z ++ (G ++ S)):=ld_o hz h hi hs
theorem wj {Z X:Heap} {k i j n:Nat} {b:Blk} {el el' x:AV} {K:AV→Heap→Ans} (h:Z[k]?=some (some b):=by with_unfolding_all rfl) (hi:b.els[i]?=some el:=by with_unfolding_all rfl) (hs:putSub n j x el=some el':=by with_unfolding_all rfl) :
 C0.hop (Z ++ X) (.store n (.v (.ptr k i j)) (.v x)) K=K .undef (Z.set k (some { b with els:=b.els.set i el' }) ++ X):=st_z h hi hs
theorem wk {Z G S:Heap} {z k i j n:Nat} {b:Blk} {el el' x:AV} {K:AV→Heap→Ans} (hz:Z.length=z:=by with_unfolding_all rfl) (h:S[k]?=some (some b):=by with_unfolding_all rfl) (hi:b.els[i]?=some el:=by with_unfolding_all rfl) (hs:putSub n j x el=some el':=by with_unfolding_all rfl) :
 C0.hop (Z ++ (G ++ S)) (.store n (.v (.ptr (z+(G.length+k)) i j)) (.v x)) K=K .undef (Z ++ (G ++ S.set k (some { b with els:=b.els.set i el' }))):=st_o hz h hi hs
theorem wl {Z G S:Heap} {z s:Nat} {e:ETy} {K:AV→Heap→Ans} (hz:Z.length=z:=by with_unfolding_all rfl) (hs:S.length=s:=by with_unfolding_all rfl):C0.hop (Z ++ (G ++ S)) (.alloc e) K=K (.ptr (z+(G.length+s)) 0 0) (Z ++ (G ++ (S ++ [some ⟨e,[e.zero]⟩]))):=al_o hz hs
theorem wm {Z G S:Heap} {z s:Nat} {e:ETy} {x:AV} {K:AV→Heap→Ans} (hz:Z.length=z:=by with_unfolding_all rfl) (hs:S.length=s:=by with_unfolding_all rfl) (h:elOk e x=true:=by with_unfolding_all rfl):C0.hop (Z ++ (G ++ S)) (.box e (.v x)) K=K (.ptr (z+(G.length+s)) 0 0) (Z ++ (G ++ (S ++ [some ⟨e,[x]⟩]))):=bx_o hz hs h
theorem wn {H:Heap} {x v:AV} {j n:Nat} {ag:Bool} {K:AV→Heap→Ans} (hs:sub ag n j x=some v:=by with_unfolding_all rfl):C0.hop H (.load ag n (.v (.fptr x j))) K=K v H:=ld_fptr hs
theorem wo {H:Heap} {args:List AV} {K:List AV→Bool→Ans} (h:args.all (noId DEPTH)=true:=by with_unfolding_all rfl):C0.snp H args K=K args true:=snp_free h
theorem wx {H:Heap} {len es id i j:Nat} {q:Int} {K:AV→Heap→Ans} (h:(decide (0≤q) && decide (q < (len:Int)))=true:=by with_unfolding_all rfl):C0.hop H (.ixAA len es (.v (.ptr id i j)) (.v (.int .i64 q))) K=K (.ptr id i (j+q.toNat * es)) H:=by
 have h':0≤q∧q < (len:Int):=by simpa using h
 exact hop_eq (by simp only [aop,evO,aInt,aShift]; rw [if_pos h'])
end Go.Proofs.Ytdceaeifcniabaa.AE

namespace Go.Proofs.Ytdceaeifcniabaa.AE
set_option linter.unusedVariables false
set_option linter.unusedSimpArgs false
set_option linter.constructorNameAsVariable false
open Go
set_option maxRecDepth 100000
set_option maxHeartbeats 0
def r8R0 (C:Cb) (d:Nat) (a0:List AV) (a1 a2 a3 a4 a5 a6 a7 a8:Int):St→(Ex→St→Ans)→Ans:=fun s0 k1 =>
 cnd ((List.length s0.env) == 23)
 (sames C s0.env 0 [(.agg [(.lst a0),(iz a1),(iz a2),(iz a3),(iz a4),(iz a5),(iz a6),(iz a7),(iz a8)]),(.ptr 0 0 0)] <|
 C.bool s0.env[2]? fun b3 =>
 C.int .i64 s0.env[3]? fun x4 =>
 anys C s0.env 4 5 <|
 C.any s0.env[9]? fun v10 =>
 C.any s0.env[10]? fun v11 =>
 C.any s0.env[11]? fun v12 =>
 C.any s0.env[12]? fun v13 =>
 C.any s0.env[13]? fun v14 =>
 C.any s0.env[14]? fun v15 =>
 C.any s0.env[15]? fun v16 =>
 C.any s0.env[16]? fun v17 =>
 C.any s0.env[17]? fun v18 =>
 C.any s0.env[18]? fun v19 =>
 sames C s0.env 19 [tz,tz,tz,tz] <|
 C.sameH (St.H s0) [some ⟨E24,[(.agg [(.lst a0),(iz a1),(iz a2),(iz a3),(iz a4),(iz a5),(iz a6),(iz a7),(iz a8)])]⟩] <|
 cnd (decide (x4 < (((List.length a0):Nat):Int)))
 (cnd (decide ((0:Int)≤x4))
 (C.agg 5 a0[(Int.toNat x4)]? fun l20 =>
 C.lst l20[0]? (fun l21 =>
 C.int .i64 l20[1]? fun x23 =>
 C.int .i64 l20[2]? fun x24 =>
 C.int .i64 l20[3]? fun x25 =>
 C.int .i64 l20[4]? fun x26 =>
 cnd (decide ((((List.length l21):Nat):Int) > 12))
 (k1 .ret ⟨[(.agg [(.lst a0),(iz a1),(iz a2),(iz a3),(iz a4),(iz a5),(iz a6),(iz a7),(iz a8)]),(.ptr 0 0 0),bf,(iz x4),(iz x4),(.ptr 0 0 0),(.lst a0),(iz (((List.length a0):Nat):Int)),bt,v10,v11,(.ptr 0 0 0),(.lst a0),(iz x4),(.fptr (.agg [(.lst l21),(iz x23),(iz x24),(iz x25),(iz x26)]) 0),(.fptr (.agg [(.lst l21),(iz x23),(iz x24),(iz x25),(iz x26)]) 0),(.lst l21),(iz (((List.length l21):Nat):Int)),bt,tz,tz,tz,tz],[some ⟨E24,[(.agg [(.lst a0),(iz a1),(iz a2),(iz a3),(iz a4),(iz a5),(iz a6),(iz a7),(iz a8)])]⟩]⟩)
 (k1 .normal ⟨[(.agg [(.lst a0),(iz a1),(iz a2),(iz a3),(iz a4),(iz a5),(iz a6),(iz a7),(iz a8)]),(.ptr 0 0 0),(.bool b3),(iz (IntKind.wrap .i64 (x4+1))),(iz x4),(.ptr 0 0 0),(.lst a0),(iz (((List.length a0):Nat):Int)),bt,(iz x4),(iz (IntKind.wrap .i64 (x4+1))),(.ptr 0 0 0),(.lst a0),(iz x4),(.fptr (.agg [(.lst l21),(iz x23),(iz x24),(iz x25),(iz x26)]) 0),(.fptr (.agg [(.lst l21),(iz x23),(iz x24),(iz x25),(iz x26)]) 0),(.lst l21),(iz (((List.length l21):Nat):Int)),bf,tz,tz,tz,tz],[some ⟨E24,[(.agg [(.lst a0),(iz a1),(iz a2),(iz a3),(iz a4),(iz a5),(iz a6),(iz a7),(iz a8)])]⟩]⟩))
 (fun z22 =>
 C.int .i64 l20[1]? fun x27 =>
 C.int .i64 l20[2]? fun x28 =>
 C.int .i64 l20[3]? fun x29 =>
 C.int .i64 l20[4]? fun x30 =>
 k1 .normal ⟨[(.agg [(.lst a0),(iz a1),(iz a2),(iz a3),(iz a4),(iz a5),(iz a6),(iz a7),(iz a8)]),(.ptr 0 0 0),(.bool b3),(iz (IntKind.wrap .i64 (x4+1))),(iz x4),(.ptr 0 0 0),(.lst a0),(iz (((List.length a0):Nat):Int)),bt,(iz x4),(iz (IntKind.wrap .i64 (x4+1))),(.ptr 0 0 0),(.lst a0),(iz x4),(.fptr (.agg [(.zsl z22),(iz x27),(iz x28),(iz x29),(iz x30)]) 0),(.fptr (.agg [(.zsl z22),(iz x27),(iz x28),(iz x29),(iz x30)]) 0),(.zsl z22),(iz ((0:Nat):Int)),bf,tz,tz,tz,tz],[some ⟨E24,[(.agg [(.lst a0),(iz a1),(iz a2),(iz a3),(iz a4),(iz a5),(iz a6),(iz a7),(iz a8)])]⟩]⟩))
 (none))
 (k1 (.exit 0) ⟨[(.agg [(.lst a0),(iz a1),(iz a2),(iz a3),(iz a4),(iz a5),(iz a6),(iz a7),(iz a8)]),(.ptr 0 0 0),(.bool b3),(iz x4),(iz x4),(.ptr 0 0 0),(.lst a0),(iz (((List.length a0):Nat):Int)),bf,v10,v11,v12,v13,v14,v15,v16,v17,v18,v19,tz,tz,tz,tz],[some ⟨E24,[(.agg [(.lst a0),(iz a1),(iz a2),(iz a3),(iz a4),(iz a5),(iz a6),(iz a7),(iz a8)])]⟩]⟩))
 (none)
def r8X0_0 (C:Cb) (d:Nat) (a0:List AV) (a1 a2 a3 a4 a5 a6 a7 a8:Int):St→Ans:=fun s31 =>
 cnd ((List.length s31.env) == 23)
 (sames C s31.env 0 [(.agg [(.lst a0),(iz a1),(iz a2),(iz a3),(iz a4),(iz a5),(iz a6),(iz a7),(iz a8)]),(.ptr 0 0 0)] <|
 C.bool s31.env[2]? fun b32 =>
 C.int .i64 s31.env[3]? fun x33 =>
 C.int .i64 s31.env[4]? fun x34 =>
 anys C s31.env 5 2 <|
 C.int .i64 s31.env[7]? fun x37 =>
 C.bool s31.env[8]? fun b38 =>
 anys C s31.env 9 10 <|
 sames C s31.env 19 [tz,tz,tz,tz] <|
 C.sameH (St.H s31) [some ⟨E24,[(.agg [(.lst a0),(iz a1),(iz a2),(iz a3),(iz a4),(iz a5),(iz a6),(iz a7),(iz a8)])]⟩] <|
 some (.bool (decide ((((List.length a0):Nat):Int)≤8))))
 (none)
def r8E0 (C:Cb) (d:Nat) (a0:List AV) (a1 a2 a3 a4 a5 a6 a7 a8:Int):St→Ans:=fun s2 =>
 cnd ((List.length s2.env) == 23)
 (sames C s2.env 0 [(.agg [(.lst a0),(iz a1),(iz a2),(iz a3),(iz a4),(iz a5),(iz a6),(iz a7),(iz a8)]),(.ptr 0 0 0)] <|
 C.bool s2.env[2]? fun b49 =>
 C.int .i64 s2.env[3]? fun x50 =>
 C.int .i64 s2.env[4]? fun x51 =>
 anys C s2.env 5 2 <|
 C.int .i64 s2.env[7]? fun x54 =>
 C.bool s2.env[8]? fun b55 =>
 anys C s2.env 9 4 <|
 C.int .i64 s2.env[13]? fun x60 =>
 anys C s2.env 14 3 <|
 C.int .i64 s2.env[17]? fun x64 =>
 C.bool s2.env[18]? fun b65 =>
 sames C s2.env 19 [tz,tz,tz,tz] <|
 C.sameH (St.H s2) [some ⟨E24,[(.agg [(.lst a0),(iz a1),(iz a2),(iz a3),(iz a4),(iz a5),(iz a6),(iz a7),(iz a8)])]⟩] <|
 some (.bool b49))
 (none)
theorem r8 (C:Cb) (d:Nat) (a0:List AV) (a1 a2 a3 a4 a5 a6 a7 a8:Int):xcall C M unr d 8 [(.agg [(.lst a0),(iz a1),(iz a2),(iz a3),(iz a4),(iz a5),(iz a6),(iz a7),(iz a8)])] =
 C.iter (r8R0 C d a0 a1 a2 a3 a4 a5 a6 a7 a8) 10000000000000000000 ⟨[(.agg [(.lst a0),(iz a1),(iz a2),(iz a3),(iz a4),(iz a5),(iz a6),(iz a7),(iz a8)]),(.ptr 0 0 0),bf,(iz 0),tz,tz,tz,tz,tz,tz,tz,tz,tz,tz,tz,tz,tz,tz,tz,tz,tz,tz,tz],[some ⟨E24,[(.agg [(.lst a0),(iz a1),(iz a2),(iz a3),(iz a4),(iz a5),(iz a6),(iz a7),(iz a8)])]⟩]⟩ [0] [r8X0_0 C d a0 a1 a2 a3 a4 a5 a6 a7 a8] (r8E0 C d a0 a1 a2 a3 a4 a5 a6 a7 a8):=by kernel_rfl
def r10R0 (C:Cb) (d:Nat) (a0:List AV) (a1 a2 a3 a4 a5 a6 a7 a8:Int):St→(Ex→St→Ans)→Ans:=fun s0 k1 =>
 cnd ((List.length s0.env) == 73)
 (sames C s0.env 0 [(.agg [(.lst a0),(iz a1),(iz a2),(iz a3),(iz a4),(iz a5),(iz a6),(iz a7),(iz a8)]),(.ptr 0 0 0)] <|
 C.int .i64 s0.env[2]? fun x3 =>
 C.int .i64 s0.env[3]? fun x4 =>
 sames C s0.env 4 [(.ptr 0 0 0),(.lst a0),(iz (((List.length a0):Nat):Int)),(.bool (decide ((((List.length a0):Nat):Int) < 1))),bf,(.ptr 0 0 0),(.lst a0),(iz (((List.length a0):Nat):Int)),(.bool (decide ((((List.length a0):Nat):Int) > 4))),bf] <|
 anys C s0.env 14 5 <|
 C.any s0.env[19]? fun v10 =>
 C.any s0.env[20]? fun v11 =>
 C.any s0.env[21]? fun v12 =>
 C.any s0.env[22]? fun v13 =>
 C.any s0.env[23]? fun v14 =>
 C.any s0.env[24]? fun v15 =>
 C.any s0.env[25]? fun v16 =>
 C.any s0.env[26]? fun v17 =>
 C.any s0.env[27]? fun v18 =>
 sames C s0.env 28 [tz,tz,tz,tz,tz,tz,tz,tz,tz,tz,tz,tz,tz,tz,tz,tz,tz,tz,tz,tz,tz,tz,tz,tz,tz,tz,tz,tz,tz,tz,tz,tz,tz,tz,tz,tz,tz,tz,tz,tz,tz,tz,tz,tz,tz] <|
 C.sameH (St.H s0) [some ⟨E24,[(.agg [(.lst a0),(iz a1),(iz a2),(iz a3),(iz a4),(iz a5),(iz a6),(iz a7),(iz a8)])]⟩] <|
 cnd (decide (x4 < (((List.length a0):Nat):Int)))
 (cnd (decide ((0:Int)≤x4))
 (C.agg 5 a0[(Int.toNat x4)]? fun l19 =>
 C.lst l19[0]? (fun l20 =>
 C.int .i64 l19[1]? fun x22 =>
 C.int .i64 l19[2]? fun x23 =>
 C.int .i64 l19[3]? fun x24 =>
 C.int .i64 l19[4]? fun x25 =>
 C.bool (pcall M d 25 [(.agg [(.lst l20),(iz x22),(iz x23),(iz x24),(iz x25)])]) fun b26 =>
 cnd (!b26)
 (k1 .ret ⟨[(.agg [(.lst a0),(iz a1),(iz a2),(iz a3),(iz a4),(iz a5),(iz a6),(iz a7),(iz a8)]),(.ptr 0 0 0),(iz 2),(iz x4),(.ptr 0 0 0),(.lst a0),(iz (((List.length a0):Nat):Int)),(.bool (decide ((((List.length a0):Nat):Int) < 1))),bf,(.ptr 0 0 0),(.lst a0),(iz (((List.length a0):Nat):Int)),(.bool (decide ((((List.length a0):Nat):Int) > 4))),bf,(iz x4),(.ptr 0 0 0),(.lst a0),(iz (((List.length a0):Nat):Int)),bt,v10,v11,(.ptr 0 0 0),(.lst a0),(iz x4),(.fptr (.agg [(.lst l20),(iz x22),(iz x23),(iz x24),(iz x25)]) 0),(.agg [(.lst l20),(iz x22),(iz x23),(iz x24),(iz x25)]),(.bool b26),bt,tz,tz,tz,tz,tz,tz,tz,tz,tz,tz,tz,tz,tz,tz,tz,tz,tz,tz,tz,tz,tz,tz,tz,tz,tz,tz,tz,tz,tz,tz,tz,tz,tz,tz,tz,tz,tz,tz,tz,tz,tz,tz,tz,tz,tz],[some ⟨E24,[(.agg [(.lst a0),(iz a1),(iz a2),(iz a3),(iz a4),(iz a5),(iz a6),(iz a7),(iz a8)])]⟩]⟩)
 (k1 .normal ⟨[(.agg [(.lst a0),(iz a1),(iz a2),(iz a3),(iz a4),(iz a5),(iz a6),(iz a7),(iz a8)]),(.ptr 0 0 0),(iz x3),(iz (IntKind.wrap .i64 (x4+1))),(.ptr 0 0 0),(.lst a0),(iz (((List.length a0):Nat):Int)),(.bool (decide ((((List.length a0):Nat):Int) < 1))),bf,(.ptr 0 0 0),(.lst a0),(iz (((List.length a0):Nat):Int)),(.bool (decide ((((List.length a0):Nat):Int) > 4))),bf,(iz x4),(.ptr 0 0 0),(.lst a0),(iz (((List.length a0):Nat):Int)),bt,(iz x4),(iz (IntKind.wrap .i64 (x4+1))),(.ptr 0 0 0),(.lst a0),(iz x4),(.fptr (.agg [(.lst l20),(iz x22),(iz x23),(iz x24),(iz x25)]) 0),(.agg [(.lst l20),(iz x22),(iz x23),(iz x24),(iz x25)]),(.bool b26),bf,tz,tz,tz,tz,tz,tz,tz,tz,tz,tz,tz,tz,tz,tz,tz,tz,tz,tz,tz,tz,tz,tz,tz,tz,tz,tz,tz,tz,tz,tz,tz,tz,tz,tz,tz,tz,tz,tz,tz,tz,tz,tz,tz,tz,tz],[some ⟨E24,[(.agg [(.lst a0),(iz a1),(iz a2),(iz a3),(iz a4),(iz a5),(iz a6),(iz a7),(iz a8)])]⟩]⟩))
 (fun z21 =>
 C.int .i64 l19[1]? fun x27 =>
 C.int .i64 l19[2]? fun x28 =>
 C.int .i64 l19[3]? fun x29 =>
 C.int .i64 l19[4]? fun x30 =>
 C.bool (pcall M d 25 [(.agg [(.zsl z21),(iz x27),(iz x28),(iz x29),(iz x30)])]) fun b31 =>
 cnd (!b31)
 (k1 .ret ⟨[(.agg [(.lst a0),(iz a1),(iz a2),(iz a3),(iz a4),(iz a5),(iz a6),(iz a7),(iz a8)]),(.ptr 0 0 0),(iz 2),(iz x4),(.ptr 0 0 0),(.lst a0),(iz (((List.length a0):Nat):Int)),(.bool (decide ((((List.length a0):Nat):Int) < 1))),bf,(.ptr 0 0 0),(.lst a0),(iz (((List.length a0):Nat):Int)),(.bool (decide ((((List.length a0):Nat):Int) > 4))),bf,(iz x4),(.ptr 0 0 0),(.lst a0),(iz (((List.length a0):Nat):Int)),bt,v10,v11,(.ptr 0 0 0),(.lst a0),(iz x4),(.fptr (.agg [(.zsl z21),(iz x27),(iz x28),(iz x29),(iz x30)]) 0),(.agg [(.zsl z21),(iz x27),(iz x28),(iz x29),(iz x30)]),(.bool b31),bt,tz,tz,tz,tz,tz,tz,tz,tz,tz,tz,tz,tz,tz,tz,tz,tz,tz,tz,tz,tz,tz,tz,tz,tz,tz,tz,tz,tz,tz,tz,tz,tz,tz,tz,tz,tz,tz,tz,tz,tz,tz,tz,tz,tz,tz],[some ⟨E24,[(.agg [(.lst a0),(iz a1),(iz a2),(iz a3),(iz a4),(iz a5),(iz a6),(iz a7),(iz a8)])]⟩]⟩)
 (k1 .normal ⟨[(.agg [(.lst a0),(iz a1),(iz a2),(iz a3),(iz a4),(iz a5),(iz a6),(iz a7),(iz a8)]),(.ptr 0 0 0),(iz x3),(iz (IntKind.wrap .i64 (x4+1))),(.ptr 0 0 0),(.lst a0),(iz (((List.length a0):Nat):Int)),(.bool (decide ((((List.length a0):Nat):Int) < 1))),bf,(.ptr 0 0 0),(.lst a0),(iz (((List.length a0):Nat):Int)),(.bool (decide ((((List.length a0):Nat):Int) > 4))),bf,(iz x4),(.ptr 0 0 0),(.lst a0),(iz (((List.length a0):Nat):Int)),bt,(iz x4),(iz (IntKind.wrap .i64 (x4+1))),(.ptr 0 0 0),(.lst a0),(iz x4),(.fptr (.agg [(.zsl z21),(iz x27),(iz x28),(iz x29),(iz x30)]) 0),(.agg [(.zsl z21),(iz x27),(iz x28),(iz x29),(iz x30)]),(.bool b31),bf,tz,tz,tz,tz,tz,tz,tz,tz,tz,tz,tz,tz,tz,tz,tz,tz,tz,tz,tz,tz,tz,tz,tz,tz,tz,tz,tz,tz,tz,tz,tz,tz,tz,tz,tz,tz,tz,tz,tz,tz,tz,tz,tz,tz,tz],[some ⟨E24,[(.agg [(.lst a0),(iz a1),(iz a2),(iz a3),(iz a4),(iz a5),(iz a6),(iz a7),(iz a8)])]⟩]⟩)))
 (none))
 (k1 (.exit 0) ⟨[(.agg [(.lst a0),(iz a1),(iz a2),(iz a3),(iz a4),(iz a5),(iz a6),(iz a7),(iz a8)]),(.ptr 0 0 0),(iz x3),(iz x4),(.ptr 0 0 0),(.lst a0),(iz (((List.length a0):Nat):Int)),(.bool (decide ((((List.length a0):Nat):Int) < 1))),bf,(.ptr 0 0 0),(.lst a0),(iz (((List.length a0):Nat):Int)),(.bool (decide ((((List.length a0):Nat):Int) > 4))),bf,(iz x4),(.ptr 0 0 0),(.lst a0),(iz (((List.length a0):Nat):Int)),bf,v10,v11,v12,v13,v14,v15,v16,v17,v18,tz,tz,tz,tz,tz,tz,tz,tz,tz,tz,tz,tz,tz,tz,tz,tz,tz,tz,tz,tz,tz,tz,tz,tz,tz,tz,tz,tz,tz,tz,tz,tz,tz,tz,tz,tz,tz,tz,tz,tz,tz,tz,tz,tz,tz],[some ⟨E24,[(.agg [(.lst a0),(iz a1),(iz a2),(iz a3),(iz a4),(iz a5),(iz a6),(iz a7),(iz a8)])]⟩]⟩))
 (none)
def r10X0_0 (C:Cb) (d:Nat) (a0:List AV) (a1 a2 a3 a4 a5 a6 a7 a8:Int):St→Ans:=fun s32 =>
 cnd ((List.length s32.env) == 73)
 (sames C s32.env 0 [(.agg [(.lst a0),(iz a1),(iz a2),(iz a3),(iz a4),(iz a5),(iz a6),(iz a7),(iz a8)]),(.ptr 0 0 0)] <|
 C.int .i64 s32.env[2]? fun x33 =>
 C.int .i64 s32.env[3]? fun x34 =>
 sames C s32.env 4 [(.ptr 0 0 0),(.lst a0),(iz (((List.length a0):Nat):Int)),(.bool (decide ((((List.length a0):Nat):Int) < 1))),bf,(.ptr 0 0 0),(.lst a0),(iz (((List.length a0):Nat):Int)),(.bool (decide ((((List.length a0):Nat):Int) > 4))),bf] <|
 C.int .i64 s32.env[14]? fun x35 =>
 anys C s32.env 15 2 <|
 C.int .i64 s32.env[17]? fun x38 =>
 C.bool s32.env[18]? fun b39 =>
 anys C s32.env 19 9 <|
 sames C s32.env 28 [tz,tz,tz,tz,tz,tz,tz,tz,tz,tz,tz,tz,tz,tz,tz,tz,tz,tz,tz,tz,tz,tz,tz,tz,tz,tz,tz,tz,tz,tz,tz,tz,tz,tz,tz,tz,tz,tz,tz,tz,tz,tz,tz,tz,tz] <|
 C.sameH (St.H s32) [some ⟨E24,[(.agg [(.lst a0),(iz a1),(iz a2),(iz a3),(iz a4),(iz a5),(iz a6),(iz a7),(iz a8)])]⟩] <|
 C.bool (pcall M d 26 [(iz a1),(iz 1),(iz 50)]) fun b49 =>
 cnd (!b49)
 (some (iz 3))
 (C.bool (pcall M d 26 [(iz a2),(iz 1),(iz 50)]) fun b50 =>
 cnd (!b50)
 (some (iz 3))
 (C.bool (pcall M d 26 [(iz a3),(iz 1),(iz 50)]) fun b51 =>
 cnd (!b51)
 (some (iz 3))
 (C.bool (pcall M d 26 [(iz a4),(iz 0),(iz 1024)]) fun b52 =>
 cnd (!b52)
 (some (iz 4))
 (C.bool (pcall M d 26 [(iz a5),(iz 1),(iz 65536)]) fun b53 =>
 cnd (!b53)
 (some (iz 5))
 (C.bool (pcall M d 26 [(iz a6),(iz 1),(iz 50)]) fun b54 =>
 cnd (!b54)
 (some (iz 6))
 (C.bool (pcall M d 26 [(iz a7),(iz 1),(iz 1073741824)]) fun b55 =>
 cnd (!b55)
 (some (iz 7))
 (C.bool (pcall M d 26 [(iz a8),(iz 0),(iz (((List.length a0):Nat):Int))]) fun b56 =>
 cnd (!b56)
 (some (iz 8))
 (some (iz 0))))))))))
 (none)
def r10E0 (C:Cb) (d:Nat) (a0:List AV) (a1 a2 a3 a4 a5 a6 a7 a8:Int):St→Ans:=fun s2 =>
 cnd ((List.length s2.env) == 73)
 (sames C s2.env 0 [(.agg [(.lst a0),(iz a1),(iz a2),(iz a3),(iz a4),(iz a5),(iz a6),(iz a7),(iz a8)]),(.ptr 0 0 0)] <|
 C.int .i64 s2.env[2]? fun x57 =>
 C.int .i64 s2.env[3]? fun x58 =>
 sames C s2.env 4 [(.ptr 0 0 0),(.lst a0),(iz (((List.length a0):Nat):Int)),(.bool (decide ((((List.length a0):Nat):Int) < 1))),bf,(.ptr 0 0 0),(.lst a0),(iz (((List.length a0):Nat):Int)),(.bool (decide ((((List.length a0):Nat):Int) > 4))),bf] <|
 C.int .i64 s2.env[14]? fun x59 =>
 anys C s2.env 15 2 <|
 C.int .i64 s2.env[17]? fun x62 =>
 C.bool s2.env[18]? fun b63 =>
 anys C s2.env 19 4 <|
 C.int .i64 s2.env[23]? fun x68 =>
 C.any s2.env[24]? fun v69 =>
 C.agg 5 s2.env[25]? fun l70 =>
 C.any l70[0]? fun v71 =>
 C.int .i64 l70[1]? fun x72 =>
 C.int .i64 l70[2]? fun x73 =>
 C.int .i64 l70[3]? fun x74 =>
 C.int .i64 l70[4]? fun x75 =>
 C.bool s2.env[26]? fun b76 =>
 C.bool s2.env[27]? fun b77 =>
 sames C s2.env 28 [tz,tz,tz,tz,tz,tz,tz,tz,tz,tz,tz,tz,tz,tz,tz,tz,tz,tz,tz,tz,tz,tz,tz,tz,tz,tz,tz,tz,tz,tz,tz,tz,tz,tz,tz,tz,tz,tz,tz,tz,tz,tz,tz,tz,tz] <|
 C.sameH (St.H s2) [some ⟨E24,[(.agg [(.lst a0),(iz a1),(iz a2),(iz a3),(iz a4),(iz a5),(iz a6),(iz a7),(iz a8)])]⟩] <|
 some (iz x57))
 (none)
theorem r10 (C:Cb) (d:Nat) (a0:List AV) (a1 a2 a3 a4 a5 a6 a7 a8:Int):xcall C M unr d 10 [(.agg [(.lst a0),(iz a1),(iz a2),(iz a3),(iz a4),(iz a5),(iz a6),(iz a7),(iz a8)])] =
 cnd (decide ((((List.length a0):Nat):Int) < 1))
 (some (iz 1))
 (cnd (decide ((((List.length a0):Nat):Int) > 4))
 (some (iz 1))
 (C.iter (r10R0 C d a0 a1 a2 a3 a4 a5 a6 a7 a8) 10000000000000000000 ⟨[(.agg [(.lst a0),(iz a1),(iz a2),(iz a3),(iz a4),(iz a5),(iz a6),(iz a7),(iz a8)]),(.ptr 0 0 0),(iz 0),(iz 0),(.ptr 0 0 0),(.lst a0),(iz (((List.length a0):Nat):Int)),(.bool (decide ((((List.length a0):Nat):Int) < 1))),bf,(.ptr 0 0 0),(.lst a0),(iz (((List.length a0):Nat):Int)),(.bool (decide ((((List.length a0):Nat):Int) > 4))),bf,tz,tz,tz,tz,tz,tz,tz,tz,tz,tz,tz,tz,tz,tz,tz,tz,tz,tz,tz,tz,tz,tz,tz,tz,tz,tz,tz,tz,tz,tz,tz,tz,tz,tz,tz,tz,tz,tz,tz,tz,tz,tz,tz,tz,tz,tz,tz,tz,tz,tz,tz,tz,tz,tz,tz,tz,tz,tz,tz],[some ⟨E24,[(.agg [(.lst a0),(iz a1),(iz a2),(iz a3),(iz a4),(iz a5),(iz a6),(iz a7),(iz a8)])]⟩]⟩ [0] [r10X0_0 C d a0 a1 a2 a3 a4 a5 a6 a7 a8] (r10E0 C d a0 a1 a2 a3 a4 a5 a6 a7 a8))):=by kernel_rfl
theorem r19 (C:Cb) (d:Nat) (a0:List AV) (a1 a2 a3 a4:Int) (a5:List AV) (a6 a7 a8 a9:Int):xcall C M unr d 19 [(.agg [(.lst a0),(iz a1),(iz a2),(iz a3),(iz a4)]),(.agg [(.lst a5),(iz a6),(iz a7),(iz a8),(iz a9)])] =
 C.bool (pcall M d 31 [(.lst a0),(.lst a5)]) fun b0 =>
 cnd b0
 (cnd (a1 == a6)
 (cnd (a2 == a7)
 (cnd (a3 == a8)
 (some (.bool (a4 == a9)))
 (some bf))
 (some bf))
 (some bf))
 (some bf):=by kernel_rfl
theorem r22 (C:Cb) (d:Nat) (a0:List AV) (a1 a2 a3 a4 a5 a6 a7 a8:Int):xcall C M unr d 22 [(.agg [(.lst a0),(iz a1),(iz a2),(iz a3),(iz a4),(iz a5),(iz a6),(iz a7),(iz a8)])] =
 C.int .i64 (pcall M d 33 [(.agg [(.lst a0),(iz a1),(iz a2),(iz a3),(iz a4),(iz a5),(iz a6),(iz a7),(iz a8)])]) fun x0 =>
 some (.bool (x0 == 0)):=by kernel_rfl
def r23R0 (C:Cb) (d:Nat) (a0:AV) (a1 a2 a3 a4 a5 a6 a7 a8:Int) (n0:Nat) (K0:AV→Heap→Ans) (v0 v2 v4 v6 v9 v13 v15:AV) (x19:Int):St→(Ex→St→Ans)→Ans:=fun s20 k21 =>
 cnd ((List.length s20.env) == 28)
 (sames C s20.env 0 [(.agg [a0,(iz a1),(iz a2),(iz a3),(iz a4),(iz a5),(iz a6),(iz a7),(iz a8)]),v0,v2] <|
 C.any s20.env[3]? fun v23 =>
 sames C s20.env 4 [v4,v6,(.lst []),v9,v13,v15,(iz x19)] <|
 C.int .i64 s20.env[11]? fun x24 =>
 C.any s20.env[12]? fun v25 =>
 C.any s20.env[13]? fun v26 =>
 C.any s20.env[14]? fun v27 =>
 C.any s20.env[15]? fun v28 =>
 C.any s20.env[16]? fun v29 =>
 C.any s20.env[17]? fun v30 =>
 C.any s20.env[18]? fun v31 =>
 C.any s20.env[19]? fun v32 =>
 C.any s20.env[20]? fun v33 =>
 C.any s20.env[21]? fun v34 =>
 C.any s20.env[22]? fun v35 =>
 C.any s20.env[23]? fun v36 =>
 C.any s20.env[24]? fun v37 =>
 C.any s20.env[25]? fun v38 =>
 C.any s20.env[26]? fun v39 =>
 C.same s20.env[27]? tz <|
 cnd (decide (x24 < x19))
 (C.hop (St.H s20) (.fldA 0 (.v v0)) fun v40 h41 =>
 C.hop h41 (.load false 1 (.v v40)) fun v42 h43 =>
 C.hop h43 (.fldA 0 (.v v0)) fun v44 h45 =>
 C.hop h45 (.load false 1 (.v v44)) fun v46 h47 =>
 C.hop h47 (.ixAS .any 5 (.v v46) (.v (iz x24))) fun v48 h49 =>
 C.hop h49 (.fldA 0 (.v v48)) fun v50 h51 =>
 C.hop h51 (.load false 1 (.v v50)) fun v52 h53 =>
 C.cal M (pcall M d) (n0+8) false 35 [v52] h53 fun v54 h55 =>
 C.any (some v54) fun v56 =>
 C.hop h55 (.ixAS .any 5 (.v v42) (.v (iz x24))) fun v57 h58 =>
 C.hop h58 (.fldA 0 (.v v57)) fun v59 h60 =>
 C.hop h60 (.store 1 (.v v59) (.v v56)) fun v61 h62 =>
 k21 .normal ⟨[(.agg [a0,(iz a1),(iz a2),(iz a3),(iz a4),(iz a5),(iz a6),(iz a7),(iz a8)]),v0,v2,(iz x24),v4,v6,(.lst []),v9,v13,v15,(iz x19),(iz (IntKind.wrap .i64 (x24+1))),bt,(iz x24),v40,v42,(iz x24),v44,v46,(iz x24),v48,v50,v52,v56,v57,v59,(iz (IntKind.wrap .i64 (x24+1))),tz],h62⟩)
 (k21 (.exit 0) ⟨[(.agg [a0,(iz a1),(iz a2),(iz a3),(iz a4),(iz a5),(iz a6),(iz a7),(iz a8)]),v0,v2,v23,v4,v6,(.lst []),v9,v13,v15,(iz x19),(iz x24),bf,v26,v27,v28,v29,v30,v31,v32,v33,v34,v35,v36,v37,v38,v39,tz],(St.H s20)⟩))
 (none)
def r23X0_0 (C:Cb) (d:Nat) (a0:AV) (a1 a2 a3 a4 a5 a6 a7 a8:Int) (n0:Nat) (K0:AV→Heap→Ans) (v0 v2 v4 v6 v9 v13 v15:AV) (x19:Int):St→Ans:=fun s63 =>
 cnd ((List.length s63.env) == 28)
 (sames C s63.env 0 [(.agg [a0,(iz a1),(iz a2),(iz a3),(iz a4),(iz a5),(iz a6),(iz a7),(iz a8)]),v0,v2] <|
 C.any s63.env[3]? fun v64 =>
 sames C s63.env 4 [v4,v6,(.lst []),v9,v13,v15,(iz x19)] <|
 C.int .i64 s63.env[11]? fun x65 =>
 anys C s63.env 12 15 <|
 C.same s63.env[27]? tz <|
 C.hop (St.H s63) (.load true 9 (.v v0)) fun v81 h82 =>
 C.agg 9 (some v81) fun l83 =>
 C.any l83[0]? fun v84 =>
 C.int .i64 l83[1]? fun x85 =>
 C.int .i64 l83[2]? fun x86 =>
 C.int .i64 l83[3]? fun x87 =>
 C.int .i64 l83[4]? fun x88 =>
 C.int .i64 l83[5]? fun x89 =>
 C.int .i64 l83[6]? fun x90 =>
 C.int .i64 l83[7]? fun x91 =>
 C.int .i64 l83[8]? fun x92 =>
 C.hop h82 (.store 9 (.v v2) (.v (.agg [v84,(iz x85),(iz x86),(iz x87),(iz x88),(iz x89),(iz x90),(iz x91),(iz x92)]))) fun v93 h94 =>
 C.hop h94 (.load true 9 (.v v2)) fun v95 h96 =>
 K0 v95 h94)
 (none)
def r23E0 (C:Cb) (d:Nat) (a0:AV) (a1 a2 a3 a4 a5 a6 a7 a8:Int) (n0:Nat) (K0:AV→Heap→Ans) (v0 v2 v4 v6 v9 v13 v15:AV) (x19:Int):St→Ans:=fun s22 =>
 cnd ((List.length s22.env) == 28)
 (sames C s22.env 0 [(.agg [a0,(iz a1),(iz a2),(iz a3),(iz a4),(iz a5),(iz a6),(iz a7),(iz a8)]),v0,v2] <|
 C.any s22.env[3]? fun v97 =>
 sames C s22.env 4 [v4,v6,(.lst []),v9,v13,v15,(iz x19)] <|
 C.int .i64 s22.env[11]? fun x98 =>
 anys C s22.env 12 15 <|
 C.same s22.env[27]? tz <|
 C.hop (St.H s22) (.load true 9 (.v v2)) fun v114 h115 =>
 K0 v114 (St.H s22))
 (none)
def r23R2 (C:Cb) (d:Nat) (a0:AV) (a1 a2 a3 a4 a5 a6 a7 a8:Int) (n0:Nat) (K0:AV→Heap→Ans) (v0 v2 v4 v6 v119 v123 v125:AV) (x129:Int):St→(Ex→St→Ans)→Ans:=fun s130 k131 =>
 cnd ((List.length s130.env) == 28)
 (sames C s130.env 0 [(.agg [a0,(iz a1),(iz a2),(iz a3),(iz a4),(iz a5),(iz a6),(iz a7),(iz a8)]),v0,v2] <|
 C.any s130.env[3]? fun v133 =>
 sames C s130.env 4 [v4,v6,(.zsl true),v119,v123,v125,(iz x129)] <|
 C.int .i64 s130.env[11]? fun x134 =>
 C.any s130.env[12]? fun v135 =>
 C.any s130.env[13]? fun v136 =>
 C.any s130.env[14]? fun v137 =>
 C.any s130.env[15]? fun v138 =>
 C.any s130.env[16]? fun v139 =>
 C.any s130.env[17]? fun v140 =>
 C.any s130.env[18]? fun v141 =>
 C.any s130.env[19]? fun v142 =>
 C.any s130.env[20]? fun v143 =>
 C.any s130.env[21]? fun v144 =>
 C.any s130.env[22]? fun v145 =>
 C.any s130.env[23]? fun v146 =>
 C.any s130.env[24]? fun v147 =>
 C.any s130.env[25]? fun v148 =>
 C.any s130.env[26]? fun v149 =>
 C.same s130.env[27]? tz <|
 cnd (decide (x134 < x129))
 (C.hop (St.H s130) (.fldA 0 (.v v0)) fun v150 h151 =>
 C.hop h151 (.load false 1 (.v v150)) fun v152 h153 =>
 C.hop h153 (.fldA 0 (.v v0)) fun v154 h155 =>
 C.hop h155 (.load false 1 (.v v154)) fun v156 h157 =>
 C.hop h157 (.ixAS .any 5 (.v v156) (.v (iz x134))) fun v158 h159 =>
 C.hop h159 (.fldA 0 (.v v158)) fun v160 h161 =>
 C.hop h161 (.load false 1 (.v v160)) fun v162 h163 =>
 C.cal M (pcall M d) (n0+8) false 35 [v162] h163 fun v164 h165 =>
 C.any (some v164) fun v166 =>
 C.hop h165 (.ixAS .any 5 (.v v152) (.v (iz x134))) fun v167 h168 =>
 C.hop h168 (.fldA 0 (.v v167)) fun v169 h170 =>
 C.hop h170 (.store 1 (.v v169) (.v v166)) fun v171 h172 =>
 k131 .normal ⟨[(.agg [a0,(iz a1),(iz a2),(iz a3),(iz a4),(iz a5),(iz a6),(iz a7),(iz a8)]),v0,v2,(iz x134),v4,v6,(.zsl true),v119,v123,v125,(iz x129),(iz (IntKind.wrap .i64 (x134+1))),bt,(iz x134),v150,v152,(iz x134),v154,v156,(iz x134),v158,v160,v162,v166,v167,v169,(iz (IntKind.wrap .i64 (x134+1))),tz],h172⟩)
 (k131 (.exit 0) ⟨[(.agg [a0,(iz a1),(iz a2),(iz a3),(iz a4),(iz a5),(iz a6),(iz a7),(iz a8)]),v0,v2,v133,v4,v6,(.zsl true),v119,v123,v125,(iz x129),(iz x134),bf,v136,v137,v138,v139,v140,v141,v142,v143,v144,v145,v146,v147,v148,v149,tz],(St.H s130)⟩))
 (none)
def r23X2_0 (C:Cb) (d:Nat) (a0:AV) (a1 a2 a3 a4 a5 a6 a7 a8:Int) (n0:Nat) (K0:AV→Heap→Ans) (v0 v2 v4 v6 v119 v123 v125:AV) (x129:Int):St→Ans:=fun s173 =>
 cnd ((List.length s173.env) == 28)
 (sames C s173.env 0 [(.agg [a0,(iz a1),(iz a2),(iz a3),(iz a4),(iz a5),(iz a6),(iz a7),(iz a8)]),v0,v2] <|
 C.any s173.env[3]? fun v174 =>
 sames C s173.env 4 [v4,v6,(.zsl true),v119,v123,v125,(iz x129)] <|
 C.int .i64 s173.env[11]? fun x175 =>
 anys C s173.env 12 15 <|
 C.same s173.env[27]? tz <|
 C.hop (St.H s173) (.load true 9 (.v v0)) fun v191 h192 =>
 C.agg 9 (some v191) fun l193 =>
 C.any l193[0]? fun v194 =>
 C.int .i64 l193[1]? fun x195 =>
 C.int .i64 l193[2]? fun x196 =>
 C.int .i64 l193[3]? fun x197 =>
 C.int .i64 l193[4]? fun x198 =>
 C.int .i64 l193[5]? fun x199 =>
 C.int .i64 l193[6]? fun x200 =>
 C.int .i64 l193[7]? fun x201 =>
 C.int .i64 l193[8]? fun x202 =>
 C.hop h192 (.store 9 (.v v2) (.v (.agg [v194,(iz x195),(iz x196),(iz x197),(iz x198),(iz x199),(iz x200),(iz x201),(iz x202)]))) fun v203 h204 =>
 C.hop h204 (.load true 9 (.v v2)) fun v205 h206 =>
 K0 v205 h204)
 (none)
def r23E2 (C:Cb) (d:Nat) (a0:AV) (a1 a2 a3 a4 a5 a6 a7 a8:Int) (n0:Nat) (K0:AV→Heap→Ans) (v0 v2 v4 v6 v119 v123 v125:AV) (x129:Int):St→Ans:=fun s132 =>
 cnd ((List.length s132.env) == 28)
 (sames C s132.env 0 [(.agg [a0,(iz a1),(iz a2),(iz a3),(iz a4),(iz a5),(iz a6),(iz a7),(iz a8)]),v0,v2] <|
 C.any s132.env[3]? fun v207 =>
 sames C s132.env 4 [v4,v6,(.zsl true),v119,v123,v125,(iz x129)] <|
 C.int .i64 s132.env[11]? fun x208 =>
 anys C s132.env 12 15 <|
 C.same s132.env[27]? tz <|
 C.hop (St.H s132) (.load true 9 (.v v2)) fun v224 h225 =>
 K0 v224 (St.H s132))
 (none)
def r23R4 (C:Cb) (d:Nat) (a0:AV) (a1 a2 a3 a4 a5 a6 a7 a8:Int) (n0:Nat) (K0:AV→Heap→Ans) (v0 v2 v4 v6 v228 v230 v234 v236:AV) (x240:Int):St→(Ex→St→Ans)→Ans:=fun s241 k242 =>
 cnd ((List.length s241.env) == 28)
 (sames C s241.env 0 [(.agg [a0,(iz a1),(iz a2),(iz a3),(iz a4),(iz a5),(iz a6),(iz a7),(iz a8)]),v0,v2] <|
 C.any s241.env[3]? fun v244 =>
 sames C s241.env 4 [v4,v6,v228,v230,v234,v236,(iz x240)] <|
 C.int .i64 s241.env[11]? fun x245 =>
 C.any s241.env[12]? fun v246 =>
 C.any s241.env[13]? fun v247 =>
 C.any s241.env[14]? fun v248 =>
 C.any s241.env[15]? fun v249 =>
 C.any s241.env[16]? fun v250 =>
 C.any s241.env[17]? fun v251 =>
 C.any s241.env[18]? fun v252 =>
 C.any s241.env[19]? fun v253 =>
 C.any s241.env[20]? fun v254 =>
 C.any s241.env[21]? fun v255 =>
 C.any s241.env[22]? fun v256 =>
 C.any s241.env[23]? fun v257 =>
 C.any s241.env[24]? fun v258 =>
 C.any s241.env[25]? fun v259 =>
 C.any s241.env[26]? fun v260 =>
 C.same s241.env[27]? tz <|
 cnd (decide (x245 < x240))
 (C.hop (St.H s241) (.fldA 0 (.v v0)) fun v261 h262 =>
 C.hop h262 (.load false 1 (.v v261)) fun v263 h264 =>
 C.hop h264 (.fldA 0 (.v v0)) fun v265 h266 =>
 C.hop h266 (.load false 1 (.v v265)) fun v267 h268 =>
 C.hop h268 (.ixAS .any 5 (.v v267) (.v (iz x245))) fun v269 h270 =>
 C.hop h270 (.fldA 0 (.v v269)) fun v271 h272 =>
 C.hop h272 (.load false 1 (.v v271)) fun v273 h274 =>
 C.cal M (pcall M d) (n0+8) false 35 [v273] h274 fun v275 h276 =>
 C.any (some v275) fun v277 =>
 C.hop h276 (.ixAS .any 5 (.v v263) (.v (iz x245))) fun v278 h279 =>
 C.hop h279 (.fldA 0 (.v v278)) fun v280 h281 =>
 C.hop h281 (.store 1 (.v v280) (.v v277)) fun v282 h283 =>
 k242 .normal ⟨[(.agg [a0,(iz a1),(iz a2),(iz a3),(iz a4),(iz a5),(iz a6),(iz a7),(iz a8)]),v0,v2,(iz x245),v4,v6,v228,v230,v234,v236,(iz x240),(iz (IntKind.wrap .i64 (x245+1))),bt,(iz x245),v261,v263,(iz x245),v265,v267,(iz x245),v269,v271,v273,v277,v278,v280,(iz (IntKind.wrap .i64 (x245+1))),tz],h283⟩)
 (k242 (.exit 0) ⟨[(.agg [a0,(iz a1),(iz a2),(iz a3),(iz a4),(iz a5),(iz a6),(iz a7),(iz a8)]),v0,v2,v244,v4,v6,v228,v230,v234,v236,(iz x240),(iz x245),bf,v247,v248,v249,v250,v251,v252,v253,v254,v255,v256,v257,v258,v259,v260,tz],(St.H s241)⟩))
 (none)
def r23X4_0 (C:Cb) (d:Nat) (a0:AV) (a1 a2 a3 a4 a5 a6 a7 a8:Int) (n0:Nat) (K0:AV→Heap→Ans) (v0 v2 v4 v6 v228 v230 v234 v236:AV) (x240:Int):St→Ans:=fun s284 =>
 cnd ((List.length s284.env) == 28)
 (sames C s284.env 0 [(.agg [a0,(iz a1),(iz a2),(iz a3),(iz a4),(iz a5),(iz a6),(iz a7),(iz a8)]),v0,v2] <|
 C.any s284.env[3]? fun v285 =>
 sames C s284.env 4 [v4,v6,v228,v230,v234,v236,(iz x240)] <|
 C.int .i64 s284.env[11]? fun x286 =>
 anys C s284.env 12 15 <|
 C.same s284.env[27]? tz <|
 C.hop (St.H s284) (.load true 9 (.v v0)) fun v302 h303 =>
 C.agg 9 (some v302) fun l304 =>
 C.any l304[0]? fun v305 =>
 C.int .i64 l304[1]? fun x306 =>
 C.int .i64 l304[2]? fun x307 =>
 C.int .i64 l304[3]? fun x308 =>
 C.int .i64 l304[4]? fun x309 =>
 C.int .i64 l304[5]? fun x310 =>
 C.int .i64 l304[6]? fun x311 =>
 C.int .i64 l304[7]? fun x312 =>
 C.int .i64 l304[8]? fun x313 =>
 C.hop h303 (.store 9 (.v v2) (.v (.agg [v305,(iz x306),(iz x307),(iz x308),(iz x309),(iz x310),(iz x311),(iz x312),(iz x313)]))) fun v314 h315 =>
 C.hop h315 (.load true 9 (.v v2)) fun v316 h317 =>
 K0 v316 h315)
 (none)
def r23E4 (C:Cb) (d:Nat) (a0:AV) (a1 a2 a3 a4 a5 a6 a7 a8:Int) (n0:Nat) (K0:AV→Heap→Ans) (v0 v2 v4 v6 v228 v230 v234 v236:AV) (x240:Int):St→Ans:=fun s243 =>
 cnd ((List.length s243.env) == 28)
 (sames C s243.env 0 [(.agg [a0,(iz a1),(iz a2),(iz a3),(iz a4),(iz a5),(iz a6),(iz a7),(iz a8)]),v0,v2] <|
 C.any s243.env[3]? fun v318 =>
 sames C s243.env 4 [v4,v6,v228,v230,v234,v236,(iz x240)] <|
 C.int .i64 s243.env[11]? fun x319 =>
 anys C s243.env 12 15 <|
 C.same s243.env[27]? tz <|
 C.hop (St.H s243) (.load true 9 (.v v2)) fun v335 h336 =>
 K0 v335 (St.H s243))
 (none)
theorem r23 (C:Cb) (d:Nat) (a0:AV) (a1 a2 a3 a4 a5 a6 a7 a8:Int) (n0:Nat) (H0:Heap) (K0:AV→Heap→Ans):xmeth C M unr d (n0+8) 23 [(.agg [a0,(iz a1),(iz a2),(iz a3),(iz a4),(iz a5),(iz a6),(iz a7),(iz a8)])] H0 K0 =
 C.hop H0 (.box E24 (.v (.agg [a0,(iz a1),(iz a2),(iz a3),(iz a4),(iz a5),(iz a6),(iz a7),(iz a8)]))) fun v0 h1 =>
 C.hop h1 (.alloc E24) fun v2 h3 =>
 C.hop h3 (.fldA 0 (.v v0)) fun v4 h5 =>
 C.hop h5 (.load false 1 (.v v4)) fun v6 h7 =>
 C.bool (clr v6) fun b8 =>
 cnd b8
 (C.same (emptyQ (pcall M d) 34) (.lst []) <|
 C.hop h7 (.fldA 0 (.v v0)) fun v9 h10 =>
 C.hop h10 (.store 1 (.v v9) (.v (.lst []))) fun v11 h12 =>
 C.hop h12 (.fldA 0 (.v v0)) fun v13 h14 =>
 C.hop h14 (.load false 1 (.v v13)) fun v15 h16 =>
 C.hop h16 (.bk .lenV [(.v v15)]) fun v17 h18 =>
 C.int .i64 (some v17) fun x19 =>
 C.iter (r23R0 C d a0 a1 a2 a3 a4 a5 a6 a7 a8 n0 K0 v0 v2 v4 v6 v9 v13 v15 x19) 10000000000000000000 ⟨[(.agg [a0,(iz a1),(iz a2),(iz a3),(iz a4),(iz a5),(iz a6),(iz a7),(iz a8)]),v0,v2,tz,v4,v6,(.lst []),v9,v13,v15,(iz x19),(iz 0),tz,tz,tz,tz,tz,tz,tz,tz,tz,tz,tz,tz,tz,tz,tz,tz],h18⟩ [0] [r23X0_0 C d a0 a1 a2 a3 a4 a5 a6 a7 a8 n0 K0 v0 v2 v4 v6 v9 v13 v15 x19] (r23E0 C d a0 a1 a2 a3 a4 a5 a6 a7 a8 n0 K0 v0 v2 v4 v6 v9 v13 v15 x19))
 (C.hop h7 (.eqv false 2 [] (.v v6) (.v (.zsl true))) fun v116 h117 =>
 C.bool (some v116) fun b118 =>
 cnd b118
 (C.hop h117 (.fldA 0 (.v v0)) fun v119 h120 =>
 C.hop h120 (.store 1 (.v v119) (.v (.zsl true))) fun v121 h122 =>
 C.hop h122 (.fldA 0 (.v v0)) fun v123 h124 =>
 C.hop h124 (.load false 1 (.v v123)) fun v125 h126 =>
 C.hop h126 (.bk .lenV [(.v v125)]) fun v127 h128 =>
 C.int .i64 (some v127) fun x129 =>
 C.iter (r23R2 C d a0 a1 a2 a3 a4 a5 a6 a7 a8 n0 K0 v0 v2 v4 v6 v119 v123 v125 x129) 10000000000000000000 ⟨[(.agg [a0,(iz a1),(iz a2),(iz a3),(iz a4),(iz a5),(iz a6),(iz a7),(iz a8)]),v0,v2,tz,v4,v6,(.zsl true),v119,v123,v125,(iz x129),(iz 0),tz,tz,tz,tz,tz,tz,tz,tz,tz,tz,tz,tz,tz,tz,tz,tz],h128⟩ [0] [r23X2_0 C d a0 a1 a2 a3 a4 a5 a6 a7 a8 n0 K0 v0 v2 v4 v6 v119 v123 v125 x129] (r23E2 C d a0 a1 a2 a3 a4 a5 a6 a7 a8 n0 K0 v0 v2 v4 v6 v119 v123 v125 x129))
 (C.hop h117 (.mkrow E43 0 []) fun v226 h227 =>
 C.hop h227 (.app E43 (.v v226) (.v v6)) fun v228 h229 =>
 C.hop h229 (.fldA 0 (.v v0)) fun v230 h231 =>
 C.hop h231 (.store 1 (.v v230) (.v v228)) fun v232 h233 =>
 C.hop h233 (.fldA 0 (.v v0)) fun v234 h235 =>
 C.hop h235 (.load false 1 (.v v234)) fun v236 h237 =>
 C.hop h237 (.bk .lenV [(.v v236)]) fun v238 h239 =>
 C.int .i64 (some v238) fun x240 =>
 C.iter (r23R4 C d a0 a1 a2 a3 a4 a5 a6 a7 a8 n0 K0 v0 v2 v4 v6 v228 v230 v234 v236 x240) 10000000000000000000 ⟨[(.agg [a0,(iz a1),(iz a2),(iz a3),(iz a4),(iz a5),(iz a6),(iz a7),(iz a8)]),v0,v2,tz,v4,v6,v228,v230,v234,v236,(iz x240),(iz 0),tz,tz,tz,tz,tz,tz,tz,tz,tz,tz,tz,tz,tz,tz,tz,tz],h239⟩ [0] [r23X4_0 C d a0 a1 a2 a3 a4 a5 a6 a7 a8 n0 K0 v0 v2 v4 v6 v228 v230 v234 v236 x240] (r23E4 C d a0 a1 a2 a3 a4 a5 a6 a7 a8 n0 K0 v0 v2 v4 v6 v228 v230 v234 v236 x240))):=by kernel_rfl
theorem r25 (C:Cb) (d:Nat) (a0:List AV) (a1 a2 a3 a4:Int):xcall C M unr d 25 [(.agg [(.lst a0),(iz a1),(iz a2),(iz a3),(iz a4)])] =
 C.bool (pcall M d 36 [(.lst a0)]) fun b0 =>
 cnd b0
 (C.bool (pcall M d 26 [(iz a1),(iz 1),(iz 100)]) fun b1 =>
 cnd b1
 (C.bool (pcall M d 26 [(iz a2),(iz 1),(iz 65536)]) fun b2 =>
 cnd b2
 (C.bool (pcall M d 26 [(iz a3),(iz 1),(iz 1000000)]) fun b3 =>
 cnd b3
 (C.bool (pcall M d 26 [(iz a4),(iz 0),(iz 1073741824)]) fun b4 =>
 some (.bool b4))
 (some bf))
 (some bf))
 (some bf))
 (some bf):=by kernel_rfl
theorem r26 (C:Cb) (d:Nat) (a0 a1 a2:Int):xcall C M unr d 26 [(iz a0),(iz a1),(iz a2)] =
 cnd (decide (a0 ≥ a1))
 (some (.bool (decide (a0≤a2))))
 (some bf):=by kernel_rfl
theorem r32 (C:Cb) (d:Nat) (a0:AV) (a1 a2 a3 a4 a5 a6 a7 a8 a9:Int) (n0:Nat) (H0:Heap) (K0:AV→Heap→Ans):xmeth C M unr d (n0+8) 32 [(.agg [a0,(iz a1),(iz a2),(iz a3),(iz a4),(iz a5),(iz a6),(iz a7),(iz a8)]),(iz a9)] H0 K0 =
 C.hop H0 (.box E24 (.v (.agg [a0,(iz a1),(iz a2),(iz a3),(iz a4),(iz a5),(iz a6),(iz a7),(iz a8)]))) fun v0 h1 =>
 C.hop h1 (.alloc E43) fun v2 h3 =>
 cnd (decide (a9 < 0))
 (C.hop h3 (.load true 5 (.v v2)) fun v4 h5 =>
 C.agg 5 (some v4) fun l6 =>
 C.any l6[0]? fun v7 =>
 C.int .i64 l6[1]? fun x8 =>
 C.int .i64 l6[2]? fun x9 =>
 C.int .i64 l6[3]? fun x10 =>
 C.int .i64 l6[4]? fun x11 =>
 C.hop h5 (.store 5 (.v v2) (.v (.agg [v7,(iz x8),(iz x9),(iz x10),(iz x11)]))) fun v12 h13 =>
 C.hop h13 (.load true 5 (.v v2)) fun v14 h15 =>
 K0 (.tup [v14,bf]) h13)
 (C.hop h3 (.fldA 0 (.v v0)) fun v16 h17 =>
 C.hop h17 (.load false 1 (.v v16)) fun v18 h19 =>
 C.hop h19 (.bk .lenV [(.v v18)]) fun v20 h21 =>
 C.int .i64 (some v20) fun x22 =>
 cnd (decide (a9 ≥ x22))
 (C.hop h21 (.load true 5 (.v v2)) fun v23 h24 =>
 C.agg 5 (some v23) fun l25 =>
 C.any l25[0]? fun v26 =>
 C.int .i64 l25[1]? fun x27 =>
 C.int .i64 l25[2]? fun x28 =>
 C.int .i64 l25[3]? fun x29 =>
 C.int .i64 l25[4]? fun x30 =>
 C.hop h24 (.store 5 (.v v2) (.v (.agg [v26,(iz x27),(iz x28),(iz x29),(iz x30)]))) fun v31 h32 =>
 C.hop h32 (.load true 5 (.v v2)) fun v33 h34 =>
 K0 (.tup [v33,bf]) h32)
 (C.hop h21 (.fldA 0 (.v v0)) fun v35 h36 =>
 C.hop h36 (.load false 1 (.v v35)) fun v37 h38 =>
 C.hop h38 (.ixAS .any 5 (.v v37) (.v (iz a9))) fun v39 h40 =>
 C.hop h40 (.load true 5 (.v v39)) fun v41 h42 =>
 C.agg 5 (some v41) fun l43 =>
 C.any l43[0]? fun v44 =>
 C.int .i64 l43[1]? fun x45 =>
 C.int .i64 l43[2]? fun x46 =>
 C.int .i64 l43[3]? fun x47 =>
 C.int .i64 l43[4]? fun x48 =>
 C.hop h42 (.store 5 (.v v2) (.v (.agg [v44,(iz x45),(iz x46),(iz x47),(iz x48)]))) fun v49 h50 =>
 C.hop h50 (.fldA 0 (.v v2)) fun v51 h52 =>
 C.hop h52 (.load false 1 (.v v51)) fun v53 h54 =>
 C.cal M (pcall M d) (n0+8) true 35 [v53] h54 fun v55 h56 =>
 C.any (some v55) fun v57 =>
 C.hop h56 (.fldA 0 (.v v2)) fun v58 h59 =>
 C.hop h59 (.store 1 (.v v58) (.v v57)) fun v60 h61 =>
 C.hop h61 (.load true 5 (.v v2)) fun v62 h63 =>
 C.agg 5 (some v62) fun l64 =>
 C.any l64[0]? fun v65 =>
 C.int .i64 l64[1]? fun x66 =>
 C.int .i64 l64[2]? fun x67 =>
 C.int .i64 l64[3]? fun x68 =>
 C.int .i64 l64[4]? fun x69 =>
 C.hop h63 (.store 5 (.v v2) (.v (.agg [v65,(iz x66),(iz x67),(iz x68),(iz x69)]))) fun v70 h71 =>
 C.hop h71 (.load true 5 (.v v2)) fun v72 h73 =>
 K0 (.tup [v72,bt]) h71)):=by kernel_rfl
theorem r33 (C:Cb) (d:Nat) (a0:List AV) (a1 a2 a3 a4 a5 a6 a7 a8:Int):xcall C M unr d 33 [(.agg [(.lst a0),(iz a1),(iz a2),(iz a3),(iz a4),(iz a5),(iz a6),(iz a7),(iz a8)])] =
 C.bool (pcall M d 40 [(iz (((List.length a0):Nat):Int)),(iz 1),(iz 4)]) fun b0 =>
 cnd (!b0)
 (some (iz 1))
 (C.bool (pcall M d 41 [(.lst a0),(.fn 42 [] [])]) fun b1 =>
 cnd b1
 (some (iz 2))
 (C.bool (pcall M d 44 [(.fptr (.agg [(.lst a0),(iz a1),(iz a2),(iz a3),(iz a4),(iz a5),(iz a6),(iz a7),(iz a8)]) 0)]) fun b2 =>
 cnd (!b2)
 (some (iz 3))
 (C.bool (pcall M d 45 [(iz a4),(iz 0),(iz 1024)]) fun b3 =>
 cnd (!b3)
 (some (iz 4))
 (C.bool (pcall M d 45 [(iz a5),(iz 1),(iz 65536)]) fun b4 =>
 cnd (!b4)
 (some (iz 5))
 (C.bool (pcall M d 40 [(iz a6),(iz 1),(iz 50)]) fun b5 =>
 cnd (!b5)
 (some (iz 6))
 (C.bool (pcall M d 45 [(iz a7),(iz 1),(iz 1073741824)]) fun b6 =>
 cnd (!b6)
 (some (iz 7))
 (C.bool (pcall M d 40 [(iz a8),(iz 0),(iz (((List.length a0):Nat):Int))]) fun b7 =>
 cnd (!b7)
 (some (iz 8))
 (some (iz 0))))))))):=by kernel_rfl
theorem r40 (C:Cb) (d:Nat) (a0 a1 a2:Int):xcall C M unr d 40 [(iz a0),(iz a1),(iz a2)] =
 cnd (decide (a0 ≥ a1))
 (some (.bool (decide (a0≤a2))))
 (some bf):=by kernel_rfl
theorem r41f42 (C:Cb) (d:Nat) (a0:List AV) (a1:AV):xcall C M unr d 41 [(.lst a0),(.fn 42 [] [])] =
 C.int .i64 (pcall M d 50 [(.lst a0),(.fn 42 [] [])]) fun x0 =>
 some (.bool (decide (x0 ≥ 0))):=by kernel_rfl
theorem r42 (C:Cb) (d:Nat) (a0:List AV) (a1 a2 a3 a4:Int):xcall C M unr d 42 [(.agg [(.lst a0),(iz a1),(iz a2),(iz a3),(iz a4)])] =
 C.bool (pcall M d 43 [(.agg [(.lst a0),(iz a1),(iz a2),(iz a3),(iz a4)])]) fun b0 =>
 some (.bool (!b0)):=by kernel_rfl
theorem r43 (C:Cb) (d:Nat) (a0:List AV) (a1 a2 a3 a4:Int):xcall C M unr d 43 [(.agg [(.lst a0),(iz a1),(iz a2),(iz a3),(iz a4)])] =
 C.bool (pcall M d 51 [(.lst a0)]) fun b0 =>
 cnd b0
 (C.bool (pcall M d 45 [(iz a1),(iz 1),(iz 100)]) fun b1 =>
 cnd b1
 (C.bool (pcall M d 45 [(iz a2),(iz 1),(iz 65536)]) fun b2 =>
 cnd b2
 (C.bool (pcall M d 40 [(iz a3),(iz 1),(iz 1000000)]) fun b3 =>
 cnd b3
 (C.bool (pcall M d 45 [(iz a4),(iz 0),(iz 1073741824)]) fun b4 =>
 some (.bool b4))
 (some bf))
 (some bf))
 (some bf))
 (some bf):=by kernel_rfl
theorem r44 (C:Cb) (d:Nat) (a0 a1:AV) (a2 a3 a4 a5 a6 a7 a8 a9:Int):xcall C M unr d 44 [(.fptr (.agg [a1,(iz a2),(iz a3),(iz a4),(iz a5),(iz a6),(iz a7),(iz a8),(iz a9)]) 0)] =
 C.bool (pcall M d 40 [(iz (if (a4 < (if (a3 < a2) then a3 else a2)) then a4 else (if (a3 < a2) then a3 else a2))),(iz 1),(iz 50)]) fun b0 =>
 cnd b0
 (C.bool (pcall M d 40 [(iz (if (a4 > (if (a3 > a2) then a3 else a2)) then a4 else (if (a3 > a2) then a3 else a2))),(iz 1),(iz 50)]) fun b1 =>
 some (.bool b1))
 (some bf):=by kernel_rfl
theorem r45 (C:Cb) (d:Nat) (a0 a1 a2:Int):xcall C M unr d 45 [(iz a0),(iz a1),(iz a2)] =
 cnd (decide (a0 ≥ a1))
 (some (.bool (decide (a0≤a2))))
 (some bf):=by kernel_rfl
def r50f42R0 (C:Cb) (d:Nat) (a0:List AV):St→(Ex→St→Ans)→Ans:=fun s0 k1 =>
 cnd ((List.length s0.env) == 19)
 (sames C s0.env 0 [(.lst a0),(.fn 42 [] []),tz,tz] <|
 C.int .i64 s0.env[4]? fun x3 =>
 C.any s0.env[5]? fun v4 =>
 sames C s0.env 6 [(.lst a0),(iz (((List.length a0):Nat):Int))] <|
 C.int .i64 s0.env[8]? fun x5 =>
 C.any s0.env[9]? fun v6 =>
 C.any s0.env[10]? fun v7 =>
 C.any s0.env[11]? fun v8 =>
 C.any s0.env[12]? fun v9 =>
 C.any s0.env[13]? fun v10 =>
 C.any s0.env[14]? fun v11 =>
 C.any s0.env[15]? fun v12 =>
 C.any s0.env[16]? fun v13 =>
 C.any s0.env[17]? fun v14 =>
 C.any s0.env[18]? fun v15 =>
 C.sameH (St.H s0) [] <|
 cnd (decide (x5 < (((List.length a0):Nat):Int)))
 (cnd (decide ((0:Int)≤x5))
 (C.agg 5 a0[(Int.toNat x5)]? fun l16 =>
 C.lst l16[0]? (fun l17 =>
 C.int .i64 l16[1]? fun x19 =>
 C.int .i64 l16[2]? fun x20 =>
 C.int .i64 l16[3]? fun x21 =>
 C.int .i64 l16[4]? fun x22 =>
 C.bool (pcall M d 42 [(.agg [(.lst l17),(iz x19),(iz x20),(iz x21),(iz x22)])]) fun b23 =>
 cnd b23
 (k1 .ret ⟨[(.lst a0),(.fn 42 [] []),tz,tz,(iz x5),(iz x5),(.lst a0),(iz (((List.length a0):Nat):Int)),(iz x5),bt,(iz x5),(.fn 42 [] []),(.lst a0),(iz x5),(.fptr (.agg [(.lst l17),(iz x19),(iz x20),(iz x21),(iz x22)]) 0),(.agg [(.lst l17),(iz x19),(iz x20),(iz x21),(iz x22)]),bt,(iz x5),v15],[]⟩)
 (k1 .normal ⟨[(.lst a0),(.fn 42 [] []),tz,tz,(iz x3),(iz x5),(.lst a0),(iz (((List.length a0):Nat):Int)),(iz (IntKind.wrap .i64 (x5+1))),bt,(iz x5),(.fn 42 [] []),(.lst a0),(iz x5),(.fptr (.agg [(.lst l17),(iz x19),(iz x20),(iz x21),(iz x22)]) 0),(.agg [(.lst l17),(iz x19),(iz x20),(iz x21),(iz x22)]),bf,v14,(iz (IntKind.wrap .i64 (x5+1)))],[]⟩))
 (fun z18 =>
 C.int .i64 l16[1]? fun x24 =>
 C.int .i64 l16[2]? fun x25 =>
 C.int .i64 l16[3]? fun x26 =>
 C.int .i64 l16[4]? fun x27 =>
 C.bool (pcall M d 42 [(.agg [(.zsl z18),(iz x24),(iz x25),(iz x26),(iz x27)])]) fun b28 =>
 cnd b28
 (k1 .ret ⟨[(.lst a0),(.fn 42 [] []),tz,tz,(iz x5),(iz x5),(.lst a0),(iz (((List.length a0):Nat):Int)),(iz x5),bt,(iz x5),(.fn 42 [] []),(.lst a0),(iz x5),(.fptr (.agg [(.zsl z18),(iz x24),(iz x25),(iz x26),(iz x27)]) 0),(.agg [(.zsl z18),(iz x24),(iz x25),(iz x26),(iz x27)]),bt,(iz x5),v15],[]⟩)
 (k1 .normal ⟨[(.lst a0),(.fn 42 [] []),tz,tz,(iz x3),(iz x5),(.lst a0),(iz (((List.length a0):Nat):Int)),(iz (IntKind.wrap .i64 (x5+1))),bt,(iz x5),(.fn 42 [] []),(.lst a0),(iz x5),(.fptr (.agg [(.zsl z18),(iz x24),(iz x25),(iz x26),(iz x27)]) 0),(.agg [(.zsl z18),(iz x24),(iz x25),(iz x26),(iz x27)]),bf,v14,(iz (IntKind.wrap .i64 (x5+1)))],[]⟩)))
 (none))
 (k1 (.exit 0) ⟨[(.lst a0),(.fn 42 [] []),tz,tz,(iz x3),v4,(.lst a0),(iz (((List.length a0):Nat):Int)),(iz x5),bf,v7,v8,v9,v10,v11,v12,v13,v14,v15],[]⟩))
 (none)
def r50f42X0_0 (C:Cb) (d:Nat) (a0:List AV):St→Ans:=fun s29 =>
 cnd ((List.length s29.env) == 19)
 (sames C s29.env 0 [(.lst a0),(.fn 42 [] []),tz,tz] <|
 C.int .i64 s29.env[4]? fun x30 =>
 C.any s29.env[5]? fun v31 =>
 sames C s29.env 6 [(.lst a0),(iz (((List.length a0):Nat):Int))] <|
 C.int .i64 s29.env[8]? fun x32 =>
 anys C s29.env 9 10 <|
 C.sameH (St.H s29) [] <|
 some (iz (-1)))
 (none)
def r50f42E0 (C:Cb) (d:Nat) (a0:List AV):St→Ans:=fun s2 =>
 cnd ((List.length s2.env) == 19)
 (sames C s2.env 0 [(.lst a0),(.fn 42 [] []),tz,tz] <|
 C.int .i64 s2.env[4]? fun x43 =>
 C.int .i64 s2.env[5]? fun x44 =>
 sames C s2.env 6 [(.lst a0),(iz (((List.length a0):Nat):Int))] <|
 C.int .i64 s2.env[8]? fun x45 =>
 C.any s2.env[9]? fun v46 =>
 C.int .i64 s2.env[10]? fun x47 =>
 anys C s2.env 11 2 <|
 C.int .i64 s2.env[13]? fun x50 =>
 C.any s2.env[14]? fun v51 =>
 C.agg 5 s2.env[15]? fun l52 =>
 C.any l52[0]? fun v53 =>
 C.int .i64 l52[1]? fun x54 =>
 C.int .i64 l52[2]? fun x55 =>
 C.int .i64 l52[3]? fun x56 =>
 C.int .i64 l52[4]? fun x57 =>
 C.bool s2.env[16]? fun b58 =>
 C.int .i64 s2.env[17]? fun x59 =>
 C.any s2.env[18]? fun v60 =>
 C.sameH (St.H s2) [] <|
 some (iz x43))
 (none)
theorem r50f42 (C:Cb) (d:Nat) (a0:List AV) (a1:AV):xcall C M unr d 50 [(.lst a0),(.fn 42 [] [])] =
 C.iter (r50f42R0 C d a0) 10000000000000000000 ⟨[(.lst a0),(.fn 42 [] []),tz,tz,(iz 0),tz,(.lst a0),(iz (((List.length a0):Nat):Int)),(iz 0),tz,tz,tz,tz,tz,tz,tz,tz,tz,tz],[]⟩ [0] [r50f42X0_0 C d a0] (r50f42E0 C d a0):=by kernel_rfl
end Go.Proofs.Ytdceaeifcniabaa.AE
