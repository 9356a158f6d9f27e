/- The texts that the law PhaseSlow needs, part 6. No conditions. -/
import Derived.Test.YtdceaeifcniabaaMPhaseSlow5
namespace Go.Proofs.Ytdceaeifcniabaa.AE
set_option linter.unusedVariables false
set_option linter.unusedSimpArgs false
set_option linter.constructorNameAsVariable false
open Go
set_option maxRecDepth 100000
set_option maxHeartbeats 0
def r4R0 (C : Cb) (d : Nat) (a0 : List AV) (a1 a2 a3 a4 a5 a6 a7 a8 : Int) (a9 : List AV) (v0 : AV) (b2 : Bool) (v7 : AV) (x8 x9 x10 x11 x12 x13 x14 x15 : Int) (b18 : Bool) (v23 : AV) (x24 x25 x26 x27 x28 x29 x30 x31 x34 x38 : Int) (v43 : AV) (x44 x45 x46 x47 x48 x49 x50 x51 : Int) (v54 : AV) (x57 : Int) : St → (Ex → St → Ans) → Ans := fun s58 k59 =>
 cnd ((List.length s58.env) == 106)
 (C.same s58.env[0]? (.agg [(.lst a0), (iz a1), (iz a2), (iz a3), (iz a4), (iz a5), (iz a6), (iz a7), (iz a8)]) <|
 C.same s58.env[1]? (.lst a9) <|
 C.same s58.env[2]? v0 <|
 C.same s58.env[3]? tz <|
 C.bool s58.env[4]? fun b61 =>
 C.same s58.env[5]? v54 <|
 C.int .i64 s58.env[6]? fun x62 =>
 C.same s58.env[7]? tz <|
 C.any s58.env[8]? fun v63 =>
 C.any s58.env[9]? fun v64 =>
 C.any s58.env[10]? fun v65 =>
 C.same s58.env[11]? (.bool b2) <|
 C.same s58.env[12]? (.bool (!b2)) <|
 C.same s58.env[13]? bf <|
 C.same s58.env[14]? (.agg [v7, (iz x8), (iz x9), (iz x10), (iz x11), (iz x12), (iz x13), (iz x14), (iz x15)]) <|
 C.same s58.env[15]? (.bool b18) <|
 C.same s58.env[16]? (.bool (!b18)) <|
 C.same s58.env[17]? (.bool (!b18)) <|
 C.same s58.env[18]? bf <|
 C.same s58.env[19]? (.agg [v23, (iz x24), (iz x25), (iz x26), (iz x27), (iz x28), (iz x29), (iz x30), (iz x31)]) <|
 C.same s58.env[20]? (iz x34) <|
 C.same s58.env[21]? (.bool (x34 != 0)) <|
 C.same s58.env[22]? (.bool (x34 != 0)) <|
 C.same s58.env[23]? bf <|
 C.same s58.env[24]? (.lst a9) <|
 C.same s58.env[25]? (iz x38) <|
 C.same s58.env[26]? (.bool (decide (x38 > 200))) <|
 C.same s58.env[27]? bf <|
 C.same s58.env[28]? tz <|
 C.same s58.env[29]? (.agg [v43, (iz x44), (iz x45), (iz x46), (iz x47), (iz x48), (iz x49), (iz x50), (iz x51)]) <|
 C.same s58.env[30]? v54 <|
 C.same s58.env[31]? (.lst a9) <|
 C.same s58.env[32]? (iz x57) <|
 C.int .i64 s58.env[33]? fun x66 =>
 C.any s58.env[34]? fun v67 =>
 C.any s58.env[35]? fun v68 =>
 C.any s58.env[36]? fun v69 =>
 C.any s58.env[37]? fun v70 =>
 C.any s58.env[38]? fun v71 =>
 C.any s58.env[39]? fun v72 =>
 C.any s58.env[40]? fun v73 =>
 C.any s58.env[41]? fun v74 =>
 C.any s58.env[42]? fun v75 =>
 C.any s58.env[43]? fun v76 =>
 C.any s58.env[44]? fun v77 =>
 C.any s58.env[45]? fun v78 =>
 C.any s58.env[46]? fun v79 =>
 C.any s58.env[47]? fun v80 =>
 C.any s58.env[48]? fun v81 =>
 C.any s58.env[49]? fun v82 =>
 C.any s58.env[50]? fun v83 =>
 C.any s58.env[51]? fun v84 =>
 C.any s58.env[52]? fun v85 =>
 C.any s58.env[53]? fun v86 =>
 C.any s58.env[54]? fun v87 =>
 C.any s58.env[55]? fun v88 =>
 C.any s58.env[56]? fun v89 =>
 C.any s58.env[57]? fun v90 =>
 C.any s58.env[58]? fun v91 =>
 C.any s58.env[59]? fun v92 =>
 C.any s58.env[60]? fun v93 =>
 C.any s58.env[61]? fun v94 =>
 C.any s58.env[62]? fun v95 =>
 C.any s58.env[63]? fun v96 =>
 C.any s58.env[64]? fun v97 =>
 C.any s58.env[65]? fun v98 =>
 C.any s58.env[66]? fun v99 =>
 C.any s58.env[67]? fun v100 =>
 C.any s58.env[68]? fun v101 =>
 C.any s58.env[69]? fun v102 =>
 C.any s58.env[70]? fun v103 =>
 C.any s58.env[71]? fun v104 =>
 C.any s58.env[72]? fun v105 =>
 C.any s58.env[73]? fun v106 =>
 C.any s58.env[74]? fun v107 =>
 C.any s58.env[75]? fun v108 =>
 C.any s58.env[76]? fun v109 =>
 C.any s58.env[77]? fun v110 =>
 C.any s58.env[78]? fun v111 =>
 C.any s58.env[79]? fun v112 =>
 C.any s58.env[80]? fun v113 =>
 C.any s58.env[81]? fun v114 =>
 C.any s58.env[82]? fun v115 =>
 C.any s58.env[83]? fun v116 =>
 C.any s58.env[84]? fun v117 =>
 C.any s58.env[85]? fun v118 =>
 C.any s58.env[86]? fun v119 =>
 C.any s58.env[87]? fun v120 =>
 C.any s58.env[88]? fun v121 =>
 C.any s58.env[89]? fun v122 =>
 C.any s58.env[90]? fun v123 =>
 C.any s58.env[91]? fun v124 =>
 C.any s58.env[92]? fun v125 =>
 C.any s58.env[93]? fun v126 =>
 C.any s58.env[94]? fun v127 =>
 C.any s58.env[95]? fun v128 =>
 C.any s58.env[96]? fun v129 =>
 C.any s58.env[97]? fun v130 =>
 C.any s58.env[98]? fun v131 =>
 C.any s58.env[99]? fun v132 =>
 C.any s58.env[100]? fun v133 =>
 C.any s58.env[101]? fun v134 =>
 C.any s58.env[102]? fun v135 =>
 C.any s58.env[103]? fun v136 =>
 C.any s58.env[104]? fun v137 =>
 C.any s58.env[105]? fun v138 =>
 cnd (decide (x66 < x57))
 (C.hop (St.H s58) (.ixAS .any 7 (.v (.lst a9)) (.v (iz x66))) fun v139 h140 =>
 C.hop h140 (.load true 7 (.v v139)) fun v141 h142 =>
 C.agg 7 (some v141) fun l143 =>
 C.int .i64 l143[0]? fun x144 =>
 C.int .i64 l143[1]? fun x145 =>
 C.int .i64 l143[2]? fun x146 =>
 C.bool l143[3]? fun b147 =>
 C.bool l143[4]? fun b148 =>
 C.bool l143[5]? fun b149 =>
 C.int .i64 l143[6]? fun x150 =>
 C.hop h142 (.alloc E35) fun v151 h152 =>
 C.hop h152 (.store 7 (.v v151) (.v (.agg [(iz x144), (iz x145), (iz x146), (.bool b147), (.bool b148), (.bool b149), (iz x150)]))) fun v153 h154 =>
 C.cal M (pcall M d) 12 true 16 [v54] h154 fun v155 h156 =>
 C.int .i64 (some v155) fun x157 =>
 C.grow h156 [] fun n158 h159 =>
 C.hop h159 (.fldA 6 (.v v151)) fun v160 h161 =>
 C.hop h161 (.load false 1 (.v v160)) fun v162 h163 =>
 C.int .i64 (some v162) fun x164 =>
 C.hop h163 (.fldA 5 (.v v151)) fun v165 h166 =>
 C.hop h166 (.load false 1 (.v v165)) fun v167 h168 =>
 C.bool (some v167) fun b169 =>
 C.cal M (pcall M d) 12 true 11 [v54, (iz x164), (.bool b169)] h168 fun v170 h171 =>
 C.bool (some v170) fun b172 =>
 C.hop h171 (.fldA 4 (.v v151)) fun v173 h174 =>
 C.hop h174 (.load false 1 (.v v173)) fun v175 h176 =>
 C.bool (some v175) fun b177 =>
 C.keep h168 h171 [v173] <|
 C.cal M (pcall M d) 12 true 13 [v54, (.bool b172), (.bool b177)] h176 fun v178 h179 =>
 C.bool (some v178) fun b180 =>
 C.cal M (pcall M d) 12 true 16 [v54] h179 fun v181 h182 =>
 C.int .i64 (some v181) fun x183 =>
 cnd (xor true (b180 == (x183 == (IntKind.wrap .i64 (x157 + 1)))))
 (k59 .ret ⟨[(.agg [(.lst a0), (iz a1), (iz a2), (iz a3), (iz a4), (iz a5), (iz a6), (iz a7), (iz a8)]), (.lst a9), v0, tz, bf, v54, (iz x62), tz, v151, (iz x157), (.bool b180), (.bool b2), (.bool (!b2)), bf, (.agg [v7, (iz x8), (iz x9), (iz x10), (iz x11), (iz x12), (iz x13), (iz x14), (iz x15)]), (.bool b18), (.bool (!b18)), (.bool (!b18)), bf, (.agg [v23, (iz x24), (iz x25), (iz x26), (iz x27), (iz x28), (iz x29), (iz x30), (iz x31)]), (iz x34), (.bool (x34 != 0)), (.bool (x34 != 0)), bf, (.lst a9), (iz x38), (.bool (decide (x38 > 200))), bf, tz, (.agg [v43, (iz x44), (iz x45), (iz x46), (iz x47), (iz x48), (iz x49), (iz x50), (iz x51)]), v54, (.lst a9), (iz x57), (iz x66), bt, v139, (.agg [(iz x144), (iz x145), (iz x146), (.bool b147), (.bool b148), (.bool b149), (iz x150)]), v54, (iz x157), v54, v54, v160, (iz x164), v165, (.bool b169), (.bool b172), v173, (.bool b177), (.bool b180), (.bool b180), v54, (iz x183), (iz x157), (iz (IntKind.wrap .i64 (x157 + 1))), (.bool (x183 == (IntKind.wrap .i64 (x157 + 1)))), (.bool (xor true (b180 == (x183 == (IntKind.wrap .i64 (x157 + 1)))))), bt, tz, tz, tz, tz, tz, tz, tz, tz, bt, v99, v100, v101, v102, v103, v104, v105, v106, v107, v108, v109, v110, v111, v112, v113, v114, v115, v116, v117, v118, v119, v120, v121, v122, v123, v124, v125, v126, v127, v128, v129, v130, v131, v132, v133, v134, v135, v136, v137, v138], h182⟩)
 (cnd (!b180)
 (C.cal M (pcall M d) 12 true 16 [v54] h182 fun v184 h185 =>
 C.int .i64 (some v184) fun x186 =>
 cnd (x186 != x157)
 (k59 .ret ⟨[(.agg [(.lst a0), (iz a1), (iz a2), (iz a3), (iz a4), (iz a5), (iz a6), (iz a7), (iz a8)]), (.lst a9), v0, tz, bf, v54, (iz x62), tz, v151, (iz x157), (.bool b180), (.bool b2), (.bool (!b2)), bf, (.agg [v7, (iz x8), (iz x9), (iz x10), (iz x11), (iz x12), (iz x13), (iz x14), (iz x15)]), (.bool b18), (.bool (!b18)), (.bool (!b18)), bf, (.agg [v23, (iz x24), (iz x25), (iz x26), (iz x27), (iz x28), (iz x29), (iz x30), (iz x31)]), (iz x34), (.bool (x34 != 0)), (.bool (x34 != 0)), bf, (.lst a9), (iz x38), (.bool (decide (x38 > 200))), bf, tz, (.agg [v43, (iz x44), (iz x45), (iz x46), (iz x47), (iz x48), (iz x49), (iz x50), (iz x51)]), v54, (.lst a9), (iz x57), (iz x66), bt, v139, (.agg [(iz x144), (iz x145), (iz x146), (.bool b147), (.bool b148), (.bool b149), (iz x150)]), v54, (iz x157), v54, v54, v160, (iz x164), v165, (.bool b169), (.bool b172), v173, (.bool b177), (.bool b180), (.bool b180), v54, (iz x183), (iz x157), (iz (IntKind.wrap .i64 (x157 + 1))), (.bool (x183 == (IntKind.wrap .i64 (x157 + 1)))), (.bool (xor true (b180 == (x183 == (IntKind.wrap .i64 (x157 + 1)))))), bf, (.bool b180), (.bool (!b180)), bt, v54, (iz x186), (iz x157), (.bool (x186 != x157)), (.bool (x186 != x157)), bt, v99, v100, v101, v102, v103, v104, v105, v106, v107, v108, v109, v110, v111, v112, v113, v114, v115, v116, v117, v118, v119, v120, v121, v122, v123, v124, v125, v126, v127, v128, v129, v130, v131, v132, v133, v134, v135, v136, v137, v138], h185⟩)
 (C.grow h185 [] fun n187 h188 =>
 cnd b180
 (C.hop h188 (.fldA 0 (.v v0)) fun v189 h190 =>
 C.hop h190 (.load false 1 (.v v189)) fun v191 h192 =>
 C.hop h192 (.ixAS .any 5 (.v v191) (.v (iz x157))) fun v193 h194 =>
 C.hop h194 (.fldA 3 (.v v193)) fun v195 h196 =>
 C.hop h196 (.load false 1 (.v v195)) fun v197 h198 =>
 C.int .i64 (some v197) fun x199 =>
 cnd (decide (x62 < x199))
 (k59 .ret ⟨[(.agg [(.lst a0), (iz a1), (iz a2), (iz a3), (iz a4), (iz a5), (iz a6), (iz a7), (iz a8)]), (.lst a9), v0, tz, bf, v54, (iz x62), tz, v151, (iz x157), (.bool b180), (.bool b2), (.bool (!b2)), bf, (.agg [v7, (iz x8), (iz x9), (iz x10), (iz x11), (iz x12), (iz x13), (iz x14), (iz x15)]), (.bool b18), (.bool (!b18)), (.bool (!b18)), bf, (.agg [v23, (iz x24), (iz x25), (iz x26), (iz x27), (iz x28), (iz x29), (iz x30), (iz x31)]), (iz x34), (.bool (x34 != 0)), (.bool (x34 != 0)), bf, (.lst a9), (iz x38), (.bool (decide (x38 > 200))), bf, tz, (.agg [v43, (iz x44), (iz x45), (iz x46), (iz x47), (iz x48), (iz x49), (iz x50), (iz x51)]), v54, (.lst a9), (iz x57), (iz x66), bt, v139, (.agg [(iz x144), (iz x145), (iz x146), (.bool b147), (.bool b148), (.bool b149), (iz x150)]), v54, (iz x157), v54, v54, v160, (iz x164), v165, (.bool b169), (.bool b172), v173, (.bool b177), (.bool b180), (.bool b180), v54, (iz x183), (iz x157), (iz (IntKind.wrap .i64 (x157 + 1))), (.bool (x183 == (IntKind.wrap .i64 (x157 + 1)))), (.bool (xor true (b180 == (x183 == (IntKind.wrap .i64 (x157 + 1)))))), bf, (.bool b180), (.bool (!b180)), bt, v54, (iz x186), (iz x157), (.bool (x186 != x157)), (.bool (x186 != x157)), bf, (.bool b180), bt, (iz x62), v189, v191, (iz x157), v193, v195, (iz x199), (.bool (decide (x62 < x199))), bt, tz, tz, tz, tz, tz, tz, tz, tz, tz, bt, bt, tz, tz, tz, bt, bt, tz, tz, tz, bt, bt, v131, v132, v133, v134, v135, v136, v137, v138], h198⟩)
 (C.hop h198 (.fldA 6 (.v v151)) fun v200 h201 =>
 C.hop h201 (.load false 1 (.v v200)) fun v202 h203 =>
 C.int .i64 (some v202) fun x204 =>
 C.hop h203 (.fldA 0 (.v v0)) fun v205 h206 =>
 C.hop h206 (.load false 1 (.v v205)) fun v207 h208 =>
 C.hop h208 (.ixAS .any 5 (.v v207) (.v (iz x157))) fun v209 h210 =>
 C.hop h210 (.fldA 4 (.v v209)) fun v211 h212 =>
 C.hop h212 (.load false 1 (.v v211)) fun v213 h214 =>
 C.int .i64 (some v213) fun x215 =>
 cnd (decide (x204 < x215))
 (k59 .ret ⟨[(.agg [(.lst a0), (iz a1), (iz a2), (iz a3), (iz a4), (iz a5), (iz a6), (iz a7), (iz a8)]), (.lst a9), v0, tz, bf, v54, (iz x62), tz, v151, (iz x157), (.bool b180), (.bool b2), (.bool (!b2)), bf, (.agg [v7, (iz x8), (iz x9), (iz x10), (iz x11), (iz x12), (iz x13), (iz x14), (iz x15)]), (.bool b18), (.bool (!b18)), (.bool (!b18)), bf, (.agg [v23, (iz x24), (iz x25), (iz x26), (iz x27), (iz x28), (iz x29), (iz x30), (iz x31)]), (iz x34), (.bool (x34 != 0)), (.bool (x34 != 0)), bf, (.lst a9), (iz x38), (.bool (decide (x38 > 200))), bf, tz, (.agg [v43, (iz x44), (iz x45), (iz x46), (iz x47), (iz x48), (iz x49), (iz x50), (iz x51)]), v54, (.lst a9), (iz x57), (iz x66), bt, v139, (.agg [(iz x144), (iz x145), (iz x146), (.bool b147), (.bool b148), (.bool b149), (iz x150)]), v54, (iz x157), v54, v54, v160, (iz x164), v165, (.bool b169), (.bool b172), v173, (.bool b177), (.bool b180), (.bool b180), v54, (iz x183), (iz x157), (iz (IntKind.wrap .i64 (x157 + 1))), (.bool (x183 == (IntKind.wrap .i64 (x157 + 1)))), (.bool (xor true (b180 == (x183 == (IntKind.wrap .i64 (x157 + 1)))))), bf, (.bool b180), (.bool (!b180)), bt, v54, (iz x186), (iz x157), (.bool (x186 != x157)), (.bool (x186 != x157)), bf, (.bool b180), bt, (iz x62), v189, v191, (iz x157), v193, v195, (iz x199), (.bool (decide (x62 < x199))), bf, v200, (iz x204), v205, v207, (iz x157), v209, v211, (iz x215), (.bool (decide (x204 < x215))), (.bool (decide (x204 < x215))), bt, tz, tz, tz, bt, bt, tz, tz, tz, bt, bt, v131, v132, v133, v134, v135, v136, v137, v138], h214⟩)
 (C.hop h214 (.fldA 5 (.v v151)) fun v216 h217 =>
 C.hop h217 (.load false 1 (.v v216)) fun v218 h219 =>
 C.bool (some v218) fun b220 =>
 cnd (!b220)
 (k59 .ret ⟨[(.agg [(.lst a0), (iz a1), (iz a2), (iz a3), (iz a4), (iz a5), (iz a6), (iz a7), (iz a8)]), (.lst a9), v0, tz, bf, v54, (iz x62), tz, v151, (iz x157), (.bool b180), (.bool b2), (.bool (!b2)), bf, (.agg [v7, (iz x8), (iz x9), (iz x10), (iz x11), (iz x12), (iz x13), (iz x14), (iz x15)]), (.bool b18), (.bool (!b18)), (.bool (!b18)), bf, (.agg [v23, (iz x24), (iz x25), (iz x26), (iz x27), (iz x28), (iz x29), (iz x30), (iz x31)]), (iz x34), (.bool (x34 != 0)), (.bool (x34 != 0)), bf, (.lst a9), (iz x38), (.bool (decide (x38 > 200))), bf, tz, (.agg [v43, (iz x44), (iz x45), (iz x46), (iz x47), (iz x48), (iz x49), (iz x50), (iz x51)]), v54, (.lst a9), (iz x57), (iz x66), bt, v139, (.agg [(iz x144), (iz x145), (iz x146), (.bool b147), (.bool b148), (.bool b149), (iz x150)]), v54, (iz x157), v54, v54, v160, (iz x164), v165, (.bool b169), (.bool b172), v173, (.bool b177), (.bool b180), (.bool b180), v54, (iz x183), (iz x157), (iz (IntKind.wrap .i64 (x157 + 1))), (.bool (x183 == (IntKind.wrap .i64 (x157 + 1)))), (.bool (xor true (b180 == (x183 == (IntKind.wrap .i64 (x157 + 1)))))), bf, (.bool b180), (.bool (!b180)), bt, v54, (iz x186), (iz x157), (.bool (x186 != x157)), (.bool (x186 != x157)), bf, (.bool b180), bt, (iz x62), v189, v191, (iz x157), v193, v195, (iz x199), (.bool (decide (x62 < x199))), bf, v200, (iz x204), v205, v207, (iz x157), v209, v211, (iz x215), (.bool (decide (x204 < x215))), (.bool (decide (x204 < x215))), bf, v216, (.bool b220), (.bool (!b220)), (.bool (!b220)), bt, tz, tz, tz, bt, bt, v131, v132, v133, v134, v135, v136, v137, v138], h219⟩)
 (C.hop h219 (.fldA 4 (.v v151)) fun v221 h222 =>
 C.hop h222 (.load false 1 (.v v221)) fun v223 h224 =>
 C.bool (some v223) fun b225 =>
 cnd (!b225)
 (k59 .ret ⟨[(.agg [(.lst a0), (iz a1), (iz a2), (iz a3), (iz a4), (iz a5), (iz a6), (iz a7), (iz a8)]), (.lst a9), v0, tz, bf, v54, (iz x62), tz, v151, (iz x157), (.bool b180), (.bool b2), (.bool (!b2)), bf, (.agg [v7, (iz x8), (iz x9), (iz x10), (iz x11), (iz x12), (iz x13), (iz x14), (iz x15)]), (.bool b18), (.bool (!b18)), (.bool (!b18)), bf, (.agg [v23, (iz x24), (iz x25), (iz x26), (iz x27), (iz x28), (iz x29), (iz x30), (iz x31)]), (iz x34), (.bool (x34 != 0)), (.bool (x34 != 0)), bf, (.lst a9), (iz x38), (.bool (decide (x38 > 200))), bf, tz, (.agg [v43, (iz x44), (iz x45), (iz x46), (iz x47), (iz x48), (iz x49), (iz x50), (iz x51)]), v54, (.lst a9), (iz x57), (iz x66), bt, v139, (.agg [(iz x144), (iz x145), (iz x146), (.bool b147), (.bool b148), (.bool b149), (iz x150)]), v54, (iz x157), v54, v54, v160, (iz x164), v165, (.bool b169), (.bool b172), v173, (.bool b177), (.bool b180), (.bool b180), v54, (iz x183), (iz x157), (iz (IntKind.wrap .i64 (x157 + 1))), (.bool (x183 == (IntKind.wrap .i64 (x157 + 1)))), (.bool (xor true (b180 == (x183 == (IntKind.wrap .i64 (x157 + 1)))))), bf, (.bool b180), (.bool (!b180)), bt, v54, (iz x186), (iz x157), (.bool (x186 != x157)), (.bool (x186 != x157)), bf, (.bool b180), bt, (iz x62), v189, v191, (iz x157), v193, v195, (iz x199), (.bool (decide (x62 < x199))), bf, v200, (iz x204), v205, v207, (iz x157), v209, v211, (iz x215), (.bool (decide (x204 < x215))), (.bool (decide (x204 < x215))), bf, v216, (.bool b220), (.bool (!b220)), (.bool (!b220)), bf, v221, (.bool b225), (.bool (!b225)), (.bool (!b225)), bt, v131, v132, v133, v134, v135, v136, v137, v138], h224⟩)
 (cnd b180
 (C.cal M (pcall M d) 12 true 17 [v54] h224 fun v226 h227 =>
 C.int .i64 (some v226) fun x228 =>
 cnd (x228 != 0)
 (k59 .ret ⟨[(.agg [(.lst a0), (iz a1), (iz a2), (iz a3), (iz a4), (iz a5), (iz a6), (iz a7), (iz a8)]), (.lst a9), v0, tz, bf, v54, (iz 0), tz, v151, (iz x157), (.bool b180), (.bool b2), (.bool (!b2)), bf, (.agg [v7, (iz x8), (iz x9), (iz x10), (iz x11), (iz x12), (iz x13), (iz x14), (iz x15)]), (.bool b18), (.bool (!b18)), (.bool (!b18)), bf, (.agg [v23, (iz x24), (iz x25), (iz x26), (iz x27), (iz x28), (iz x29), (iz x30), (iz x31)]), (iz x34), (.bool (x34 != 0)), (.bool (x34 != 0)), bf, (.lst a9), (iz x38), (.bool (decide (x38 > 200))), bf, tz, (.agg [v43, (iz x44), (iz x45), (iz x46), (iz x47), (iz x48), (iz x49), (iz x50), (iz x51)]), v54, (.lst a9), (iz x57), (iz x66), bt, v139, (.agg [(iz x144), (iz x145), (iz x146), (.bool b147), (.bool b148), (.bool b149), (iz x150)]), v54, (iz x157), v54, v54, v160, (iz x164), v165, (.bool b169), (.bool b172), v173, (.bool b177), (.bool b180), (.bool b180), v54, (iz x183), (iz x157), (iz (IntKind.wrap .i64 (x157 + 1))), (.bool (x183 == (IntKind.wrap .i64 (x157 + 1)))), (.bool (xor true (b180 == (x183 == (IntKind.wrap .i64 (x157 + 1)))))), bf, (.bool b180), (.bool (!b180)), bt, v54, (iz x186), (iz x157), (.bool (x186 != x157)), (.bool (x186 != x157)), bf, (.bool b180), bt, (iz x62), v189, v191, (iz x157), v193, v195, (iz x199), (.bool (decide (x62 < x199))), bf, v200, (iz x204), v205, v207, (iz x157), v209, v211, (iz x215), (.bool (decide (x204 < x215))), (.bool (decide (x204 < x215))), bf, v216, (.bool b220), (.bool (!b220)), (.bool (!b220)), bf, v221, (.bool b225), (.bool (!b225)), (.bool (!b225)), bf, bt, v132, v133, v54, (iz x228), (iz 0), bt, v138], h227⟩)
 (k59 .normal ⟨[(.agg [(.lst a0), (iz a1), (iz a2), (iz a3), (iz a4), (iz a5), (iz a6), (iz a7), (iz a8)]), (.lst a9), v0, tz, (.bool b61), v54, (iz 0), tz, v151, (iz x157), (.bool b180), (.bool b2), (.bool (!b2)), bf, (.agg [v7, (iz x8), (iz x9), (iz x10), (iz x11), (iz x12), (iz x13), (iz x14), (iz x15)]), (.bool b18), (.bool (!b18)), (.bool (!b18)), bf, (.agg [v23, (iz x24), (iz x25), (iz x26), (iz x27), (iz x28), (iz x29), (iz x30), (iz x31)]), (iz x34), (.bool (x34 != 0)), (.bool (x34 != 0)), bf, (.lst a9), (iz x38), (.bool (decide (x38 > 200))), bf, tz, (.agg [v43, (iz x44), (iz x45), (iz x46), (iz x47), (iz x48), (iz x49), (iz x50), (iz x51)]), v54, (.lst a9), (iz x57), (iz (IntKind.wrap .i64 (x66 + 1))), bt, v139, (.agg [(iz x144), (iz x145), (iz x146), (.bool b147), (.bool b148), (.bool b149), (iz x150)]), v54, (iz x157), v54, v54, v160, (iz x164), v165, (.bool b169), (.bool b172), v173, (.bool b177), (.bool b180), (.bool b180), v54, (iz x183), (iz x157), (iz (IntKind.wrap .i64 (x157 + 1))), (.bool (x183 == (IntKind.wrap .i64 (x157 + 1)))), (.bool (xor true (b180 == (x183 == (IntKind.wrap .i64 (x157 + 1)))))), bf, (.bool b180), (.bool (!b180)), bt, v54, (iz x186), (iz x157), (.bool (x186 != x157)), (.bool (x186 != x157)), bf, (.bool b180), bt, (iz x62), v189, v191, (iz x157), v193, v195, (iz x199), (.bool (decide (x62 < x199))), bf, v200, (iz x204), v205, v207, (iz x157), v209, v211, (iz x215), (.bool (decide (x204 < x215))), (.bool (decide (x204 < x215))), bf, v216, (.bool b220), (.bool (!b220)), (.bool (!b220)), bf, v221, (.bool b225), (.bool (!b225)), (.bool (!b225)), bf, bt, v132, v133, v54, (iz x228), (iz 0), bf, (iz (IntKind.wrap .i64 (x66 + 1)))], h227⟩))
 (C.cal M (pcall M d) 12 true 17 [v54] h224 fun v229 h230 =>
 C.int .i64 (some v229) fun x231 =>
 cnd (x231 != (IntKind.wrap .i64 (x62 + 1)))
 (k59 .ret ⟨[(.agg [(.lst a0), (iz a1), (iz a2), (iz a3), (iz a4), (iz a5), (iz a6), (iz a7), (iz a8)]), (.lst a9), v0, tz, bf, v54, (iz (IntKind.wrap .i64 (x62 + 1))), tz, v151, (iz x157), (.bool b180), (.bool b2), (.bool (!b2)), bf, (.agg [v7, (iz x8), (iz x9), (iz x10), (iz x11), (iz x12), (iz x13), (iz x14), (iz x15)]), (.bool b18), (.bool (!b18)), (.bool (!b18)), bf, (.agg [v23, (iz x24), (iz x25), (iz x26), (iz x27), (iz x28), (iz x29), (iz x30), (iz x31)]), (iz x34), (.bool (x34 != 0)), (.bool (x34 != 0)), bf, (.lst a9), (iz x38), (.bool (decide (x38 > 200))), bf, tz, (.agg [v43, (iz x44), (iz x45), (iz x46), (iz x47), (iz x48), (iz x49), (iz x50), (iz x51)]), v54, (.lst a9), (iz x57), (iz x66), bt, v139, (.agg [(iz x144), (iz x145), (iz x146), (.bool b147), (.bool b148), (.bool b149), (iz x150)]), v54, (iz x157), v54, v54, v160, (iz x164), v165, (.bool b169), (.bool b172), v173, (.bool b177), (.bool b180), (.bool b180), v54, (iz x183), (iz x157), (iz (IntKind.wrap .i64 (x157 + 1))), (.bool (x183 == (IntKind.wrap .i64 (x157 + 1)))), (.bool (xor true (b180 == (x183 == (IntKind.wrap .i64 (x157 + 1)))))), bf, (.bool b180), (.bool (!b180)), bt, v54, (iz x186), (iz x157), (.bool (x186 != x157)), (.bool (x186 != x157)), bf, (.bool b180), bt, (iz x62), v189, v191, (iz x157), v193, v195, (iz x199), (.bool (decide (x62 < x199))), bf, v200, (iz x204), v205, v207, (iz x157), v209, v211, (iz x215), (.bool (decide (x204 < x215))), (.bool (decide (x204 < x215))), bf, v216, (.bool b220), (.bool (!b220)), (.bool (!b220)), bf, v221, (.bool b225), (.bool (!b225)), (.bool (!b225)), bf, bf, (iz x62), (iz (IntKind.wrap .i64 (x62 + 1))), v54, (iz x231), (iz (IntKind.wrap .i64 (x62 + 1))), bt, v138], h230⟩)
 (k59 .normal ⟨[(.agg [(.lst a0), (iz a1), (iz a2), (iz a3), (iz a4), (iz a5), (iz a6), (iz a7), (iz a8)]), (.lst a9), v0, tz, (.bool b61), v54, (iz (IntKind.wrap .i64 (x62 + 1))), tz, v151, (iz x157), (.bool b180), (.bool b2), (.bool (!b2)), bf, (.agg [v7, (iz x8), (iz x9), (iz x10), (iz x11), (iz x12), (iz x13), (iz x14), (iz x15)]), (.bool b18), (.bool (!b18)), (.bool (!b18)), bf, (.agg [v23, (iz x24), (iz x25), (iz x26), (iz x27), (iz x28), (iz x29), (iz x30), (iz x31)]), (iz x34), (.bool (x34 != 0)), (.bool (x34 != 0)), bf, (.lst a9), (iz x38), (.bool (decide (x38 > 200))), bf, tz, (.agg [v43, (iz x44), (iz x45), (iz x46), (iz x47), (iz x48), (iz x49), (iz x50), (iz x51)]), v54, (.lst a9), (iz x57), (iz (IntKind.wrap .i64 (x66 + 1))), bt, v139, (.agg [(iz x144), (iz x145), (iz x146), (.bool b147), (.bool b148), (.bool b149), (iz x150)]), v54, (iz x157), v54, v54, v160, (iz x164), v165, (.bool b169), (.bool b172), v173, (.bool b177), (.bool b180), (.bool b180), v54, (iz x183), (iz x157), (iz (IntKind.wrap .i64 (x157 + 1))), (.bool (x183 == (IntKind.wrap .i64 (x157 + 1)))), (.bool (xor true (b180 == (x183 == (IntKind.wrap .i64 (x157 + 1)))))), bf, (.bool b180), (.bool (!b180)), bt, v54, (iz x186), (iz x157), (.bool (x186 != x157)), (.bool (x186 != x157)), bf, (.bool b180), bt, (iz x62), v189, v191, (iz x157), v193, v195, (iz x199), (.bool (decide (x62 < x199))), bf, v200, (iz x204), v205, v207, (iz x157), v209, v211, (iz x215), (.bool (decide (x204 < x215))), (.bool (decide (x204 < x215))), bf, v216, (.bool b220), (.bool (!b220)), (.bool (!b220)), bf, v221, (.bool b225), (.bool (!b225)), (.bool (!b225)), bf, bf, (iz x62), (iz (IntKind.wrap .i64 (x62 + 1))), v54, (iz x231), (iz (IntKind.wrap .i64 (x62 + 1))), bf, (iz (IntKind.wrap .i64 (x66 + 1)))], h230⟩)))))))
 (cnd b180
 (C.cal M (pcall M d) 12 true 17 [v54] h188 fun v232 h233 =>
 C.int .i64 (some v232) fun x234 =>
 cnd (x234 != 0)
 (k59 .ret ⟨[(.agg [(.lst a0), (iz a1), (iz a2), (iz a3), (iz a4), (iz a5), (iz a6), (iz a7), (iz a8)]), (.lst a9), v0, tz, bf, v54, (iz 0), tz, v151, (iz x157), (.bool b180), (.bool b2), (.bool (!b2)), bf, (.agg [v7, (iz x8), (iz x9), (iz x10), (iz x11), (iz x12), (iz x13), (iz x14), (iz x15)]), (.bool b18), (.bool (!b18)), (.bool (!b18)), bf, (.agg [v23, (iz x24), (iz x25), (iz x26), (iz x27), (iz x28), (iz x29), (iz x30), (iz x31)]), (iz x34), (.bool (x34 != 0)), (.bool (x34 != 0)), bf, (.lst a9), (iz x38), (.bool (decide (x38 > 200))), bf, tz, (.agg [v43, (iz x44), (iz x45), (iz x46), (iz x47), (iz x48), (iz x49), (iz x50), (iz x51)]), v54, (.lst a9), (iz x57), (iz x66), bt, v139, (.agg [(iz x144), (iz x145), (iz x146), (.bool b147), (.bool b148), (.bool b149), (iz x150)]), v54, (iz x157), v54, v54, v160, (iz x164), v165, (.bool b169), (.bool b172), v173, (.bool b177), (.bool b180), (.bool b180), v54, (iz x183), (iz x157), (iz (IntKind.wrap .i64 (x157 + 1))), (.bool (x183 == (IntKind.wrap .i64 (x157 + 1)))), (.bool (xor true (b180 == (x183 == (IntKind.wrap .i64 (x157 + 1)))))), bf, (.bool b180), (.bool (!b180)), bt, v54, (iz x186), (iz x157), (.bool (x186 != x157)), (.bool (x186 != x157)), bf, (.bool b180), bf, tz, tz, tz, tz, tz, tz, tz, tz, tz, tz, tz, tz, tz, tz, tz, tz, tz, tz, tz, tz, tz, tz, tz, tz, tz, tz, tz, tz, tz, bf, bt, v132, v133, v54, (iz x234), (iz 0), bt, v138], h233⟩)
 (k59 .normal ⟨[(.agg [(.lst a0), (iz a1), (iz a2), (iz a3), (iz a4), (iz a5), (iz a6), (iz a7), (iz a8)]), (.lst a9), v0, tz, (.bool b61), v54, (iz 0), tz, v151, (iz x157), (.bool b180), (.bool b2), (.bool (!b2)), bf, (.agg [v7, (iz x8), (iz x9), (iz x10), (iz x11), (iz x12), (iz x13), (iz x14), (iz x15)]), (.bool b18), (.bool (!b18)), (.bool (!b18)), bf, (.agg [v23, (iz x24), (iz x25), (iz x26), (iz x27), (iz x28), (iz x29), (iz x30), (iz x31)]), (iz x34), (.bool (x34 != 0)), (.bool (x34 != 0)), bf, (.lst a9), (iz x38), (.bool (decide (x38 > 200))), bf, tz, (.agg [v43, (iz x44), (iz x45), (iz x46), (iz x47), (iz x48), (iz x49), (iz x50), (iz x51)]), v54, (.lst a9), (iz x57), (iz (IntKind.wrap .i64 (x66 + 1))), bt, v139, (.agg [(iz x144), (iz x145), (iz x146), (.bool b147), (.bool b148), (.bool b149), (iz x150)]), v54, (iz x157), v54, v54, v160, (iz x164), v165, (.bool b169), (.bool b172), v173, (.bool b177), (.bool b180), (.bool b180), v54, (iz x183), (iz x157), (iz (IntKind.wrap .i64 (x157 + 1))), (.bool (x183 == (IntKind.wrap .i64 (x157 + 1)))), (.bool (xor true (b180 == (x183 == (IntKind.wrap .i64 (x157 + 1)))))), bf, (.bool b180), (.bool (!b180)), bt, v54, (iz x186), (iz x157), (.bool (x186 != x157)), (.bool (x186 != x157)), bf, (.bool b180), bf, tz, tz, tz, tz, tz, tz, tz, tz, tz, tz, tz, tz, tz, tz, tz, tz, tz, tz, tz, tz, tz, tz, tz, tz, tz, tz, tz, tz, tz, bf, bt, v132, v133, v54, (iz x234), (iz 0), bf, (iz (IntKind.wrap .i64 (x66 + 1)))], h233⟩))
 (C.cal M (pcall M d) 12 true 17 [v54] h188 fun v235 h236 =>
 C.int .i64 (some v235) fun x237 =>
 cnd (x237 != (IntKind.wrap .i64 (x62 + 1)))
 (k59 .ret ⟨[(.agg [(.lst a0), (iz a1), (iz a2), (iz a3), (iz a4), (iz a5), (iz a6), (iz a7), (iz a8)]), (.lst a9), v0, tz, bf, v54, (iz (IntKind.wrap .i64 (x62 + 1))), tz, v151, (iz x157), (.bool b180), (.bool b2), (.bool (!b2)), bf, (.agg [v7, (iz x8), (iz x9), (iz x10), (iz x11), (iz x12), (iz x13), (iz x14), (iz x15)]), (.bool b18), (.bool (!b18)), (.bool (!b18)), bf, (.agg [v23, (iz x24), (iz x25), (iz x26), (iz x27), (iz x28), (iz x29), (iz x30), (iz x31)]), (iz x34), (.bool (x34 != 0)), (.bool (x34 != 0)), bf, (.lst a9), (iz x38), (.bool (decide (x38 > 200))), bf, tz, (.agg [v43, (iz x44), (iz x45), (iz x46), (iz x47), (iz x48), (iz x49), (iz x50), (iz x51)]), v54, (.lst a9), (iz x57), (iz x66), bt, v139, (.agg [(iz x144), (iz x145), (iz x146), (.bool b147), (.bool b148), (.bool b149), (iz x150)]), v54, (iz x157), v54, v54, v160, (iz x164), v165, (.bool b169), (.bool b172), v173, (.bool b177), (.bool b180), (.bool b180), v54, (iz x183), (iz x157), (iz (IntKind.wrap .i64 (x157 + 1))), (.bool (x183 == (IntKind.wrap .i64 (x157 + 1)))), (.bool (xor true (b180 == (x183 == (IntKind.wrap .i64 (x157 + 1)))))), bf, (.bool b180), (.bool (!b180)), bt, v54, (iz x186), (iz x157), (.bool (x186 != x157)), (.bool (x186 != x157)), bf, (.bool b180), bf, tz, tz, tz, tz, tz, tz, tz, tz, tz, tz, tz, tz, tz, tz, tz, tz, tz, tz, tz, tz, tz, tz, tz, tz, tz, tz, tz, tz, tz, bf, bf, (iz x62), (iz (IntKind.wrap .i64 (x62 + 1))), v54, (iz x237), (iz (IntKind.wrap .i64 (x62 + 1))), bt, v138], h236⟩)
 (k59 .normal ⟨[(.agg [(.lst a0), (iz a1), (iz a2), (iz a3), (iz a4), (iz a5), (iz a6), (iz a7), (iz a8)]), (.lst a9), v0, tz, (.bool b61), v54, (iz (IntKind.wrap .i64 (x62 + 1))), tz, v151, (iz x157), (.bool b180), (.bool b2), (.bool (!b2)), bf, (.agg [v7, (iz x8), (iz x9), (iz x10), (iz x11), (iz x12), (iz x13), (iz x14), (iz x15)]), (.bool b18), (.bool (!b18)), (.bool (!b18)), bf, (.agg [v23, (iz x24), (iz x25), (iz x26), (iz x27), (iz x28), (iz x29), (iz x30), (iz x31)]), (iz x34), (.bool (x34 != 0)), (.bool (x34 != 0)), bf, (.lst a9), (iz x38), (.bool (decide (x38 > 200))), bf, tz, (.agg [v43, (iz x44), (iz x45), (iz x46), (iz x47), (iz x48), (iz x49), (iz x50), (iz x51)]), v54, (.lst a9), (iz x57), (iz (IntKind.wrap .i64 (x66 + 1))), bt, v139, (.agg [(iz x144), (iz x145), (iz x146), (.bool b147), (.bool b148), (.bool b149), (iz x150)]), v54, (iz x157), v54, v54, v160, (iz x164), v165, (.bool b169), (.bool b172), v173, (.bool b177), (.bool b180), (.bool b180), v54, (iz x183), (iz x157), (iz (IntKind.wrap .i64 (x157 + 1))), (.bool (x183 == (IntKind.wrap .i64 (x157 + 1)))), (.bool (xor true (b180 == (x183 == (IntKind.wrap .i64 (x157 + 1)))))), bf, (.bool b180), (.bool (!b180)), bt, v54, (iz x186), (iz x157), (.bool (x186 != x157)), (.bool (x186 != x157)), bf, (.bool b180), bf, tz, tz, tz, tz, tz, tz, tz, tz, tz, tz, tz, tz, tz, tz, tz, tz, tz, tz, tz, tz, tz, tz, tz, tz, tz, tz, tz, tz, tz, bf, bf, (iz x62), (iz (IntKind.wrap .i64 (x62 + 1))), v54, (iz x237), (iz (IntKind.wrap .i64 (x62 + 1))), bf, (iz (IntKind.wrap .i64 (x66 + 1)))], h236⟩)))))
 (C.grow h182 [] fun n238 h239 =>
 cnd b180
 (C.hop h239 (.fldA 0 (.v v0)) fun v240 h241 =>
 C.hop h241 (.load false 1 (.v v240)) fun v242 h243 =>
 C.hop h243 (.ixAS .any 5 (.v v242) (.v (iz x157))) fun v244 h245 =>
 C.hop h245 (.fldA 3 (.v v244)) fun v246 h247 =>
 C.hop h247 (.load false 1 (.v v246)) fun v248 h249 =>
 C.int .i64 (some v248) fun x250 =>
 cnd (decide (x62 < x250))
 (k59 .ret ⟨[(.agg [(.lst a0), (iz a1), (iz a2), (iz a3), (iz a4), (iz a5), (iz a6), (iz a7), (iz a8)]), (.lst a9), v0, tz, bf, v54, (iz x62), tz, v151, (iz x157), (.bool b180), (.bool b2), (.bool (!b2)), bf, (.agg [v7, (iz x8), (iz x9), (iz x10), (iz x11), (iz x12), (iz x13), (iz x14), (iz x15)]), (.bool b18), (.bool (!b18)), (.bool (!b18)), bf, (.agg [v23, (iz x24), (iz x25), (iz x26), (iz x27), (iz x28), (iz x29), (iz x30), (iz x31)]), (iz x34), (.bool (x34 != 0)), (.bool (x34 != 0)), bf, (.lst a9), (iz x38), (.bool (decide (x38 > 200))), bf, tz, (.agg [v43, (iz x44), (iz x45), (iz x46), (iz x47), (iz x48), (iz x49), (iz x50), (iz x51)]), v54, (.lst a9), (iz x57), (iz x66), bt, v139, (.agg [(iz x144), (iz x145), (iz x146), (.bool b147), (.bool b148), (.bool b149), (iz x150)]), v54, (iz x157), v54, v54, v160, (iz x164), v165, (.bool b169), (.bool b172), v173, (.bool b177), (.bool b180), (.bool b180), v54, (iz x183), (iz x157), (iz (IntKind.wrap .i64 (x157 + 1))), (.bool (x183 == (IntKind.wrap .i64 (x157 + 1)))), (.bool (xor true (b180 == (x183 == (IntKind.wrap .i64 (x157 + 1)))))), bf, (.bool b180), (.bool (!b180)), bf, tz, tz, tz, tz, bf, bf, (.bool b180), bt, (iz x62), v240, v242, (iz x157), v244, v246, (iz x250), (.bool (decide (x62 < x250))), bt, tz, tz, tz, tz, tz, tz, tz, tz, tz, bt, bt, tz, tz, tz, bt, bt, tz, tz, tz, bt, bt, v131, v132, v133, v134, v135, v136, v137, v138], h249⟩)
 (C.hop h249 (.fldA 6 (.v v151)) fun v251 h252 =>
 C.hop h252 (.load false 1 (.v v251)) fun v253 h254 =>
 C.int .i64 (some v253) fun x255 =>
 C.hop h254 (.fldA 0 (.v v0)) fun v256 h257 =>
 C.hop h257 (.load false 1 (.v v256)) fun v258 h259 =>
 C.hop h259 (.ixAS .any 5 (.v v258) (.v (iz x157))) fun v260 h261 =>
 C.hop h261 (.fldA 4 (.v v260)) fun v262 h263 =>
 C.hop h263 (.load false 1 (.v v262)) fun v264 h265 =>
 C.int .i64 (some v264) fun x266 =>
 cnd (decide (x255 < x266))
 (k59 .ret ⟨[(.agg [(.lst a0), (iz a1), (iz a2), (iz a3), (iz a4), (iz a5), (iz a6), (iz a7), (iz a8)]), (.lst a9), v0, tz, bf, v54, (iz x62), tz, v151, (iz x157), (.bool b180), (.bool b2), (.bool (!b2)), bf, (.agg [v7, (iz x8), (iz x9), (iz x10), (iz x11), (iz x12), (iz x13), (iz x14), (iz x15)]), (.bool b18), (.bool (!b18)), (.bool (!b18)), bf, (.agg [v23, (iz x24), (iz x25), (iz x26), (iz x27), (iz x28), (iz x29), (iz x30), (iz x31)]), (iz x34), (.bool (x34 != 0)), (.bool (x34 != 0)), bf, (.lst a9), (iz x38), (.bool (decide (x38 > 200))), bf, tz, (.agg [v43, (iz x44), (iz x45), (iz x46), (iz x47), (iz x48), (iz x49), (iz x50), (iz x51)]), v54, (.lst a9), (iz x57), (iz x66), bt, v139, (.agg [(iz x144), (iz x145), (iz x146), (.bool b147), (.bool b148), (.bool b149), (iz x150)]), v54, (iz x157), v54, v54, v160, (iz x164), v165, (.bool b169), (.bool b172), v173, (.bool b177), (.bool b180), (.bool b180), v54, (iz x183), (iz x157), (iz (IntKind.wrap .i64 (x157 + 1))), (.bool (x183 == (IntKind.wrap .i64 (x157 + 1)))), (.bool (xor true (b180 == (x183 == (IntKind.wrap .i64 (x157 + 1)))))), bf, (.bool b180), (.bool (!b180)), bf, tz, tz, tz, tz, bf, bf, (.bool b180), bt, (iz x62), v240, v242, (iz x157), v244, v246, (iz x250), (.bool (decide (x62 < x250))), bf, v251, (iz x255), v256, v258, (iz x157), v260, v262, (iz x266), (.bool (decide (x255 < x266))), (.bool (decide (x255 < x266))), bt, tz, tz, tz, bt, bt, tz, tz, tz, bt, bt, v131, v132, v133, v134, v135, v136, v137, v138], h265⟩)
 (C.hop h265 (.fldA 5 (.v v151)) fun v267 h268 =>
 C.hop h268 (.load false 1 (.v v267)) fun v269 h270 =>
 C.bool (some v269) fun b271 =>
 cnd (!b271)
 (k59 .ret ⟨[(.agg [(.lst a0), (iz a1), (iz a2), (iz a3), (iz a4), (iz a5), (iz a6), (iz a7), (iz a8)]), (.lst a9), v0, tz, bf, v54, (iz x62), tz, v151, (iz x157), (.bool b180), (.bool b2), (.bool (!b2)), bf, (.agg [v7, (iz x8), (iz x9), (iz x10), (iz x11), (iz x12), (iz x13), (iz x14), (iz x15)]), (.bool b18), (.bool (!b18)), (.bool (!b18)), bf, (.agg [v23, (iz x24), (iz x25), (iz x26), (iz x27), (iz x28), (iz x29), (iz x30), (iz x31)]), (iz x34), (.bool (x34 != 0)), (.bool (x34 != 0)), bf, (.lst a9), (iz x38), (.bool (decide (x38 > 200))), bf, tz, (.agg [v43, (iz x44), (iz x45), (iz x46), (iz x47), (iz x48), (iz x49), (iz x50), (iz x51)]), v54, (.lst a9), (iz x57), (iz x66), bt, v139, (.agg [(iz x144), (iz x145), (iz x146), (.bool b147), (.bool b148), (.bool b149), (iz x150)]), v54, (iz x157), v54, v54, v160, (iz x164), v165, (.bool b169), (.bool b172), v173, (.bool b177), (.bool b180), (.bool b180), v54, (iz x183), (iz x157), (iz (IntKind.wrap .i64 (x157 + 1))), (.bool (x183 == (IntKind.wrap .i64 (x157 + 1)))), (.bool (xor true (b180 == (x183 == (IntKind.wrap .i64 (x157 + 1)))))), bf, (.bool b180), (.bool (!b180)), bf, tz, tz, tz, tz, bf, bf, (.bool b180), bt, (iz x62), v240, v242, (iz x157), v244, v246, (iz x250), (.bool (decide (x62 < x250))), bf, v251, (iz x255), v256, v258, (iz x157), v260, v262, (iz x266), (.bool (decide (x255 < x266))), (.bool (decide (x255 < x266))), bf, v267, (.bool b271), (.bool (!b271)), (.bool (!b271)), bt, tz, tz, tz, bt, bt, v131, v132, v133, v134, v135, v136, v137, v138], h270⟩)
 (C.hop h270 (.fldA 4 (.v v151)) fun v272 h273 =>
 C.hop h273 (.load false 1 (.v v272)) fun v274 h275 =>
 C.bool (some v274) fun b276 =>
 cnd (!b276)
 (k59 .ret ⟨[(.agg [(.lst a0), (iz a1), (iz a2), (iz a3), (iz a4), (iz a5), (iz a6), (iz a7), (iz a8)]), (.lst a9), v0, tz, bf, v54, (iz x62), tz, v151, (iz x157), (.bool b180), (.bool b2), (.bool (!b2)), bf, (.agg [v7, (iz x8), (iz x9), (iz x10), (iz x11), (iz x12), (iz x13), (iz x14), (iz x15)]), (.bool b18), (.bool (!b18)), (.bool (!b18)), bf, (.agg [v23, (iz x24), (iz x25), (iz x26), (iz x27), (iz x28), (iz x29), (iz x30), (iz x31)]), (iz x34), (.bool (x34 != 0)), (.bool (x34 != 0)), bf, (.lst a9), (iz x38), (.bool (decide (x38 > 200))), bf, tz, (.agg [v43, (iz x44), (iz x45), (iz x46), (iz x47), (iz x48), (iz x49), (iz x50), (iz x51)]), v54, (.lst a9), (iz x57), (iz x66), bt, v139, (.agg [(iz x144), (iz x145), (iz x146), (.bool b147), (.bool b148), (.bool b149), (iz x150)]), v54, (iz x157), v54, v54, v160, (iz x164), v165, (.bool b169), (.bool b172), v173, (.bool b177), (.bool b180), (.bool b180), v54, (iz x183), (iz x157), (iz (IntKind.wrap .i64 (x157 + 1))), (.bool (x183 == (IntKind.wrap .i64 (x157 + 1)))), (.bool (xor true (b180 == (x183 == (IntKind.wrap .i64 (x157 + 1)))))), bf, (.bool b180), (.bool (!b180)), bf, tz, tz, tz, tz, bf, bf, (.bool b180), bt, (iz x62), v240, v242, (iz x157), v244, v246, (iz x250), (.bool (decide (x62 < x250))), bf, v251, (iz x255), v256, v258, (iz x157), v260, v262, (iz x266), (.bool (decide (x255 < x266))), (.bool (decide (x255 < x266))), bf, v267, (.bool b271), (.bool (!b271)), (.bool (!b271)), bf, v272, (.bool b276), (.bool (!b276)), (.bool (!b276)), bt, v131, v132, v133, v134, v135, v136, v137, v138], h275⟩)
 (cnd b180
 (C.cal M (pcall M d) 12 true 17 [v54] h275 fun v277 h278 =>
 C.int .i64 (some v277) fun x279 =>
 cnd (x279 != 0)
 (k59 .ret ⟨[(.agg [(.lst a0), (iz a1), (iz a2), (iz a3), (iz a4), (iz a5), (iz a6), (iz a7), (iz a8)]), (.lst a9), v0, tz, bf, v54, (iz 0), tz, v151, (iz x157), (.bool b180), (.bool b2), (.bool (!b2)), bf, (.agg [v7, (iz x8), (iz x9), (iz x10), (iz x11), (iz x12), (iz x13), (iz x14), (iz x15)]), (.bool b18), (.bool (!b18)), (.bool (!b18)), bf, (.agg [v23, (iz x24), (iz x25), (iz x26), (iz x27), (iz x28), (iz x29), (iz x30), (iz x31)]), (iz x34), (.bool (x34 != 0)), (.bool (x34 != 0)), bf, (.lst a9), (iz x38), (.bool (decide (x38 > 200))), bf, tz, (.agg [v43, (iz x44), (iz x45), (iz x46), (iz x47), (iz x48), (iz x49), (iz x50), (iz x51)]), v54, (.lst a9), (iz x57), (iz x66), bt, v139, (.agg [(iz x144), (iz x145), (iz x146), (.bool b147), (.bool b148), (.bool b149), (iz x150)]), v54, (iz x157), v54, v54, v160, (iz x164), v165, (.bool b169), (.bool b172), v173, (.bool b177), (.bool b180), (.bool b180), v54, (iz x183), (iz x157), (iz (IntKind.wrap .i64 (x157 + 1))), (.bool (x183 == (IntKind.wrap .i64 (x157 + 1)))), (.bool (xor true (b180 == (x183 == (IntKind.wrap .i64 (x157 + 1)))))), bf, (.bool b180), (.bool (!b180)), bf, tz, tz, tz, tz, bf, bf, (.bool b180), bt, (iz x62), v240, v242, (iz x157), v244, v246, (iz x250), (.bool (decide (x62 < x250))), bf, v251, (iz x255), v256, v258, (iz x157), v260, v262, (iz x266), (.bool (decide (x255 < x266))), (.bool (decide (x255 < x266))), bf, v267, (.bool b271), (.bool (!b271)), (.bool (!b271)), bf, v272, (.bool b276), (.bool (!b276)), (.bool (!b276)), bf, bt, v132, v133, v54, (iz x279), (iz 0), bt, v138], h278⟩)
 (k59 .normal ⟨[(.agg [(.lst a0), (iz a1), (iz a2), (iz a3), (iz a4), (iz a5), (iz a6), (iz a7), (iz a8)]), (.lst a9), v0, tz, (.bool b61), v54, (iz 0), tz, v151, (iz x157), (.bool b180), (.bool b2), (.bool (!b2)), bf, (.agg [v7, (iz x8), (iz x9), (iz x10), (iz x11), (iz x12), (iz x13), (iz x14), (iz x15)]), (.bool b18), (.bool (!b18)), (.bool (!b18)), bf, (.agg [v23, (iz x24), (iz x25), (iz x26), (iz x27), (iz x28), (iz x29), (iz x30), (iz x31)]), (iz x34), (.bool (x34 != 0)), (.bool (x34 != 0)), bf, (.lst a9), (iz x38), (.bool (decide (x38 > 200))), bf, tz, (.agg [v43, (iz x44), (iz x45), (iz x46), (iz x47), (iz x48), (iz x49), (iz x50), (iz x51)]), v54, (.lst a9), (iz x57), (iz (IntKind.wrap .i64 (x66 + 1))), bt, v139, (.agg [(iz x144), (iz x145), (iz x146), (.bool b147), (.bool b148), (.bool b149), (iz x150)]), v54, (iz x157), v54, v54, v160, (iz x164), v165, (.bool b169), (.bool b172), v173, (.bool b177), (.bool b180), (.bool b180), v54, (iz x183), (iz x157), (iz (IntKind.wrap .i64 (x157 + 1))), (.bool (x183 == (IntKind.wrap .i64 (x157 + 1)))), (.bool (xor true (b180 == (x183 == (IntKind.wrap .i64 (x157 + 1)))))), bf, (.bool b180), (.bool (!b180)), bf, tz, tz, tz, tz, bf, bf, (.bool b180), bt, (iz x62), v240, v242, (iz x157), v244, v246, (iz x250), (.bool (decide (x62 < x250))), bf, v251, (iz x255), v256, v258, (iz x157), v260, v262, (iz x266), (.bool (decide (x255 < x266))), (.bool (decide (x255 < x266))), bf, v267, (.bool b271), (.bool (!b271)), (.bool (!b271)), bf, v272, (.bool b276), (.bool (!b276)), (.bool (!b276)), bf, bt, v132, v133, v54, (iz x279), (iz 0), bf, (iz (IntKind.wrap .i64 (x66 + 1)))], h278⟩))
 (C.cal M (pcall M d) 12 true 17 [v54] h275 fun v280 h281 =>
 C.int .i64 (some v280) fun x282 =>
 cnd (x282 != (IntKind.wrap .i64 (x62 + 1)))
 (k59 .ret ⟨[(.agg [(.lst a0), (iz a1), (iz a2), (iz a3), (iz a4), (iz a5), (iz a6), (iz a7), (iz a8)]), (.lst a9), v0, tz, bf, v54, (iz (IntKind.wrap .i64 (x62 + 1))), tz, v151, (iz x157), (.bool b180), (.bool b2), (.bool (!b2)), bf, (.agg [v7, (iz x8), (iz x9), (iz x10), (iz x11), (iz x12), (iz x13), (iz x14), (iz x15)]), (.bool b18), (.bool (!b18)), (.bool (!b18)), bf, (.agg [v23, (iz x24), (iz x25), (iz x26), (iz x27), (iz x28), (iz x29), (iz x30), (iz x31)]), (iz x34), (.bool (x34 != 0)), (.bool (x34 != 0)), bf, (.lst a9), (iz x38), (.bool (decide (x38 > 200))), bf, tz, (.agg [v43, (iz x44), (iz x45), (iz x46), (iz x47), (iz x48), (iz x49), (iz x50), (iz x51)]), v54, (.lst a9), (iz x57), (iz x66), bt, v139, (.agg [(iz x144), (iz x145), (iz x146), (.bool b147), (.bool b148), (.bool b149), (iz x150)]), v54, (iz x157), v54, v54, v160, (iz x164), v165, (.bool b169), (.bool b172), v173, (.bool b177), (.bool b180), (.bool b180), v54, (iz x183), (iz x157), (iz (IntKind.wrap .i64 (x157 + 1))), (.bool (x183 == (IntKind.wrap .i64 (x157 + 1)))), (.bool (xor true (b180 == (x183 == (IntKind.wrap .i64 (x157 + 1)))))), bf, (.bool b180), (.bool (!b180)), bf, tz, tz, tz, tz, bf, bf, (.bool b180), bt, (iz x62), v240, v242, (iz x157), v244, v246, (iz x250), (.bool (decide (x62 < x250))), bf, v251, (iz x255), v256, v258, (iz x157), v260, v262, (iz x266), (.bool (decide (x255 < x266))), (.bool (decide (x255 < x266))), bf, v267, (.bool b271), (.bool (!b271)), (.bool (!b271)), bf, v272, (.bool b276), (.bool (!b276)), (.bool (!b276)), bf, bf, (iz x62), (iz (IntKind.wrap .i64 (x62 + 1))), v54, (iz x282), (iz (IntKind.wrap .i64 (x62 + 1))), bt, v138], h281⟩)
 (k59 .normal ⟨[(.agg [(.lst a0), (iz a1), (iz a2), (iz a3), (iz a4), (iz a5), (iz a6), (iz a7), (iz a8)]), (.lst a9), v0, tz, (.bool b61), v54, (iz (IntKind.wrap .i64 (x62 + 1))), tz, v151, (iz x157), (.bool b180), (.bool b2), (.bool (!b2)), bf, (.agg [v7, (iz x8), (iz x9), (iz x10), (iz x11), (iz x12), (iz x13), (iz x14), (iz x15)]), (.bool b18), (.bool (!b18)), (.bool (!b18)), bf, (.agg [v23, (iz x24), (iz x25), (iz x26), (iz x27), (iz x28), (iz x29), (iz x30), (iz x31)]), (iz x34), (.bool (x34 != 0)), (.bool (x34 != 0)), bf, (.lst a9), (iz x38), (.bool (decide (x38 > 200))), bf, tz, (.agg [v43, (iz x44), (iz x45), (iz x46), (iz x47), (iz x48), (iz x49), (iz x50), (iz x51)]), v54, (.lst a9), (iz x57), (iz (IntKind.wrap .i64 (x66 + 1))), bt, v139, (.agg [(iz x144), (iz x145), (iz x146), (.bool b147), (.bool b148), (.bool b149), (iz x150)]), v54, (iz x157), v54, v54, v160, (iz x164), v165, (.bool b169), (.bool b172), v173, (.bool b177), (.bool b180), (.bool b180), v54, (iz x183), (iz x157), (iz (IntKind.wrap .i64 (x157 + 1))), (.bool (x183 == (IntKind.wrap .i64 (x157 + 1)))), (.bool (xor true (b180 == (x183 == (IntKind.wrap .i64 (x157 + 1)))))), bf, (.bool b180), (.bool (!b180)), bf, tz, tz, tz, tz, bf, bf, (.bool b180), bt, (iz x62), v240, v242, (iz x157), v244, v246, (iz x250), (.bool (decide (x62 < x250))), bf, v251, (iz x255), v256, v258, (iz x157), v260, v262, (iz x266), (.bool (decide (x255 < x266))), (.bool (decide (x255 < x266))), bf, v267, (.bool b271), (.bool (!b271)), (.bool (!b271)), bf, v272, (.bool b276), (.bool (!b276)), (.bool (!b276)), bf, bf, (iz x62), (iz (IntKind.wrap .i64 (x62 + 1))), v54, (iz x282), (iz (IntKind.wrap .i64 (x62 + 1))), bf, (iz (IntKind.wrap .i64 (x66 + 1)))], h281⟩)))))))
 (cnd b180
 (C.cal M (pcall M d) 12 true 17 [v54] h239 fun v283 h284 =>
 C.int .i64 (some v283) fun x285 =>
 cnd (x285 != 0)
 (k59 .ret ⟨[(.agg [(.lst a0), (iz a1), (iz a2), (iz a3), (iz a4), (iz a5), (iz a6), (iz a7), (iz a8)]), (.lst a9), v0, tz, bf, v54, (iz 0), tz, v151, (iz x157), (.bool b180), (.bool b2), (.bool (!b2)), bf, (.agg [v7, (iz x8), (iz x9), (iz x10), (iz x11), (iz x12), (iz x13), (iz x14), (iz x15)]), (.bool b18), (.bool (!b18)), (.bool (!b18)), bf, (.agg [v23, (iz x24), (iz x25), (iz x26), (iz x27), (iz x28), (iz x29), (iz x30), (iz x31)]), (iz x34), (.bool (x34 != 0)), (.bool (x34 != 0)), bf, (.lst a9), (iz x38), (.bool (decide (x38 > 200))), bf, tz, (.agg [v43, (iz x44), (iz x45), (iz x46), (iz x47), (iz x48), (iz x49), (iz x50), (iz x51)]), v54, (.lst a9), (iz x57), (iz x66), bt, v139, (.agg [(iz x144), (iz x145), (iz x146), (.bool b147), (.bool b148), (.bool b149), (iz x150)]), v54, (iz x157), v54, v54, v160, (iz x164), v165, (.bool b169), (.bool b172), v173, (.bool b177), (.bool b180), (.bool b180), v54, (iz x183), (iz x157), (iz (IntKind.wrap .i64 (x157 + 1))), (.bool (x183 == (IntKind.wrap .i64 (x157 + 1)))), (.bool (xor true (b180 == (x183 == (IntKind.wrap .i64 (x157 + 1)))))), bf, (.bool b180), (.bool (!b180)), bf, tz, tz, tz, tz, bf, bf, (.bool b180), bf, tz, tz, tz, tz, tz, tz, tz, tz, tz, tz, tz, tz, tz, tz, tz, tz, tz, tz, tz, tz, tz, tz, tz, tz, tz, tz, tz, tz, tz, bf, bt, v132, v133, v54, (iz x285), (iz 0), bt, v138], h284⟩)
 (k59 .normal ⟨[(.agg [(.lst a0), (iz a1), (iz a2), (iz a3), (iz a4), (iz a5), (iz a6), (iz a7), (iz a8)]), (.lst a9), v0, tz, (.bool b61), v54, (iz 0), tz, v151, (iz x157), (.bool b180), (.bool b2), (.bool (!b2)), bf, (.agg [v7, (iz x8), (iz x9), (iz x10), (iz x11), (iz x12), (iz x13), (iz x14), (iz x15)]), (.bool b18), (.bool (!b18)), (.bool (!b18)), bf, (.agg [v23, (iz x24), (iz x25), (iz x26), (iz x27), (iz x28), (iz x29), (iz x30), (iz x31)]), (iz x34), (.bool (x34 != 0)), (.bool (x34 != 0)), bf, (.lst a9), (iz x38), (.bool (decide (x38 > 200))), bf, tz, (.agg [v43, (iz x44), (iz x45), (iz x46), (iz x47), (iz x48), (iz x49), (iz x50), (iz x51)]), v54, (.lst a9), (iz x57), (iz (IntKind.wrap .i64 (x66 + 1))), bt, v139, (.agg [(iz x144), (iz x145), (iz x146), (.bool b147), (.bool b148), (.bool b149), (iz x150)]), v54, (iz x157), v54, v54, v160, (iz x164), v165, (.bool b169), (.bool b172), v173, (.bool b177), (.bool b180), (.bool b180), v54, (iz x183), (iz x157), (iz (IntKind.wrap .i64 (x157 + 1))), (.bool (x183 == (IntKind.wrap .i64 (x157 + 1)))), (.bool (xor true (b180 == (x183 == (IntKind.wrap .i64 (x157 + 1)))))), bf, (.bool b180), (.bool (!b180)), bf, tz, tz, tz, tz, bf, bf, (.bool b180), bf, tz, tz, tz, tz, tz, tz, tz, tz, tz, tz, tz, tz, tz, tz, tz, tz, tz, tz, tz, tz, tz, tz, tz, tz, tz, tz, tz, tz, tz, bf, bt, v132, v133, v54, (iz x285), (iz 0), bf, (iz (IntKind.wrap .i64 (x66 + 1)))], h284⟩))
 (C.cal M (pcall M d) 12 true 17 [v54] h239 fun v286 h287 =>
 C.int .i64 (some v286) fun x288 =>
 cnd (x288 != (IntKind.wrap .i64 (x62 + 1)))
 (k59 .ret ⟨[(.agg [(.lst a0), (iz a1), (iz a2), (iz a3), (iz a4), (iz a5), (iz a6), (iz a7), (iz a8)]), (.lst a9), v0, tz, bf, v54, (iz (IntKind.wrap .i64 (x62 + 1))), tz, v151, (iz x157), (.bool b180), (.bool b2), (.bool (!b2)), bf, (.agg [v7, (iz x8), (iz x9), (iz x10), (iz x11), (iz x12), (iz x13), (iz x14), (iz x15)]), (.bool b18), (.bool (!b18)), (.bool (!b18)), bf, (.agg [v23, (iz x24), (iz x25), (iz x26), (iz x27), (iz x28), (iz x29), (iz x30), (iz x31)]), (iz x34), (.bool (x34 != 0)), (.bool (x34 != 0)), bf, (.lst a9), (iz x38), (.bool (decide (x38 > 200))), bf, tz, (.agg [v43, (iz x44), (iz x45), (iz x46), (iz x47), (iz x48), (iz x49), (iz x50), (iz x51)]), v54, (.lst a9), (iz x57), (iz x66), bt, v139, (.agg [(iz x144), (iz x145), (iz x146), (.bool b147), (.bool b148), (.bool b149), (iz x150)]), v54, (iz x157), v54, v54, v160, (iz x164), v165, (.bool b169), (.bool b172), v173, (.bool b177), (.bool b180), (.bool b180), v54, (iz x183), (iz x157), (iz (IntKind.wrap .i64 (x157 + 1))), (.bool (x183 == (IntKind.wrap .i64 (x157 + 1)))), (.bool (xor true (b180 == (x183 == (IntKind.wrap .i64 (x157 + 1)))))), bf, (.bool b180), (.bool (!b180)), bf, tz, tz, tz, tz, bf, bf, (.bool b180), bf, tz, tz, tz, tz, tz, tz, tz, tz, tz, tz, tz, tz, tz, tz, tz, tz, tz, tz, tz, tz, tz, tz, tz, tz, tz, tz, tz, tz, tz, bf, bf, (iz x62), (iz (IntKind.wrap .i64 (x62 + 1))), v54, (iz x288), (iz (IntKind.wrap .i64 (x62 + 1))), bt, v138], h287⟩)
 (k59 .normal ⟨[(.agg [(.lst a0), (iz a1), (iz a2), (iz a3), (iz a4), (iz a5), (iz a6), (iz a7), (iz a8)]), (.lst a9), v0, tz, (.bool b61), v54, (iz (IntKind.wrap .i64 (x62 + 1))), tz, v151, (iz x157), (.bool b180), (.bool b2), (.bool (!b2)), bf, (.agg [v7, (iz x8), (iz x9), (iz x10), (iz x11), (iz x12), (iz x13), (iz x14), (iz x15)]), (.bool b18), (.bool (!b18)), (.bool (!b18)), bf, (.agg [v23, (iz x24), (iz x25), (iz x26), (iz x27), (iz x28), (iz x29), (iz x30), (iz x31)]), (iz x34), (.bool (x34 != 0)), (.bool (x34 != 0)), bf, (.lst a9), (iz x38), (.bool (decide (x38 > 200))), bf, tz, (.agg [v43, (iz x44), (iz x45), (iz x46), (iz x47), (iz x48), (iz x49), (iz x50), (iz x51)]), v54, (.lst a9), (iz x57), (iz (IntKind.wrap .i64 (x66 + 1))), bt, v139, (.agg [(iz x144), (iz x145), (iz x146), (.bool b147), (.bool b148), (.bool b149), (iz x150)]), v54, (iz x157), v54, v54, v160, (iz x164), v165, (.bool b169), (.bool b172), v173, (.bool b177), (.bool b180), (.bool b180), v54, (iz x183), (iz x157), (iz (IntKind.wrap .i64 (x157 + 1))), (.bool (x183 == (IntKind.wrap .i64 (x157 + 1)))), (.bool (xor true (b180 == (x183 == (IntKind.wrap .i64 (x157 + 1)))))), bf, (.bool b180), (.bool (!b180)), bf, tz, tz, tz, tz, bf, bf, (.bool b180), bf, tz, tz, tz, tz, tz, tz, tz, tz, tz, tz, tz, tz, tz, tz, tz, tz, tz, tz, tz, tz, tz, tz, tz, tz, tz, tz, tz, tz, tz, bf, bf, (iz x62), (iz (IntKind.wrap .i64 (x62 + 1))), v54, (iz x288), (iz (IntKind.wrap .i64 (x62 + 1))), bf, (iz (IntKind.wrap .i64 (x66 + 1)))], h287⟩))))))
 (k59 (.exit 0) ⟨[(.agg [(.lst a0), (iz a1), (iz a2), (iz a3), (iz a4), (iz a5), (iz a6), (iz a7), (iz a8)]), (.lst a9), v0, tz, (.bool b61), v54, (iz x62), tz, v63, v64, v65, (.bool b2), (.bool (!b2)), bf, (.agg [v7, (iz x8), (iz x9), (iz x10), (iz x11), (iz x12), (iz x13), (iz x14), (iz x15)]), (.bool b18), (.bool (!b18)), (.bool (!b18)), bf, (.agg [v23, (iz x24), (iz x25), (iz x26), (iz x27), (iz x28), (iz x29), (iz x30), (iz x31)]), (iz x34), (.bool (x34 != 0)), (.bool (x34 != 0)), bf, (.lst a9), (iz x38), (.bool (decide (x38 > 200))), bf, tz, (.agg [v43, (iz x44), (iz x45), (iz x46), (iz x47), (iz x48), (iz x49), (iz x50), (iz x51)]), v54, (.lst a9), (iz x57), (iz x66), bf, v68, v69, v70, v71, v72, v73, v74, v75, v76, v77, v78, v79, v80, v81, v82, v83, v84, v85, v86, v87, v88, v89, v90, v91, v92, v93, v94, v95, v96, v97, v98, v99, v100, v101, v102, v103, v104, v105, v106, v107, v108, v109, v110, v111, v112, v113, v114, v115, v116, v117, v118, v119, v120, v121, v122, v123, v124, v125, v126, v127, v128, v129, v130, v131, v132, v133, v134, v135, v136, v137, v138], (St.H s58)⟩))
 (none)
def r4X0_0 (C : Cb) (d : Nat) (a0 : List AV) (a1 a2 a3 a4 a5 a6 a7 a8 : Int) (a9 : List AV) (v0 : AV) (b2 : Bool) (v7 : AV) (x8 x9 x10 x11 x12 x13 x14 x15 : Int) (b18 : Bool) (v23 : AV) (x24 x25 x26 x27 x28 x29 x30 x31 x34 x38 : Int) (v43 : AV) (x44 x45 x46 x47 x48 x49 x50 x51 : Int) (v54 : AV) (x57 : Int) : St → Ans := fun s289 =>
 cnd ((List.length s289.env) == 106)
 (C.same s289.env[0]? (.agg [(.lst a0), (iz a1), (iz a2), (iz a3), (iz a4), (iz a5), (iz a6), (iz a7), (iz a8)]) <|
 C.same s289.env[1]? (.lst a9) <|
 C.same s289.env[2]? v0 <|
 C.same s289.env[3]? tz <|
 C.bool s289.env[4]? fun b290 =>
 C.same s289.env[5]? v54 <|
 C.int .i64 s289.env[6]? fun x291 =>
 C.same s289.env[7]? tz <|
 C.any s289.env[8]? fun v292 =>
 C.any s289.env[9]? fun v293 =>
 C.any s289.env[10]? fun v294 =>
 C.same s289.env[11]? (.bool b2) <|
 C.same s289.env[12]? (.bool (!b2)) <|
 C.same s289.env[13]? bf <|
 C.same s289.env[14]? (.agg [v7, (iz x8), (iz x9), (iz x10), (iz x11), (iz x12), (iz x13), (iz x14), (iz x15)]) <|
 C.same s289.env[15]? (.bool b18) <|
 C.same s289.env[16]? (.bool (!b18)) <|
 C.same s289.env[17]? (.bool (!b18)) <|
 C.same s289.env[18]? bf <|
 C.same s289.env[19]? (.agg [v23, (iz x24), (iz x25), (iz x26), (iz x27), (iz x28), (iz x29), (iz x30), (iz x31)]) <|
 C.same s289.env[20]? (iz x34) <|
 C.same s289.env[21]? (.bool (x34 != 0)) <|
 C.same s289.env[22]? (.bool (x34 != 0)) <|
 C.same s289.env[23]? bf <|
 C.same s289.env[24]? (.lst a9) <|
 C.same s289.env[25]? (iz x38) <|
 C.same s289.env[26]? (.bool (decide (x38 > 200))) <|
 C.same s289.env[27]? bf <|
 C.same s289.env[28]? tz <|
 C.same s289.env[29]? (.agg [v43, (iz x44), (iz x45), (iz x46), (iz x47), (iz x48), (iz x49), (iz x50), (iz x51)]) <|
 C.same s289.env[30]? v54 <|
 C.same s289.env[31]? (.lst a9) <|
 C.same s289.env[32]? (iz x57) <|
 C.int .i64 s289.env[33]? fun x295 =>
 C.any s289.env[34]? fun v296 =>
 C.any s289.env[35]? fun v297 =>
 C.any s289.env[36]? fun v298 =>
 C.any s289.env[37]? fun v299 =>
 C.any s289.env[38]? fun v300 =>
 C.any s289.env[39]? fun v301 =>
 C.any s289.env[40]? fun v302 =>
 C.any s289.env[41]? fun v303 =>
 C.any s289.env[42]? fun v304 =>
 C.any s289.env[43]? fun v305 =>
 C.any s289.env[44]? fun v306 =>
 C.any s289.env[45]? fun v307 =>
 C.any s289.env[46]? fun v308 =>
 C.any s289.env[47]? fun v309 =>
 C.any s289.env[48]? fun v310 =>
 C.any s289.env[49]? fun v311 =>
 C.any s289.env[50]? fun v312 =>
 C.any s289.env[51]? fun v313 =>
 C.any s289.env[52]? fun v314 =>
 C.any s289.env[53]? fun v315 =>
 C.any s289.env[54]? fun v316 =>
 C.any s289.env[55]? fun v317 =>
 C.any s289.env[56]? fun v318 =>
 C.any s289.env[57]? fun v319 =>
 C.any s289.env[58]? fun v320 =>
 C.any s289.env[59]? fun v321 =>
 C.any s289.env[60]? fun v322 =>
 C.any s289.env[61]? fun v323 =>
 C.any s289.env[62]? fun v324 =>
 C.any s289.env[63]? fun v325 =>
 C.any s289.env[64]? fun v326 =>
 C.any s289.env[65]? fun v327 =>
 C.any s289.env[66]? fun v328 =>
 C.any s289.env[67]? fun v329 =>
 C.any s289.env[68]? fun v330 =>
 C.any s289.env[69]? fun v331 =>
 C.any s289.env[70]? fun v332 =>
 C.any s289.env[71]? fun v333 =>
 C.any s289.env[72]? fun v334 =>
 C.any s289.env[73]? fun v335 =>
 C.any s289.env[74]? fun v336 =>
 C.any s289.env[75]? fun v337 =>
 C.any s289.env[76]? fun v338 =>
 C.any s289.env[77]? fun v339 =>
 C.any s289.env[78]? fun v340 =>
 C.any s289.env[79]? fun v341 =>
 C.any s289.env[80]? fun v342 =>
 C.any s289.env[81]? fun v343 =>
 C.any s289.env[82]? fun v344 =>
 C.any s289.env[83]? fun v345 =>
 C.any s289.env[84]? fun v346 =>
 C.any s289.env[85]? fun v347 =>
 C.any s289.env[86]? fun v348 =>
 C.any s289.env[87]? fun v349 =>
 C.any s289.env[88]? fun v350 =>
 C.any s289.env[89]? fun v351 =>
 C.any s289.env[90]? fun v352 =>
 C.any s289.env[91]? fun v353 =>
 C.any s289.env[92]? fun v354 =>
 C.any s289.env[93]? fun v355 =>
 C.any s289.env[94]? fun v356 =>
 C.any s289.env[95]? fun v357 =>
 C.any s289.env[96]? fun v358 =>
 C.any s289.env[97]? fun v359 =>
 C.any s289.env[98]? fun v360 =>
 C.any s289.env[99]? fun v361 =>
 C.any s289.env[100]? fun v362 =>
 C.any s289.env[101]? fun v363 =>
 C.any s289.env[102]? fun v364 =>
 C.any s289.env[103]? fun v365 =>
 C.any s289.env[104]? fun v366 =>
 C.any s289.env[105]? fun v367 =>
 C.fin (St.H s289) bt)
 (none)
def r4E0 (C : Cb) (d : Nat) (a0 : List AV) (a1 a2 a3 a4 a5 a6 a7 a8 : Int) (a9 : List AV) (v0 : AV) (b2 : Bool) (v7 : AV) (x8 x9 x10 x11 x12 x13 x14 x15 : Int) (b18 : Bool) (v23 : AV) (x24 x25 x26 x27 x28 x29 x30 x31 x34 x38 : Int) (v43 : AV) (x44 x45 x46 x47 x48 x49 x50 x51 : Int) (v54 : AV) (x57 : Int) : St → Ans := fun s60 =>
 cnd ((List.length s60.env) == 106)
 (C.same s60.env[0]? (.agg [(.lst a0), (iz a1), (iz a2), (iz a3), (iz a4), (iz a5), (iz a6), (iz a7), (iz a8)]) <|
 C.same s60.env[1]? (.lst a9) <|
 C.same s60.env[2]? v0 <|
 C.same s60.env[3]? tz <|
 C.bool s60.env[4]? fun b368 =>
 C.same s60.env[5]? v54 <|
 C.int .i64 s60.env[6]? fun x369 =>
 C.same s60.env[7]? tz <|
 C.any s60.env[8]? fun v370 =>
 C.int .i64 s60.env[9]? fun x371 =>
 C.bool s60.env[10]? fun b372 =>
 C.same s60.env[11]? (.bool b2) <|
 C.same s60.env[12]? (.bool (!b2)) <|
 C.same s60.env[13]? bf <|
 C.same s60.env[14]? (.agg [v7, (iz x8), (iz x9), (iz x10), (iz x11), (iz x12), (iz x13), (iz x14), (iz x15)]) <|
 C.same s60.env[15]? (.bool b18) <|
 C.same s60.env[16]? (.bool (!b18)) <|
 C.same s60.env[17]? (.bool (!b18)) <|
 C.same s60.env[18]? bf <|
 C.same s60.env[19]? (.agg [v23, (iz x24), (iz x25), (iz x26), (iz x27), (iz x28), (iz x29), (iz x30), (iz x31)]) <|
 C.same s60.env[20]? (iz x34) <|
 C.same s60.env[21]? (.bool (x34 != 0)) <|
 C.same s60.env[22]? (.bool (x34 != 0)) <|
 C.same s60.env[23]? bf <|
 C.same s60.env[24]? (.lst a9) <|
 C.same s60.env[25]? (iz x38) <|
 C.same s60.env[26]? (.bool (decide (x38 > 200))) <|
 C.same s60.env[27]? bf <|
 C.same s60.env[28]? tz <|
 C.same s60.env[29]? (.agg [v43, (iz x44), (iz x45), (iz x46), (iz x47), (iz x48), (iz x49), (iz x50), (iz x51)]) <|
 C.same s60.env[30]? v54 <|
 C.same s60.env[31]? (.lst a9) <|
 C.same s60.env[32]? (iz x57) <|
 C.int .i64 s60.env[33]? fun x373 =>
 C.any s60.env[34]? fun v374 =>
 C.any s60.env[35]? fun v375 =>
 C.agg 7 s60.env[36]? fun l376 =>
 C.int .i64 l376[0]? fun x377 =>
 C.int .i64 l376[1]? fun x378 =>
 C.int .i64 l376[2]? fun x379 =>
 C.bool l376[3]? fun b380 =>
 C.bool l376[4]? fun b381 =>
 C.bool l376[5]? fun b382 =>
 C.int .i64 l376[6]? fun x383 =>
 C.any s60.env[37]? fun v384 =>
 C.int .i64 s60.env[38]? fun x385 =>
 C.any s60.env[39]? fun v386 =>
 C.any s60.env[40]? fun v387 =>
 C.any s60.env[41]? fun v388 =>
 C.int .i64 s60.env[42]? fun x389 =>
 C.any s60.env[43]? fun v390 =>
 C.bool s60.env[44]? fun b391 =>
 C.bool s60.env[45]? fun b392 =>
 C.any s60.env[46]? fun v393 =>
 C.bool s60.env[47]? fun b394 =>
 C.bool s60.env[48]? fun b395 =>
 C.bool s60.env[49]? fun b396 =>
 C.any s60.env[50]? fun v397 =>
 C.int .i64 s60.env[51]? fun x398 =>
 C.int .i64 s60.env[52]? fun x399 =>
 C.int .i64 s60.env[53]? fun x400 =>
 C.bool s60.env[54]? fun b401 =>
 C.bool s60.env[55]? fun b402 =>
 C.bool s60.env[56]? fun b403 =>
 C.any s60.env[57]? fun v404 =>
 C.any s60.env[58]? fun v405 =>
 C.any s60.env[59]? fun v406 =>
 C.any s60.env[60]? fun v407 =>
 C.any s60.env[61]? fun v408 =>
 C.any s60.env[62]? fun v409 =>
 C.any s60.env[63]? fun v410 =>
 C.any s60.env[64]? fun v411 =>
 C.bool s60.env[65]? fun b412 =>
 C.any s60.env[66]? fun v413 =>
 C.any s60.env[67]? fun v414 =>
 C.any s60.env[68]? fun v415 =>
 C.any s60.env[69]? fun v416 =>
 C.any s60.env[70]? fun v417 =>
 C.any s60.env[71]? fun v418 =>
 C.any s60.env[72]? fun v419 =>
 C.any s60.env[73]? fun v420 =>
 C.any s60.env[74]? fun v421 =>
 C.any s60.env[75]? fun v422 =>
 C.any s60.env[76]? fun v423 =>
 C.any s60.env[77]? fun v424 =>
 C.any s60.env[78]? fun v425 =>
 C.any s60.env[79]? fun v426 =>
 C.any s60.env[80]? fun v427 =>
 C.any s60.env[81]? fun v428 =>
 C.any s60.env[82]? fun v429 =>
 C.any s60.env[83]? fun v430 =>
 C.any s60.env[84]? fun v431 =>
 C.any s60.env[85]? fun v432 =>
 C.any s60.env[86]? fun v433 =>
 C.any s60.env[87]? fun v434 =>
 C.any s60.env[88]? fun v435 =>
 C.any s60.env[89]? fun v436 =>
 C.any s60.env[90]? fun v437 =>
 C.any s60.env[91]? fun v438 =>
 C.any s60.env[92]? fun v439 =>
 C.any s60.env[93]? fun v440 =>
 C.any s60.env[94]? fun v441 =>
 C.any s60.env[95]? fun v442 =>
 C.any s60.env[96]? fun v443 =>
 C.any s60.env[97]? fun v444 =>
 C.any s60.env[98]? fun v445 =>
 C.any s60.env[99]? fun v446 =>
 C.any s60.env[100]? fun v447 =>
 C.any s60.env[101]? fun v448 =>
 C.any s60.env[102]? fun v449 =>
 C.any s60.env[103]? fun v450 =>
 C.any s60.env[104]? fun v451 =>
 C.any s60.env[105]? fun v452 =>
 C.fin (St.H s60) (.bool b368))
 (none)
/-- apogee/apogeelaw21.PhaseSlow -/
theorem r4 (C : Cb) (d : Nat) (a0 : List AV) (a1 a2 a3 a4 a5 a6 a7 a8 : Int) (a9 : List AV) : xcall C M unr d 4 [(.agg [(.lst a0), (iz a1), (iz a2), (iz a3), (iz a4), (iz a5), (iz a6), (iz a7), (iz a8)]), (.lst a9)] =
 C.hop [] (.box E24 (.v (.agg [(.lst a0), (iz a1), (iz a2), (iz a3), (iz a4), (iz a5), (iz a6), (iz a7), (iz a8)]))) fun v0 h1 =>
 C.bool (pcall M d 7 []) fun b2 =>
 cnd (!b2)
 (C.bool (pcall M d 7 []) fun b3 =>
 C.fin h1 (.bool b3))
 (C.hop h1 (.load true 9 (.v v0)) fun v4 h5 =>
 C.agg 9 (some v4) fun l6 =>
 C.any l6[0]? fun v7 =>
 C.int .i64 l6[1]? fun x8 =>
 C.int .i64 l6[2]? fun x9 =>
 C.int .i64 l6[3]? fun x10 =>
 C.int .i64 l6[4]? fun x11 =>
 C.int .i64 l6[5]? fun x12 =>
 C.int .i64 l6[6]? fun x13 =>
 C.int .i64 l6[7]? fun x14 =>
 C.int .i64 l6[8]? fun x15 =>
 C.snp h5 [(.agg [v7, (iz x8), (iz x9), (iz x10), (iz x11), (iz x12), (iz x13), (iz x14), (iz x15)])] fun l16 b17 =>
 C.bool (pcall M d 8 l16) fun b18 =>
 cnd (b17 || true)
 (cnd (!b18)
 (C.bool (pcall M d 7 []) fun b19 =>
 C.fin h5 (.bool b19))
 (C.hop h5 (.load true 9 (.v v0)) fun v20 h21 =>
 C.agg 9 (some v20) fun l22 =>
 C.any l22[0]? fun v23 =>
 C.int .i64 l22[1]? fun x24 =>
 C.int .i64 l22[2]? fun x25 =>
 C.int .i64 l22[3]? fun x26 =>
 C.int .i64 l22[4]? fun x27 =>
 C.int .i64 l22[5]? fun x28 =>
 C.int .i64 l22[6]? fun x29 =>
 C.int .i64 l22[7]? fun x30 =>
 C.int .i64 l22[8]? fun x31 =>
 C.snp h21 [(.agg [v23, (iz x24), (iz x25), (iz x26), (iz x27), (iz x28), (iz x29), (iz x30), (iz x31)])] fun l32 b33 =>
 C.int .i64 (pcall M d 10 l32) fun x34 =>
 cnd (b33 || true)
 (cnd (x34 != 0)
 (C.bool (pcall M d 7 []) fun b35 =>
 C.fin h21 (.bool b35))
 (C.hop h21 (.bk .lenV [(.v (.lst a9))]) fun v36 h37 =>
 C.int .i64 (some v36) fun x38 =>
 cnd (decide (x38 > 200))
 (C.bool (pcall M d 7 []) fun b39 =>
 C.fin h37 (.bool b39))
 (C.hop h37 (.load true 9 (.v v0)) fun v40 h41 =>
 C.agg 9 (some v40) fun l42 =>
 C.any l42[0]? fun v43 =>
 C.int .i64 l42[1]? fun x44 =>
 C.int .i64 l42[2]? fun x45 =>
 C.int .i64 l42[3]? fun x46 =>
 C.int .i64 l42[4]? fun x47 =>
 C.int .i64 l42[5]? fun x48 =>
 C.int .i64 l42[6]? fun x49 =>
 C.int .i64 l42[7]? fun x50 =>
 C.int .i64 l42[8]? fun x51 =>
 C.cal M (pcall M d) 12 true 9 [(.agg [v43, (iz x44), (iz x45), (iz x46), (iz x47), (iz x48), (iz x49), (iz x50), (iz x51)])] h41 fun v52 h53 =>
 C.any (some v52) fun v54 =>
 C.hop h53 (.bk .lenV [(.v (.lst a9))]) fun v55 h56 =>
 C.int .i64 (some v55) fun x57 =>
 C.iter (r4R0 C d a0 a1 a2 a3 a4 a5 a6 a7 a8 a9 v0 b2 v7 x8 x9 x10 x11 x12 x13 x14 x15 b18 v23 x24 x25 x26 x27 x28 x29 x30 x31 x34 x38 v43 x44 x45 x46 x47 x48 x49 x50 x51 v54 x57) 10000000000000000000 ⟨[(.agg [(.lst a0), (iz a1), (iz a2), (iz a3), (iz a4), (iz a5), (iz a6), (iz a7), (iz a8)]), (.lst a9), v0, tz, bf, v54, (iz 0), tz, tz, tz, tz, (.bool b2), (.bool (!b2)), bf, (.agg [v7, (iz x8), (iz x9), (iz x10), (iz x11), (iz x12), (iz x13), (iz x14), (iz x15)]), (.bool b18), (.bool (!b18)), (.bool (!b18)), bf, (.agg [v23, (iz x24), (iz x25), (iz x26), (iz x27), (iz x28), (iz x29), (iz x30), (iz x31)]), (iz x34), (.bool (x34 != 0)), (.bool (x34 != 0)), bf, (.lst a9), (iz x38), (.bool (decide (x38 > 200))), bf, tz, (.agg [v43, (iz x44), (iz x45), (iz x46), (iz x47), (iz x48), (iz x49), (iz x50), (iz x51)]), v54, (.lst a9), (iz x57), (iz 0), tz, tz, tz, tz, tz, tz, tz, tz, tz, tz, tz, tz, tz, tz, tz, tz, tz, tz, tz, tz, tz, tz, tz, tz, tz, tz, tz, tz, tz, tz, tz, tz, tz, tz, tz, tz, tz, tz, tz, tz, tz, tz, tz, tz, tz, tz, tz, tz, tz, tz, tz, tz, tz, tz, tz, tz, tz, tz, tz, tz, tz, tz, tz, tz, tz, tz, tz, tz, tz, tz, tz, tz], h56⟩ [0] [r4X0_0 C d a0 a1 a2 a3 a4 a5 a6 a7 a8 a9 v0 b2 v7 x8 x9 x10 x11 x12 x13 x14 x15 b18 v23 x24 x25 x26 x27 x28 x29 x30 x31 x34 x38 v43 x44 x45 x46 x47 x48 x49 x50 x51 v54 x57] (r4E0 C d a0 a1 a2 a3 a4 a5 a6 a7 a8 a9 v0 b2 v7 x8 x9 x10 x11 x12 x13 x14 x15 b18 v23 x24 x25 x26 x27 x28 x29 x30 x31 x34 x38 v43 x44 x45 x46 x47 x48 x49 x50 x51 v54 x57))))
 (none)))
 (none)) := by kernel_rfl
end Go.Proofs.Ytdceaeifcniabaa.AE

namespace Go.Proofs.Ytdceaeifcniabaa.AE
set_option linter.unusedVariables false
set_option linter.unusedSimpArgs false
set_option linter.constructorNameAsVariable false
open Go
set_option maxRecDepth 100000
set_option maxHeartbeats 0
noncomputable def X4_0_0 (d : Nat) (a9 : List AV) (v0 v54 : AV) (x57 : Int) (H : Heap) : Ans :=
  C0.fin H bt
theorem X4_0_0_ok (d : Nat) (a0 : List AV) (a1 a2 a3 a4 a5 a6 a7 a8 : Int) (a9 : List AV) (v0 : AV) (b2 : Bool) (v7 : AV) (x8 x9 x10 x11 x12 x13 x14 x15 : Int) (b18 : Bool) (v23 : AV) (x24 x25 x26 x27 x28 x29 x30 x31 x34 x38 : Int) (v43 : AV) (x44 x45 x46 x47 x48 x49 x50 x51 : Int) (v54 : AV) (x57 : Int) (b290 : Bool) (x291 : Int) (v292 v293 v294 : AV) (x295 : Int) (v296 v297 v298 v299 v300 v301 v302 v303 v304 v305 v306 v307 v308 v309 v310 v311 v312 v313 v314 v315 v316 v317 v318 v319 v320 v321 v322 v323 v324 v325 v326 v327 v328 v329 v330 v331 v332 v333 v334 v335 v336 v337 v338 v339 v340 v341 v342 v343 v344 v345 v346 v347 v348 v349 v350 v351 v352 v353 v354 v355 v356 v357 v358 v359 v360 v361 v362 v363 v364 v365 v366 v367 : AV) (H : Heap) : r4X0_0 C0 d a0 a1 a2 a3 a4 a5 a6 a7 a8 a9 v0 b2 v7 x8 x9 x10 x11 x12 x13 x14 x15 b18 v23 x24 x25 x26 x27 x28 x29 x30 x31 x34 x38 v43 x44 x45 x46 x47 x48 x49 x50 x51 v54 x57 ⟨[(.agg [(.lst a0), (iz a1), (iz a2), (iz a3), (iz a4), (iz a5), (iz a6), (iz a7), (iz a8)]), (.lst a9), v0, tz, (.bool b290), v54, (iz x291), tz, v292, v293, v294, (.bool b2), (.bool (!b2)), bf, (.agg [v7, (iz x8), (iz x9), (iz x10), (iz x11), (iz x12), (iz x13), (iz x14), (iz x15)]), (.bool b18), (.bool (!b18)), (.bool (!b18)), bf, (.agg [v23, (iz x24), (iz x25), (iz x26), (iz x27), (iz x28), (iz x29), (iz x30), (iz x31)]), (iz x34), (.bool (x34 != 0)), (.bool (x34 != 0)), bf, (.lst a9), (iz x38), (.bool (decide (x38 > 200))), bf, tz, (.agg [v43, (iz x44), (iz x45), (iz x46), (iz x47), (iz x48), (iz x49), (iz x50), (iz x51)]), v54, (.lst a9), (iz x57), (iz x295), v296, v297, v298, v299, v300, v301, v302, v303, v304, v305, v306, v307, v308, v309, v310, v311, v312, v313, v314, v315, v316, v317, v318, v319, v320, v321, v322, v323, v324, v325, v326, v327, v328, v329, v330, v331, v332, v333, v334, v335, v336, v337, v338, v339, v340, v341, v342, v343, v344, v345, v346, v347, v348, v349, v350, v351, v352, v353, v354, v355, v356, v357, v358, v359, v360, v361, v362, v363, v364, v365, v366, v367], H⟩ = X4_0_0 d a9 v0 v54 x57 H := by
  unfold r4X0_0; refine Eq.trans (pl_len (by rfl)) ?_; (iterate 4 (refine yt yS ?_)); refine yt yB ?_; refine yt yS ?_; refine yt yI ?_; refine yt yS ?_; (iterate 3 (refine yt yA ?_)); (iterate 22 (refine yt yS ?_)); refine yt yI ?_; (iterate 72 (refine yt yA ?_))
  rfl
noncomputable def E4_0 (d : Nat) (a9 : List AV) (v0 v54 : AV) (x57 : Int) (b368 : Bool) (H : Heap) : Ans :=
  C0.fin H (.bool b368)
theorem E4_0_ok (d : Nat) (a0 : List AV) (a1 a2 a3 a4 a5 a6 a7 a8 : Int) (a9 : List AV) (v0 : AV) (b2 : Bool) (v7 : AV) (x8 x9 x10 x11 x12 x13 x14 x15 : Int) (b18 : Bool) (v23 : AV) (x24 x25 x26 x27 x28 x29 x30 x31 x34 x38 : Int) (v43 : AV) (x44 x45 x46 x47 x48 x49 x50 x51 : Int) (v54 : AV) (x57 : Int) (b368 : Bool) (x369 : Int) (v370 : AV) (x371 : Int) (b372 : Bool) (x373 : Int) (v374 v375 : AV) (x377 x378 x379 : Int) (b380 b381 b382 : Bool) (x383 : Int) (v384 : AV) (x385 : Int) (v386 v387 v388 : AV) (x389 : Int) (v390 : AV) (b391 b392 : Bool) (v393 : AV) (b394 b395 b396 : Bool) (v397 : AV) (x398 x399 x400 : Int) (b401 b402 b403 : Bool) (v404 v405 v406 v407 v408 v409 v410 v411 : AV) (b412 : Bool) (v413 v414 v415 v416 v417 v418 v419 v420 v421 v422 v423 v424 v425 v426 v427 v428 v429 v430 v431 v432 v433 v434 v435 v436 v437 v438 v439 v440 v441 v442 v443 v444 v445 v446 v447 v448 v449 v450 v451 v452 : AV) (H : Heap) : r4E0 C0 d a0 a1 a2 a3 a4 a5 a6 a7 a8 a9 v0 b2 v7 x8 x9 x10 x11 x12 x13 x14 x15 b18 v23 x24 x25 x26 x27 x28 x29 x30 x31 x34 x38 v43 x44 x45 x46 x47 x48 x49 x50 x51 v54 x57 ⟨[(.agg [(.lst a0), (iz a1), (iz a2), (iz a3), (iz a4), (iz a5), (iz a6), (iz a7), (iz a8)]), (.lst a9), v0, tz, (.bool b368), v54, (iz x369), tz, v370, (iz x371), (.bool b372), (.bool b2), (.bool (!b2)), bf, (.agg [v7, (iz x8), (iz x9), (iz x10), (iz x11), (iz x12), (iz x13), (iz x14), (iz x15)]), (.bool b18), (.bool (!b18)), (.bool (!b18)), bf, (.agg [v23, (iz x24), (iz x25), (iz x26), (iz x27), (iz x28), (iz x29), (iz x30), (iz x31)]), (iz x34), (.bool (x34 != 0)), (.bool (x34 != 0)), bf, (.lst a9), (iz x38), (.bool (decide (x38 > 200))), bf, tz, (.agg [v43, (iz x44), (iz x45), (iz x46), (iz x47), (iz x48), (iz x49), (iz x50), (iz x51)]), v54, (.lst a9), (iz x57), (iz x373), v374, v375, (.agg [(iz x377), (iz x378), (iz x379), (.bool b380), (.bool b381), (.bool b382), (iz x383)]), v384, (iz x385), v386, v387, v388, (iz x389), v390, (.bool b391), (.bool b392), v393, (.bool b394), (.bool b395), (.bool b396), v397, (iz x398), (iz x399), (iz x400), (.bool b401), (.bool b402), (.bool b403), v404, v405, v406, v407, v408, v409, v410, v411, (.bool b412), v413, v414, v415, v416, v417, v418, v419, v420, v421, v422, v423, v424, v425, v426, v427, v428, v429, v430, v431, v432, v433, v434, v435, v436, v437, v438, v439, v440, v441, v442, v443, v444, v445, v446, v447, v448, v449, v450, v451, v452], H⟩ = E4_0 d a9 v0 v54 x57 b368 H := by
  unfold r4E0; refine Eq.trans (pl_len (by rfl)) ?_; (iterate 4 (refine yt yS ?_)); refine yt yB ?_; refine yt yS ?_; refine yt yI ?_; refine yt yS ?_; refine yt yA ?_; refine yt yI ?_; refine yt yB ?_; (iterate 22 (refine yt yS ?_)); refine yt yI ?_; (iterate 2 (refine yt yA ?_)); refine yt yG ?_; (iterate 3 (refine yt yI ?_)); (iterate 3 (refine yt yB ?_)); refine yt yI ?_; refine yt yA ?_; refine yt yI ?_; (iterate 3 (refine yt yA ?_)); refine yt yI ?_; refine yt yA ?_; (iterate 2 (refine yt yB ?_)); refine yt yA ?_; (iterate 3 (refine yt yB ?_)); refine yt yA ?_; (iterate 3 (refine yt yI ?_)); (iterate 3 (refine yt yB ?_)); (iterate 8 (refine yt yA ?_)); refine yt yB ?_; (iterate 40 (refine yt yA ?_))
  rfl
noncomputable def L4_0 (d : Nat) (a9 : List AV) (v0 v54 : AV) (x57 : Int) : Nat → Int → Int → Heap → Ans
  | 0, _, _, _ => none
  | n + 1, x62, x66, H =>
  cnd (decide (x66 < x57))
   (C0.hop H (.ixAS .any 7 (.v (.lst a9)) (.v (iz x66))) fun v139 h140 =>
   C0.hop h140 (.load true 7 (.v v139)) fun v141 h142 =>
   C0.agg 7 (some v141) fun l143 =>
   C0.int .i64 l143[0]? fun x144 =>
   C0.int .i64 l143[1]? fun x145 =>
   C0.int .i64 l143[2]? fun x146 =>
   C0.bool l143[3]? fun b147 =>
   C0.bool l143[4]? fun b148 =>
   C0.bool l143[5]? fun b149 =>
   C0.int .i64 l143[6]? fun x150 =>
   C0.hop h142 (.alloc E35) fun v151 h152 =>
   C0.hop h152 (.store 7 (.v v151) (.v (.agg [(iz x144), (iz x145), (iz x146), (.bool b147), (.bool b148), (.bool b149), (iz x150)]))) fun v153 h154 =>
   C0.cal M (pcall M d) 12 true 16 [v54] h154 fun v155 h156 =>
   C0.int .i64 (some v155) fun x157 =>
   C0.grow h156 [] fun n158 h159 =>
   C0.hop h159 (.fldA 6 (.v v151)) fun v160 h161 =>
   C0.hop h161 (.load false 1 (.v v160)) fun v162 h163 =>
   C0.int .i64 (some v162) fun x164 =>
   C0.hop h163 (.fldA 5 (.v v151)) fun v165 h166 =>
   C0.hop h166 (.load false 1 (.v v165)) fun v167 h168 =>
   C0.bool (some v167) fun b169 =>
   C0.cal M (pcall M d) 12 true 11 [v54, (iz x164), (.bool b169)] h168 fun v170 h171 =>
   C0.bool (some v170) fun b172 =>
   C0.hop h171 (.fldA 4 (.v v151)) fun v173 h174 =>
   C0.hop h174 (.load false 1 (.v v173)) fun v175 h176 =>
   C0.bool (some v175) fun b177 =>
   C0.keep h168 h171 [v173] <|
   C0.cal M (pcall M d) 12 true 13 [v54, (.bool b172), (.bool b177)] h176 fun v178 h179 =>
   C0.bool (some v178) fun b180 =>
   C0.cal M (pcall M d) 12 true 16 [v54] h179 fun v181 h182 =>
   C0.int .i64 (some v181) fun x183 =>
   cnd (xor true (b180 == (x183 == (IntKind.wrap .i64 (x157 + 1)))))
   (E4_0 d a9 v0 v54 x57 false h182)
   (cnd (!b180)
   (C0.cal M (pcall M d) 12 true 16 [v54] h182 fun v184 h185 =>
   C0.int .i64 (some v184) fun x186 =>
   cnd (x186 != x157)
   (E4_0 d a9 v0 v54 x57 false h185)
   (C0.grow h185 [] fun n187 h188 =>
   cnd b180
   (C0.hop h188 (.fldA 0 (.v v0)) fun v189 h190 =>
   C0.hop h190 (.load false 1 (.v v189)) fun v191 h192 =>
   C0.hop h192 (.ixAS .any 5 (.v v191) (.v (iz x157))) fun v193 h194 =>
   C0.hop h194 (.fldA 3 (.v v193)) fun v195 h196 =>
   C0.hop h196 (.load false 1 (.v v195)) fun v197 h198 =>
   C0.int .i64 (some v197) fun x199 =>
   cnd (decide (x62 < x199))
   (E4_0 d a9 v0 v54 x57 false h198)
   (C0.hop h198 (.fldA 6 (.v v151)) fun v200 h201 =>
   C0.hop h201 (.load false 1 (.v v200)) fun v202 h203 =>
   C0.int .i64 (some v202) fun x204 =>
   C0.hop h203 (.fldA 0 (.v v0)) fun v205 h206 =>
   C0.hop h206 (.load false 1 (.v v205)) fun v207 h208 =>
   C0.hop h208 (.ixAS .any 5 (.v v207) (.v (iz x157))) fun v209 h210 =>
   C0.hop h210 (.fldA 4 (.v v209)) fun v211 h212 =>
   C0.hop h212 (.load false 1 (.v v211)) fun v213 h214 =>
   C0.int .i64 (some v213) fun x215 =>
   cnd (decide (x204 < x215))
   (E4_0 d a9 v0 v54 x57 false h214)
   (C0.hop h214 (.fldA 5 (.v v151)) fun v216 h217 =>
   C0.hop h217 (.load false 1 (.v v216)) fun v218 h219 =>
   C0.bool (some v218) fun b220 =>
   cnd (!b220)
   (E4_0 d a9 v0 v54 x57 false h219)
   (C0.hop h219 (.fldA 4 (.v v151)) fun v221 h222 =>
   C0.hop h222 (.load false 1 (.v v221)) fun v223 h224 =>
   C0.bool (some v223) fun b225 =>
   cnd (!b225)
   (E4_0 d a9 v0 v54 x57 false h224)
   (cnd b180
   (C0.cal M (pcall M d) 12 true 17 [v54] h224 fun v226 h227 =>
   C0.int .i64 (some v226) fun x228 =>
   cnd (x228 != 0)
   (E4_0 d a9 v0 v54 x57 false h227)
   (L4_0 d a9 v0 v54 x57 n 0 (IntKind.wrap .i64 (x66 + 1)) h227))
   (C0.cal M (pcall M d) 12 true 17 [v54] h224 fun v229 h230 =>
   C0.int .i64 (some v229) fun x231 =>
   cnd (x231 != (IntKind.wrap .i64 (x62 + 1)))
   (E4_0 d a9 v0 v54 x57 false h230)
   (L4_0 d a9 v0 v54 x57 n (IntKind.wrap .i64 (x62 + 1)) (IntKind.wrap .i64 (x66 + 1)) h230)))))))
   (cnd b180
   (C0.cal M (pcall M d) 12 true 17 [v54] h188 fun v232 h233 =>
   C0.int .i64 (some v232) fun x234 =>
   cnd (x234 != 0)
   (E4_0 d a9 v0 v54 x57 false h233)
   (L4_0 d a9 v0 v54 x57 n 0 (IntKind.wrap .i64 (x66 + 1)) h233))
   (C0.cal M (pcall M d) 12 true 17 [v54] h188 fun v235 h236 =>
   C0.int .i64 (some v235) fun x237 =>
   cnd (x237 != (IntKind.wrap .i64 (x62 + 1)))
   (E4_0 d a9 v0 v54 x57 false h236)
   (L4_0 d a9 v0 v54 x57 n (IntKind.wrap .i64 (x62 + 1)) (IntKind.wrap .i64 (x66 + 1)) h236)))))
   (C0.grow h182 [] fun n238 h239 =>
   cnd b180
   (C0.hop h239 (.fldA 0 (.v v0)) fun v240 h241 =>
   C0.hop h241 (.load false 1 (.v v240)) fun v242 h243 =>
   C0.hop h243 (.ixAS .any 5 (.v v242) (.v (iz x157))) fun v244 h245 =>
   C0.hop h245 (.fldA 3 (.v v244)) fun v246 h247 =>
   C0.hop h247 (.load false 1 (.v v246)) fun v248 h249 =>
   C0.int .i64 (some v248) fun x250 =>
   cnd (decide (x62 < x250))
   (E4_0 d a9 v0 v54 x57 false h249)
   (C0.hop h249 (.fldA 6 (.v v151)) fun v251 h252 =>
   C0.hop h252 (.load false 1 (.v v251)) fun v253 h254 =>
   C0.int .i64 (some v253) fun x255 =>
   C0.hop h254 (.fldA 0 (.v v0)) fun v256 h257 =>
   C0.hop h257 (.load false 1 (.v v256)) fun v258 h259 =>
   C0.hop h259 (.ixAS .any 5 (.v v258) (.v (iz x157))) fun v260 h261 =>
   C0.hop h261 (.fldA 4 (.v v260)) fun v262 h263 =>
   C0.hop h263 (.load false 1 (.v v262)) fun v264 h265 =>
   C0.int .i64 (some v264) fun x266 =>
   cnd (decide (x255 < x266))
   (E4_0 d a9 v0 v54 x57 false h265)
   (C0.hop h265 (.fldA 5 (.v v151)) fun v267 h268 =>
   C0.hop h268 (.load false 1 (.v v267)) fun v269 h270 =>
   C0.bool (some v269) fun b271 =>
   cnd (!b271)
   (E4_0 d a9 v0 v54 x57 false h270)
   (C0.hop h270 (.fldA 4 (.v v151)) fun v272 h273 =>
   C0.hop h273 (.load false 1 (.v v272)) fun v274 h275 =>
   C0.bool (some v274) fun b276 =>
   cnd (!b276)
   (E4_0 d a9 v0 v54 x57 false h275)
   (cnd b180
   (C0.cal M (pcall M d) 12 true 17 [v54] h275 fun v277 h278 =>
   C0.int .i64 (some v277) fun x279 =>
   cnd (x279 != 0)
   (E4_0 d a9 v0 v54 x57 false h278)
   (L4_0 d a9 v0 v54 x57 n 0 (IntKind.wrap .i64 (x66 + 1)) h278))
   (C0.cal M (pcall M d) 12 true 17 [v54] h275 fun v280 h281 =>
   C0.int .i64 (some v280) fun x282 =>
   cnd (x282 != (IntKind.wrap .i64 (x62 + 1)))
   (E4_0 d a9 v0 v54 x57 false h281)
   (L4_0 d a9 v0 v54 x57 n (IntKind.wrap .i64 (x62 + 1)) (IntKind.wrap .i64 (x66 + 1)) h281)))))))
   (cnd b180
   (C0.cal M (pcall M d) 12 true 17 [v54] h239 fun v283 h284 =>
   C0.int .i64 (some v283) fun x285 =>
   cnd (x285 != 0)
   (E4_0 d a9 v0 v54 x57 false h284)
   (L4_0 d a9 v0 v54 x57 n 0 (IntKind.wrap .i64 (x66 + 1)) h284))
   (C0.cal M (pcall M d) 12 true 17 [v54] h239 fun v286 h287 =>
   C0.int .i64 (some v286) fun x288 =>
   cnd (x288 != (IntKind.wrap .i64 (x62 + 1)))
   (E4_0 d a9 v0 v54 x57 false h287)
   (L4_0 d a9 v0 v54 x57 n (IntKind.wrap .i64 (x62 + 1)) (IntKind.wrap .i64 (x66 + 1)) h287))))))
   (X4_0_0 d a9 v0 v54 x57 H)
theorem L4_0_s (d : Nat) (a9 : List AV) (v0 v54 : AV) (x57 : Int) (n : Nat) (x62 x66 : Int) (H : Heap) : L4_0 d a9 v0 v54 x57 (n + 1) x62 x66 H = (cnd (decide (x66 < x57))
   (C0.hop H (.ixAS .any 7 (.v (.lst a9)) (.v (iz x66))) fun v139 h140 =>
   C0.hop h140 (.load true 7 (.v v139)) fun v141 h142 =>
   C0.agg 7 (some v141) fun l143 =>
   C0.int .i64 l143[0]? fun x144 =>
   C0.int .i64 l143[1]? fun x145 =>
   C0.int .i64 l143[2]? fun x146 =>
   C0.bool l143[3]? fun b147 =>
   C0.bool l143[4]? fun b148 =>
   C0.bool l143[5]? fun b149 =>
   C0.int .i64 l143[6]? fun x150 =>
   C0.hop h142 (.alloc E35) fun v151 h152 =>
   C0.hop h152 (.store 7 (.v v151) (.v (.agg [(iz x144), (iz x145), (iz x146), (.bool b147), (.bool b148), (.bool b149), (iz x150)]))) fun v153 h154 =>
   C0.cal M (pcall M d) 12 true 16 [v54] h154 fun v155 h156 =>
   C0.int .i64 (some v155) fun x157 =>
   C0.grow h156 [] fun n158 h159 =>
   C0.hop h159 (.fldA 6 (.v v151)) fun v160 h161 =>
   C0.hop h161 (.load false 1 (.v v160)) fun v162 h163 =>
   C0.int .i64 (some v162) fun x164 =>
   C0.hop h163 (.fldA 5 (.v v151)) fun v165 h166 =>
   C0.hop h166 (.load false 1 (.v v165)) fun v167 h168 =>
   C0.bool (some v167) fun b169 =>
   C0.cal M (pcall M d) 12 true 11 [v54, (iz x164), (.bool b169)] h168 fun v170 h171 =>
   C0.bool (some v170) fun b172 =>
   C0.hop h171 (.fldA 4 (.v v151)) fun v173 h174 =>
   C0.hop h174 (.load false 1 (.v v173)) fun v175 h176 =>
   C0.bool (some v175) fun b177 =>
   C0.keep h168 h171 [v173] <|
   C0.cal M (pcall M d) 12 true 13 [v54, (.bool b172), (.bool b177)] h176 fun v178 h179 =>
   C0.bool (some v178) fun b180 =>
   C0.cal M (pcall M d) 12 true 16 [v54] h179 fun v181 h182 =>
   C0.int .i64 (some v181) fun x183 =>
   cnd (xor true (b180 == (x183 == (IntKind.wrap .i64 (x157 + 1)))))
   (E4_0 d a9 v0 v54 x57 false h182)
   (cnd (!b180)
   (C0.cal M (pcall M d) 12 true 16 [v54] h182 fun v184 h185 =>
   C0.int .i64 (some v184) fun x186 =>
   cnd (x186 != x157)
   (E4_0 d a9 v0 v54 x57 false h185)
   (C0.grow h185 [] fun n187 h188 =>
   cnd b180
   (C0.hop h188 (.fldA 0 (.v v0)) fun v189 h190 =>
   C0.hop h190 (.load false 1 (.v v189)) fun v191 h192 =>
   C0.hop h192 (.ixAS .any 5 (.v v191) (.v (iz x157))) fun v193 h194 =>
   C0.hop h194 (.fldA 3 (.v v193)) fun v195 h196 =>
   C0.hop h196 (.load false 1 (.v v195)) fun v197 h198 =>
   C0.int .i64 (some v197) fun x199 =>
   cnd (decide (x62 < x199))
   (E4_0 d a9 v0 v54 x57 false h198)
   (C0.hop h198 (.fldA 6 (.v v151)) fun v200 h201 =>
   C0.hop h201 (.load false 1 (.v v200)) fun v202 h203 =>
   C0.int .i64 (some v202) fun x204 =>
   C0.hop h203 (.fldA 0 (.v v0)) fun v205 h206 =>
   C0.hop h206 (.load false 1 (.v v205)) fun v207 h208 =>
   C0.hop h208 (.ixAS .any 5 (.v v207) (.v (iz x157))) fun v209 h210 =>
   C0.hop h210 (.fldA 4 (.v v209)) fun v211 h212 =>
   C0.hop h212 (.load false 1 (.v v211)) fun v213 h214 =>
   C0.int .i64 (some v213) fun x215 =>
   cnd (decide (x204 < x215))
   (E4_0 d a9 v0 v54 x57 false h214)
   (C0.hop h214 (.fldA 5 (.v v151)) fun v216 h217 =>
   C0.hop h217 (.load false 1 (.v v216)) fun v218 h219 =>
   C0.bool (some v218) fun b220 =>
   cnd (!b220)
   (E4_0 d a9 v0 v54 x57 false h219)
   (C0.hop h219 (.fldA 4 (.v v151)) fun v221 h222 =>
   C0.hop h222 (.load false 1 (.v v221)) fun v223 h224 =>
   C0.bool (some v223) fun b225 =>
   cnd (!b225)
   (E4_0 d a9 v0 v54 x57 false h224)
   (cnd b180
   (C0.cal M (pcall M d) 12 true 17 [v54] h224 fun v226 h227 =>
   C0.int .i64 (some v226) fun x228 =>
   cnd (x228 != 0)
   (E4_0 d a9 v0 v54 x57 false h227)
   (L4_0 d a9 v0 v54 x57 n 0 (IntKind.wrap .i64 (x66 + 1)) h227))
   (C0.cal M (pcall M d) 12 true 17 [v54] h224 fun v229 h230 =>
   C0.int .i64 (some v229) fun x231 =>
   cnd (x231 != (IntKind.wrap .i64 (x62 + 1)))
   (E4_0 d a9 v0 v54 x57 false h230)
   (L4_0 d a9 v0 v54 x57 n (IntKind.wrap .i64 (x62 + 1)) (IntKind.wrap .i64 (x66 + 1)) h230)))))))
   (cnd b180
   (C0.cal M (pcall M d) 12 true 17 [v54] h188 fun v232 h233 =>
   C0.int .i64 (some v232) fun x234 =>
   cnd (x234 != 0)
   (E4_0 d a9 v0 v54 x57 false h233)
   (L4_0 d a9 v0 v54 x57 n 0 (IntKind.wrap .i64 (x66 + 1)) h233))
   (C0.cal M (pcall M d) 12 true 17 [v54] h188 fun v235 h236 =>
   C0.int .i64 (some v235) fun x237 =>
   cnd (x237 != (IntKind.wrap .i64 (x62 + 1)))
   (E4_0 d a9 v0 v54 x57 false h236)
   (L4_0 d a9 v0 v54 x57 n (IntKind.wrap .i64 (x62 + 1)) (IntKind.wrap .i64 (x66 + 1)) h236)))))
   (C0.grow h182 [] fun n238 h239 =>
   cnd b180
   (C0.hop h239 (.fldA 0 (.v v0)) fun v240 h241 =>
   C0.hop h241 (.load false 1 (.v v240)) fun v242 h243 =>
   C0.hop h243 (.ixAS .any 5 (.v v242) (.v (iz x157))) fun v244 h245 =>
   C0.hop h245 (.fldA 3 (.v v244)) fun v246 h247 =>
   C0.hop h247 (.load false 1 (.v v246)) fun v248 h249 =>
   C0.int .i64 (some v248) fun x250 =>
   cnd (decide (x62 < x250))
   (E4_0 d a9 v0 v54 x57 false h249)
   (C0.hop h249 (.fldA 6 (.v v151)) fun v251 h252 =>
   C0.hop h252 (.load false 1 (.v v251)) fun v253 h254 =>
   C0.int .i64 (some v253) fun x255 =>
   C0.hop h254 (.fldA 0 (.v v0)) fun v256 h257 =>
   C0.hop h257 (.load false 1 (.v v256)) fun v258 h259 =>
   C0.hop h259 (.ixAS .any 5 (.v v258) (.v (iz x157))) fun v260 h261 =>
   C0.hop h261 (.fldA 4 (.v v260)) fun v262 h263 =>
   C0.hop h263 (.load false 1 (.v v262)) fun v264 h265 =>
   C0.int .i64 (some v264) fun x266 =>
   cnd (decide (x255 < x266))
   (E4_0 d a9 v0 v54 x57 false h265)
   (C0.hop h265 (.fldA 5 (.v v151)) fun v267 h268 =>
   C0.hop h268 (.load false 1 (.v v267)) fun v269 h270 =>
   C0.bool (some v269) fun b271 =>
   cnd (!b271)
   (E4_0 d a9 v0 v54 x57 false h270)
   (C0.hop h270 (.fldA 4 (.v v151)) fun v272 h273 =>
   C0.hop h273 (.load false 1 (.v v272)) fun v274 h275 =>
   C0.bool (some v274) fun b276 =>
   cnd (!b276)
   (E4_0 d a9 v0 v54 x57 false h275)
   (cnd b180
   (C0.cal M (pcall M d) 12 true 17 [v54] h275 fun v277 h278 =>
   C0.int .i64 (some v277) fun x279 =>
   cnd (x279 != 0)
   (E4_0 d a9 v0 v54 x57 false h278)
   (L4_0 d a9 v0 v54 x57 n 0 (IntKind.wrap .i64 (x66 + 1)) h278))
   (C0.cal M (pcall M d) 12 true 17 [v54] h275 fun v280 h281 =>
   C0.int .i64 (some v280) fun x282 =>
   cnd (x282 != (IntKind.wrap .i64 (x62 + 1)))
   (E4_0 d a9 v0 v54 x57 false h281)
   (L4_0 d a9 v0 v54 x57 n (IntKind.wrap .i64 (x62 + 1)) (IntKind.wrap .i64 (x66 + 1)) h281)))))))
   (cnd b180
   (C0.cal M (pcall M d) 12 true 17 [v54] h239 fun v283 h284 =>
   C0.int .i64 (some v283) fun x285 =>
   cnd (x285 != 0)
   (E4_0 d a9 v0 v54 x57 false h284)
   (L4_0 d a9 v0 v54 x57 n 0 (IntKind.wrap .i64 (x66 + 1)) h284))
   (C0.cal M (pcall M d) 12 true 17 [v54] h239 fun v286 h287 =>
   C0.int .i64 (some v286) fun x288 =>
   cnd (x288 != (IntKind.wrap .i64 (x62 + 1)))
   (E4_0 d a9 v0 v54 x57 false h287)
   (L4_0 d a9 v0 v54 x57 n (IntKind.wrap .i64 (x62 + 1)) (IntKind.wrap .i64 (x66 + 1)) h287))))))
   (X4_0_0 d a9 v0 v54 x57 H)) := by kernel_rfl
theorem it4_0 (d : Nat) (a0 : List AV) (a1 a2 a3 a4 a5 a6 a7 a8 : Int) (a9 : List AV) (v0 : AV) (b2 : Bool) (v7 : AV) (x8 x9 x10 x11 x12 x13 x14 x15 : Int) (b18 : Bool) (v23 : AV) (x24 x25 x26 x27 x28 x29 x30 x31 x34 x38 : Int) (v43 : AV) (x44 x45 x46 x47 x48 x49 x50 x51 : Int) (v54 : AV) (x57 : Int)   : ∀ (n : Nat) (b61 : Bool) (x62 : Int) (v63 v64 v65 : AV) (x66 : Int) (v67 v68 v69 v70 v71 v72 v73 v74 v75 v76 v77 v78 v79 v80 v81 v82 v83 v84 v85 v86 v87 v88 v89 v90 v91 v92 v93 v94 v95 v96 v97 v98 v99 v100 v101 v102 v103 v104 v105 v106 v107 v108 v109 v110 v111 v112 v113 v114 v115 v116 v117 v118 v119 v120 v121 v122 v123 v124 v125 v126 v127 v128 v129 v130 v131 v132 v133 v134 v135 v136 v137 v138 : AV) (H : Heap), C0.iter (r4R0 C0 d a0 a1 a2 a3 a4 a5 a6 a7 a8 a9 v0 b2 v7 x8 x9 x10 x11 x12 x13 x14 x15 b18 v23 x24 x25 x26 x27 x28 x29 x30 x31 x34 x38 v43 x44 x45 x46 x47 x48 x49 x50 x51 v54 x57) n ⟨[(.agg [(.lst a0), (iz a1), (iz a2), (iz a3), (iz a4), (iz a5), (iz a6), (iz a7), (iz a8)]), (.lst a9), v0, tz, (.bool b61), v54, (iz x62), tz, v63, v64, v65, (.bool b2), (.bool (!b2)), bf, (.agg [v7, (iz x8), (iz x9), (iz x10), (iz x11), (iz x12), (iz x13), (iz x14), (iz x15)]), (.bool b18), (.bool (!b18)), (.bool (!b18)), bf, (.agg [v23, (iz x24), (iz x25), (iz x26), (iz x27), (iz x28), (iz x29), (iz x30), (iz x31)]), (iz x34), (.bool (x34 != 0)), (.bool (x34 != 0)), bf, (.lst a9), (iz x38), (.bool (decide (x38 > 200))), bf, tz, (.agg [v43, (iz x44), (iz x45), (iz x46), (iz x47), (iz x48), (iz x49), (iz x50), (iz x51)]), v54, (.lst a9), (iz x57), (iz x66), v67, v68, v69, v70, v71, v72, v73, v74, v75, v76, v77, v78, v79, v80, v81, v82, v83, v84, v85, v86, v87, v88, v89, v90, v91, v92, v93, v94, v95, v96, v97, v98, v99, v100, v101, v102, v103, v104, v105, v106, v107, v108, v109, v110, v111, v112, v113, v114, v115, v116, v117, v118, v119, v120, v121, v122, v123, v124, v125, v126, v127, v128, v129, v130, v131, v132, v133, v134, v135, v136, v137, v138], H⟩ [0] [r4X0_0 C0 d a0 a1 a2 a3 a4 a5 a6 a7 a8 a9 v0 b2 v7 x8 x9 x10 x11 x12 x13 x14 x15 b18 v23 x24 x25 x26 x27 x28 x29 x30 x31 x34 x38 v43 x44 x45 x46 x47 x48 x49 x50 x51 v54 x57] (r4E0 C0 d a0 a1 a2 a3 a4 a5 a6 a7 a8 a9 v0 b2 v7 x8 x9 x10 x11 x12 x13 x14 x15 b18 v23 x24 x25 x26 x27 x28 x29 x30 x31 x34 x38 v43 x44 x45 x46 x47 x48 x49 x50 x51 v54 x57) = L4_0 d a9 v0 v54 x57 n x62 x66 H := by
  generalize hR : r4R0 C0 d a0 a1 a2 a3 a4 a5 a6 a7 a8 a9 v0 b2 v7 x8 x9 x10 x11 x12 x13 x14 x15 b18 v23 x24 x25 x26 x27 x28 x29 x30 x31 x34 x38 v43 x44 x45 x46 x47 x48 x49 x50 x51 v54 x57 = R
  intro n
  induction n with
  | zero => intros; rfl
  | succ n ih =>
    intro b61 x62 v63 v64 v65 x66 v67 v68 v69 v70 v71 v72 v73 v74 v75 v76 v77 v78 v79 v80 v81 v82 v83 v84 v85 v86 v87 v88 v89 v90 v91 v92 v93 v94 v95 v96 v97 v98 v99 v100 v101 v102 v103 v104 v105 v106 v107 v108 v109 v110 v111 v112 v113 v114 v115 v116 v117 v118 v119 v120 v121 v122 v123 v124 v125 v126 v127 v128 v129 v130 v131 v132 v133 v134 v135 v136 v137 v138 H
    simp only [it_ret] at ih
    rw [it_ret, xiter_s]
    refine Eq.trans (congrFun (congrFun hR.symm _) _) ?_
    unfold r4R0
    refine Eq.trans (pl_len (by rfl)) ?_; (iterate 4 (refine yt yS ?_)); refine yt yB ?_; refine yt yS ?_; refine yt yI ?_; refine yt yS ?_; (iterate 3 (refine yt yA ?_)); (iterate 22 (refine yt yS ?_)); refine yt yI ?_; (iterate 72 (refine yt yA ?_))
    simp only [kIter_n, kIter_x, kIter_r, kOut_x, kOut_r, xgo_hit, xgo_miss, ih, X4_0_0_ok d a0 a1 a2 a3 a4 a5 a6 a7 a8 a9 v0 b2 v7 x8 x9 x10 x11 x12 x13 x14 x15 b18 v23 x24 x25 x26 x27 x28 x29 x30 x31 x34 x38 v43 x44 x45 x46 x47 x48 x49 x50 x51 v54 x57  , E4_0_ok d a0 a1 a2 a3 a4 a5 a6 a7 a8 a9 v0 b2 v7 x8 x9 x10 x11 x12 x13 x14 x15 b18 v23 x24 x25 x26 x27 x28 x29 x30 x31 x34 x38 v43 x44 x45 x46 x47 x48 x49 x50 x51 v54 x57  ]
    exact (L4_0_s d a9 v0 v54 x57 n x62 x66 H).symm
/-- apogee/apogeelaw21.PhaseSlow -/
theorem q4 (d : Nat) (a0 : List AV) (a1 a2 a3 a4 a5 a6 a7 a8 : Int) (a9 : List AV) : xcall C0 M unr d 4 [(.agg [(.lst a0), (iz a1), (iz a2), (iz a3), (iz a4), (iz a5), (iz a6), (iz a7), (iz a8)]), (.lst a9)] =
  C0.hop [] (.box E24 (.v (.agg [(.lst a0), (iz a1), (iz a2), (iz a3), (iz a4), (iz a5), (iz a6), (iz a7), (iz a8)]))) fun v0 h1 =>
  C0.bool (pcall M d 7 []) fun b2 =>
  cnd (!b2)
   (C0.bool (pcall M d 7 []) fun b3 =>
   C0.fin h1 (.bool b3))
   (C0.hop h1 (.load true 9 (.v v0)) fun v4 h5 =>
   C0.agg 9 (some v4) fun l6 =>
   C0.any l6[0]? fun v7 =>
   C0.int .i64 l6[1]? fun x8 =>
   C0.int .i64 l6[2]? fun x9 =>
   C0.int .i64 l6[3]? fun x10 =>
   C0.int .i64 l6[4]? fun x11 =>
   C0.int .i64 l6[5]? fun x12 =>
   C0.int .i64 l6[6]? fun x13 =>
   C0.int .i64 l6[7]? fun x14 =>
   C0.int .i64 l6[8]? fun x15 =>
   C0.snp h5 [(.agg [v7, (iz x8), (iz x9), (iz x10), (iz x11), (iz x12), (iz x13), (iz x14), (iz x15)])] fun l16 b17 =>
   C0.bool (pcall M d 8 l16) fun b18 =>
   cnd (b17 || true)
   (cnd (!b18)
   (C0.bool (pcall M d 7 []) fun b19 =>
   C0.fin h5 (.bool b19))
   (C0.hop h5 (.load true 9 (.v v0)) fun v20 h21 =>
   C0.agg 9 (some v20) fun l22 =>
   C0.any l22[0]? fun v23 =>
   C0.int .i64 l22[1]? fun x24 =>
   C0.int .i64 l22[2]? fun x25 =>
   C0.int .i64 l22[3]? fun x26 =>
   C0.int .i64 l22[4]? fun x27 =>
   C0.int .i64 l22[5]? fun x28 =>
   C0.int .i64 l22[6]? fun x29 =>
   C0.int .i64 l22[7]? fun x30 =>
   C0.int .i64 l22[8]? fun x31 =>
   C0.snp h21 [(.agg [v23, (iz x24), (iz x25), (iz x26), (iz x27), (iz x28), (iz x29), (iz x30), (iz x31)])] fun l32 b33 =>
   C0.int .i64 (pcall M d 10 l32) fun x34 =>
   cnd (b33 || true)
   (cnd (x34 != 0)
   (C0.bool (pcall M d 7 []) fun b35 =>
   C0.fin h21 (.bool b35))
   (C0.hop h21 (.bk .lenV [(.v (.lst a9))]) fun v36 h37 =>
   C0.int .i64 (some v36) fun x38 =>
   cnd (decide (x38 > 200))
   (C0.bool (pcall M d 7 []) fun b39 =>
   C0.fin h37 (.bool b39))
   (C0.hop h37 (.load true 9 (.v v0)) fun v40 h41 =>
   C0.agg 9 (some v40) fun l42 =>
   C0.any l42[0]? fun v43 =>
   C0.int .i64 l42[1]? fun x44 =>
   C0.int .i64 l42[2]? fun x45 =>
   C0.int .i64 l42[3]? fun x46 =>
   C0.int .i64 l42[4]? fun x47 =>
   C0.int .i64 l42[5]? fun x48 =>
   C0.int .i64 l42[6]? fun x49 =>
   C0.int .i64 l42[7]? fun x50 =>
   C0.int .i64 l42[8]? fun x51 =>
   C0.cal M (pcall M d) 12 true 9 [(.agg [v43, (iz x44), (iz x45), (iz x46), (iz x47), (iz x48), (iz x49), (iz x50), (iz x51)])] h41 fun v52 h53 =>
   C0.any (some v52) fun v54 =>
   C0.hop h53 (.bk .lenV [(.v (.lst a9))]) fun v55 h56 =>
   C0.int .i64 (some v55) fun x57 =>
   L4_0 d a9 v0 v54 x57 10000000000000000000 0 0 h56)))
   (none)))
   (none)) := (r4 C0 d a0 a1 a2 a3 a4 a5 a6 a7 a8 a9).trans (by simp only [it4_0])
end Go.Proofs.Ytdceaeifcniabaa.AE

namespace Go.Proofs.Ytdceaeifcniabaa.AE
set_option linter.unusedVariables false
set_option linter.unusedSimpArgs false
set_option linter.constructorNameAsVariable false
open Go Go.Proofs.Ytdceaeifcniabaa.Geo
set_option maxRecDepth 100000
attribute [local irreducible] pcall C0 callB
theorem slow_go (r : Rul) (ops : List Op21) (hl : ops.length ≤ 200) (hps : ∀ p ∈ r.phs, p.ps ≠ [] ∧ p.ps.length ≤ 1000000) (id cid lo hi : Nat) (v : AV) (hid : 0 < id) (hcid : 0 < cid) : ∀ (k i : Nat), i + k = ops.length → ∀ f, k < f → ∀ (H : Heap) (ph c : Nat), c ≤ i → hget H 0 = some ⟨E24, [rl r]⟩ → Mach H id cid lo hi v r ph (c : Nat) →
    L4_0 40 (ops.map opA) (.ptr 0 0 0) (.ptr id 0 0) (ops.length : Nat) f (c : Nat) (i : Nat) H = some (.bool true)
  | 0, i, h, f + 1, _, H, ph, c, _, _, _ => by
    rw [L4_0_s, decide_eq_false (by omega), cnd_f]
    exact fin_bl
  | k + 1, i, h, f + 1, hf, H, ph, c, hci, hz, hm => by
    have hi' : i < ops.length := by omega
    have hw : IntKind.wrap .i64 (((i : Nat) : Int) + 1) = ((i + 1 : Nat) : Int) := by rw [i64w]; omega
    have hw2 : IntKind.wrap .i64 (((ph : Nat) : Int) + 1) = ((ph + 1 : Nat) : Int) := by have := hm.p; have := hm.len; rw [i64w]; omega
    have hw3 : IntKind.wrap .i64 (((c : Nat) : Int) + 1) = ((c + 1 : Nat) : Int) := by rw [i64w]; omega
    rw [L4_0_s, decide_eq_true (by omega), cnd_t]
    refine Eq.trans (ix_lst (x := opA ops[i]) (by omega) (by rw [show (((i : Nat) : Int)).toNat = i by omega]; exact ops_at hi') rfl) ?_
    refine Eq.trans (ld_fptr (v := opA ops[i]) rfl) ?_
    generalize ops[i] = o
    refine Eq.trans (pl_agg (by rfl) (by rfl)) ?_; refine Eq.trans (pl_int (by rfl)) ?_; refine Eq.trans (pl_int (by rfl)) ?_; refine Eq.trans (pl_int (by rfl)) ?_; refine Eq.trans (pl_bool (by rfl)) ?_; refine Eq.trans (pl_bool (by rfl)) ?_; refine Eq.trans (pl_bool (by rfl)) ?_; refine Eq.trans (pl_int (by rfl)) ?_
    refine Eq.trans (al_stA rfl) ?_
    let H1 := H ++ [some ⟨E35, [opA o]⟩]
    have eo : hget H1 H.length = some ⟨E35, [opA o]⟩ := hget_new
    have x1 : Ext H H1 := Ext.app _ _
    have m1 := mach_ext hm x1
    have hidl := hg_lt hm.m
    have hcl := hg_lt hm.k
    obtain ⟨p1, p2⟩ := hps _ (List.getElem_mem hm.p)
    obtain ⟨H2, w1, x2⟩ := m_wish 40 0 o.h o.w m1 p1 p2
    have m2 := mach_ext m1 x2
    obtain ⟨H3, y1, m3, x3⟩ := m_cycle 40 1 (wishX r ph hm.p c o.h o.w) o.t m2
    have z2 := x2 _ _ (x1 _ _ hz)
    have z3 := x3 _ _ (by omega) (by omega) z2
    have o2 := x2 _ _ eo
    have o3 := x3 _ _ (by omega) (by omega) o2
    refine Eq.trans (cal_eq (m_phase 40 3 m1)) ?_
    refine Eq.trans (pl_int (by rfl)) ?_
    refine Eq.trans gr_nil ?_
    refine Eq.trans sh_ptr ?_
    refine Eq.trans (ld_ptr (v := .int .i64 o.h) eo rfl rfl) ?_
    refine Eq.trans (pl_int (by rfl)) ?_
    refine Eq.trans sh_ptr ?_
    refine Eq.trans (ld_ptr (v := .bool o.w) eo rfl rfl) ?_
    refine Eq.trans (pl_bool (by rfl)) ?_
    refine Eq.trans (cal_eq w1) ?_
    refine Eq.trans (pl_bool (by rfl)) ?_
    refine Eq.trans sh_ptr ?_
    refine Eq.trans (ld_ptr (v := .bool o.t) o2 rfl rfl) ?_
    refine Eq.trans (pl_bool (by rfl)) ?_
    refine Eq.trans (keep_g eo o2) ?_
    refine Eq.trans (cal_eq y1) ?_
    refine Eq.trans (pl_bool (by rfl)) ?_
    refine Eq.trans (cal_eq (m_phase 40 3 m3)) ?_
    refine Eq.trans (pl_int (by rfl)) ?_
    rw [hw2]
    by_cases hgo : wishX r ph hm.p c o.h o.w = true ∧ o.t = true ∧ ¬ ph + 1 = r.phs.length
    · obtain ⟨g1, g2, g3⟩ := hgo
      have e : stepP r ph c (wishX r ph hm.p c o.h o.w) o.t = (true, ph + 1, 0) := by
        unfold stepP; rw [g1, g2, decide_eq_false g3]; rfl
      rw [e] at m3 ⊢
      have q := g1
      unfold wishX at q
      simp only [Bool.and_eq_true, Bool.not_eq_true', decide_eq_false_iff_not, decide_eq_true_eq] at q
      obtain ⟨q1, q2, q3, q4⟩ := q
      have hp := hm.p
      refine Eq.trans (pl_f (by simp)) ?_
      refine Eq.trans (pl_f rfl) ?_
      refine Eq.trans gr_nil ?_
      refine Eq.trans (pl_len rfl) ?_
      refine Eq.trans sh_ptr ?_
      refine Eq.trans (ld_ptr (v := .lst (r.phs.map phA)) z3 rfl rfl) ?_
      refine Eq.trans (ix_lst (x := phA r.phs[ph]) (by omega) (by rw [show (((ph : Nat) : Int)).toNat = ph by omega]; exact phs_at hp) rfl) ?_
      refine Eq.trans sh_fptr ?_
      refine Eq.trans (ld_fptr (v := .int .i64 (r.phs[ph]).m) rfl) ?_
      refine Eq.trans (pl_int (by rfl)) ?_
      rw [decide_eq_false (by omega), cnd_f]
      refine Eq.trans sh_ptr ?_
      refine Eq.trans (ld_ptr (v := .int .i64 o.h) o3 rfl rfl) ?_
      refine Eq.trans (pl_int (by rfl)) ?_
      refine Eq.trans sh_ptr ?_
      refine Eq.trans (ld_ptr (v := .lst (r.phs.map phA)) z3 rfl rfl) ?_
      refine Eq.trans (ix_lst (x := phA r.phs[ph]) (by omega) (by rw [show (((ph : Nat) : Int)).toNat = ph by omega]; exact phs_at hp) rfl) ?_
      refine Eq.trans sh_fptr ?_
      refine Eq.trans (ld_fptr (v := .int .i64 (r.phs[ph]).u) rfl) ?_
      refine Eq.trans (pl_int (by rfl)) ?_
      rw [decide_eq_false (by omega), cnd_f]
      refine Eq.trans sh_ptr ?_
      refine Eq.trans (ld_ptr (v := .bool o.w) o3 rfl rfl) ?_
      refine Eq.trans (pl_bool (by rfl)) ?_
      refine Eq.trans (pl_f (by rw [q1]; rfl)) ?_
      refine Eq.trans sh_ptr ?_
      refine Eq.trans (ld_ptr (v := .bool o.t) o3 rfl rfl) ?_
      refine Eq.trans (pl_bool (by rfl)) ?_
      refine Eq.trans (pl_f (by rw [g2]; rfl)) ?_
      rw [cnd_t]
      refine Eq.trans (cal_eq (m_in 40 2 m3)) ?_
      refine Eq.trans (pl_int (by rfl)) ?_
      refine Eq.trans (pl_f rfl) ?_
      rw [hw]
      exact slow_go r ops hl hps id cid lo hi v hid hcid k (i + 1) (by omega) f (by omega) H3 (ph + 1) 0 (by omega) z3 m3
    · have e : stepP r ph c (wishX r ph hm.p c o.h o.w) o.t = (false, ph, ((c + 1 : Nat) : Int)) := by
        unfold stepP
        have : (wishX r ph hm.p c o.h o.w && (o.t && !decide (ph + 1 = r.phs.length))) = false := by
          cases hx : (wishX r ph hm.p c o.h o.w && (o.t && !decide (ph + 1 = r.phs.length))) with
          | false => rfl
          | true =>
            simp only [Bool.and_eq_true, Bool.not_eq_true', decide_eq_false_iff_not] at hx
            exact absurd ⟨hx.1, hx.2.1, hx.2.2⟩ hgo
        rw [this, cond_false, if_neg (by omega)]
        rfl
      rw [e] at m3 ⊢
      refine Eq.trans (pl_f (by
        have : (((ph : Nat) : Int) == ((ph + 1 : Nat) : Int)) = false := beq_eq_false_iff_ne.mpr (by omega)
        rw [this]; rfl)) ?_
      refine Eq.trans (pl_len rfl) ?_
      refine Eq.trans (cal_eq (m_phase 40 3 m3)) ?_
      refine Eq.trans (pl_int (by rfl)) ?_
      refine Eq.trans (pl_f (by simp)) ?_
      refine Eq.trans gr_nil ?_
      refine Eq.trans (pl_f rfl) ?_
      refine Eq.trans (pl_f rfl) ?_
      refine Eq.trans (cal_eq (m_in 40 2 m3)) ?_
      refine Eq.trans (pl_int (by rfl)) ?_
      rw [hw3]
      refine Eq.trans (pl_f (by simp)) ?_
      rw [hw]
      exact slow_go r ops hl hps id cid lo hi v hid hcid k (i + 1) (by omega) f (by omega) H3 ph (c + 1) (by omega) z3 m3
theorem slow_law (r : Rul) (ops : List Op21) (hl : r.phs.length ≤ 9223372036854775807) : pcall M 41 4 [rl r, .lst (ops.map opA)] = some (.bool true) := told (q4 40 _ _ _ _ _ _ _ _ _ _) (by
  let Z : Heap := [some ⟨E24, [rl r]⟩]
  have hz : hget Z 0 = some ⟨E24, [rl r]⟩ := rfl
  refine Eq.trans (hop_eq (v := .ptr 0 0 0) (H' := Z) (by rfl)) ?_
  refine Eq.trans (pl_bool awake) ?_
  refine Eq.trans (pl_f (by rfl)) ?_
  refine Eq.trans (ld_ptr (v := rl r) hz rfl rfl) ?_
  refine Eq.trans (pl_agg (by rfl) (by rfl)) ?_; refine Eq.trans (pl_any (by rfl)) ?_; refine Eq.trans (pl_int (by rfl)) ?_; refine Eq.trans (pl_int (by rfl)) ?_; refine Eq.trans (pl_int (by rfl)) ?_; refine Eq.trans (pl_int (by rfl)) ?_; refine Eq.trans (pl_int (by rfl)) ?_; refine Eq.trans (pl_int (by rfl)) ?_; refine Eq.trans (pl_int (by rfl)) ?_; refine Eq.trans (pl_int (by rfl)) ?_
  refine Eq.trans (snp_free (by rfl)) ?_
  refine Eq.trans (pl_bool (s8 39 r hl)) ?_
  refine Eq.trans (pl_len (by rfl)) ?_
  by_cases hf : fewX r.phs = true
  rotate_left
  · refine Eq.trans (pl_len (by rw [Bool.eq_false_iff.mpr hf]; rfl)) ?_
    refine Eq.trans (pl_bool awake) ?_
    exact fin_bl
  refine Eq.trans (pl_f (by rw [hf]; rfl)) ?_
  obtain ⟨f1, f2⟩ := few_t hf
  have ha : ∀ p ∈ r.phs, p.ps.length ≤ 140737488355328 := fun p hp => by have := f1 p hp; omega
  refine Eq.trans (ld_ptr (v := rl r) hz rfl rfl) ?_
  refine Eq.trans (pl_agg (by rfl) (by rfl)) ?_; refine Eq.trans (pl_any (by rfl)) ?_; refine Eq.trans (pl_int (by rfl)) ?_; refine Eq.trans (pl_int (by rfl)) ?_; refine Eq.trans (pl_int (by rfl)) ?_; refine Eq.trans (pl_int (by rfl)) ?_; refine Eq.trans (pl_int (by rfl)) ?_; refine Eq.trans (pl_int (by rfl)) ?_; refine Eq.trans (pl_int (by rfl)) ?_; refine Eq.trans (pl_int (by rfl)) ?_
  refine Eq.trans (snp_free (by rfl)) ?_
  refine Eq.trans (pl_int (s10 29 r (by omega) ha)) ?_
  refine Eq.trans (pl_len (by rfl)) ?_
  by_cases hw : wrongX r = 0
  rotate_left
  · refine Eq.trans (pl_len (by simpa using hw)) ?_
    refine Eq.trans (pl_bool awake) ?_
    exact fin_bl
  refine Eq.trans (pl_f (by simp [hw])) ?_
  refine Eq.trans len_lst ?_
  refine Eq.trans (pl_int (by rfl)) ?_
  rw [List.length_map]
  by_cases hn : ops.length ≤ 200
  rotate_left
  · rw [decide_eq_true (by omega), cnd_t]
    refine Eq.trans (pl_bool awake) ?_
    exact fin_bl
  rw [decide_eq_false (by omega), cnd_f]
  refine Eq.trans (ld_ptr (v := rl r) hz rfl rfl) ?_
  refine Eq.trans (pl_agg (by rfl) (by rfl)) ?_; refine Eq.trans (pl_any (by rfl)) ?_; refine Eq.trans (pl_int (by rfl)) ?_; refine Eq.trans (pl_int (by rfl)) ?_; refine Eq.trans (pl_int (by rfl)) ?_; refine Eq.trans (pl_int (by rfl)) ?_; refine Eq.trans (pl_int (by rfl)) ?_; refine Eq.trans (pl_int (by rfl)) ?_; refine Eq.trans (pl_int (by rfl)) ?_; refine Eq.trans (pl_int (by rfl)) ?_
  obtain ⟨w1, w2⟩ := wrong_ph hw
  obtain ⟨id, cid, lo, hi, v, H', e1, e2, e3, e4, e5, e6⟩ := new_ok r Z (by omega) (fun p hp => by have := f1 p hp; omega) (by omega) hw
  refine Eq.trans (cal_eq e1) ?_
  refine Eq.trans (pl_any (by rfl)) ?_
  refine Eq.trans len_lst ?_
  refine Eq.trans (pl_int (by rfl)) ?_
  rw [List.length_map]
  exact slow_go r ops hn (fun p hp => ⟨w2 p hp, by have := f1 p hp; omega⟩) id cid lo hi v (by omega) (by omega) ops.length 0 (by omega) 10000000000000000000 (by omega) H' 0 0 (Nat.le_refl _) (e2 _ _ hz) e3)
theorem law_PhaseSlow (a0 : AV) (a1 : AV) (w0 : TyOK true [(.sl true [(.sl true [(.i .i64), (.i .i64)]), (.i .i64), (.i .i64), (.i .i64), (.i .i64)]), (.i .i64), (.i .i64), (.i .i64), (.i .i64), (.i .i64), (.i .i64), (.i .i64), (.i .i64)] a0) (w1 : TyOK false [(.sl true [(.i .i64), (.i .i64), (.i .i64), .b, .b, .b, (.i .i64)])] a1) :
    pcall M 41 4 [a0, a1] = some (.bool true) := by
  obtain ⟨r, rfl, hl⟩ := ty_rul w0
  obtain ⟨_, rfl, _, _, e, ⟨l, rfl, hl', hx⟩, rfl⟩ := w1
  obtain ⟨ops, rfl⟩ := rows_op l hx
  injection e with e _
  subst e
  exact slow_law r ops hl
end Go.Proofs.Ytdceaeifcniabaa.AE

namespace Go.Proofs.Ytdceaeifcniabaa.AE
set_option linter.unusedVariables false
set_option linter.unusedSimpArgs false
set_option linter.constructorNameAsVariable false
open Go Go.RowKit

theorem frl_nil {w : World} {bad : Nat → Prop} : ∀ (i : Nat) (c : AV) (u : Value), ([] : List AV)[i]? = some c → ([] : List Value)[i]? = some u → FRep w bad c u := fun _ _ _ h => by cases h
theorem frl_cons {w : World} {bad : Nat → Prop} {c0 : AV} {u0 : Value} {cs : List AV} {us : List Value} (h0 : FRep w bad c0 u0) (h : ∀ (i : Nat) (c : AV) (u : Value), cs[i]? = some c → us[i]? = some u → FRep w bad c u) :
    ∀ (i : Nat) (c : AV) (u : Value), (c0 :: cs)[i]? = some c → (u0 :: us)[i]? = some u → FRep w bad c u
  | 0, c, u, hc, hu => by cases hc; cases hu; exact h0
  | i + 1, c, u, hc, hu => h i c u hc hu
theorem law_calls {d : Nat} {g : FuncId} {args : List AV} {vs : List Value} (h : pcall M d g args = some (.bool true)) (W : World) (hl : args.length = vs.length)
    (hr : ∀ (i : Nat) (c : AV) (u : Value), args[i]? = some c → vs[i]? = some u → FRep W (fun _ => False) c u) (hc : (cFn Try.prog g).isSome = true := by kernel_rfl) : Calls Try.prog g vs.toArray W fun e W' => e = .returned (.bool true) ∧ Below W.heap.size W W' := by
  obtain ⟨fn, hfn⟩ := Option.isSome_iff_exists.mp hc
  rcases pcall_law modOK d g args _ h W (fun _ => False) vs (fun _ h => h.elim) hl hr with ⟨cv, w', h1, _⟩ | ⟨_, h2⟩
  · rw [enter_run hfn] at h1; cases h1
  · refine h2.mono ?_
    rintro e W' ⟨cv, rfl, hf, hb⟩
    cases hf
    exact ⟨rfl, hb⟩
theorem str_size {w : World} {bad : Nat → Prop} {b : List UInt8} {s : ByteArray} (h : FRep w bad (.str b) (.string s)) : s.data.toList.length = b.length := by
  cases h
  rfl
end Go.Proofs.Ytdceaeifcniabaa.AE
