/- The texts that the seat's laws need, part 3. No conditions. -/
import Derived.Test.YtbmedgpiphibaaaMc2
namespace Go.Proofs.Ytbmedgpiphibaaa.AE
set_option linter.unusedVariables false
set_option linter.unusedSimpArgs false
set_option linter.constructorNameAsVariable false
open Go
set_option maxRecDepth 100000
set_option maxHeartbeats 0
noncomputable def X10_1_0 (d:Nat) (x90:Int) (v182:AV) (x186:Int) (k85N:AV→Int→Heap→Ans) (v231:AV) (H:Heap):Ans :=
 k85N v231 (IntKind.wrap .i64 (x90+1)) H
theorem X10_1_0_ok (d:Nat) (a0:List AV) (a1 a2 a3 a4 a5 a6 a7 a8:Int) (v0 v5:AV) (x6 x7 x8 x9 x10 x11 x12 x13:Int) (b16:Bool) (v17 v19 v21 v23:AV) (x27:Int) (v28:AV) (x32:Int) (v33:AV) (x37:Int) (v38:AV) (x42:Int) (v43:AV) (x47:Int) (v48:AV) (x52:Int) (v53 v55 v57:AV) (x61:Int) (v62:AV) (x66:Int) (v67:AV) (x71:Int) (v72 v76 v77 v79:AV) (x83:Int) (k85:Ex→St→Ans) (v87:AV) (x90:Int) (v127 v128 v133:AV) (x134 x135 x136 x137:Int) (v138 v144 v146:AV) (x150:Int) (v151:AV) (x155:Int) (v156 v158 v160:AV) (x164:Int) (v165:AV) (x169:Int) (v170:AV) (x174:Int) (v175 v179 v180 v182:AV) (x186:Int) (k85N:AV→Int→Heap→Ans) (hk85N:∀ (v87 v88 v89:AV) (x90:Int) (v91 v92 v93 v94 v95 v96 v97 v98 v99 v100 v101 v102 v103 v104 v105 v106 v107 v108 v109 v110 v111 v112 v113 v114 v115 v116 v117 v118 v119 v120 v121 v122 v123 v124 v125 v126 v127:AV) (H:Heap),k85 .normal ⟨[(.agg [(.lst a0),(iz a1),(iz a2),(iz a3),(iz a4),(iz a5),(iz a6),(iz a7),(iz a8)]),v0,(.str []),(iz 0),v87,tz,v88,tz,v89,(.agg [v5,(iz x6),(iz x7),(iz x8),(iz x9),(iz x10),(iz x11),(iz x12),(iz x13)]),(bz b16),bf,v17,v19,v21,v23,(iz x27),(.int .u8 (IntKind.wrap .u8 x27)),v28,(iz x32),(.int .u8 (IntKind.wrap .u8 x32)),v33,(iz x37),(.int .u8 (IntKind.wrap .u8 x37)),v38,(iz x42),(.int .u8 (IntKind.wrap .u8 x42)),v43,(iz x47),(.int .u8 (IntKind.wrap .u8 x47)),v48,(iz x52),(.int .u8 (IntKind.wrap .u8 x52)),v53,v55,v55,v57,(iz x61),v62,(iz x66),v67,(iz x71),v72,v76,v77,v79,(iz x83),(iz x90),v91,v92,v93,v94,v95,v96,v97,v98,v99,v100,v101,v102,v103,v104,v105,v106,v107,v108,v109,v110,v111,v112,v113,v114,v115,v116,v117,v118,v119,v120,v121,v122,v123,v124,v125,v126,v127,tz,tz,tz,tz,tz,tz,tz,tz],H⟩=k85N v87 x90 H) (v231 v232:AV) (x233:Int) (v234 v235 v236 v237 v238 v239 v240 v241 v242 v243 v244:AV) (H:Heap):r10X1_0 C0 d a0 a1 a2 a3 a4 a5 a6 a7 a8 v0 v5 x6 x7 x8 x9 x10 x11 x12 x13 b16 v17 v19 v21 v23 x27 v28 x32 v33 x37 v38 x42 v43 x47 v48 x52 v53 v55 v57 x61 v62 x66 v67 x71 v72 v76 v77 v79 x83 k85 v87 x90 v127 v128 v133 x134 x135 x136 x137 v138 v144 v146 x150 v151 x155 v156 v158 v160 x164 v165 x169 v170 x174 v175 v179 v180 v182 x186 ⟨[(.agg [(.lst a0),(iz a1),(iz a2),(iz a3),(iz a4),(iz a5),(iz a6),(iz a7),(iz a8)]),v0,(.str []),(iz 0),v231,tz,v138,tz,v232,(.agg [v5,(iz x6),(iz x7),(iz x8),(iz x9),(iz x10),(iz x11),(iz x12),(iz x13)]),(bz b16),bf,v17,v19,v21,v23,(iz x27),(.int .u8 (IntKind.wrap .u8 x27)),v28,(iz x32),(.int .u8 (IntKind.wrap .u8 x32)),v33,(iz x37),(.int .u8 (IntKind.wrap .u8 x37)),v38,(iz x42),(.int .u8 (IntKind.wrap .u8 x42)),v43,(iz x47),(.int .u8 (IntKind.wrap .u8 x47)),v48,(iz x52),(.int .u8 (IntKind.wrap .u8 x52)),v53,v55,v55,v57,(iz x61),v62,(iz x66),v67,(iz x71),v72,v76,v77,v79,(iz x83),(iz x90),bt,v128,(.agg [v133,(iz x134),(iz x135),(iz x136),(iz x137)]),v87,v144,v146,(iz x150),(.int .u8 (IntKind.wrap .u8 x150)),v151,(iz x155),(.int .u8 (IntKind.wrap .u8 x155)),v156,v158,v160,(iz x164),v165,(iz x169),v170,(iz x174),v175,v179,v180,v182,(iz x186),(iz x233),v234,v235,v236,v237,v238,v239,v240,v241,v242,v243,v244,v127,tz,tz,tz,tz,tz,tz,tz,tz],H⟩=X10_1_0 d x90 v182 x186 k85N v231 H:=by
 try dsimp only at hk85N
 unfold r10X1_0; refine Eq.trans (pl_len (by rfl)) ?_; refine yt ySs ?_; refine yt yA ?_; refine yt ySs ?_; refine yt yA ?_; refine yt ySs ?_; refine yt yI ?_; (iterate 11 (refine yt yA ?_)); refine yt ySs ?_
 first | (simp only [hk85N] <;> rfl) | rfl
noncomputable def L10_1 (d:Nat) (x90:Int) (v182:AV) (x186:Int) (k85N:AV→Int→Heap→Ans):Nat→AV→Int→Heap→Ans
 | 0,_,_,_=>none
 | n+1,v190,x192,H =>
 cnd (decide (x192 < x186))
  (C0.hop H (.ixAS .any 2 (.v v182) (.v (iz x192))) fun v204 h205 =>
  C0.hop h205 (.load true 2 (.v v204)) fun v206 h207 =>
  C0.agg 2 (some v206) fun l208 =>
  C0.int .i64 l208[0]? fun x209 =>
  C0.int .i64 l208[1]? fun x210 =>
  C0.hop h207 (.alloc E50) fun v211 h212 =>
  C0.hop h212 (.store 2 (.v v211) (.v (.agg [(iz x209),(iz x210)]))) fun v213 h214 =>
  C0.hop h214 (.fldA 0 (.v v211)) fun v215 h216 =>
  C0.hop h216 (.load false 1 (.v v215)) fun v217 h218 =>
  C0.int .i64 (some v217) fun x219 =>
  C0.hop h218 (.fldA 1 (.v v211)) fun v220 h221 =>
  C0.hop h221 (.load false 1 (.v v220)) fun v222 h223 =>
  C0.int .i64 (some v222) fun x224 =>
  C0.hop h223 (.mkrow E2 2 [(0,(.v (iz x219))),(1,(.v (iz x224)))]) fun v225 h226 =>
  C0.cal M (pcall M d) 12 true 21 [v190,v225] h226 fun v227 h228 =>
  C0.any (some v227) fun v229 =>
  L10_1 d x90 v182 x186 k85N n v229 (IntKind.wrap .i64 (x192+1)) h228)
  (X10_1_0 d x90 v182 x186 k85N v190 H)
theorem L10_1_s (d:Nat) (x90:Int) (v182:AV) (x186:Int) (k85N:AV→Int→Heap→Ans) (n:Nat) (v190:AV) (x192:Int) (H:Heap):L10_1 d x90 v182 x186 k85N (n+1) v190 x192 H=(cnd (decide (x192 < x186))
 (C0.hop H (.ixAS .any 2 (.v v182) (.v (iz x192))) fun v204 h205 =>
 C0.hop h205 (.load true 2 (.v v204)) fun v206 h207 =>
 C0.agg 2 (some v206) fun l208 =>
 C0.int .i64 l208[0]? fun x209 =>
 C0.int .i64 l208[1]? fun x210 =>
 C0.hop h207 (.alloc E50) fun v211 h212 =>
 C0.hop h212 (.store 2 (.v v211) (.v (.agg [(iz x209),(iz x210)]))) fun v213 h214 =>
 C0.hop h214 (.fldA 0 (.v v211)) fun v215 h216 =>
 C0.hop h216 (.load false 1 (.v v215)) fun v217 h218 =>
 C0.int .i64 (some v217) fun x219 =>
 C0.hop h218 (.fldA 1 (.v v211)) fun v220 h221 =>
 C0.hop h221 (.load false 1 (.v v220)) fun v222 h223 =>
 C0.int .i64 (some v222) fun x224 =>
 C0.hop h223 (.mkrow E2 2 [(0,(.v (iz x219))),(1,(.v (iz x224)))]) fun v225 h226 =>
 C0.cal M (pcall M d) 12 true 21 [v190,v225] h226 fun v227 h228 =>
 C0.any (some v227) fun v229 =>
 L10_1 d x90 v182 x186 k85N n v229 (IntKind.wrap .i64 (x192+1)) h228)
 (X10_1_0 d x90 v182 x186 k85N v190 H)):=by kernel_rfl
theorem it10_1 (d:Nat) (a0:List AV) (a1 a2 a3 a4 a5 a6 a7 a8:Int) (v0 v5:AV) (x6 x7 x8 x9 x10 x11 x12 x13:Int) (b16:Bool) (v17 v19 v21 v23:AV) (x27:Int) (v28:AV) (x32:Int) (v33:AV) (x37:Int) (v38:AV) (x42:Int) (v43:AV) (x47:Int) (v48:AV) (x52:Int) (v53 v55 v57:AV) (x61:Int) (v62:AV) (x66:Int) (v67:AV) (x71:Int) (v72 v76 v77 v79:AV) (x83:Int) (k85:Ex→St→Ans) (v87:AV) (x90:Int) (v127 v128 v133:AV) (x134 x135 x136 x137:Int) (v138 v144 v146:AV) (x150:Int) (v151:AV) (x155:Int) (v156 v158 v160:AV) (x164:Int) (v165:AV) (x169:Int) (v170:AV) (x174:Int) (v175 v179 v180 v182:AV) (x186:Int) (k85N:AV→Int→Heap→Ans) (hk85N:∀ (v87 v88 v89:AV) (x90:Int) (v91 v92 v93 v94 v95 v96 v97 v98 v99 v100 v101 v102 v103 v104 v105 v106 v107 v108 v109 v110 v111 v112 v113 v114 v115 v116 v117 v118 v119 v120 v121 v122 v123 v124 v125 v126 v127:AV) (H:Heap),k85 .normal ⟨[(.agg [(.lst a0),(iz a1),(iz a2),(iz a3),(iz a4),(iz a5),(iz a6),(iz a7),(iz a8)]),v0,(.str []),(iz 0),v87,tz,v88,tz,v89,(.agg [v5,(iz x6),(iz x7),(iz x8),(iz x9),(iz x10),(iz x11),(iz x12),(iz x13)]),(bz b16),bf,v17,v19,v21,v23,(iz x27),(.int .u8 (IntKind.wrap .u8 x27)),v28,(iz x32),(.int .u8 (IntKind.wrap .u8 x32)),v33,(iz x37),(.int .u8 (IntKind.wrap .u8 x37)),v38,(iz x42),(.int .u8 (IntKind.wrap .u8 x42)),v43,(iz x47),(.int .u8 (IntKind.wrap .u8 x47)),v48,(iz x52),(.int .u8 (IntKind.wrap .u8 x52)),v53,v55,v55,v57,(iz x61),v62,(iz x66),v67,(iz x71),v72,v76,v77,v79,(iz x83),(iz x90),v91,v92,v93,v94,v95,v96,v97,v98,v99,v100,v101,v102,v103,v104,v105,v106,v107,v108,v109,v110,v111,v112,v113,v114,v115,v116,v117,v118,v119,v120,v121,v122,v123,v124,v125,v126,v127,tz,tz,tz,tz,tz,tz,tz,tz],H⟩=k85N v87 x90 H):∀ (n:Nat) (v190 v191:AV) (x192:Int) (v193 v194 v195 v196 v197 v198 v199 v200 v201 v202 v203:AV) (H:Heap),C0.iter (r10R1 C0 d a0 a1 a2 a3 a4 a5 a6 a7 a8 v0 v5 x6 x7 x8 x9 x10 x11 x12 x13 b16 v17 v19 v21 v23 x27 v28 x32 v33 x37 v38 x42 v43 x47 v48 x52 v53 v55 v57 x61 v62 x66 v67 x71 v72 v76 v77 v79 x83 k85 v87 x90 v127 v128 v133 x134 x135 x136 x137 v138 v144 v146 x150 v151 x155 v156 v158 v160 x164 v165 x169 v170 x174 v175 v179 v180 v182 x186) n ⟨[(.agg [(.lst a0),(iz a1),(iz a2),(iz a3),(iz a4),(iz a5),(iz a6),(iz a7),(iz a8)]),v0,(.str []),(iz 0),v190,tz,v138,tz,v191,(.agg [v5,(iz x6),(iz x7),(iz x8),(iz x9),(iz x10),(iz x11),(iz x12),(iz x13)]),(bz b16),bf,v17,v19,v21,v23,(iz x27),(.int .u8 (IntKind.wrap .u8 x27)),v28,(iz x32),(.int .u8 (IntKind.wrap .u8 x32)),v33,(iz x37),(.int .u8 (IntKind.wrap .u8 x37)),v38,(iz x42),(.int .u8 (IntKind.wrap .u8 x42)),v43,(iz x47),(.int .u8 (IntKind.wrap .u8 x47)),v48,(iz x52),(.int .u8 (IntKind.wrap .u8 x52)),v53,v55,v55,v57,(iz x61),v62,(iz x66),v67,(iz x71),v72,v76,v77,v79,(iz x83),(iz x90),bt,v128,(.agg [v133,(iz x134),(iz x135),(iz x136),(iz x137)]),v87,v144,v146,(iz x150),(.int .u8 (IntKind.wrap .u8 x150)),v151,(iz x155),(.int .u8 (IntKind.wrap .u8 x155)),v156,v158,v160,(iz x164),v165,(iz x169),v170,(iz x174),v175,v179,v180,v182,(iz x186),(iz x192),v193,v194,v195,v196,v197,v198,v199,v200,v201,v202,v203,v127,tz,tz,tz,tz,tz,tz,tz,tz],H⟩ [2] [r10X1_0 C0 d a0 a1 a2 a3 a4 a5 a6 a7 a8 v0 v5 x6 x7 x8 x9 x10 x11 x12 x13 b16 v17 v19 v21 v23 x27 v28 x32 v33 x37 v38 x42 v43 x47 v48 x52 v53 v55 v57 x61 v62 x66 v67 x71 v72 v76 v77 v79 x83 k85 v87 x90 v127 v128 v133 x134 x135 x136 x137 v138 v144 v146 x150 v151 x155 v156 v158 v160 x164 v165 x169 v170 x174 v175 v179 v180 v182 x186] (r10E1 C0 d a0 a1 a2 a3 a4 a5 a6 a7 a8 v0 v5 x6 x7 x8 x9 x10 x11 x12 x13 b16 v17 v19 v21 v23 x27 v28 x32 v33 x37 v38 x42 v43 x47 v48 x52 v53 v55 v57 x61 v62 x66 v67 x71 v72 v76 v77 v79 x83 k85 v87 x90 v127 v128 v133 x134 x135 x136 x137 v138 v144 v146 x150 v151 x155 v156 v158 v160 x164 v165 x169 v170 x174 v175 v179 v180 v182 x186)=L10_1 d x90 v182 x186 k85N n v190 x192 H:=by
 generalize hR:r10R1 C0 d a0 a1 a2 a3 a4 a5 a6 a7 a8 v0 v5 x6 x7 x8 x9 x10 x11 x12 x13 b16 v17 v19 v21 v23 x27 v28 x32 v33 x37 v38 x42 v43 x47 v48 x52 v53 v55 v57 x61 v62 x66 v67 x71 v72 v76 v77 v79 x83 k85 v87 x90 v127 v128 v133 x134 x135 x136 x137 v138 v144 v146 x150 v151 x155 v156 v158 v160 x164 v165 x169 v170 x174 v175 v179 v180 v182 x186=R
 intro n
 induction n with
 | zero=>intros; rfl
 | succ n ih =>
   intro v190 v191 x192 v193 v194 v195 v196 v197 v198 v199 v200 v201 v202 v203 H
   simp only [it_ret] at ih
   rw [it_ret,xiter_s]
   refine Eq.trans (congrFun (congrFun hR.symm _) _) ?_
   unfold r10R1
   refine Eq.trans (pl_len (by rfl)) ?_; refine yt ySs ?_; refine yt yA ?_; refine yt ySs ?_; refine yt yA ?_; refine yt ySs ?_; refine yt yI ?_; (iterate 11 (refine yt yA ?_)); refine yt ySs ?_
   simp only [kIter_n,kIter_x,kIter_r,kOut_x,kOut_r,xgo_hit,xgo_miss,ih,X10_1_0_ok d a0 a1 a2 a3 a4 a5 a6 a7 a8 v0 v5 x6 x7 x8 x9 x10 x11 x12 x13 b16 v17 v19 v21 v23 x27 v28 x32 v33 x37 v38 x42 v43 x47 v48 x52 v53 v55 v57 x61 v62 x66 v67 x71 v72 v76 v77 v79 x83 k85 v87 x90 v127 v128 v133 x134 x135 x136 x137 v138 v144 v146 x150 v151 x155 v156 v158 v160 x164 v165 x169 v170 x174 v175 v179 v180 v182 x186 k85N hk85N]
   exact (L10_1_s d x90 v182 x186 k85N n v190 x192 H).symm
noncomputable def X10_0_0 (d:Nat) (v79:AV) (x83:Int) (v260:AV) (H:Heap):Ans :=
 C0.hop H (.b2s (.v v260)) fun v301 h302 =>
  C0.str (some v301) fun s303 =>
  C0.int .u32 (pcall M d 22 [(.str s303)]) fun x304 =>
  C0.hop h302 (.mkrow E2 1 [(0,(.v (iz (IntKind.wrap .i64 x304))))]) fun v305 h306 =>
  C0.cal M (pcall M d) 12 true 21 [v260,v305] h306 fun v307 h308 =>
  C0.any (some v307) fun v309 =>
  C0.hop h308 (.b2s (.v v309)) fun v310 h311 =>
  C0.str (some v310) fun s312 =>
  C0.fin h311 (.tup [(.str s312),(iz 0)])
theorem X10_0_0_ok (d:Nat) (a0:List AV) (a1 a2 a3 a4 a5 a6 a7 a8:Int) (v0 v5:AV) (x6 x7 x8 x9 x10 x11 x12 x13:Int) (b16:Bool) (v17 v19 v21 v23:AV) (x27:Int) (v28:AV) (x32:Int) (v33:AV) (x37:Int) (v38:AV) (x42:Int) (v43:AV) (x47:Int) (v48:AV) (x52:Int) (v53 v55 v57:AV) (x61:Int) (v62:AV) (x66:Int) (v67:AV) (x71:Int) (v72 v76 v77 v79:AV) (x83:Int) (v260 v261 v262:AV) (x263:Int) (v264 v265 v266 v267 v268 v269 v270 v271 v272 v273 v274 v275 v276 v277 v278 v279 v280 v281 v282 v283 v284 v285 v286 v287 v288 v289 v290 v291 v292 v293 v294 v295 v296 v297 v298 v299 v300:AV) (H:Heap):r10X0_0 C0 d a0 a1 a2 a3 a4 a5 a6 a7 a8 v0 v5 x6 x7 x8 x9 x10 x11 x12 x13 b16 v17 v19 v21 v23 x27 v28 x32 v33 x37 v38 x42 v43 x47 v48 x52 v53 v55 v57 x61 v62 x66 v67 x71 v72 v76 v77 v79 x83 ⟨[(.agg [(.lst a0),(iz a1),(iz a2),(iz a3),(iz a4),(iz a5),(iz a6),(iz a7),(iz a8)]),v0,(.str []),(iz 0),v260,tz,v261,tz,v262,(.agg [v5,(iz x6),(iz x7),(iz x8),(iz x9),(iz x10),(iz x11),(iz x12),(iz x13)]),(bz b16),bf,v17,v19,v21,v23,(iz x27),(.int .u8 (IntKind.wrap .u8 x27)),v28,(iz x32),(.int .u8 (IntKind.wrap .u8 x32)),v33,(iz x37),(.int .u8 (IntKind.wrap .u8 x37)),v38,(iz x42),(.int .u8 (IntKind.wrap .u8 x42)),v43,(iz x47),(.int .u8 (IntKind.wrap .u8 x47)),v48,(iz x52),(.int .u8 (IntKind.wrap .u8 x52)),v53,v55,v55,v57,(iz x61),v62,(iz x66),v67,(iz x71),v72,v76,v77,v79,(iz x83),(iz x263),v264,v265,v266,v267,v268,v269,v270,v271,v272,v273,v274,v275,v276,v277,v278,v279,v280,v281,v282,v283,v284,v285,v286,v287,v288,v289,v290,v291,v292,v293,v294,v295,v296,v297,v298,v299,v300,tz,tz,tz,tz,tz,tz,tz,tz],H⟩=X10_0_0 d v79 x83 v260 H:=by
 unfold r10X0_0; refine Eq.trans (pl_len (by rfl)) ?_; refine yt ySs ?_; refine yt yA ?_; refine yt yS ?_; refine yt yA ?_; refine yt yS ?_; refine yt yA ?_; refine yt ySs ?_; refine yt yI ?_; refine yt yAs ?_; refine yt ySs ?_
 rfl
noncomputable def L10_0 (d:Nat) (v79:AV) (x83:Int):Nat→AV→Int→Heap→Ans
 | 0,_,_,_=>none
 | n+1,v87,x90,H =>
 cnd (decide (x90 < x83))
  (C0.hop H (.ixAS .any 5 (.v v79) (.v (iz x90))) fun v128 h129 =>
  C0.hop h129 (.load true 5 (.v v128)) fun v130 h131 =>
  C0.agg 5 (some v130) fun l132 =>
  C0.any l132[0]? fun v133 =>
  C0.int .i64 l132[1]? fun x134 =>
  C0.int .i64 l132[2]? fun x135 =>
  C0.int .i64 l132[3]? fun x136 =>
  C0.int .i64 l132[4]? fun x137 =>
  C0.hop h131 (.alloc E46) fun v138 h139 =>
  C0.hop h139 (.store 5 (.v v138) (.v (.agg [v133,(iz x134),(iz x135),(iz x136),(iz x137)]))) fun v140 h141 =>
  C0.grow h141 [some rjunk,some rjunk] fun n142 h143 =>
  C0.hop h143 (.fldA 0 (.v v138)) fun v144 h145 =>
  C0.hop h145 (.load false 1 (.v v144)) fun v146 h147 =>
  C0.hop h147 (.bk .lenV [(.v v146)]) fun v148 h149 =>
  C0.int .i64 (some v148) fun x150 =>
  C0.hop h149 (.fldA 1 (.v v138)) fun v151 h152 =>
  C0.hop h152 (.load false 1 (.v v151)) fun v153 h154 =>
  C0.int .i64 (some v153) fun x155 =>
  C0.mkat h154 (n142+0) (.mkrow E5 2 [(0,(.v (.int .u8 (IntKind.wrap .u8 x150)))),(1,(.v (.int .u8 (IntKind.wrap .u8 x155))))]) fun v156 h157 =>
  C0.hop h157 (.app E5 (.v v87) (.v v156)) fun v158 h159 =>
  C0.keep h157 h159 [(.ptr (n142+1) 0 0)] <|
  C0.hop h159 (.fldA 2 (.v v138)) fun v160 h161 =>
  C0.hop h161 (.load false 1 (.v v160)) fun v162 h163 =>
  C0.int .i64 (some v162) fun x164 =>
  C0.keep h157 h159 [v160] <|
  C0.keep h154 h157 [v160] <|
  C0.hop h163 (.fldA 3 (.v v138)) fun v165 h166 =>
  C0.hop h166 (.load false 1 (.v v165)) fun v167 h168 =>
  C0.int .i64 (some v167) fun x169 =>
  C0.keep h157 h159 [v165] <|
  C0.keep h154 h157 [v165] <|
  C0.hop h168 (.fldA 4 (.v v138)) fun v170 h171 =>
  C0.hop h171 (.load false 1 (.v v170)) fun v172 h173 =>
  C0.int .i64 (some v172) fun x174 =>
  C0.keep h157 h159 [v170] <|
  C0.keep h154 h157 [v170] <|
  C0.mkat h173 (n142+1) (.mkrow E2 3 [(0,(.v (iz x164))),(1,(.v (iz x169))),(2,(.v (iz x174)))]) fun v175 h176 =>
  C0.keep h173 h176 [v87,v156] <|
  C0.keep h173 h176 [v151] <|
  C0.keep h173 h176 [v146] <|
  C0.keep h173 h176 [v144] <|
  C0.cal M (pcall M d) 12 true 21 [v158,v175] h176 fun v177 h178 =>
  C0.any (some v177) fun v179 =>
  C0.hop h178 (.fldA 0 (.v v138)) fun v180 h181 =>
  C0.hop h181 (.load false 1 (.v v180)) fun v182 h183 =>
  C0.hop h183 (.bk .lenV [(.v v182)]) fun v184 h185 =>
  C0.int .i64 (some v184) fun x186 =>
  L10_1 d x90 v182 x186 (fun v87 x90 H=>L10_0 d v79 x83 n v87 x90 H) 10000000000000000000 v179 0 h185)
  (X10_0_0 d v79 x83 v87 H)
theorem L10_0_s (d:Nat) (v79:AV) (x83:Int) (n:Nat) (v87:AV) (x90:Int) (H:Heap):L10_0 d v79 x83 (n+1) v87 x90 H=(cnd (decide (x90 < x83))
 (C0.hop H (.ixAS .any 5 (.v v79) (.v (iz x90))) fun v128 h129 =>
 C0.hop h129 (.load true 5 (.v v128)) fun v130 h131 =>
 C0.agg 5 (some v130) fun l132 =>
 C0.any l132[0]? fun v133 =>
 C0.int .i64 l132[1]? fun x134 =>
 C0.int .i64 l132[2]? fun x135 =>
 C0.int .i64 l132[3]? fun x136 =>
 C0.int .i64 l132[4]? fun x137 =>
 C0.hop h131 (.alloc E46) fun v138 h139 =>
 C0.hop h139 (.store 5 (.v v138) (.v (.agg [v133,(iz x134),(iz x135),(iz x136),(iz x137)]))) fun v140 h141 =>
 C0.grow h141 [some rjunk,some rjunk] fun n142 h143 =>
 C0.hop h143 (.fldA 0 (.v v138)) fun v144 h145 =>
 C0.hop h145 (.load false 1 (.v v144)) fun v146 h147 =>
 C0.hop h147 (.bk .lenV [(.v v146)]) fun v148 h149 =>
 C0.int .i64 (some v148) fun x150 =>
 C0.hop h149 (.fldA 1 (.v v138)) fun v151 h152 =>
 C0.hop h152 (.load false 1 (.v v151)) fun v153 h154 =>
 C0.int .i64 (some v153) fun x155 =>
 C0.mkat h154 (n142+0) (.mkrow E5 2 [(0,(.v (.int .u8 (IntKind.wrap .u8 x150)))),(1,(.v (.int .u8 (IntKind.wrap .u8 x155))))]) fun v156 h157 =>
 C0.hop h157 (.app E5 (.v v87) (.v v156)) fun v158 h159 =>
 C0.keep h157 h159 [(.ptr (n142+1) 0 0)] <|
 C0.hop h159 (.fldA 2 (.v v138)) fun v160 h161 =>
 C0.hop h161 (.load false 1 (.v v160)) fun v162 h163 =>
 C0.int .i64 (some v162) fun x164 =>
 C0.keep h157 h159 [v160] <|
 C0.keep h154 h157 [v160] <|
 C0.hop h163 (.fldA 3 (.v v138)) fun v165 h166 =>
 C0.hop h166 (.load false 1 (.v v165)) fun v167 h168 =>
 C0.int .i64 (some v167) fun x169 =>
 C0.keep h157 h159 [v165] <|
 C0.keep h154 h157 [v165] <|
 C0.hop h168 (.fldA 4 (.v v138)) fun v170 h171 =>
 C0.hop h171 (.load false 1 (.v v170)) fun v172 h173 =>
 C0.int .i64 (some v172) fun x174 =>
 C0.keep h157 h159 [v170] <|
 C0.keep h154 h157 [v170] <|
 C0.mkat h173 (n142+1) (.mkrow E2 3 [(0,(.v (iz x164))),(1,(.v (iz x169))),(2,(.v (iz x174)))]) fun v175 h176 =>
 C0.keep h173 h176 [v87,v156] <|
 C0.keep h173 h176 [v151] <|
 C0.keep h173 h176 [v146] <|
 C0.keep h173 h176 [v144] <|
 C0.cal M (pcall M d) 12 true 21 [v158,v175] h176 fun v177 h178 =>
 C0.any (some v177) fun v179 =>
 C0.hop h178 (.fldA 0 (.v v138)) fun v180 h181 =>
 C0.hop h181 (.load false 1 (.v v180)) fun v182 h183 =>
 C0.hop h183 (.bk .lenV [(.v v182)]) fun v184 h185 =>
 C0.int .i64 (some v184) fun x186 =>
 L10_1 d x90 v182 x186 (fun v87 x90 H=>L10_0 d v79 x83 n v87 x90 H) 10000000000000000000 v179 0 h185)
 (X10_0_0 d v79 x83 v87 H)):=by kernel_rfl
theorem it10_0 (d:Nat) (a0:List AV) (a1 a2 a3 a4 a5 a6 a7 a8:Int) (v0 v5:AV) (x6 x7 x8 x9 x10 x11 x12 x13:Int) (b16:Bool) (v17 v19 v21 v23:AV) (x27:Int) (v28:AV) (x32:Int) (v33:AV) (x37:Int) (v38:AV) (x42:Int) (v43:AV) (x47:Int) (v48:AV) (x52:Int) (v53 v55 v57:AV) (x61:Int) (v62:AV) (x66:Int) (v67:AV) (x71:Int) (v72 v76 v77 v79:AV) (x83:Int)  :∀ (n:Nat) (v87 v88 v89:AV) (x90:Int) (v91 v92 v93 v94 v95 v96 v97 v98 v99 v100 v101 v102 v103 v104 v105 v106 v107 v108 v109 v110 v111 v112 v113 v114 v115 v116 v117 v118 v119 v120 v121 v122 v123 v124 v125 v126 v127:AV) (H:Heap),C0.iter (r10R0 C0 d a0 a1 a2 a3 a4 a5 a6 a7 a8 v0 v5 x6 x7 x8 x9 x10 x11 x12 x13 b16 v17 v19 v21 v23 x27 v28 x32 v33 x37 v38 x42 v43 x47 v48 x52 v53 v55 v57 x61 v62 x66 v67 x71 v72 v76 v77 v79 x83) n ⟨[(.agg [(.lst a0),(iz a1),(iz a2),(iz a3),(iz a4),(iz a5),(iz a6),(iz a7),(iz a8)]),v0,(.str []),(iz 0),v87,tz,v88,tz,v89,(.agg [v5,(iz x6),(iz x7),(iz x8),(iz x9),(iz x10),(iz x11),(iz x12),(iz x13)]),(bz b16),bf,v17,v19,v21,v23,(iz x27),(.int .u8 (IntKind.wrap .u8 x27)),v28,(iz x32),(.int .u8 (IntKind.wrap .u8 x32)),v33,(iz x37),(.int .u8 (IntKind.wrap .u8 x37)),v38,(iz x42),(.int .u8 (IntKind.wrap .u8 x42)),v43,(iz x47),(.int .u8 (IntKind.wrap .u8 x47)),v48,(iz x52),(.int .u8 (IntKind.wrap .u8 x52)),v53,v55,v55,v57,(iz x61),v62,(iz x66),v67,(iz x71),v72,v76,v77,v79,(iz x83),(iz x90),v91,v92,v93,v94,v95,v96,v97,v98,v99,v100,v101,v102,v103,v104,v105,v106,v107,v108,v109,v110,v111,v112,v113,v114,v115,v116,v117,v118,v119,v120,v121,v122,v123,v124,v125,v126,v127,tz,tz,tz,tz,tz,tz,tz,tz],H⟩ [0] [r10X0_0 C0 d a0 a1 a2 a3 a4 a5 a6 a7 a8 v0 v5 x6 x7 x8 x9 x10 x11 x12 x13 b16 v17 v19 v21 v23 x27 v28 x32 v33 x37 v38 x42 v43 x47 v48 x52 v53 v55 v57 x61 v62 x66 v67 x71 v72 v76 v77 v79 x83] (r10E0 C0 d a0 a1 a2 a3 a4 a5 a6 a7 a8 v0 v5 x6 x7 x8 x9 x10 x11 x12 x13 b16 v17 v19 v21 v23 x27 v28 x32 v33 x37 v38 x42 v43 x47 v48 x52 v53 v55 v57 x61 v62 x66 v67 x71 v72 v76 v77 v79 x83)=L10_0 d v79 x83 n v87 x90 H:=by
 generalize hR:r10R0 C0 d a0 a1 a2 a3 a4 a5 a6 a7 a8 v0 v5 x6 x7 x8 x9 x10 x11 x12 x13 b16 v17 v19 v21 v23 x27 v28 x32 v33 x37 v38 x42 v43 x47 v48 x52 v53 v55 v57 x61 v62 x66 v67 x71 v72 v76 v77 v79 x83=R
 intro n
 induction n with
 | zero=>intros; rfl
 | succ n ih =>
   intro v87 v88 v89 x90 v91 v92 v93 v94 v95 v96 v97 v98 v99 v100 v101 v102 v103 v104 v105 v106 v107 v108 v109 v110 v111 v112 v113 v114 v115 v116 v117 v118 v119 v120 v121 v122 v123 v124 v125 v126 v127 H
   simp only [it_ret] at ih
   rw [it_ret,xiter_s]
   refine Eq.trans (congrFun (congrFun hR.symm _) _) ?_
   unfold r10R0
   refine Eq.trans (pl_len (by rfl)) ?_; refine yt ySs ?_; refine yt yA ?_; refine yt yS ?_; refine yt yA ?_; refine yt yS ?_; refine yt yA ?_; refine yt ySs ?_; refine yt yI ?_; (iterate 37 (refine yt yA ?_)); refine yt ySs ?_
   have I0:=fun (v128 v133:AV) (x134 x135 x136 x137:Int) (v138 v144 v146:AV) (x150:Int) (v151:AV) (x155:Int) (v156 v158 v160:AV) (x164:Int) (v165:AV) (x169:Int) (v170:AV) (x174:Int) (v175 v179 v180 v182:AV) (x186:Int)=>it10_1 d a0 a1 a2 a3 a4 a5 a6 a7 a8 v0 v5 x6 x7 x8 x9 x10 x11 x12 x13 b16 v17 v19 v21 v23 x27 v28 x32 v33 x37 v38 x42 v43 x47 v48 x52 v53 v55 v57 x61 v62 x66 v67 x71 v72 v76 v77 v79 x83 (kIter R n (kOut [0] [r10X0_0 C0 d a0 a1 a2 a3 a4 a5 a6 a7 a8 v0 v5 x6 x7 x8 x9 x10 x11 x12 x13 b16 v17 v19 v21 v23 x27 v28 x32 v33 x37 v38 x42 v43 x47 v48 x52 v53 v55 v57 x61 v62 x66 v67 x71 v72 v76 v77 v79 x83] (r10E0 C0 d a0 a1 a2 a3 a4 a5 a6 a7 a8 v0 v5 x6 x7 x8 x9 x10 x11 x12 x13 b16 v17 v19 v21 v23 x27 v28 x32 v33 x37 v38 x42 v43 x47 v48 x52 v53 v55 v57 x61 v62 x66 v67 x71 v72 v76 v77 v79 x83))) v87 x90 v127 v128 v133 x134 x135 x136 x137 v138 v144 v146 x150 v151 x155 v156 v158 v160 x164 v165 x169 v170 x174 v175 v179 v180 v182 x186 (fun v87 x90 H=>L10_0 d v79 x83 n v87 x90 H) (fun v87 v88 v89 x90 v91 v92 v93 v94 v95 v96 v97 v98 v99 v100 v101 v102 v103 v104 v105 v106 v107 v108 v109 v110 v111 v112 v113 v114 v115 v116 v117 v118 v119 v120 v121 v122 v123 v124 v125 v126 v127 H=>ih v87 v88 v89 x90 v91 v92 v93 v94 v95 v96 v97 v98 v99 v100 v101 v102 v103 v104 v105 v106 v107 v108 v109 v110 v111 v112 v113 v114 v115 v116 v117 v118 v119 v120 v121 v122 v123 v124 v125 v126 v127 H)
   try dsimp only at I0
   simp only [kIter_n,kIter_x,kIter_r,kOut_x,kOut_r,xgo_hit,xgo_miss,ih,I0,X10_0_0_ok d a0 a1 a2 a3 a4 a5 a6 a7 a8 v0 v5 x6 x7 x8 x9 x10 x11 x12 x13 b16 v17 v19 v21 v23 x27 v28 x32 v33 x37 v38 x42 v43 x47 v48 x52 v53 v55 v57 x61 v62 x66 v67 x71 v72 v76 v77 v79 x83  ]
   exact (L10_0_s d v79 x83 n v87 x90 H).symm
theorem q10 (d:Nat) (a0:List AV) (a1 a2 a3 a4 a5 a6 a7 a8:Int):xcall C0 M unr d 10 [(.agg [(.lst a0),(iz a1),(iz a2),(iz a3),(iz a4),(iz a5),(iz a6),(iz a7),(iz a8)])] =
 C0.hop [] (.box E24 (.v (.agg [(.lst a0),(iz a1),(iz a2),(iz a3),(iz a4),(iz a5),(iz a6),(iz a7),(iz a8)]))) fun v0 h1 =>
 C0.hop h1 (.load true 9 (.v v0)) fun v2 h3 =>
 C0.agg 9 (some v2) fun l4 =>
 C0.any l4[0]? fun v5 =>
 C0.int .i64 l4[1]? fun x6 =>
 C0.int .i64 l4[2]? fun x7 =>
 C0.int .i64 l4[3]? fun x8 =>
 C0.int .i64 l4[4]? fun x9 =>
 C0.int .i64 l4[5]? fun x10 =>
 C0.int .i64 l4[6]? fun x11 =>
 C0.int .i64 l4[7]? fun x12 =>
 C0.int .i64 l4[8]? fun x13 =>
 C0.snp h3 [(.agg [v5,(iz x6),(iz x7),(iz x8),(iz x9),(iz x10),(iz x11),(iz x12),(iz x13)])] fun l14 b15 =>
 C0.bool (pcall M d 20 l14) fun b16 =>
 cnd (b15 || true)
  (cnd (!b16)
  (C0.fin h3 (.tup [(.str []),(iz 1)]))
  (C0.hop h3 (.mkrow E5 4 [(0,(.v (.int .u8 65))),(1,(.v (.int .u8 70))),(2,(.v (.int .u8 84))),(3,(.v (.int .u8 85)))]) fun v17 h18 =>
  C0.hop h18 (.mark (.v v17)) fun v19 h20 =>
  C0.hop h20 (.fldA 0 (.v v0)) fun v21 h22 =>
  C0.hop h22 (.load false 1 (.v v21)) fun v23 h24 =>
  C0.hop h24 (.bk .lenV [(.v v23)]) fun v25 h26 =>
  C0.int .i64 (some v25) fun x27 =>
  C0.hop h26 (.fldA 1 (.v v0)) fun v28 h29 =>
  C0.hop h29 (.load false 1 (.v v28)) fun v30 h31 =>
  C0.int .i64 (some v30) fun x32 =>
  C0.hop h31 (.fldA 2 (.v v0)) fun v33 h34 =>
  C0.hop h34 (.load false 1 (.v v33)) fun v35 h36 =>
  C0.int .i64 (some v35) fun x37 =>
  C0.hop h36 (.fldA 3 (.v v0)) fun v38 h39 =>
  C0.hop h39 (.load false 1 (.v v38)) fun v40 h41 =>
  C0.int .i64 (some v40) fun x42 =>
  C0.hop h41 (.fldA 6 (.v v0)) fun v43 h44 =>
  C0.hop h44 (.load false 1 (.v v43)) fun v45 h46 =>
  C0.int .i64 (some v45) fun x47 =>
  C0.hop h46 (.fldA 8 (.v v0)) fun v48 h49 =>
  C0.hop h49 (.load false 1 (.v v48)) fun v50 h51 =>
  C0.int .i64 (some v50) fun x52 =>
  C0.hop h51 (.mkrow E5 6 [(0,(.v (.int .u8 (IntKind.wrap .u8 x27)))),(1,(.v (.int .u8 (IntKind.wrap .u8 x32)))),(2,(.v (.int .u8 (IntKind.wrap .u8 x37)))),(3,(.v (.int .u8 (IntKind.wrap .u8 x42)))),(4,(.v (.int .u8 (IntKind.wrap .u8 x47)))),(5,(.v (.int .u8 (IntKind.wrap .u8 x52))))]) fun v53 h54 =>
  C0.hop h54 (.app E5 (.v v19) (.v v53)) fun v55 h56 =>
  C0.hop h56 (.fldA 4 (.v v0)) fun v57 h58 =>
  C0.hop h58 (.load false 1 (.v v57)) fun v59 h60 =>
  C0.int .i64 (some v59) fun x61 =>
  C0.hop h60 (.fldA 5 (.v v0)) fun v62 h63 =>
  C0.hop h63 (.load false 1 (.v v62)) fun v64 h65 =>
  C0.int .i64 (some v64) fun x66 =>
  C0.hop h65 (.fldA 7 (.v v0)) fun v67 h68 =>
  C0.hop h68 (.load false 1 (.v v67)) fun v69 h70 =>
  C0.int .i64 (some v69) fun x71 =>
  C0.hop h70 (.mkrow E2 3 [(0,(.v (iz x61))),(1,(.v (iz x66))),(2,(.v (iz x71)))]) fun v72 h73 =>
  C0.cal M (pcall M d) 12 true 21 [v55,v72] h73 fun v74 h75 =>
  C0.any (some v74) fun v76 =>
  C0.hop h75 (.fldA 0 (.v v0)) fun v77 h78 =>
  C0.hop h78 (.load false 1 (.v v77)) fun v79 h80 =>
  C0.hop h80 (.bk .lenV [(.v v79)]) fun v81 h82 =>
  C0.int .i64 (some v81) fun x83 =>
  L10_0 d v79 x83 10000000000000000000 v76 0 h82))
  (none):=(r10 C0 d a0 a1 a2 a3 a4 a5 a6 a7 a8).trans (by simp only [it10_0])
noncomputable def X21_0_0 (d:Nat) (a1:AV) (K0:AV→Heap→Ans) (x2:Int) (v37:AV) (H:Heap):Ans :=
 K0 v37 H
theorem X21_0_0_ok (d:Nat) (a1:AV) (K0:AV→Heap→Ans) (x2:Int) (v37 v38:AV) (x39:Int) (v40 v41 v42 v43 v44 v45 v46 v47 v48 v49 v50 v51 v52 v53 v54 v55 v56 v57:AV) (H:Heap):r21X0_0 C0 d a1 K0 x2 ⟨[v37,a1,tz,tz,(.zsl true),tz,v38,a1,(iz x2),(iz x39),v40,v41,v42,v43,v44,v45,v46,v47,v48,v49,v50,v51,v52,v53,v54,v55,v56,v57,tz],H⟩=X21_0_0 d a1 K0 x2 v37 H:=by
 unfold r21X0_0; refine Eq.trans (pl_len (by rfl)) ?_; refine yt yA ?_; refine yt ySs ?_; refine yt yA ?_; refine yt ySs ?_; refine yt yI ?_; refine yt yAs ?_; refine yt yS ?_
 rfl
noncomputable def L21_0 (d:Nat) (a1:AV) (K0:AV→Heap→Ans) (x2:Int):Nat→AV→Int→Heap→Ans
 | 0,_,_,_=>none
 | n+1,v6,x8,H =>
 cnd (decide (x8 < x2))
  (C0.hop H (.ixAS .any 1 (.v a1) (.v (iz x8))) fun v27 h28 =>
  C0.hop h28 (.load false 1 (.v v27)) fun v29 h30 =>
  C0.int .i64 (some v29) fun x31 =>
  C0.hop h30 (.mkrow E5 4 [(0,(.v (.int .u8 (IntKind.wrap .u8 (Int.fdiv x31 (2 ^ (min (Int.toNat 24) 64))))))),(1,(.v (.int .u8 (IntKind.wrap .u8 (Int.fdiv x31 (2 ^ (min (Int.toNat 16) 64))))))),(2,(.v (.int .u8 (IntKind.wrap .u8 (Int.fdiv x31 (2 ^ (min (Int.toNat 8) 64))))))),(3,(.v (.int .u8 (IntKind.wrap .u8 x31))))]) fun v32 h33 =>
  C0.hop h33 (.app E5 (.v v6) (.v v32)) fun v34 h35 =>
  L21_0 d a1 K0 x2 n v34 (IntKind.wrap .i64 (x8+1)) h35)
  (X21_0_0 d a1 K0 x2 v6 H)
theorem L21_0_s (d:Nat) (a1:AV) (K0:AV→Heap→Ans) (x2:Int) (n:Nat) (v6:AV) (x8:Int) (H:Heap):L21_0 d a1 K0 x2 (n+1) v6 x8 H=(cnd (decide (x8 < x2))
 (C0.hop H (.ixAS .any 1 (.v a1) (.v (iz x8))) fun v27 h28 =>
 C0.hop h28 (.load false 1 (.v v27)) fun v29 h30 =>
 C0.int .i64 (some v29) fun x31 =>
 C0.hop h30 (.mkrow E5 4 [(0,(.v (.int .u8 (IntKind.wrap .u8 (Int.fdiv x31 (2 ^ (min (Int.toNat 24) 64))))))),(1,(.v (.int .u8 (IntKind.wrap .u8 (Int.fdiv x31 (2 ^ (min (Int.toNat 16) 64))))))),(2,(.v (.int .u8 (IntKind.wrap .u8 (Int.fdiv x31 (2 ^ (min (Int.toNat 8) 64))))))),(3,(.v (.int .u8 (IntKind.wrap .u8 x31))))]) fun v32 h33 =>
 C0.hop h33 (.app E5 (.v v6) (.v v32)) fun v34 h35 =>
 L21_0 d a1 K0 x2 n v34 (IntKind.wrap .i64 (x8+1)) h35)
 (X21_0_0 d a1 K0 x2 v6 H)):=by kernel_rfl
theorem it21_0 (d:Nat) (a1:AV) (K0:AV→Heap→Ans) (x2:Int)  :∀ (n:Nat) (v6 v7:AV) (x8:Int) (v9 v10 v11 v12 v13 v14 v15 v16 v17 v18 v19 v20 v21 v22 v23 v24 v25 v26:AV) (H:Heap),C0.iter (r21R0 C0 d a1 K0 x2) n ⟨[v6,a1,tz,tz,(.zsl true),tz,v7,a1,(iz x2),(iz x8),v9,v10,v11,v12,v13,v14,v15,v16,v17,v18,v19,v20,v21,v22,v23,v24,v25,v26,tz],H⟩ [0] [r21X0_0 C0 d a1 K0 x2] (r21E0 C0 d a1 K0 x2)=L21_0 d a1 K0 x2 n v6 x8 H:=by
 generalize hR:r21R0 C0 d a1 K0 x2=R
 intro n
 induction n with
 | zero=>intros; rfl
 | succ n ih =>
   intro v6 v7 x8 v9 v10 v11 v12 v13 v14 v15 v16 v17 v18 v19 v20 v21 v22 v23 v24 v25 v26 H
   simp only [it_ret] at ih
   rw [it_ret,xiter_s]
   refine Eq.trans (congrFun (congrFun hR.symm _) _) ?_
   unfold r21R0
   refine Eq.trans (pl_len (by rfl)) ?_; refine yt yA ?_; refine yt ySs ?_; refine yt yA ?_; refine yt ySs ?_; refine yt yI ?_; (iterate 18 (refine yt yA ?_)); refine yt yS ?_
   simp only [kIter_n,kIter_x,kIter_r,kOut_x,kOut_r,xgo_hit,xgo_miss,ih,X21_0_0_ok d a1 K0 x2  ]
   exact (L21_0_s d a1 K0 x2 n v6 x8 H).symm
theorem q21 (d:Nat) (a0 a1:AV) (n0:Nat) (H0:Heap) (K0:AV→Heap→Ans):xmeth C0 M unr d (n0+8) 21 [a0,a1] H0 K0 =
 C0.hop H0 (.bk .lenV [(.v a1)]) fun v0 h1 =>
 C0.int .i64 (some v0) fun x2 =>
 L21_0 d a1 K0 x2 10000000000000000000 a0 0 h1:=(r21 C0 d a0 a1 n0 H0 K0).trans (by simp only [it21_0])
noncomputable def X26_0_0 (d:Nat) (v0:AV) (x4 x26:Int) (H:Heap):Ans :=
 C0.fin H (.int .u32 x26)
theorem X26_0_0_ok (d:Nat) (a0:List UInt8) (v0:AV) (x4 x26:Int) (v27:AV) (x28:Int) (v29 v30 v31 v32 v33 v34 v35 v36 v37:AV) (H:Heap):r26X0_0 C0 d a0 v0 x4 ⟨[(.str a0),tz,(.int .u32 0),(.int .u32 x26),tz,v27,(.str a0),(.str (List.drop 0 (List.take (Int.toNat 4) a0))),v0,(iz x4),(iz x28),v29,v30,v31,v32,v33,v34,v35,v36,v37,tz],H⟩=X26_0_0 d v0 x4 x26 H:=by
 unfold r26X0_0; refine Eq.trans (pl_len (by rfl)) ?_; refine yt ySs ?_; refine yt yI ?_; refine yt yS ?_; refine yt yA ?_; refine yt ySs ?_; refine yt yI ?_; refine yt yAs ?_; refine yt yS ?_
 rfl
noncomputable def L26_0 (d:Nat) (v0:AV) (x4:Int):Nat→Int→Int→Heap→Ans
 | 0,_,_,_=>none
 | n+1,x8,x10,H =>
 cnd (decide (x10 < x4))
  (C0.hop H (.ixAS .any 1 (.v v0) (.v (iz x10))) fun v20 h21 =>
  C0.hop h21 (.load false 1 (.v v20)) fun v22 h23 =>
  C0.int .u8 (some v22) fun x24 =>
  L26_0 d v0 x4 n (bits .or .u32 (IntKind.wrap .u32 (x8 * (2 ^ (min (Int.toNat 8) 32)))) (IntKind.wrap .u32 x24)) (IntKind.wrap .i64 (x10+1)) h23)
  (X26_0_0 d v0 x4 x8 H)
theorem L26_0_s (d:Nat) (v0:AV) (x4:Int) (n:Nat) (x8 x10:Int) (H:Heap):L26_0 d v0 x4 (n+1) x8 x10 H=(cnd (decide (x10 < x4))
 (C0.hop H (.ixAS .any 1 (.v v0) (.v (iz x10))) fun v20 h21 =>
 C0.hop h21 (.load false 1 (.v v20)) fun v22 h23 =>
 C0.int .u8 (some v22) fun x24 =>
 L26_0 d v0 x4 n (bits .or .u32 (IntKind.wrap .u32 (x8 * (2 ^ (min (Int.toNat 8) 32)))) (IntKind.wrap .u32 x24)) (IntKind.wrap .i64 (x10+1)) h23)
 (X26_0_0 d v0 x4 x8 H)):=by kernel_rfl
theorem it26_0 (d:Nat) (a0:List UInt8) (v0:AV) (x4:Int)  :∀ (n:Nat) (x8:Int) (v9:AV) (x10:Int) (v11 v12 v13 v14 v15 v16 v17 v18 v19:AV) (H:Heap),C0.iter (r26R0 C0 d a0 v0 x4) n ⟨[(.str a0),tz,(.int .u32 0),(.int .u32 x8),tz,v9,(.str a0),(.str (List.drop 0 (List.take (Int.toNat 4) a0))),v0,(iz x4),(iz x10),v11,v12,v13,v14,v15,v16,v17,v18,v19,tz],H⟩ [0] [r26X0_0 C0 d a0 v0 x4] (r26E0 C0 d a0 v0 x4)=L26_0 d v0 x4 n x8 x10 H:=by
 generalize hR:r26R0 C0 d a0 v0 x4=R
 intro n
 induction n with
 | zero=>intros; rfl
 | succ n ih =>
   intro x8 v9 x10 v11 v12 v13 v14 v15 v16 v17 v18 v19 H
   simp only [it_ret] at ih
   rw [it_ret,xiter_s]
   refine Eq.trans (congrFun (congrFun hR.symm _) _) ?_
   unfold r26R0
   refine Eq.trans (pl_len (by rfl)) ?_; refine yt ySs ?_; refine yt yI ?_; refine yt yS ?_; refine yt yA ?_; refine yt ySs ?_; refine yt yI ?_; (iterate 9 (refine yt yA ?_)); refine yt yS ?_
   simp only [kIter_n,kIter_x,kIter_r,kOut_x,kOut_r,xgo_hit,xgo_miss,ih,X26_0_0_ok d a0 v0 x4  ]
   exact (L26_0_s d v0 x4 n x8 x10 H).symm
theorem q26 (d:Nat) (a0:List UInt8):xcall C0 M unr d 26 [(.str a0)] =
 cnd (decide (((0:Int)≤4)∧((4:Int)≤(((List.length a0):Nat):Int))))
  (C0.hop [] (.s2b E5 (.v (.str (List.drop 0 (List.take (Int.toNat 4) a0))))) fun v0 h1 =>
  C0.hop h1 (.bk .lenV [(.v v0)]) fun v2 h3 =>
  C0.int .i64 (some v2) fun x4 =>
  L26_0 d v0 x4 10000000000000000000 0 0 h3)
  (none):=(r26 C0 d a0).trans (by simp only [it26_0])
noncomputable def X27_0_0 (d:Nat) (a0:Int) (s51:List UInt8) (v52:AV) (H:Heap):Ans :=
 C0.fin H (.tup [v52,(.str s51),(iz 0)])
theorem X27_0_0_ok (d:Nat) (a0:Int)   (s51:List UInt8) (v52:AV) (s53:List UInt8) (x54:Int) (v55:AV) (x56:Int) (b57:Bool) (v58 v59 v60 v61 v62 v63 v64 v65 v66 v67 v68 v69 v70 v71 v72:AV) (H:Heap):r27X0_0 C0 d a0 ⟨[(iz a0),(.str s51),tz,tz,v52,(.str s53),(iz x54),v55,(iz a0),(iz x56),(bz b57),v58,v59,v60,v61,v62,v63,v64,v65,v66,v67,v68,v69,v70,v71,v72,tz,tz],H⟩=X27_0_0 d a0 s51 v52 H:=by
 unfold r27X0_0; refine Eq.trans (pl_len (by rfl)) ?_; refine yt yS ?_; refine Eq.trans (pl_str (by rfl)) ?_; refine yt ySs ?_; refine yt yA ?_; refine Eq.trans (pl_str (by rfl)) ?_; refine yt yI ?_; refine yt yA ?_; refine yt yS ?_; refine yt yI ?_; refine yt yB ?_; refine yt yAs ?_; refine yt ySs ?_
 rfl
noncomputable def E27_0 (d:Nat) (a0:Int) (v74:AV) (s75:List UInt8) (x76:Int) (H:Heap):Ans :=
 C0.fin H (.tup [v74,(.str s75),(iz x76)])
theorem E27_0_ok (d:Nat) (a0:Int)   (s73:List UInt8) (v74:AV) (s75:List UInt8) (x76:Int) (v77:AV) (x78:Int) (b79:Bool) (v82:AV) (x83 x84 x85 x86:Int) (s87:List UInt8) (x88:Int) (s89:List UInt8) (v92:AV) (x93 x94 x95 x96:Int) (s97:List UInt8) (x98:Int) (v100:AV) (x101 x102 x103 x104:Int) (s105:List UInt8) (x106 x107:Int) (b108:Bool) (s109:List UInt8) (x110:Int) (v111 v112 v113 v114 v115:AV) (H:Heap):r27E0 C0 d a0 ⟨[(iz a0),(.str s73),tz,tz,v74,(.str s75),(iz x76),v77,(iz a0),(iz x78),(bz b79),(.tup [(.agg [v82,(iz x83),(iz x84),(iz x85),(iz x86)]),(.str s87),(iz x88)]),(.str s89),(.tup [(.agg [v92,(iz x93),(iz x94),(iz x95),(iz x96)]),(.str s97),(iz x98)]),(.agg [v100,(iz x101),(iz x102),(iz x103),(iz x104)]),(.str s105),(iz x106),(iz x107),(bz b108),(.str s109),(iz x110),v111,v112,v113,v114,v115,tz,tz],H⟩=E27_0 d a0 v74 s75 x76 H:=by
 unfold r27E0; refine Eq.trans (pl_len (by rfl)) ?_; refine yt yS ?_; refine Eq.trans (pl_str (by rfl)) ?_; refine yt ySs ?_; refine yt yA ?_; refine Eq.trans (pl_str (by rfl)) ?_; refine yt yI ?_; refine yt yA ?_; refine yt yS ?_; refine yt yI ?_; refine yt yB ?_; refine yt yT ?_; refine yt yG ?_; refine yt yA ?_; (iterate 4 (refine yt yI ?_)); refine Eq.trans (pl_str (by rfl)) ?_; refine yt yI ?_; refine Eq.trans (pl_str (by rfl)) ?_; refine yt yT ?_; refine yt yG ?_; refine yt yA ?_; (iterate 4 (refine yt yI ?_)); refine Eq.trans (pl_str (by rfl)) ?_; refine yt yI ?_; refine yt yG ?_; refine yt yA ?_; (iterate 4 (refine yt yI ?_)); refine Eq.trans (pl_str (by rfl)) ?_; (iterate 2 (refine yt yI ?_)); refine yt yB ?_; refine Eq.trans (pl_str (by rfl)) ?_; refine yt yI ?_; refine yt yAs ?_; refine yt ySs ?_
 rfl
noncomputable def L27_0 (d:Nat) (a0:Int):Nat→List UInt8→AV→Int→Heap→Ans
 | 0,_,_,_,_=>none
 | n+1,s3,v4,x8,H =>
 cnd (decide (x8 < a0))
  (C0.hop H (.alloc E46) fun v25 h26 =>
  C0.tup 3 (pcall M d 37 [(.str s3)]) fun l27 =>
  C0.agg 5 l27[0]? fun l28 =>
  C0.any l28[0]? fun v29 =>
  C0.int .i64 l28[1]? fun x30 =>
  C0.int .i64 l28[2]? fun x31 =>
  C0.int .i64 l28[3]? fun x32 =>
  C0.int .i64 l28[4]? fun x33 =>
  C0.str l27[1]? fun s34 =>
  C0.int .i64 l27[2]? fun x35 =>
  C0.hop h26 (.store 5 (.v v25) (.v (.agg [v29,(iz x30),(iz x31),(iz x32),(iz x33)]))) fun v36 h37 =>
  cnd (x35 != 0)
  (E27_0 d a0 (.zsl true) s34 x35 h37)
  (C0.hop h37 (.load true 5 (.v v25)) fun v38 h39 =>
  C0.agg 5 (some v38) fun l40 =>
  C0.any l40[0]? fun v41 =>
  C0.int .i64 l40[1]? fun x42 =>
  C0.int .i64 l40[2]? fun x43 =>
  C0.int .i64 l40[3]? fun x44 =>
  C0.int .i64 l40[4]? fun x45 =>
  C0.hop h39 (.mkrow E46 1 [(0,(.v (.agg [v41,(iz x42),(iz x43),(iz x44),(iz x45)])))]) fun v46 h47 =>
  C0.hop h47 (.app E46 (.v v4) (.v v46)) fun v48 h49 =>
  L27_0 d a0 n s34 v48 (IntKind.wrap .i64 (x8+1)) h49))
  (X27_0_0 d a0 s3 v4 H)
theorem L27_0_s (d:Nat) (a0:Int) (n:Nat) (s3:List UInt8) (v4:AV) (x8:Int) (H:Heap):L27_0 d a0 (n+1) s3 v4 x8 H=(cnd (decide (x8 < a0))
 (C0.hop H (.alloc E46) fun v25 h26 =>
 C0.tup 3 (pcall M d 37 [(.str s3)]) fun l27 =>
 C0.agg 5 l27[0]? fun l28 =>
 C0.any l28[0]? fun v29 =>
 C0.int .i64 l28[1]? fun x30 =>
 C0.int .i64 l28[2]? fun x31 =>
 C0.int .i64 l28[3]? fun x32 =>
 C0.int .i64 l28[4]? fun x33 =>
 C0.str l27[1]? fun s34 =>
 C0.int .i64 l27[2]? fun x35 =>
 C0.hop h26 (.store 5 (.v v25) (.v (.agg [v29,(iz x30),(iz x31),(iz x32),(iz x33)]))) fun v36 h37 =>
 cnd (x35 != 0)
 (E27_0 d a0 (.zsl true) s34 x35 h37)
 (C0.hop h37 (.load true 5 (.v v25)) fun v38 h39 =>
 C0.agg 5 (some v38) fun l40 =>
 C0.any l40[0]? fun v41 =>
 C0.int .i64 l40[1]? fun x42 =>
 C0.int .i64 l40[2]? fun x43 =>
 C0.int .i64 l40[3]? fun x44 =>
 C0.int .i64 l40[4]? fun x45 =>
 C0.hop h39 (.mkrow E46 1 [(0,(.v (.agg [v41,(iz x42),(iz x43),(iz x44),(iz x45)])))]) fun v46 h47 =>
 C0.hop h47 (.app E46 (.v v4) (.v v46)) fun v48 h49 =>
 L27_0 d a0 n s34 v48 (IntKind.wrap .i64 (x8+1)) h49))
 (X27_0_0 d a0 s3 v4 H)):=by kernel_rfl
theorem it27_0 (d:Nat) (a0:Int)  :∀ (n:Nat) (s3:List UInt8) (v4:AV) (s5:List UInt8) (x6:Int) (v7:AV) (x8:Int) (v9 v10 v11 v12 v13 v14 v15 v16 v17 v18 v19 v20 v21 v22 v23 v24:AV) (H:Heap),C0.iter (r27R0 C0 d a0) n ⟨[(iz a0),(.str s3),tz,tz,v4,(.str s5),(iz x6),v7,(iz a0),(iz x8),v9,v10,v11,v12,v13,v14,v15,v16,v17,v18,v19,v20,v21,v22,v23,v24,tz,tz],H⟩ [0] [r27X0_0 C0 d a0] (r27E0 C0 d a0)=L27_0 d a0 n s3 v4 x8 H:=by
 generalize hR:r27R0 C0 d a0=R
 intro n
 induction n with
 | zero=>intros; rfl
 | succ n ih =>
   intro s3 v4 s5 x6 v7 x8 v9 v10 v11 v12 v13 v14 v15 v16 v17 v18 v19 v20 v21 v22 v23 v24 H
   simp only [it_ret] at ih
   rw [it_ret,xiter_s]
   refine Eq.trans (congrFun (congrFun hR.symm _) _) ?_
   unfold r27R0
   refine Eq.trans (pl_len (by rfl)) ?_; refine yt yS ?_; refine Eq.trans (pl_str (by rfl)) ?_; refine yt ySs ?_; refine yt yA ?_; refine Eq.trans (pl_str (by rfl)) ?_; refine yt yI ?_; refine yt yA ?_; refine yt yS ?_; refine yt yI ?_; (iterate 16 (refine yt yA ?_)); refine yt ySs ?_
   simp only [kIter_n,kIter_x,kIter_r,kOut_x,kOut_r,xgo_hit,xgo_miss,ih,X27_0_0_ok d a0  ,E27_0_ok d a0  ]
   exact (L27_0_s d a0 n s3 v4 x8 H).symm
theorem q27 (d:Nat) (a0:Int) (a1:List UInt8):xcall C0 M unr d 27 [(iz a0),(.str a1)] =
 L27_0 d a0 10000000000000000000 a1 (.zsl true) 0 []:=(r27 C0 d a0 a1).trans (by simp only [it27_0])
noncomputable def X37_0_0 (d:Nat) (v0:AV) (x33:Int) (s73:List UInt8) (H:Heap):Ans :=
 C0.hop H (.load true 5 (.v v0)) fun v94 h95 =>
  C0.agg 5 (some v94) fun l96 =>
  C0.any l96[0]? fun v97 =>
  C0.int .i64 l96[1]? fun x98 =>
  C0.int .i64 l96[2]? fun x99 =>
  C0.int .i64 l96[3]? fun x100 =>
  C0.int .i64 l96[4]? fun x101 =>
  C0.hop h95 (.store 5 (.v v0) (.v (.agg [v97,(iz x98),(iz x99),(iz x100),(iz x101)]))) fun v102 h103 =>
  C0.hop h103 (.load true 5 (.v v0)) fun v104 h105 =>
  C0.fin h103 (.tup [v104,(.str s73),(iz 0)])
theorem X37_0_0_ok (d:Nat) (a0:List UInt8) (v0:AV) (x14 x27 x28 x29 x30 x33:Int)   (s73:List UInt8) (x74:Int) (b75:Bool) (v76 v77 v78 v79 v80 v81 v82 v83 v84 v85 v86 v87 v88 v89 v90 v91 v92 v93:AV) (H:Heap):r37X0_0 C0 d a0 v0 x14 x27 x28 x29 x30 x33 ⟨[(.str s73),tz,v0,(.str []),(iz 0),(iz (IntKind.wrap .i64 x33)),(.str a0),(iz (((List.length a0):Nat):Int)),(bz (decide ((((List.length a0):Nat):Int) < 14))),bf,(.str a0),(iz (((List.length a0):Nat):Int)),(iz (IntKind.wrap .i64 ((((List.length a0):Nat):Int) - 14))),(.str a0),(.int .u8 x14),(iz (IntKind.wrap .i64 x14)),(iz (IntKind.wrap .i64 (8 * (IntKind.wrap .i64 x14)))),(bz (decide ((IntKind.wrap .i64 ((((List.length a0):Nat):Int) - 14)) < (IntKind.wrap .i64 (8 * (IntKind.wrap .i64 x14)))))),bf,tz,tz,(.str a0),(.int .u8 x27),(iz (IntKind.wrap .i64 x27)),(.str a0),(.str (List.drop (Int.toNat 2) (List.take (List.length a0) a0))),(.int .u32 x28),(iz (IntKind.wrap .i64 x28)),(.str a0),(.str (List.drop (Int.toNat 6) (List.take (List.length a0) a0))),(.int .u32 x29),(iz (IntKind.wrap .i64 x29)),(.str a0),(.str (List.drop (Int.toNat 10) (List.take (List.length a0) a0))),(.int .u32 x30),(iz (IntKind.wrap .i64 x30)),(.agg [(.zsl true),(iz (IntKind.wrap .i64 x27)),(iz (IntKind.wrap .i64 x28)),(iz (IntKind.wrap .i64 x29)),(iz (IntKind.wrap .i64 x30))]),(.str a0),(.int .u8 x33),(iz (IntKind.wrap .i64 x33)),(.str a0),(.str (List.drop (Int.toNat 14) (List.take (List.length a0) a0))),(iz (IntKind.wrap .i64 x33)),(iz x74),(bz b75),v76,v77,v78,v79,v80,v81,v82,v83,v84,v85,v86,v87,v88,v89,v90,v91,v92,v93,tz,tz],H⟩=X37_0_0 d v0 x33 s73 H:=by
 unfold r37X0_0; refine Eq.trans (pl_len (by rfl)) ?_; refine Eq.trans (pl_str (by rfl)) ?_; refine yt ySs ?_; refine yt yI ?_; refine yt yB ?_; refine yt yAs ?_; refine yt ySs ?_
 rfl
noncomputable def L37_0 (d:Nat) (v0:AV) (x33:Int):Nat→List UInt8→Int→Heap→Ans
 | 0,_,_,_=>none
 | n+1,s37,x38,H =>
 cnd (decide (x38 < (IntKind.wrap .i64 x33)))
  (C0.hop H (.fldA 0 (.v v0)) fun v58 h59 =>
  C0.hop h59 (.load false 1 (.v v58)) fun v60 h61 =>
  C0.int .u32 (pcall M d 26 [(.str s37)]) fun x62 =>
  cnd (decide (((0:Int)≤4)∧((4:Int)≤(((List.length s37):Nat):Int))))
  (C0.int .u32 (pcall M d 26 [(.str (List.drop (Int.toNat 4) (List.take (List.length s37) s37)))]) fun x63 =>
  C0.hop h61 (.mkrow E50 1 [(0,(.v (.agg [(iz (IntKind.wrap .i64 (IntKind.wrap .i32 x62))),(iz (IntKind.wrap .i64 (IntKind.wrap .i32 x63)))])))]) fun v64 h65 =>
  C0.hop h65 (.app E50 (.v v60) (.v v64)) fun v66 h67 =>
  C0.hop h67 (.fldA 0 (.v v0)) fun v68 h69 =>
  C0.hop h69 (.store 1 (.v v68) (.v v66)) fun v70 h71 =>
  cnd (decide (((0:Int)≤8)∧((8:Int)≤(((List.length s37):Nat):Int))))
  (L37_0 d v0 x33 n (List.drop (Int.toNat 8) (List.take (List.length s37) s37)) (IntKind.wrap .i64 (x38+1)) h71)
  (none))
  (none))
  (X37_0_0 d v0 x33 s37 H)
theorem L37_0_s (d:Nat) (v0:AV) (x33:Int) (n:Nat) (s37:List UInt8) (x38:Int) (H:Heap):L37_0 d v0 x33 (n+1) s37 x38 H=(cnd (decide (x38 < (IntKind.wrap .i64 x33)))
 (C0.hop H (.fldA 0 (.v v0)) fun v58 h59 =>
 C0.hop h59 (.load false 1 (.v v58)) fun v60 h61 =>
 C0.int .u32 (pcall M d 26 [(.str s37)]) fun x62 =>
 cnd (decide (((0:Int)≤4)∧((4:Int)≤(((List.length s37):Nat):Int))))
 (C0.int .u32 (pcall M d 26 [(.str (List.drop (Int.toNat 4) (List.take (List.length s37) s37)))]) fun x63 =>
 C0.hop h61 (.mkrow E50 1 [(0,(.v (.agg [(iz (IntKind.wrap .i64 (IntKind.wrap .i32 x62))),(iz (IntKind.wrap .i64 (IntKind.wrap .i32 x63)))])))]) fun v64 h65 =>
 C0.hop h65 (.app E50 (.v v60) (.v v64)) fun v66 h67 =>
 C0.hop h67 (.fldA 0 (.v v0)) fun v68 h69 =>
 C0.hop h69 (.store 1 (.v v68) (.v v66)) fun v70 h71 =>
 cnd (decide (((0:Int)≤8)∧((8:Int)≤(((List.length s37):Nat):Int))))
 (L37_0 d v0 x33 n (List.drop (Int.toNat 8) (List.take (List.length s37) s37)) (IntKind.wrap .i64 (x38+1)) h71)
 (none))
 (none))
 (X37_0_0 d v0 x33 s37 H)):=by kernel_rfl
theorem it37_0 (d:Nat) (a0:List UInt8) (v0:AV) (x14 x27 x28 x29 x30 x33:Int)  :∀ (n:Nat) (s37:List UInt8) (x38:Int) (v39 v40 v41 v42 v43 v44 v45 v46 v47 v48 v49 v50 v51 v52 v53 v54 v55 v56 v57:AV) (H:Heap),C0.iter (r37R0 C0 d a0 v0 x14 x27 x28 x29 x30 x33) n ⟨[(.str s37),tz,v0,(.str []),(iz 0),(iz (IntKind.wrap .i64 x33)),(.str a0),(iz (((List.length a0):Nat):Int)),(bz (decide ((((List.length a0):Nat):Int) < 14))),bf,(.str a0),(iz (((List.length a0):Nat):Int)),(iz (IntKind.wrap .i64 ((((List.length a0):Nat):Int) - 14))),(.str a0),(.int .u8 x14),(iz (IntKind.wrap .i64 x14)),(iz (IntKind.wrap .i64 (8 * (IntKind.wrap .i64 x14)))),(bz (decide ((IntKind.wrap .i64 ((((List.length a0):Nat):Int) - 14)) < (IntKind.wrap .i64 (8 * (IntKind.wrap .i64 x14)))))),bf,tz,tz,(.str a0),(.int .u8 x27),(iz (IntKind.wrap .i64 x27)),(.str a0),(.str (List.drop (Int.toNat 2) (List.take (List.length a0) a0))),(.int .u32 x28),(iz (IntKind.wrap .i64 x28)),(.str a0),(.str (List.drop (Int.toNat 6) (List.take (List.length a0) a0))),(.int .u32 x29),(iz (IntKind.wrap .i64 x29)),(.str a0),(.str (List.drop (Int.toNat 10) (List.take (List.length a0) a0))),(.int .u32 x30),(iz (IntKind.wrap .i64 x30)),(.agg [(.zsl true),(iz (IntKind.wrap .i64 x27)),(iz (IntKind.wrap .i64 x28)),(iz (IntKind.wrap .i64 x29)),(iz (IntKind.wrap .i64 x30))]),(.str a0),(.int .u8 x33),(iz (IntKind.wrap .i64 x33)),(.str a0),(.str (List.drop (Int.toNat 14) (List.take (List.length a0) a0))),(iz (IntKind.wrap .i64 x33)),(iz x38),v39,v40,v41,v42,v43,v44,v45,v46,v47,v48,v49,v50,v51,v52,v53,v54,v55,v56,v57,tz,tz],H⟩ [0] [r37X0_0 C0 d a0 v0 x14 x27 x28 x29 x30 x33] (r37E0 C0 d a0 v0 x14 x27 x28 x29 x30 x33)=L37_0 d v0 x33 n s37 x38 H:=by
 generalize hR:r37R0 C0 d a0 v0 x14 x27 x28 x29 x30 x33=R
 intro n
 induction n with
 | zero=>intros; rfl
 | succ n ih =>
   intro s37 x38 v39 v40 v41 v42 v43 v44 v45 v46 v47 v48 v49 v50 v51 v52 v53 v54 v55 v56 v57 H
   simp only [it_ret] at ih
   rw [it_ret,xiter_s]
   refine Eq.trans (congrFun (congrFun hR.symm _) _) ?_
   unfold r37R0
   refine Eq.trans (pl_len (by rfl)) ?_; refine Eq.trans (pl_str (by rfl)) ?_; refine yt ySs ?_; refine yt yI ?_; (iterate 19 (refine yt yA ?_)); refine yt ySs ?_
   simp only [kIter_n,kIter_x,kIter_r,kOut_x,kOut_r,xgo_hit,xgo_miss,ih,X37_0_0_ok d a0 v0 x14 x27 x28 x29 x30 x33  ]
   exact (L37_0_s d v0 x33 n s37 x38 H).symm
theorem q37 (d:Nat) (a0:List UInt8):xcall C0 M unr d 37 [(.str a0)] =
 C0.hop [] (.alloc E46) fun v0 h1 =>
 cnd (decide ((((List.length a0):Nat):Int) < 14))
  (C0.hop h1 (.load true 5 (.v v0)) fun v2 h3 =>
  C0.agg 5 (some v2) fun l4 =>
  C0.any l4[0]? fun v5 =>
  C0.int .i64 l4[1]? fun x6 =>
  C0.int .i64 l4[2]? fun x7 =>
  C0.int .i64 l4[3]? fun x8 =>
  C0.int .i64 l4[4]? fun x9 =>
  C0.hop h3 (.store 5 (.v v0) (.v (.agg [v5,(iz x6),(iz x7),(iz x8),(iz x9)]))) fun v10 h11 =>
  C0.hop h11 (.load true 5 (.v v0)) fun v12 h13 =>
  C0.fin h11 (.tup [v12,(.str a0),(iz 5)]))
  (C0.int .u8 (Option.map (fun b:UInt8=>AV.int .u8 (b.toNat:Int)) a0[0]?) fun x14 =>
  cnd (decide ((IntKind.wrap .i64 ((((List.length a0):Nat):Int) - 14)) < (IntKind.wrap .i64 (8 * (IntKind.wrap .i64 x14)))))
  (C0.hop h1 (.load true 5 (.v v0)) fun v15 h16 =>
  C0.agg 5 (some v15) fun l17 =>
  C0.any l17[0]? fun v18 =>
  C0.int .i64 l17[1]? fun x19 =>
  C0.int .i64 l17[2]? fun x20 =>
  C0.int .i64 l17[3]? fun x21 =>
  C0.int .i64 l17[4]? fun x22 =>
  C0.hop h16 (.store 5 (.v v0) (.v (.agg [v18,(iz x19),(iz x20),(iz x21),(iz x22)]))) fun v23 h24 =>
  C0.hop h24 (.load true 5 (.v v0)) fun v25 h26 =>
  C0.fin h24 (.tup [v25,(.str a0),(iz 5)]))
  (C0.int .u8 (Option.map (fun b:UInt8=>AV.int .u8 (b.toNat:Int)) a0[1]?) fun x27 =>
  cnd (decide (((0:Int)≤2)∧((2:Int)≤(((List.length a0):Nat):Int))))
  (C0.int .u32 (pcall M d 26 [(.str (List.drop (Int.toNat 2) (List.take (List.length a0) a0)))]) fun x28 =>
  cnd (decide (((0:Int)≤6)∧((6:Int)≤(((List.length a0):Nat):Int))))
  (C0.int .u32 (pcall M d 26 [(.str (List.drop (Int.toNat 6) (List.take (List.length a0) a0)))]) fun x29 =>
  cnd (decide (((0:Int)≤10)∧((10:Int)≤(((List.length a0):Nat):Int))))
  (C0.int .u32 (pcall M d 26 [(.str (List.drop (Int.toNat 10) (List.take (List.length a0) a0)))]) fun x30 =>
  C0.hop h1 (.store 5 (.v v0) (.v (.agg [(.zsl true),(iz (IntKind.wrap .i64 x27)),(iz (IntKind.wrap .i64 x28)),(iz (IntKind.wrap .i64 x29)),(iz (IntKind.wrap .i64 x30))]))) fun v31 h32 =>
  C0.int .u8 (Option.map (fun b:UInt8=>AV.int .u8 (b.toNat:Int)) a0[0]?) fun x33 =>
  cnd (decide (((0:Int)≤14)∧((14:Int)≤(((List.length a0):Nat):Int))))
  (L37_0 d v0 x33 10000000000000000000 (List.drop (Int.toNat 14) (List.take (List.length a0) a0)) 0 h32)
  (none))
  (none))
  (none))
  (none))):=(r37 C0 d a0).trans (by simp only [it37_0])
end Go.Proofs.Ytbmedgpiphibaaa.AE

namespace Go.Proofs.Ytbmedgpiphibaaa.AE
set_option linter.unusedVariables false
set_option linter.unusedSimpArgs false
set_option linter.constructorNameAsVariable false
open Go Go.Proofs.Ytbmedgpiphibaaa.Geo
attribute [local irreducible] pcall C0
set_option maxRecDepth 100000
theorem fe24 (n:Int):Int.fdiv n (2 ^ (min (Int.toNat 24) 64))=n / 16777216:=by
 rw [show (2 ^ (min (Int.toNat 24) 64):Int)=16777216 from rfl,Int.fdiv_eq_ediv_of_nonneg _ (by decide)]
theorem fe16 (n:Int):Int.fdiv n (2 ^ (min (Int.toNat 16) 64))=n / 65536:=by
 rw [show (2 ^ (min (Int.toNat 16) 64):Int)=65536 from rfl,Int.fdiv_eq_ediv_of_nonneg _ (by decide)]
theorem fe8 (n:Int):Int.fdiv n (2 ^ (min (Int.toNat 8) 64))=n / 256:=by
 rw [show (2 ^ (min (Int.toNat 8) 64):Int)=256 from rfl,Int.fdiv_eq_ediv_of_nonneg _ (by decide)]
theorem bytesAV_app (a b:List UInt8):bytesAV (a ++ b)=bytesAV a ++ bytesAV b:=by simp [bytesAV]
theorem bytesAV_len (a:List UInt8):(bytesAV a).length=a.length:=by simp [bytesAV]
theorem put8 (n:Int):AV.int .u8 (IntKind.wrap .u8 n)=.int .u8 ((by8 n).toNat:Int):=by rw [by8_n,u8w]
theorem be4_av (n:Int):[AV.int .u8 (IntKind.wrap .u8 (Int.fdiv n (2 ^ (min (Int.toNat 24) 64)))),.int .u8 (IntKind.wrap .u8 (Int.fdiv n (2 ^ (min (Int.toNat 16) 64)))),.int .u8 (IntKind.wrap .u8 (Int.fdiv n (2 ^ (min (Int.toNat 8) 64)))),.int .u8 (IntKind.wrap .u8 n)]=bytesAV (be4 n):=by
 rw [fe24,fe16,fe8,put8,put8,put8,put8]; rfl
def OwnB (H:Heap) (v:AV) (l:List UInt8):Prop:=Own H E5 v (bytesAV l)
theorem row_app {H:Heap} {v:AV} {l:List UInt8} {xs:List AV} {bs:List UInt8} (n:Nat) (ps:List (Nat × Opd)) (ho:OwnB H v l) (hr:fillR E5 (List.replicate n (E5).zero) (ps.map fun p=>(p.1,evO [] p.2))=some xs) (hxs:xs=bytesAV bs) (hn:bs.length=n) (hs:l.length+bs.length≤1000000) :
 ∃ v' H',(∀ K:AV→Heap→Ans,(C0.hop H (.mkrow E5 n ps) fun r H1=>C0.hop H1 (.app E5 (.v v) (.v r)) K)=K v' H')∧OwnB H' v' (l ++ bs)∧(∀ id,names v' id→H.length≤id)∧H.length≤H'.length∧∀ id b,¬ names v id→hget H id=some b→hget H' id=some b:=by
 subst hxs
 have e1:aop noCall (evO []) H (.mkrow E5 n ps)=some (.slc H.length 0 n,H ++ [some ⟨E5,bytesAV bs⟩]):=by
  simp only [aop,hr]
 have ho':Own (H ++ [some ⟨E5,bytesAV bs⟩]) E5 v (bytesAV l):=own_keep ho fun id b _ h=>hget_app h
 have hx:(bytesAV bs).all (elOk E5)=true:=by
  rw [List.all_eq_true]
  intro x hx
  unfold bytesAV at hx
  obtain ⟨b,_,rfl⟩:=List.mem_map.mp hx
  rfl
 obtain ⟨v',H',h1,h2,h5,h3,h4⟩:=app_own (xs:=bytesAV bs) (r:=.slc H.length 0 n) ho' (by simp [elsOf,hget_new,bytesAV_len,hn]; exact List.take_of_length_le (by rw [bytesAV_len]; omega)) hx (by rw [bytesAV_len,bytesAV_len,show (E5).bytes=1 from rfl]; omega) (by rw [bytesAV_len,bytesAV_len]; omega)
 refine ⟨v',H',?_,?_,?_,by rw [h3]; simp; omega,fun id b hn h=>h4 id b hn (hget_app h)⟩
 ·intro K; rw [hop_eq e1,hop_eq h1]
 ·unfold OwnB; rw [bytesAV_app]; exact h2
 ·rintro id ⟨o,n,rfl⟩
  injection h5 with h6
  rw [h6]; simp
theorem own_b {H:Heap} {v:AV} {l:List UInt8} {id:Nat} {b:Blk} (ho:OwnB H v l) (h:hget H id=some b) (hb:b.e.tid ≠ (E5).tid):¬ names v id:=by
 rintro ⟨o,n,rfl⟩
 rcases ho with ⟨_,_,hz⟩ | ⟨id',hz,hg⟩
 ·cases hz
 ·injection hz with e1 _ _
  subst e1
  rw [h] at hg
  injection hg with hg
  rw [hg] at hb
  exact hb rfl
def numsB (xs:List Int):List UInt8:=xs.flatMap be4
theorem numsB_cons (x:Int) (xs:List Int):numsB (x::xs)=be4 x ++ numsB xs:=by simp [numsB]
theorem numsB_len (xs:List Int):(numsB xs).length=4 * xs.length:=by
 induction xs with
 | nil=>rfl
 | cons x xs ih=>rw [numsB_cons,List.length_append,ih,be4_len,List.length_cons]; omega
theorem put_go (d:Nat) (xs:List Int) (iw:Nat) (hx:xs.length≤1000):∀ (k i:Nat),i+k=xs.length→∀ f,k < f→∀ (v:AV) (l:List UInt8) (H:Heap),OwnB H v l→hget H iw=some ⟨E2,iv xs⟩→l.length+4 * k≤1000000 →
 ∃ v' H',(∀ K,L21_0 d (.slc iw 0 xs.length) K (xs.length:Nat) f v (i:Nat) H=K v' H')∧OwnB H' v' (l ++ numsB (xs.drop i))∧(∀ id,names v' id→names v id ∨ H.length≤id)∧H.length≤H'.length∧∀ id b,¬ names v id→hget H id=some b→hget H' id=some b
 | 0,i,h,f+1,_,v,l,H,ho,hw,hl=>by
   refine ⟨v,H,fun K=>?_,?_,fun id h=>.inl h,Nat.le_refl _,fun id b _ h=>h⟩
   ·rw [L21_0_s,decide_eq_false (by omega),cnd_f]; rfl
   ·rw [List.drop_of_length_le (by omega)]; simpa [numsB] using ho
 | k+1,i,h,f+1,hf,v,l,H,ho,hw,hl=>by
   have hi:i < xs.length:=by omega
   have e:(iv xs)[0+((i:Nat):Int).toNat]?=some (.int .i64 xs[i]):=by rw [Nat.zero_add,Int.toNat_natCast,iv_at,List.getElem?_eq_getElem hi]; rfl
   obtain ⟨v1,H1,h1,h2,h3,h4,h5⟩:=row_app (H:=H) (v:=v) (l:=l) (bs:=be4 xs[i]) 4 [(0,(.v (.int .u8 (IntKind.wrap .u8 (Int.fdiv xs[i] (2 ^ (min (Int.toNat 24) 64))))))),(1,(.v (.int .u8 (IntKind.wrap .u8 (Int.fdiv xs[i] (2 ^ (min (Int.toNat 16) 64))))))),(2,(.v (.int .u8 (IntKind.wrap .u8 (Int.fdiv xs[i] (2 ^ (min (Int.toNat 8) 64))))))),(3,(.v (.int .u8 (IntKind.wrap .u8 xs[i]))))] ho rfl (be4_av _) rfl (by rw [be4_len]; omega)
   have hw1:¬ names v iw:=own_b ho hw (show (E2).tid ≠ (E5).tid by decide)
   obtain ⟨v',H',g1,g2,g3,g4,g5⟩:=put_go d xs iw hx k (i+1) (by omega) f (by omega) v1 (l ++ be4 xs[i]) H1 h2 (h5 _ _ hw1 hw) (by rw [List.length_append,be4_len]; omega)
   have hn1:∀ id b,¬ names v id→hget H id=some b→¬ names v1 id:=fun id b _ hb hn=>by have:=h3 id hn; have:=hg_lt hb; omega
   refine ⟨v',H',fun K=>?_,?_,fun id hn=>?_,by omega,fun id b hn hb=>g5 id b (hn1 id b hn hb) (h5 id b hn hb)⟩
   ·rw [L21_0_s,decide_eq_true (by omega),cnd_t]
    refine Eq.trans (ix_slc hw (by omega) (by omega) rfl) ?_
    refine Eq.trans (ld_ptr hw e rfl) ?_
    refine Eq.trans (pl_int rfl) ?_
    rw [h1,i64_up (by omega)]
    exact g1 K
   ·rw [List.drop_eq_getElem_cons hi,numsB_cons,← List.append_assoc]; exact g2
   ·rcases g3 id hn with c | c
    ·exact .inr (h3 id c)
    ·exact .inr (by omega)
theorem putC (d n0:Nat) (xs:List Int) (hx:xs.length≤1000) (H:Heap) (v:AV) (l:List UInt8) (iw:Nat) (ho:OwnB H v l) (hw:hget H iw=some ⟨E2,iv xs⟩) (hl:l.length+4 * xs.length≤1000000) :
 ∃ v' H',(∀ K:AV→Heap→Ans,C0.cal M (pcall M d) (n0+9) true 21 [v,.slc iw 0 xs.length] H K=K v' H')∧OwnB H' v' (l ++ numsB xs)∧(∀ id,names v' id→names v id ∨ H.length≤id)∧H.length≤H'.length∧∀ id b,¬ names v id→hget H id=some b→hget H' id=some b:=by
 obtain ⟨v',H',g1,g2,g3,g4,g5⟩:=put_go d xs iw hx xs.length 0 (by omega) 10000000000000000000 (by omega) v l H ho hw hl
 refine ⟨v',H',fun K=>cal_eq ?_,by simpa using g2,g3,g4,g5⟩
 refine xmeth_ok (U:=unr) (n:=n0+8) rfl rfl rfl fun K=>?_
 refine (q21 d v _ n0 H K).trans ?_
 refine Eq.trans (len_slc hw) ?_
 refine Eq.trans (pl_int rfl) ?_
 exact g1 K
theorem get_step (d f:Nat) (l:List UInt8) (i:Nat) (hi:i < l.length) (hl:l.length=4) (x:Int) (h:0≤x) (h':x < 16777216):L26_0 d (.slc 0 0 4) 4 (f+1) x (i:Nat) [some ⟨E5,bytesAV l⟩]=L26_0 d (.slc 0 0 4) 4 f (x * 256+(l[i].toNat:Int)) ((i+1:Nat):Int) [some ⟨E5,bytesAV l⟩]:=by
 rw [L26_0,decide_eq_true (by omega),cnd_t]
 refine Eq.trans (ix_slc (b:=⟨E5,bytesAV l⟩) rfl (by omega) (by omega) rfl) ?_
 refine Eq.trans (ld_ptr (b:=⟨E5,bytesAV l⟩) (v:=.int .u8 (l[i].toNat:Int)) rfl (show (bytesAV l)[0+((i:Nat):Int).toNat]?=_ by rw [show 0+((i:Nat):Int).toNat=i by omega]; exact bytes_at hi) rfl) ?_
 refine Eq.trans (pl_int rfl) ?_
 rw [or_byte h h',i64_up (by omega)]
theorem get_go (d f:Nat) (a b c e:UInt8):L26_0 d (.slc 0 0 4) 4 (f+5) 0 0 [some ⟨E5,bytesAV [a,b,c,e]⟩]=some (.int .u32 (num4 [a,b,c,e])):=by
 have ha:=u8lt a; have hb:=u8lt b; have hc:=u8lt c; have he:=u8lt e
 refine Eq.trans (get_step d (f+4) [a,b,c,e] 0 (by simp) rfl 0 (by decide) (by decide)) ?_
 refine Eq.trans (get_step d (f+3) [a,b,c,e] 1 (by simp) rfl _ (by simp only [List.getElem_cons_zero]; omega) (by simp only [List.getElem_cons_zero]; omega)) ?_
 refine Eq.trans (get_step d (f+2) [a,b,c,e] 2 (by simp) rfl _ (by simp only [List.getElem_cons_zero,List.getElem_cons_succ]; omega) (by simp only [List.getElem_cons_zero,List.getElem_cons_succ]; omega)) ?_
 refine Eq.trans (get_step d (f+1) [a,b,c,e] 3 (by simp) rfl _ (by simp only [List.getElem_cons_zero,List.getElem_cons_succ]; omega) (by simp only [List.getElem_cons_zero,List.getElem_cons_succ]; omega)) ?_
 rw [L26_0,decide_eq_false (by decide),cnd_f]
 unfold X26_0_0
 refine (f_free rfl).trans ?_
 congr 2
 unfold num4
 simp only [List.getElem_cons_zero,List.getElem_cons_succ,List.getD_cons_zero,List.getD_cons_succ]
 omega
theorem num4_take (s:List UInt8) (h:4≤s.length):∃ a b c e t,s=a::b::c::e::t:=by
 match s,h with
 | a::b::c::e::t,_=>exact ⟨a,b,c,e,t,rfl⟩
theorem s26 (d:Nat) (s:List UInt8) (h:4≤s.length):pcall M (d+1) 26 [.str s]=some (.int .u32 (num4 s)):=told (q26 d _) (by
 obtain ⟨a,b,c,e,t,rfl⟩:=num4_take s h
 refine Eq.trans (pl_len (by rw [decide_eq_true_iff]; simp only [List.length_cons]; omega)) ?_
 refine Eq.trans s2b_h ?_
 refine Eq.trans (len_slc (b:=⟨E5,bytesAV [a,b,c,e]⟩) rfl) ?_
 refine Eq.trans (pl_int rfl) ?_
 obtain ⟨f,hf⟩:∃ f:Nat,10000000000000000000=f+5:=⟨9999999999999999995,rfl⟩
 rw [hf]
 exact get_go d f a b c e)
theorem str_ge {s:List UInt8} {i:Nat} (h:i < s.length):Option.map (fun b:UInt8=>AV.int .u8 (b.toNat:Int)) s[i]?=some (.int .u8 ((s.getD i 0).toNat:Int)):=by rw [List.getElem?_eq_getElem h,List.getD_eq_getElem?_getD,List.getElem?_eq_getElem h]; rfl
def sg4 (s:List UInt8):Int:=if num4 s ≥ 2147483648 then num4 s - 4294967296 else num4 s
theorem i32w (n:Int):IntKind.i32.wrap n=(n+2147483648) % 4294967296 - 2147483648:=by
 simp only [IntKind.wrap,IntKind.bits,IntKind.signed]; simp; omega
theorem sg_wrap (s:List UInt8):IntKind.wrap .i64 (IntKind.wrap .i32 (num4 s))=sg4 s:=by
 have:=num4_bd s
 unfold sg4
 rw [i32w]
 split <;> rw [i64_small (by omega) (by omega)] <;> omega
end Go.Proofs.Ytbmedgpiphibaaa.AE

namespace Go.Proofs.Ytbmedgpiphibaaa.AE
set_option linter.unusedVariables false
set_option linter.unusedSimpArgs false
set_option linter.constructorNameAsVariable false
open Go
set_option maxRecDepth 100000
set_option maxHeartbeats 0
theorem r25 (C:Cb) (d:Nat) (a0:List UInt8) (a1:List UInt8):xcall C M unr d 25 [(.str a0),(.str a1)] =
 C.bool (pcall M d 36 [(.str a0),(.str a1)]) fun b0 =>
 some (.bool b0):=by kernel_rfl
theorem r36 (C:Cb) (d:Nat) (a0:List UInt8) (a1:List UInt8):xcall C M unr d 36 [(.str a0),(.str a1)] =
 cnd (decide ((((List.length a0):Nat):Int) ≥ (((List.length a1):Nat):Int)))
 (cnd (decide (((0:Int)≤(((List.length a1):Nat):Int))∧((((List.length a1):Nat):Int)≤(((List.length a0):Nat):Int))))
 (some (.bool ((List.drop 0 (List.take (Int.toNat (((List.length a1):Nat):Int)) a0)) == a1)))
 (none))
 (some bf):=by kernel_rfl
def r38R0 (C:Cb) (d:Nat) (a0 a1:List AV):St→(Ex→St→Ans)→Ans:=fun s0 k1 =>
 cnd ((List.length s0.env) == 26)
 (sames C s0.env 0 [(.lst a0),(.lst a1),tz,tz] <|
 C.bool s0.env[4]? fun b3 =>
 C.int .i64 s0.env[5]? fun x4 =>
 sames C s0.env 6 [(.lst a0),(iz (((List.length a0):Nat):Int)),(.lst a1),(iz (((List.length a1):Nat):Int)),bf] <|
 anys C s0.env 11 4 <|
 C.any s0.env[15]? fun v9 =>
 C.any s0.env[16]? fun v10 =>
 C.any s0.env[17]? fun v11 =>
 C.any s0.env[18]? fun v12 =>
 C.any s0.env[19]? fun v13 =>
 C.any s0.env[20]? fun v14 =>
 C.any s0.env[21]? fun v15 =>
 C.any s0.env[22]? fun v16 =>
 C.any s0.env[23]? fun v17 =>
 C.any s0.env[24]? fun v18 =>
 C.any s0.env[25]? fun v19 =>
 C.sameH (St.H s0) [] <|
 cnd (decide (x4 < (((List.length a0):Nat):Int)))
 (cnd (decide ((0:Int)≤x4))
 (C.agg 2 a0[(Int.toNat x4)]? fun l20 =>
 C.int .i64 l20[0]? fun x21 =>
 C.int .i64 l20[1]? fun x22 =>
 cnd (decide ((0:Int)≤x4))
 (C.agg 2 a1[(Int.toNat x4)]? fun l23 =>
 C.int .i64 l23[0]? fun x24 =>
 C.int .i64 l23[1]? fun x25 =>
 cnd (xor true ((x21 == x24) && ((x22 == x25) && true)))
 (k1 .ret ⟨[(.lst a0),(.lst a1),tz,tz,bf,(iz x4),(.lst a0),(iz (((List.length a0):Nat):Int)),(.lst a1),(iz (((List.length a1):Nat):Int)),bf,(iz x4),(.lst a0),(iz (((List.length a0):Nat):Int)),bt,v9,v10,(.lst a0),(iz x4),(.fptr (.agg [(iz x21),(iz x22)]) 0),(.agg [(iz x21),(iz x22)]),(.lst a1),(iz x4),(.fptr (.agg [(iz x24),(iz x25)]) 0),(.agg [(iz x24),(iz x25)]),bt],[]⟩)
 (k1 .normal ⟨[(.lst a0),(.lst a1),tz,tz,(.bool b3),(iz (IntKind.wrap .i64 (x4+1))),(.lst a0),(iz (((List.length a0):Nat):Int)),(.lst a1),(iz (((List.length a1):Nat):Int)),bf,(iz x4),(.lst a0),(iz (((List.length a0):Nat):Int)),bt,(iz x4),(iz (IntKind.wrap .i64 (x4+1))),(.lst a0),(iz x4),(.fptr (.agg [(iz x21),(iz x22)]) 0),(.agg [(iz x21),(iz x22)]),(.lst a1),(iz x4),(.fptr (.agg [(iz x24),(iz x25)]) 0),(.agg [(iz x24),(iz x25)]),bf],[]⟩))
 (none))
 (none))
 (k1 (.exit 0) ⟨[(.lst a0),(.lst a1),tz,tz,(.bool b3),(iz x4),(.lst a0),(iz (((List.length a0):Nat):Int)),(.lst a1),(iz (((List.length a1):Nat):Int)),bf,(iz x4),(.lst a0),(iz (((List.length a0):Nat):Int)),bf,v9,v10,v11,v12,v13,v14,v15,v16,v17,v18,v19],[]⟩))
 (none)
def r38X0_0 (C:Cb) (d:Nat) (a0 a1:List AV):St→Ans:=fun s26 =>
 cnd ((List.length s26.env) == 26)
 (sames C s26.env 0 [(.lst a0),(.lst a1),tz,tz] <|
 C.bool s26.env[4]? fun b27 =>
 C.int .i64 s26.env[5]? fun x28 =>
 sames C s26.env 6 [(.lst a0),(iz (((List.length a0):Nat):Int)),(.lst a1),(iz (((List.length a1):Nat):Int)),bf] <|
 C.int .i64 s26.env[11]? fun x29 =>
 C.any s26.env[12]? fun v30 =>
 C.int .i64 s26.env[13]? fun x31 =>
 C.bool s26.env[14]? fun b32 =>
 anys C s26.env 15 11 <|
 C.sameH (St.H s26) [] <|
 some bt)
 (none)
def r38E0 (C:Cb) (d:Nat) (a0 a1:List AV):St→Ans:=fun s2 =>
 cnd ((List.length s2.env) == 26)
 (sames C s2.env 0 [(.lst a0),(.lst a1),tz,tz] <|
 C.bool s2.env[4]? fun b44 =>
 C.int .i64 s2.env[5]? fun x45 =>
 sames C s2.env 6 [(.lst a0),(iz (((List.length a0):Nat):Int)),(.lst a1),(iz (((List.length a1):Nat):Int)),bf] <|
 C.int .i64 s2.env[11]? fun x46 =>
 C.any s2.env[12]? fun v47 =>
 C.int .i64 s2.env[13]? fun x48 =>
 C.bool s2.env[14]? fun b49 =>
 anys C s2.env 15 3 <|
 C.int .i64 s2.env[18]? fun x53 =>
 C.any s2.env[19]? fun v54 =>
 C.agg 2 s2.env[20]? fun l55 =>
 C.int .i64 l55[0]? fun x56 =>
 C.int .i64 l55[1]? fun x57 =>
 C.any s2.env[21]? fun v58 =>
 C.int .i64 s2.env[22]? fun x59 =>
 C.any s2.env[23]? fun v60 =>
 C.agg 2 s2.env[24]? fun l61 =>
 C.int .i64 l61[0]? fun x62 =>
 C.int .i64 l61[1]? fun x63 =>
 C.bool s2.env[25]? fun b64 =>
 C.sameH (St.H s2) [] <|
 some (.bool b44))
 (none)
theorem r38 (C:Cb) (d:Nat) (a0 a1:List AV):xcall C M unr d 38 [(.lst a0),(.lst a1)] =
 cnd ((((List.length a0):Nat):Int) != (((List.length a1):Nat):Int))
 (some bf)
 (C.iter (r38R0 C d a0 a1) 10000000000000000000 ⟨[(.lst a0),(.lst a1),tz,tz,bf,(iz 0),(.lst a0),(iz (((List.length a0):Nat):Int)),(.lst a1),(iz (((List.length a1):Nat):Int)),bf,tz,tz,tz,tz,tz,tz,tz,tz,tz,tz,tz,tz,tz,tz,tz],[]⟩ [0] [r38X0_0 C d a0 a1] (r38E0 C d a0 a1)):=by kernel_rfl
theorem r48 (C:Cb) (d:Nat) (a0 a1:Int):xcall C M unr d 48 [(.agg [(iz a0),(iz a1)])] =
 cnd (decide (a0 ≥ (-1099511627776)))
 (cnd (decide (a0≤1099511627776))
 (cnd (decide (a1 ≥ (-1099511627776)))
 (some (.bool (decide (a1≤1099511627776))))
 (some bf))
 (some bf))
 (some bf):=by kernel_rfl
theorem r50 (C:Cb) (d:Nat) (a0 a1 a2 a3 a4 a5:Int):xcall C M unr d 50 [(.agg [(iz a0),(iz a1)]),(.agg [(iz a2),(iz a3)]),(.agg [(iz a4),(iz a5)])] =
 C.bool (pcall M d 48 [(.agg [(iz a2),(iz a3)])]) fun b0 =>
 cnd (!b0)
 (some bf)
 (C.bool (pcall M d 48 [(.agg [(iz a4),(iz a5)])]) fun b1 =>
 cnd (!b1)
 (some bf)
 (C.bool (pcall M d 48 [(.agg [(iz a0),(iz a1)])]) fun b2 =>
 cnd (!b2)
 (some bf)
 (C.int .i64 (pcall M d 55 [(.agg [(iz a2),(iz a3)]),(.agg [(iz a4),(iz a5)]),(.agg [(iz a0),(iz a1)])]) fun x3 =>
 cnd (x3 != 0)
 (some bf)
 (cnd (decide (a0 ≥ (if (a4 < a2) then a4 else a2)))
 (cnd (decide (a0≤(if (a4 > a2) then a4 else a2)))
 (cnd (decide (a1 ≥ (if (a5 < a3) then a5 else a3)))
 (some (.bool (decide (a1≤(if (a5 > a3) then a5 else a3)))))
 (some bf))
 (some bf))
 (some bf))))):=by kernel_rfl
theorem r51 (C:Cb) (d:Nat) (a0 a1 a2 a3 a4 a5 a6 a7:Int):xcall C M unr d 51 [(.agg [(iz a0),(iz a1)]),(.agg [(iz a2),(iz a3)]),(.agg [(iz a4),(iz a5)]),(.agg [(iz a6),(iz a7)])] =
 C.bool (pcall M d 48 [(.agg [(iz a0),(iz a1)])]) fun b0 =>
 cnd (!b0)
 (some bf)
 (C.bool (pcall M d 48 [(.agg [(iz a2),(iz a3)])]) fun b1 =>
 cnd (!b1)
 (some bf)
 (C.bool (pcall M d 48 [(.agg [(iz a4),(iz a5)])]) fun b2 =>
 cnd (!b2)
 (some bf)
 (C.bool (pcall M d 48 [(.agg [(iz a6),(iz a7)])]) fun b3 =>
 cnd (!b3)
 (some bf)
 (C.bool (pcall M d 50 [(.agg [(iz a0),(iz a1)]),(.agg [(iz a4),(iz a5)]),(.agg [(iz a6),(iz a7)])]) fun b4 =>
 cnd b4
 (some bt)
 (C.bool (pcall M d 50 [(.agg [(iz a2),(iz a3)]),(.agg [(iz a4),(iz a5)]),(.agg [(iz a6),(iz a7)])]) fun b5 =>
 cnd b5
 (some bt)
 (C.bool (pcall M d 50 [(.agg [(iz a4),(iz a5)]),(.agg [(iz a0),(iz a1)]),(.agg [(iz a2),(iz a3)])]) fun b6 =>
 cnd b6
 (some bt)
 (C.bool (pcall M d 50 [(.agg [(iz a6),(iz a7)]),(.agg [(iz a0),(iz a1)]),(.agg [(iz a2),(iz a3)])]) fun b7 =>
 cnd b7
 (some bt)
 (C.int .i64 (pcall M d 55 [(.agg [(iz a0),(iz a1)]),(.agg [(iz a2),(iz a3)]),(.agg [(iz a4),(iz a5)])]) fun x8 =>
 C.int .i64 (pcall M d 55 [(.agg [(iz a0),(iz a1)]),(.agg [(iz a2),(iz a3)]),(.agg [(iz a6),(iz a7)])]) fun x9 =>
 cnd (decide ((IntKind.wrap .i64 (x8 * x9)) < 0))
 (C.int .i64 (pcall M d 55 [(.agg [(iz a4),(iz a5)]),(.agg [(iz a6),(iz a7)]),(.agg [(iz a0),(iz a1)])]) fun x10 =>
 C.int .i64 (pcall M d 55 [(.agg [(iz a4),(iz a5)]),(.agg [(iz a6),(iz a7)]),(.agg [(iz a2),(iz a3)])]) fun x11 =>
 some (.bool (decide ((IntKind.wrap .i64 (x10 * x11)) < 0))))
 (some bf))))))))):=by kernel_rfl
theorem r53f74 (C:Cb) (d:Nat) (a0:List AV) (a1:AV):xcall C M unr d 53 [(.lst a0),(.fn 74 [] [])] =
 C.int .i64 (pcall M d 59 [(.lst a0),(.fn 74 [] [])]) fun x0 =>
 some (.bool (decide (x0 ≥ 0))):=by kernel_rfl
theorem r55 (C:Cb) (d:Nat) (a0 a1 a2 a3 a4 a5:Int):xcall C M unr d 55 [(.agg [(iz a0),(iz a1)]),(.agg [(iz a2),(iz a3)]),(.agg [(iz a4),(iz a5)])] =
 C.bool (pcall M d 48 [(.agg [(iz a0),(iz a1)])]) fun b0 =>
 cnd (!b0)
 (some (iz 0))
 (C.bool (pcall M d 48 [(.agg [(iz a2),(iz a3)])]) fun b1 =>
 cnd (!b1)
 (some (iz 0))
 (C.bool (pcall M d 48 [(.agg [(iz a4),(iz a5)])]) fun b2 =>
 cnd (!b2)
 (some (iz 0))
 (C.agg 2 (pcall M d 61 [(iz (IntKind.wrap .i64 (a2 - a0))),(iz (IntKind.wrap .i64 (a5 - a1)))]) fun l3 =>
 C.int .i64 l3[0]? fun x4 =>
 C.int .u64 l3[1]? fun x5 =>
 C.agg 2 (pcall M d 61 [(iz (IntKind.wrap .i64 (a3 - a1))),(iz (IntKind.wrap .i64 (a4 - a0)))]) fun l6 =>
 C.int .i64 l6[0]? fun x7 =>
 C.int .u64 l6[1]? fun x8 =>
 C.int .i64 (pcall M d 60 [(.agg [(iz x4),(.int .u64 x5)]),(.agg [(iz x7),(.int .u64 x8)])]) fun x9 =>
 some (iz x9)))):=by kernel_rfl
theorem r57 (C:Cb) (d:Nat) (a0 a1:Int):xcall C M unr d 57 [(.agg [(iz a0),(iz a1)])] =
 C.bool (pcall M d 62 [(iz a0)]) fun b0 =>
 cnd b0
 (C.bool (pcall M d 62 [(iz a1)]) fun b1 =>
 some (.bool b1))
 (some bf):=by kernel_rfl
def r59f74R0 (C:Cb) (d:Nat) (a0:List AV):St→(Ex→St→Ans)→Ans:=fun s0 k1 =>
 cnd ((List.length s0.env) == 19)
 (sames C s0.env 0 [(.lst a0),(.fn 74 [] []),tz,tz] <|
 C.int .i64 s0.env[4]? fun x3 =>
 C.any s0.env[5]? fun v4 =>
 sames C s0.env 6 [(.lst a0),(iz (((List.length a0):Nat):Int))] <|
 C.int .i64 s0.env[8]? fun x5 =>
 C.any s0.env[9]? fun v6 =>
 C.any s0.env[10]? fun v7 =>
 C.any s0.env[11]? fun v8 =>
 C.any s0.env[12]? fun v9 =>
 C.any s0.env[13]? fun v10 =>
 C.any s0.env[14]? fun v11 =>
 C.any s0.env[15]? fun v12 =>
 C.any s0.env[16]? fun v13 =>
 C.any s0.env[17]? fun v14 =>
 C.any s0.env[18]? fun v15 =>
 C.sameH (St.H s0) [] <|
 cnd (decide (x5 < (((List.length a0):Nat):Int)))
 (cnd (decide ((0:Int)≤x5))
 (C.agg 2 a0[(Int.toNat x5)]? fun l16 =>
 C.int .i64 l16[0]? fun x17 =>
 C.int .i64 l16[1]? fun x18 =>
 C.bool (pcall M d 74 [(.agg [(iz x17),(iz x18)])]) fun b19 =>
 cnd b19
 (k1 .ret ⟨[(.lst a0),(.fn 74 [] []),tz,tz,(iz x5),(iz x5),(.lst a0),(iz (((List.length a0):Nat):Int)),(iz x5),bt,(iz x5),(.fn 74 [] []),(.lst a0),(iz x5),(.fptr (.agg [(iz x17),(iz x18)]) 0),(.agg [(iz x17),(iz x18)]),bt,(iz x5),v15],[]⟩)
 (k1 .normal ⟨[(.lst a0),(.fn 74 [] []),tz,tz,(iz x3),(iz x5),(.lst a0),(iz (((List.length a0):Nat):Int)),(iz (IntKind.wrap .i64 (x5+1))),bt,(iz x5),(.fn 74 [] []),(.lst a0),(iz x5),(.fptr (.agg [(iz x17),(iz x18)]) 0),(.agg [(iz x17),(iz x18)]),bf,v14,(iz (IntKind.wrap .i64 (x5+1)))],[]⟩))
 (none))
 (k1 (.exit 0) ⟨[(.lst a0),(.fn 74 [] []),tz,tz,(iz x3),v4,(.lst a0),(iz (((List.length a0):Nat):Int)),(iz x5),bf,v7,v8,v9,v10,v11,v12,v13,v14,v15],[]⟩))
 (none)
def r59f74X0_0 (C:Cb) (d:Nat) (a0:List AV):St→Ans:=fun s20 =>
 cnd ((List.length s20.env) == 19)
 (sames C s20.env 0 [(.lst a0),(.fn 74 [] []),tz,tz] <|
 C.int .i64 s20.env[4]? fun x21 =>
 C.any s20.env[5]? fun v22 =>
 sames C s20.env 6 [(.lst a0),(iz (((List.length a0):Nat):Int))] <|
 C.int .i64 s20.env[8]? fun x23 =>
 anys C s20.env 9 10 <|
 C.sameH (St.H s20) [] <|
 some (iz (-1)))
 (none)
def r59f74E0 (C:Cb) (d:Nat) (a0:List AV):St→Ans:=fun s2 =>
 cnd ((List.length s2.env) == 19)
 (sames C s2.env 0 [(.lst a0),(.fn 74 [] []),tz,tz] <|
 C.int .i64 s2.env[4]? fun x34 =>
 C.int .i64 s2.env[5]? fun x35 =>
 sames C s2.env 6 [(.lst a0),(iz (((List.length a0):Nat):Int))] <|
 C.int .i64 s2.env[8]? fun x36 =>
 C.any s2.env[9]? fun v37 =>
 C.int .i64 s2.env[10]? fun x38 =>
 anys C s2.env 11 2 <|
 C.int .i64 s2.env[13]? fun x41 =>
 C.any s2.env[14]? fun v42 =>
 C.agg 2 s2.env[15]? fun l43 =>
 C.int .i64 l43[0]? fun x44 =>
 C.int .i64 l43[1]? fun x45 =>
 C.bool s2.env[16]? fun b46 =>
 C.int .i64 s2.env[17]? fun x47 =>
 C.any s2.env[18]? fun v48 =>
 C.sameH (St.H s2) [] <|
 some (iz x34))
 (none)
theorem r59f74 (C:Cb) (d:Nat) (a0:List AV) (a1:AV):xcall C M unr d 59 [(.lst a0),(.fn 74 [] [])] =
 C.iter (r59f74R0 C d a0) 10000000000000000000 ⟨[(.lst a0),(.fn 74 [] []),tz,tz,(iz 0),tz,(.lst a0),(iz (((List.length a0):Nat):Int)),(iz 0),tz,tz,tz,tz,tz,tz,tz,tz,tz,tz],[]⟩ [0] [r59f74X0_0 C d a0] (r59f74E0 C d a0):=by kernel_rfl
theorem r60 (C:Cb) (d:Nat) (a0 a1 a2 a3:Int):xcall C M unr d 60 [(.agg [(iz a0),(.int .u64 a1)]),(.agg [(iz a2),(.int .u64 a3)])] =
 cnd (decide (a0 < a2))
 (some (iz (-1)))
 (cnd (a0 == a2)
 (cnd (decide (a1 < a3))
 (some (iz (-1)))
 (cnd (xor false ((a0 == a2) && ((a1 == a3) && true)))
 (some (iz 0))
 (some (iz 1))))
 (cnd (xor false ((a0 == a2) && ((a1 == a3) && true)))
 (some (iz 0))
 (some (iz 1)))):=by kernel_rfl
def r61R0 (C:Cb) (d:Nat) (a0 a1:Int) (v0:AV) (x3 x4:Int) (v5 v9:AV):St→(Ex→St→Ans)→Ans:=fun s13 k14 =>
 cnd ((List.length s13.env) == 36)
 (sames C s13.env 0 [(iz a0),(iz a1),tz,tz,v0,v5,v9,(.int .u64 (IntKind.wrap .u64 a1))] <|
 C.int .i64 s13.env[8]? fun x16 =>
 sames C s13.env 9 [(iz a0),(.agg [(iz x3),(.int .u64 x4)]),(.agg [(iz 0),(.int .u64 0)]),(iz a1),(.int .u64 (IntKind.wrap .u64 a1))] <|
 anys C s13.env 14 2 <|
 C.any s13.env[16]? fun v19 =>
 C.any s13.env[17]? fun v20 =>
 C.any s13.env[18]? fun v21 =>
 C.any s13.env[19]? fun v22 =>
 C.any s13.env[20]? fun v23 =>
 C.any s13.env[21]? fun v24 =>
 C.any s13.env[22]? fun v25 =>
 C.any s13.env[23]? fun v26 =>
 C.any s13.env[24]? fun v27 =>
 C.any s13.env[25]? fun v28 =>
 C.any s13.env[26]? fun v29 =>
 C.any s13.env[27]? fun v30 =>
 C.any s13.env[28]? fun v31 =>
 sames C s13.env 29 [tz,tz,tz,tz,tz,tz,tz] <|
 cnd (decide (x16 < 64))
 (cnd (decide (x16 < 0))
 (none)
 (cnd ((bits .and .u64 (Int.fdiv (IntKind.wrap .u64 a1) (2 ^ (min (Int.toNat x16) 64))) 1) == 1)
 (C.hop (St.H s13) (.load true 2 (.v v9)) fun v32 h33 =>
 C.agg 2 (some v32) fun l34 =>
 C.int .i64 l34[0]? fun x35 =>
 C.int .u64 l34[1]? fun x36 =>
 C.hop h33 (.load true 2 (.v v5)) fun v37 h38 =>
 C.agg 2 (some v37) fun l39 =>
 C.int .i64 l39[0]? fun x40 =>
 C.int .u64 l39[1]? fun x41 =>
 C.agg 2 (pcall M d 67 [(.agg [(iz x35),(.int .u64 x36)]),(.agg [(iz x40),(.int .u64 x41)])]) fun l42 =>
 C.int .i64 l42[0]? fun x43 =>
 C.int .u64 l42[1]? fun x44 =>
 C.hop h38 (.store 2 (.v v9) (.v (.agg [(iz x43),(.int .u64 x44)]))) fun v45 h46 =>
 C.hop h46 (.load true 2 (.v v5)) fun v47 h48 =>
 C.agg 2 (some v47) fun l49 =>
 C.int .i64 l49[0]? fun x50 =>
 C.int .u64 l49[1]? fun x51 =>
 C.hop h48 (.load true 2 (.v v5)) fun v52 h53 =>
 C.agg 2 (some v52) fun l54 =>
 C.int .i64 l54[0]? fun x55 =>
 C.int .u64 l54[1]? fun x56 =>
 C.agg 2 (pcall M d 67 [(.agg [(iz x50),(.int .u64 x51)]),(.agg [(iz x55),(.int .u64 x56)])]) fun l57 =>
 C.int .i64 l57[0]? fun x58 =>
 C.int .u64 l57[1]? fun x59 =>
 C.hop h53 (.store 2 (.v v5) (.v (.agg [(iz x58),(.int .u64 x59)]))) fun v60 h61 =>
 k14 .normal ⟨[(iz a0),(iz a1),tz,tz,v0,v5,v9,(.int .u64 (IntKind.wrap .u64 a1)),(iz (IntKind.wrap .i64 (x16+1))),(iz a0),(.agg [(iz x3),(.int .u64 x4)]),(.agg [(iz 0),(.int .u64 0)]),(iz a1),(.int .u64 (IntKind.wrap .u64 a1)),(iz x16),bt,(iz x16),(iz (IntKind.wrap .i64 (x16+1))),(.int .u64 (IntKind.wrap .u64 a1)),(iz x16),(.int .u64 (Int.fdiv (IntKind.wrap .u64 a1) (2 ^ (min (Int.toNat x16) 64)))),(.int .u64 (bits .and .u64 (Int.fdiv (IntKind.wrap .u64 a1) (2 ^ (min (Int.toNat x16) 64))) 1)),bt,(.agg [(iz x35),(.int .u64 x36)]),(.agg [(iz x40),(.int .u64 x41)]),(.agg [(iz x43),(.int .u64 x44)]),(.agg [(iz x50),(.int .u64 x51)]),(.agg [(iz x55),(.int .u64 x56)]),(.agg [(iz x58),(.int .u64 x59)]),tz,tz,tz,tz,tz,tz,tz],h61⟩)
 (C.hop (St.H s13) (.load true 2 (.v v5)) fun v62 h63 =>
 C.agg 2 (some v62) fun l64 =>
 C.int .i64 l64[0]? fun x65 =>
 C.int .u64 l64[1]? fun x66 =>
 C.hop h63 (.load true 2 (.v v5)) fun v67 h68 =>
 C.agg 2 (some v67) fun l69 =>
 C.int .i64 l69[0]? fun x70 =>
 C.int .u64 l69[1]? fun x71 =>
 C.agg 2 (pcall M d 67 [(.agg [(iz x65),(.int .u64 x66)]),(.agg [(iz x70),(.int .u64 x71)])]) fun l72 =>
 C.int .i64 l72[0]? fun x73 =>
 C.int .u64 l72[1]? fun x74 =>
 C.hop h68 (.store 2 (.v v5) (.v (.agg [(iz x73),(.int .u64 x74)]))) fun v75 h76 =>
 k14 .normal ⟨[(iz a0),(iz a1),tz,tz,v0,v5,v9,(.int .u64 (IntKind.wrap .u64 a1)),(iz (IntKind.wrap .i64 (x16+1))),(iz a0),(.agg [(iz x3),(.int .u64 x4)]),(.agg [(iz 0),(.int .u64 0)]),(iz a1),(.int .u64 (IntKind.wrap .u64 a1)),(iz x16),bt,(iz x16),(iz (IntKind.wrap .i64 (x16+1))),(.int .u64 (IntKind.wrap .u64 a1)),(iz x16),(.int .u64 (Int.fdiv (IntKind.wrap .u64 a1) (2 ^ (min (Int.toNat x16) 64)))),(.int .u64 (bits .and .u64 (Int.fdiv (IntKind.wrap .u64 a1) (2 ^ (min (Int.toNat x16) 64))) 1)),bf,v26,v27,v28,(.agg [(iz x65),(.int .u64 x66)]),(.agg [(iz x70),(.int .u64 x71)]),(.agg [(iz x73),(.int .u64 x74)]),tz,tz,tz,tz,tz,tz,tz],h76⟩)))
 (k14 (.exit 0) ⟨[(iz a0),(iz a1),tz,tz,v0,v5,v9,(.int .u64 (IntKind.wrap .u64 a1)),(iz x16),(iz a0),(.agg [(iz x3),(.int .u64 x4)]),(.agg [(iz 0),(.int .u64 0)]),(iz a1),(.int .u64 (IntKind.wrap .u64 a1)),(iz x16),bf,v19,v20,v21,v22,v23,v24,v25,v26,v27,v28,v29,v30,v31,tz,tz,tz,tz,tz,tz,tz],(St.H s13)⟩))
 (none)
def r61X0_0 (C:Cb) (d:Nat) (a0 a1:Int) (v0:AV) (x3 x4:Int) (v5 v9:AV):St→Ans:=fun s77 =>
 cnd ((List.length s77.env) == 36)
 (sames C s77.env 0 [(iz a0),(iz a1),tz,tz,v0,v5,v9,(.int .u64 (IntKind.wrap .u64 a1))] <|
 C.int .i64 s77.env[8]? fun x78 =>
 sames C s77.env 9 [(iz a0),(.agg [(iz x3),(.int .u64 x4)]),(.agg [(iz 0),(.int .u64 0)]),(iz a1),(.int .u64 (IntKind.wrap .u64 a1))] <|
 C.int .i64 s77.env[14]? fun x79 =>
 C.bool s77.env[15]? fun b80 =>
 anys C s77.env 16 13 <|
 sames C s77.env 29 [tz,tz,tz,tz,tz,tz,tz] <|
 cnd (decide (a1 < 0))
 (C.hop (St.H s77) (.load true 2 (.v v9)) fun v94 h95 =>
 C.agg 2 (some v94) fun l96 =>
 C.int .i64 l96[0]? fun x97 =>
 C.int .u64 l96[1]? fun x98 =>
 C.hop h95 (.load true 2 (.v v5)) fun v99 h100 =>
 C.agg 2 (some v99) fun l101 =>
 C.int .i64 l101[0]? fun x102 =>
 C.int .u64 l101[1]? fun x103 =>
 C.agg 2 (pcall M d 68 [(.agg [(iz x102),(.int .u64 x103)])]) fun l104 =>
 C.int .i64 l104[0]? fun x105 =>
 C.int .u64 l104[1]? fun x106 =>
 C.agg 2 (pcall M d 67 [(.agg [(iz x97),(.int .u64 x98)]),(.agg [(iz x105),(.int .u64 x106)])]) fun l107 =>
 C.int .i64 l107[0]? fun x108 =>
 C.int .u64 l107[1]? fun x109 =>
 C.hop h100 (.store 2 (.v v9) (.v (.agg [(iz x108),(.int .u64 x109)]))) fun v110 h111 =>
 C.hop h111 (.load true 2 (.v v9)) fun v112 h113 =>
 C.agg 2 (some v112) fun l114 =>
 C.int .i64 l114[0]? fun x115 =>
 C.int .u64 l114[1]? fun x116 =>
 C.hop h113 (.store 2 (.v v0) (.v (.agg [(iz x115),(.int .u64 x116)]))) fun v117 h118 =>
 C.hop h118 (.load true 2 (.v v0)) fun v119 h120 =>
 C.fin h118 v119)
 (C.hop (St.H s77) (.load true 2 (.v v9)) fun v121 h122 =>
 C.agg 2 (some v121) fun l123 =>
 C.int .i64 l123[0]? fun x124 =>
 C.int .u64 l123[1]? fun x125 =>
 C.hop h122 (.store 2 (.v v0) (.v (.agg [(iz x124),(.int .u64 x125)]))) fun v126 h127 =>
 C.hop h127 (.load true 2 (.v v0)) fun v128 h129 =>
 C.fin h127 v128))
 (none)
def r61E0 (C:Cb) (d:Nat) (a0 a1:Int) (v0:AV) (x3 x4:Int) (v5 v9:AV):St→Ans:=fun s15 =>
 cnd ((List.length s15.env) == 36)
 (sames C s15.env 0 [(iz a0),(iz a1),tz,tz,v0,v5,v9,(.int .u64 (IntKind.wrap .u64 a1))] <|
 C.int .i64 s15.env[8]? fun x130 =>
 sames C s15.env 9 [(iz a0),(.agg [(iz x3),(.int .u64 x4)]),(.agg [(iz 0),(.int .u64 0)]),(iz a1),(.int .u64 (IntKind.wrap .u64 a1))] <|
 anys C s15.env 14 15 <|
 sames C s15.env 29 [tz,tz,tz,tz,tz,tz,tz] <|
 C.hop (St.H s15) (.load true 2 (.v v0)) fun v146 h147 =>
 C.fin (St.H s15) v146)
 (none)
theorem r61 (C:Cb) (d:Nat) (a0 a1:Int):xcall C M unr d 61 [(iz a0),(iz a1)] =
 C.hop [] (.alloc E81) fun v0 h1 =>
 C.agg 2 (pcall M d 66 [(iz a0)]) fun l2 =>
 C.int .i64 l2[0]? fun x3 =>
 C.int .u64 l2[1]? fun x4 =>
 C.hop h1 (.alloc E81) fun v5 h6 =>
 C.hop h6 (.store 2 (.v v5) (.v (.agg [(iz x3),(.int .u64 x4)]))) fun v7 h8 =>
 C.hop h8 (.alloc E81) fun v9 h10 =>
 C.hop h10 (.store 2 (.v v9) (.v (.agg [(iz 0),(.int .u64 0)]))) fun v11 h12 =>
 C.iter (r61R0 C d a0 a1 v0 x3 x4 v5 v9) 10000000000000000000 ⟨[(iz a0),(iz a1),tz,tz,v0,v5,v9,(.int .u64 (IntKind.wrap .u64 a1)),(iz 0),(iz a0),(.agg [(iz x3),(.int .u64 x4)]),(.agg [(iz 0),(.int .u64 0)]),(iz a1),(.int .u64 (IntKind.wrap .u64 a1)),tz,tz,tz,tz,tz,tz,tz,tz,tz,tz,tz,tz,tz,tz,tz,tz,tz,tz,tz,tz,tz,tz],h12⟩ [0] [r61X0_0 C d a0 a1 v0 x3 x4 v5 v9] (r61E0 C d a0 a1 v0 x3 x4 v5 v9):=by kernel_rfl
theorem r62 (C:Cb) (d:Nat) (a0:Int):xcall C M unr d 62 [(iz a0)] =
 cnd (decide (a0 ≥ (-1099511627776)))
 (some (.bool (decide (a0≤1099511627776))))
 (some bf):=by kernel_rfl
theorem r64 (C:Cb) (d:Nat) (a0 a1 a2 a3 a4 a5:Int):xcall C M unr d 64 [(.agg [(iz a0),(iz a1)]),(.agg [(iz a2),(iz a3)]),(.agg [(iz a4),(iz a5)])] =
 C.bool (pcall M d 69 [(.lst [(.agg [(iz a0),(iz a1)]),(.agg [(iz a2),(iz a3)]),(.agg [(iz a4),(iz a5)])])]) fun b0 =>
 cnd b0
 (C.int .i64 (pcall M d 70 [(.agg [(iz a2),(iz a3)]),(.agg [(iz a4),(iz a5)]),(.agg [(iz a0),(iz a1)])]) fun x1 =>
 cnd (x1 == 0)
 (C.bool (pcall M d 71 [(iz a0),(iz a2),(iz a4)]) fun b2 =>
 cnd b2
 (C.bool (pcall M d 71 [(iz a1),(iz a3),(iz a5)]) fun b3 =>
 some (.bool b3))
 (some bf))
 (some bf))
 (some bf):=by kernel_rfl
theorem r65 (C:Cb) (d:Nat) (a0 a1 a2 a3 a4 a5 a6 a7:Int):xcall C M unr d 65 [(.agg [(iz a0),(iz a1)]),(.agg [(iz a2),(iz a3)]),(.agg [(iz a4),(iz a5)]),(.agg [(iz a6),(iz a7)])] =
 C.bool (pcall M d 69 [(.lst [(.agg [(iz a0),(iz a1)]),(.agg [(iz a2),(iz a3)]),(.agg [(iz a4),(iz a5)]),(.agg [(iz a6),(iz a7)])])]) fun b0 =>
 cnd (!b0)
 (some bf)
 (C.bool (pcall M d 64 [(.agg [(iz a0),(iz a1)]),(.agg [(iz a4),(iz a5)]),(.agg [(iz a6),(iz a7)])]) fun b1 =>
 cnd b1
 (some bt)
 (C.bool (pcall M d 64 [(.agg [(iz a2),(iz a3)]),(.agg [(iz a4),(iz a5)]),(.agg [(iz a6),(iz a7)])]) fun b2 =>
 cnd b2
 (some bt)
 (C.bool (pcall M d 64 [(.agg [(iz a4),(iz a5)]),(.agg [(iz a0),(iz a1)]),(.agg [(iz a2),(iz a3)])]) fun b3 =>
 cnd b3
 (some bt)
 (C.bool (pcall M d 64 [(.agg [(iz a6),(iz a7)]),(.agg [(iz a0),(iz a1)]),(.agg [(iz a2),(iz a3)])]) fun b4 =>
 cnd b4
 (some bt)
 (C.int .i64 (pcall M d 70 [(.agg [(iz a0),(iz a1)]),(.agg [(iz a2),(iz a3)]),(.agg [(iz a4),(iz a5)])]) fun x5 =>
 C.int .i64 (pcall M d 70 [(.agg [(iz a0),(iz a1)]),(.agg [(iz a2),(iz a3)]),(.agg [(iz a6),(iz a7)])]) fun x6 =>
 cnd (decide ((IntKind.wrap .i64 (x5 * x6)) < 0))
 (C.int .i64 (pcall M d 70 [(.agg [(iz a4),(iz a5)]),(.agg [(iz a6),(iz a7)]),(.agg [(iz a0),(iz a1)])]) fun x7 =>
 C.int .i64 (pcall M d 70 [(.agg [(iz a4),(iz a5)]),(.agg [(iz a6),(iz a7)]),(.agg [(iz a2),(iz a3)])]) fun x8 =>
 some (.bool (decide ((IntKind.wrap .i64 (x7 * x8)) < 0))))
 (some bf)))))):=by kernel_rfl
theorem r66 (C:Cb) (d:Nat) (a0:Int):xcall C M unr d 66 [(iz a0)] =
 cnd (decide (a0 < 0))
 (some (.agg [(iz (-1)),(.int .u64 (IntKind.wrap .u64 a0))]))
 (some (.agg [(iz 0),(.int .u64 (IntKind.wrap .u64 a0))])):=by kernel_rfl
def r67R0 (C:Cb) (d:Nat) (a0 a1 a2 a3:Int) (v0 v2 v4:AV) (x9 x10:Int) (v11:AV) (x15 x16:Int) (v17:AV):St→(Ex→St→Ans)→Ans:=fun s18 k19 =>
 cnd ((List.length s18.env) == 39)
 (sames C s18.env 0 [(.agg [(iz a0),(.int .u64 a1)]),(.agg [(iz a2),(.int .u64 a3)]),v0,v2,v4,v11,v17] <|
 C.any s18.env[7]? fun v21 =>
 C.int .i64 s18.env[8]? fun x22 =>
 C.int .i64 s18.env[9]? fun x23 =>
 C.any s18.env[10]? fun v24 =>
 sames C s18.env 11 [(.agg [(iz x9),(.int .u64 x10)]),v11,(.agg [(iz x15),(.int .u64 x16)]),v17] <|
 anys C s18.env 15 2 <|
 C.any s18.env[17]? fun v27 =>
 C.any s18.env[18]? fun v28 =>
 C.any s18.env[19]? fun v29 =>
 C.any s18.env[20]? fun v30 =>
 C.any s18.env[21]? fun v31 =>
 C.any s18.env[22]? fun v32 =>
 C.any s18.env[23]? fun v33 =>
 C.any s18.env[24]? fun v34 =>
 C.any s18.env[25]? fun v35 =>
 C.any s18.env[26]? fun v36 =>
 C.any s18.env[27]? fun v37 =>
 C.any s18.env[28]? fun v38 =>
 C.any s18.env[29]? fun v39 =>
 C.any s18.env[30]? fun v40 =>
 C.any s18.env[31]? fun v41 =>
 C.any s18.env[32]? fun v42 =>
 C.any s18.env[33]? fun v43 =>
 C.any s18.env[34]? fun v44 =>
 C.any s18.env[35]? fun v45 =>
 C.any s18.env[36]? fun v46 =>
 sames C s18.env 37 [tz,tz] <|
 cnd (decide (x23 < 128))
 (C.hop (St.H s18) (.ixAS .any 1 (.v v11) (.v (iz x23))) fun v47 h48 =>
 C.hop h48 (.load false 1 (.v v47)) fun v49 h50 =>
 C.int .i64 (some v49) fun x51 =>
 C.hop h50 (.ixAS .any 1 (.v v17) (.v (iz x23))) fun v52 h53 =>
 C.hop h53 (.load false 1 (.v v52)) fun v54 h55 =>
 C.int .i64 (some v54) fun x56 =>
 C.hop h55 (.mkrow E3 1 [(0,(.v (iz (Int.tmod (IntKind.wrap .i64 ((IntKind.wrap .i64 (x51+x56))+x22)) 2))))]) fun v57 h58 =>
 C.hop h58 (.app E3 (.v v21) (.v v57)) fun v59 h60 =>
 k19 .normal ⟨[(.agg [(iz a0),(.int .u64 a1)]),(.agg [(iz a2),(.int .u64 a3)]),v0,v2,v4,v11,v17,v59,(iz (IntKind.wrap .i64 (Int.tdiv (IntKind.wrap .i64 ((IntKind.wrap .i64 (x51+x56))+x22)) 2))),(iz (IntKind.wrap .i64 (x23+1))),(iz (IntKind.wrap .i64 ((IntKind.wrap .i64 (x51+x56))+x22))),(.agg [(iz x9),(.int .u64 x10)]),v11,(.agg [(iz x15),(.int .u64 x16)]),v17,(iz x23),bt,(iz x23),(iz (IntKind.wrap .i64 (x23+1))),v11,(iz x23),v47,(iz x51),v17,(iz x23),v52,(iz x56),(iz (IntKind.wrap .i64 (x51+x56))),(iz x22),(iz (IntKind.wrap .i64 ((IntKind.wrap .i64 (x51+x56))+x22))),v21,(iz (IntKind.wrap .i64 ((IntKind.wrap .i64 (x51+x56))+x22))),(iz (Int.tmod (IntKind.wrap .i64 ((IntKind.wrap .i64 (x51+x56))+x22)) 2)),v57,v59,(iz (IntKind.wrap .i64 ((IntKind.wrap .i64 (x51+x56))+x22))),(iz (IntKind.wrap .i64 (Int.tdiv (IntKind.wrap .i64 ((IntKind.wrap .i64 (x51+x56))+x22)) 2))),tz,tz],h60⟩)
 (k19 (.exit 0) ⟨[(.agg [(iz a0),(.int .u64 a1)]),(.agg [(iz a2),(.int .u64 a3)]),v0,v2,v4,v11,v17,v21,(iz x22),(iz x23),v24,(.agg [(iz x9),(.int .u64 x10)]),v11,(.agg [(iz x15),(.int .u64 x16)]),v17,(iz x23),bf,v27,v28,v29,v30,v31,v32,v33,v34,v35,v36,v37,v38,v39,v40,v41,v42,v43,v44,v45,v46,tz,tz],(St.H s18)⟩))
 (none)
def r67X0_0 (C:Cb) (d:Nat) (a0 a1 a2 a3:Int) (v0 v2 v4:AV) (x9 x10:Int) (v11:AV) (x15 x16:Int) (v17:AV):St→Ans:=fun s61 =>
 cnd ((List.length s61.env) == 39)
 (sames C s61.env 0 [(.agg [(iz a0),(.int .u64 a1)]),(.agg [(iz a2),(.int .u64 a3)]),v0,v2,v4,v11,v17] <|
 C.any s61.env[7]? fun v62 =>
 C.int .i64 s61.env[8]? fun x63 =>
 C.int .i64 s61.env[9]? fun x64 =>
 C.any s61.env[10]? fun v65 =>
 sames C s61.env 11 [(.agg [(iz x9),(.int .u64 x10)]),v11,(.agg [(iz x15),(.int .u64 x16)]),v17] <|
 C.int .i64 s61.env[15]? fun x66 =>
 C.bool s61.env[16]? fun b67 =>
 anys C s61.env 17 20 <|
 sames C s61.env 37 [tz,tz] <|
 C.snp (St.H s61) [v62] fun l88 b89 =>
 C.agg 2 (pcall M d 73 l88) fun l90 =>
 C.int .i64 l90[0]? fun x91 =>
 C.int .u64 l90[1]? fun x92 =>
 cnd (b89 || true)
 (C.hop (St.H s61) (.store 2 (.v v4) (.v (.agg [(iz x91),(.int .u64 x92)]))) fun v93 h94 =>
 C.hop h94 (.load true 2 (.v v4)) fun v95 h96 =>
 C.fin h94 v95)
 (none))
 (none)
def r67E0 (C:Cb) (d:Nat) (a0 a1 a2 a3:Int) (v0 v2 v4:AV) (x9 x10:Int) (v11:AV) (x15 x16:Int) (v17:AV):St→Ans:=fun s20 =>
 cnd ((List.length s20.env) == 39)
 (sames C s20.env 0 [(.agg [(iz a0),(.int .u64 a1)]),(.agg [(iz a2),(.int .u64 a3)]),v0,v2,v4,v11,v17] <|
 C.any s20.env[7]? fun v97 =>
 C.int .i64 s20.env[8]? fun x98 =>
 C.int .i64 s20.env[9]? fun x99 =>
 C.any s20.env[10]? fun v100 =>
 sames C s20.env 11 [(.agg [(iz x9),(.int .u64 x10)]),v11,(.agg [(iz x15),(.int .u64 x16)]),v17] <|
 anys C s20.env 15 22 <|
 sames C s20.env 37 [tz,tz] <|
 C.hop (St.H s20) (.load true 2 (.v v4)) fun v123 h124 =>
 C.fin (St.H s20) v123)
 (none)
theorem r67 (C:Cb) (d:Nat) (a0 a1 a2 a3:Int):xcall C M unr d 67 [(.agg [(iz a0),(.int .u64 a1)]),(.agg [(iz a2),(.int .u64 a3)])] =
 C.hop [] (.box E81 (.v (.agg [(iz a0),(.int .u64 a1)]))) fun v0 h1 =>
 C.hop h1 (.box E81 (.v (.agg [(iz a2),(.int .u64 a3)]))) fun v2 h3 =>
 C.hop h3 (.alloc E81) fun v4 h5 =>
 C.hop h5 (.load true 2 (.v v0)) fun v6 h7 =>
 C.agg 2 (some v6) fun l8 =>
 C.int .i64 l8[0]? fun x9 =>
 C.int .u64 l8[1]? fun x10 =>
 C.any (pcall M d 72 [(.agg [(iz x9),(.int .u64 x10)])]) fun v11 =>
 C.hop h7 (.load true 2 (.v v2)) fun v12 h13 =>
 C.agg 2 (some v12) fun l14 =>
 C.int .i64 l14[0]? fun x15 =>
 C.int .u64 l14[1]? fun x16 =>
 C.any (pcall M d 72 [(.agg [(iz x15),(.int .u64 x16)])]) fun v17 =>
 C.iter (r67R0 C d a0 a1 a2 a3 v0 v2 v4 x9 x10 v11 x15 x16 v17) 10000000000000000000 ⟨[(.agg [(iz a0),(.int .u64 a1)]),(.agg [(iz a2),(.int .u64 a3)]),v0,v2,v4,v11,v17,(.zsl true),(iz 0),(iz 0),tz,(.agg [(iz x9),(.int .u64 x10)]),v11,(.agg [(iz x15),(.int .u64 x16)]),v17,tz,tz,tz,tz,tz,tz,tz,tz,tz,tz,tz,tz,tz,tz,tz,tz,tz,tz,tz,tz,tz,tz,tz,tz],h13⟩ [0] [r67X0_0 C d a0 a1 a2 a3 v0 v2 v4 x9 x10 v11 x15 x16 v17] (r67E0 C d a0 a1 a2 a3 v0 v2 v4 x9 x10 v11 x15 x16 v17):=by kernel_rfl
theorem r68 (C:Cb) (d:Nat) (a0 a1:Int):xcall C M unr d 68 [(.agg [(iz a0),(.int .u64 a1)])] =
 C.agg 2 (pcall M d 67 [(.agg [(iz (bits .xor .i64 (if (true=true) then (-1) else (IntKind.max .i64)) a0)),(.int .u64 (bits .xor .u64 (if (false=true) then (-1) else (IntKind.max .u64)) a1))]),(.agg [(iz 0),(.int .u64 1)])]) fun l0 =>
 C.int .i64 l0[0]? fun x1 =>
 C.int .u64 l0[1]? fun x2 =>
 some (.agg [(iz x1),(.int .u64 x2)]):=by kernel_rfl
theorem r69 (C:Cb) (d:Nat) (a0:List AV):xcall C M unr d 69 [(.lst a0)] =
 C.bool (pcall M d 53 [(.lst a0),(.fn 74 [] [])]) fun b0 =>
 some (.bool (!b0)):=by kernel_rfl
theorem r70 (C:Cb) (d:Nat) (a0 a1 a2 a3 a4 a5:Int):xcall C M unr d 70 [(.agg [(iz a0),(iz a1)]),(.agg [(iz a2),(iz a3)]),(.agg [(iz a4),(iz a5)])] =
 C.bool (pcall M d 69 [(.lst [(.agg [(iz a0),(iz a1)]),(.agg [(iz a2),(iz a3)]),(.agg [(iz a4),(iz a5)])])]) fun b0 =>
 cnd (!b0)
 (some (iz 0))
 (C.agg 2 (pcall M d 75 [(iz (IntKind.wrap .i64 (a2 - a0))),(iz (IntKind.wrap .i64 (a5 - a1)))]) fun l1 =>
 C.int .i64 l1[0]? fun x2 =>
 C.int .u64 l1[1]? fun x3 =>
 C.agg 2 (pcall M d 75 [(iz (IntKind.wrap .i64 (a3 - a1))),(iz (IntKind.wrap .i64 (a4 - a0)))]) fun l4 =>
 C.int .i64 l4[0]? fun x5 =>
 C.int .u64 l4[1]? fun x6 =>
 C.int .i64 (pcall M d 76 [(.agg [(iz x2),(.int .u64 x3)]),(.agg [(iz x5),(.int .u64 x6)])]) fun x7 =>
 some (iz x7)):=by kernel_rfl
theorem r71 (C:Cb) (d:Nat) (a0 a1 a2:Int):xcall C M unr d 71 [(iz a0),(iz a1),(iz a2)] =
 cnd (decide ((if (a2 < a1) then a2 else a1)≤a0))
 (some (.bool (decide (a0≤(if (a2 > a1) then a2 else a1)))))
 (some bf):=by kernel_rfl
def r72R1 (C:Cb) (d:Nat) (a0 a1:Int) (v0:AV) (x31 x32:Int) (b33:Bool) (v34 v35 v36 v37 v38 v39 v40 v41 v42 v43 v44:AV):St→(Ex→St→Ans)→Ans:=fun s45 k46 =>
 cnd ((List.length s45.env) == 34)
 (sames C s45.env 0 [(.agg [(iz a0),(.int .u64 a1)]),v0,(.zsl true)] <|
 C.any s45.env[3]? fun v48 =>
 C.same s45.env[4]? (iz x31) <|
 C.int .i64 s45.env[5]? fun x49 =>
 sames C s45.env 6 [(iz x32),(.bool b33),v34,v35,v36,v37,v38,v39,v40,v41,v42,v43,v44] <|
 anys C s45.env 19 2 <|
 C.any s45.env[21]? fun v52 =>
 C.any s45.env[22]? fun v53 =>
 C.any s45.env[23]? fun v54 =>
 C.any s45.env[24]? fun v55 =>
 C.any s45.env[25]? fun v56 =>
 C.any s45.env[26]? fun v57 =>
 C.any s45.env[27]? fun v58 =>
 C.any s45.env[28]? fun v59 =>
 C.any s45.env[29]? fun v60 =>
 C.any s45.env[30]? fun v61 =>
 C.any s45.env[31]? fun v62 =>
 C.any s45.env[32]? fun v63 =>
 C.same s45.env[33]? tz <|
 cnd (decide (x49 < 64))
 (C.hop (St.H s45) (.fldA 0 (.v v0)) fun v64 h65 =>
 C.hop h65 (.load false 1 (.v v64)) fun v66 h67 =>
 C.int .i64 (some v66) fun x68 =>
 cnd (decide (x49 < 0))
 (none)
 (C.hop h67 (.mkrow E3 1 [(0,(.v (iz (IntKind.wrap .i64 (bits .and .u64 (Int.fdiv (IntKind.wrap .u64 x68) (2 ^ (min (Int.toNat x49) 64))) 1)))))]) fun v69 h70 =>
 C.hop h70 (.app E3 (.v v48) (.v v69)) fun v71 h72 =>
 k46 .normal ⟨[(.agg [(iz a0),(.int .u64 a1)]),v0,(.zsl true),v71,(iz x31),(iz (IntKind.wrap .i64 (x49+1))),(iz x32),(bz b33),v34,v35,v36,v37,v38,v39,v40,v41,v42,v43,v44,(iz x49),bt,(iz x49),(iz (IntKind.wrap .i64 (x49+1))),v48,v64,(iz x68),(.int .u64 (IntKind.wrap .u64 x68)),(iz x49),(.int .u64 (Int.fdiv (IntKind.wrap .u64 x68) (2 ^ (min (Int.toNat x49) 64)))),(.int .u64 (bits .and .u64 (Int.fdiv (IntKind.wrap .u64 x68) (2 ^ (min (Int.toNat x49) 64))) 1)),(iz (IntKind.wrap .i64 (bits .and .u64 (Int.fdiv (IntKind.wrap .u64 x68) (2 ^ (min (Int.toNat x49) 64))) 1))),v69,v71,tz],h72⟩))
 (k46 (.exit 2) ⟨[(.agg [(iz a0),(.int .u64 a1)]),v0,(.zsl true),v48,(iz x31),(iz x49),(iz x32),(bz b33),v34,v35,v36,v37,v38,v39,v40,v41,v42,v43,v44,(iz x49),bf,v52,v53,v54,v55,v56,v57,v58,v59,v60,v61,v62,v63,tz],(St.H s45)⟩))
 (none)
def r72X1_0 (C:Cb) (d:Nat) (a0 a1:Int) (v0:AV) (x31 x32:Int) (b33:Bool) (v34 v35 v36 v37 v38 v39 v40 v41 v42 v43 v44:AV):St→Ans:=fun s73 =>
 cnd ((List.length s73.env) == 34)
 (sames C s73.env 0 [(.agg [(iz a0),(.int .u64 a1)]),v0,(.zsl true)] <|
 C.any s73.env[3]? fun v74 =>
 C.same s73.env[4]? (iz x31) <|
 C.int .i64 s73.env[5]? fun x75 =>
 sames C s73.env 6 [(iz x32),(.bool b33),v34,v35,v36,v37,v38,v39,v40,v41,v42,v43,v44] <|
 C.int .i64 s73.env[19]? fun x76 =>
 C.bool s73.env[20]? fun b77 =>
 anys C s73.env 21 12 <|
 C.same s73.env[33]? tz <|
 C.fin (St.H s73) v74)
 (none)
def r72E1 (C:Cb) (d:Nat) (a0 a1:Int) (v0:AV) (x31 x32:Int) (b33:Bool) (v34 v35 v36 v37 v38 v39 v40 v41 v42 v43 v44:AV):St→Ans:=fun s47 =>
 cnd ((List.length s47.env) == 34)
 (sames C s47.env 0 [(.agg [(iz a0),(.int .u64 a1)]),v0,(.zsl true)] <|
 C.any s47.env[3]? fun v90 =>
 C.same s47.env[4]? (iz x31) <|
 C.int .i64 s47.env[5]? fun x91 =>
 sames C s47.env 6 [(iz x32),(.bool b33),v34,v35,v36,v37,v38,v39,v40,v41,v42,v43,v44] <|
 anys C s47.env 19 14 <|
 C.same s47.env[33]? tz <|
 C.fin (St.H s47) (.zsl true))
 (none)
def r72R0 (C:Cb) (d:Nat) (a0 a1:Int) (v0:AV):St→(Ex→St→Ans)→Ans:=fun s2 k3 =>
 cnd ((List.length s2.env) == 34)
 (sames C s2.env 0 [(.agg [(iz a0),(.int .u64 a1)]),v0,(.zsl true)] <|
 C.any s2.env[3]? fun v5 =>
 C.int .i64 s2.env[4]? fun x6 =>
 C.same s2.env[5]? tz <|
 anys C s2.env 6 2 <|
 C.any s2.env[8]? fun v9 =>
 C.any s2.env[9]? fun v10 =>
 C.any s2.env[10]? fun v11 =>
 C.any s2.env[11]? fun v12 =>
 C.any s2.env[12]? fun v13 =>
 C.any s2.env[13]? fun v14 =>
 C.any s2.env[14]? fun v15 =>
 C.any s2.env[15]? fun v16 =>
 C.any s2.env[16]? fun v17 =>
 C.any s2.env[17]? fun v18 =>
 C.any s2.env[18]? fun v19 =>
 sames C s2.env 19 [tz,tz,tz,tz,tz,tz,tz,tz,tz,tz,tz,tz,tz,tz,tz] <|
 cnd (decide (x6 < 64))
 (C.hop (St.H s2) (.fldA 1 (.v v0)) fun v20 h21 =>
 C.hop h21 (.load false 1 (.v v20)) fun v22 h23 =>
 C.int .u64 (some v22) fun x24 =>
 cnd (decide (x6 < 0))
 (none)
 (C.hop h23 (.mkrow E3 1 [(0,(.v (iz (IntKind.wrap .i64 (bits .and .u64 (Int.fdiv x24 (2 ^ (min (Int.toNat x6) 64))) 1)))))]) fun v25 h26 =>
 C.hop h26 (.app E3 (.v v5) (.v v25)) fun v27 h28 =>
 k3 .normal ⟨[(.agg [(iz a0),(.int .u64 a1)]),v0,(.zsl true),v27,(iz (IntKind.wrap .i64 (x6+1))),tz,(iz x6),bt,(iz x6),(iz (IntKind.wrap .i64 (x6+1))),v5,v20,(.int .u64 x24),(iz x6),(.int .u64 (Int.fdiv x24 (2 ^ (min (Int.toNat x6) 64)))),(.int .u64 (bits .and .u64 (Int.fdiv x24 (2 ^ (min (Int.toNat x6) 64))) 1)),(iz (IntKind.wrap .i64 (bits .and .u64 (Int.fdiv x24 (2 ^ (min (Int.toNat x6) 64))) 1))),v25,v27,tz,tz,tz,tz,tz,tz,tz,tz,tz,tz,tz,tz,tz,tz,tz],h28⟩))
 (k3 (.exit 0) ⟨[(.agg [(iz a0),(.int .u64 a1)]),v0,(.zsl true),v5,(iz x6),tz,(iz x6),bf,v9,v10,v11,v12,v13,v14,v15,v16,v17,v18,v19,tz,tz,tz,tz,tz,tz,tz,tz,tz,tz,tz,tz,tz,tz,tz],(St.H s2)⟩))
 (none)
def r72X0_0 (C:Cb) (d:Nat) (a0 a1:Int) (v0:AV):St→Ans:=fun s29 =>
 cnd ((List.length s29.env) == 34)
 (sames C s29.env 0 [(.agg [(iz a0),(.int .u64 a1)]),v0,(.zsl true)] <|
 C.any s29.env[3]? fun v30 =>
 C.int .i64 s29.env[4]? fun x31 =>
 C.same s29.env[5]? tz <|
 C.int .i64 s29.env[6]? fun x32 =>
 C.bool s29.env[7]? fun b33 =>
 C.any s29.env[8]? fun v34 =>
 C.any s29.env[9]? fun v35 =>
 C.any s29.env[10]? fun v36 =>
 C.any s29.env[11]? fun v37 =>
 C.any s29.env[12]? fun v38 =>
 C.any s29.env[13]? fun v39 =>
 C.any s29.env[14]? fun v40 =>
 C.any s29.env[15]? fun v41 =>
 C.any s29.env[16]? fun v42 =>
 C.any s29.env[17]? fun v43 =>
 C.any s29.env[18]? fun v44 =>
 sames C s29.env 19 [tz,tz,tz,tz,tz,tz,tz,tz,tz,tz,tz,tz,tz,tz,tz] <|
 C.iter (r72R1 C d a0 a1 v0 x31 x32 b33 v34 v35 v36 v37 v38 v39 v40 v41 v42 v43 v44) 10000000000000000000 ⟨[(.agg [(iz a0),(.int .u64 a1)]),v0,(.zsl true),v30,(iz x31),(iz 0),(iz x32),(bz b33),v34,v35,v36,v37,v38,v39,v40,v41,v42,v43,v44,tz,tz,tz,tz,tz,tz,tz,tz,tz,tz,tz,tz,tz,tz,tz],(St.H s29)⟩ [2] [r72X1_0 C d a0 a1 v0 x31 x32 b33 v34 v35 v36 v37 v38 v39 v40 v41 v42 v43 v44] (r72E1 C d a0 a1 v0 x31 x32 b33 v34 v35 v36 v37 v38 v39 v40 v41 v42 v43 v44))
 (none)
def r72E0 (C:Cb) (d:Nat) (a0 a1:Int) (v0:AV):St→Ans:=fun s4 =>
 cnd ((List.length s4.env) == 34)
 (sames C s4.env 0 [(.agg [(iz a0),(.int .u64 a1)]),v0,(.zsl true)] <|
 C.any s4.env[3]? fun v106 =>
 C.int .i64 s4.env[4]? fun x107 =>
 C.same s4.env[5]? tz <|
 anys C s4.env 6 13 <|
 sames C s4.env 19 [tz,tz,tz,tz,tz,tz,tz,tz,tz,tz,tz,tz,tz,tz,tz] <|
 C.fin (St.H s4) (.zsl true))
 (none)
theorem r72 (C:Cb) (d:Nat) (a0 a1:Int):xcall C M unr d 72 [(.agg [(iz a0),(.int .u64 a1)])] =
 C.hop [] (.box E81 (.v (.agg [(iz a0),(.int .u64 a1)]))) fun v0 h1 =>
 C.iter (r72R0 C d a0 a1 v0) 10000000000000000000 ⟨[(.agg [(iz a0),(.int .u64 a1)]),v0,(.zsl true),(.zsl true),(iz 0),tz,tz,tz,tz,tz,tz,tz,tz,tz,tz,tz,tz,tz,tz,tz,tz,tz,tz,tz,tz,tz,tz,tz,tz,tz,tz,tz,tz,tz],h1⟩ [0] [r72X0_0 C d a0 a1 v0] (r72E0 C d a0 a1 v0):=by kernel_rfl
def r73R0 (C:Cb) (d:Nat) (a0:List AV) (v0 v2:AV):St→(Ex→St→Ans)→Ans:=fun s6 k7 =>
 cnd ((List.length s6.env) == 36)
 (sames C s6.env 0 [(.lst a0),tz,v0,v2] <|
 C.int .u64 s6.env[4]? fun x9 =>
 C.int .i64 s6.env[5]? fun x10 =>
 C.same s6.env[6]? (.agg [(iz 0),(.int .u64 0)]) <|
 anys C s6.env 7 2 <|
 C.any s6.env[9]? fun v13 =>
 C.any s6.env[10]? fun v14 =>
 C.any s6.env[11]? fun v15 =>
 C.any s6.env[12]? fun v16 =>
 C.any s6.env[13]? fun v17 =>
 C.any s6.env[14]? fun v18 =>
 C.any s6.env[15]? fun v19 =>
 C.any s6.env[16]? fun v20 =>
 C.any s6.env[17]? fun v21 =>
 C.any s6.env[18]? fun v22 =>
 C.any s6.env[19]? fun v23 =>
 C.any s6.env[20]? fun v24 =>
 C.any s6.env[21]? fun v25 =>
 C.any s6.env[22]? fun v26 =>
 C.any s6.env[23]? fun v27 =>
 C.any s6.env[24]? fun v28 =>
 C.any s6.env[25]? fun v29 =>
 C.any s6.env[26]? fun v30 =>
 C.any s6.env[27]? fun v31 =>
 C.any s6.env[28]? fun v32 =>
 C.any s6.env[29]? fun v33 =>
 C.any s6.env[30]? fun v34 =>
 C.any s6.env[31]? fun v35 =>
 sames C s6.env 32 [tz,tz,tz,tz] <|
 cnd (decide (x10 < 64))
 (C.hop (St.H s6) (.ixAS .any 1 (.v (.lst a0)) (.v (iz x10))) fun v36 h37 =>
 C.hop h37 (.load false 1 (.v v36)) fun v38 h39 =>
 C.int .i64 (some v38) fun x40 =>
 cnd (x40 == 1)
 (C.hop h39 (.fldA 1 (.v v2)) fun v41 h42 =>
 C.hop h42 (.load false 1 (.v v41)) fun v43 h44 =>
 C.int .u64 (some v43) fun x45 =>
 cnd (decide (x10 < 0))
 (none)
 (C.hop h44 (.fldA 1 (.v v2)) fun v46 h47 =>
 C.hop h47 (.store 1 (.v v46) (.v (.int .u64 (bits .or .u64 x45 (IntKind.wrap .u64 (1 * (2 ^ (min (Int.toNat x10) 64)))))))) fun v48 h49 =>
 C.hop h49 (.ixAS .any 1 (.v (.lst a0)) (.v (iz (IntKind.wrap .i64 (64+x10))))) fun v50 h51 =>
 C.hop h51 (.load false 1 (.v v50)) fun v52 h53 =>
 C.int .i64 (some v52) fun x54 =>
 cnd (x54 == 1)
 (cnd (decide (x10 < 0))
 (none)
 (k7 .normal ⟨[(.lst a0),tz,v0,v2,(.int .u64 (bits .or .u64 x9 (IntKind.wrap .u64 (1 * (2 ^ (min (Int.toNat x10) 64)))))),(iz (IntKind.wrap .i64 (x10+1))),(.agg [(iz 0),(.int .u64 0)]),(iz x10),bt,(iz x10),(iz (IntKind.wrap .i64 (x10+1))),(.lst a0),(iz x10),v36,(iz x40),bt,v41,(.int .u64 x45),(iz x10),(.int .u64 (IntKind.wrap .u64 (1 * (2 ^ (min (Int.toNat x10) 64))))),(.int .u64 (bits .or .u64 x45 (IntKind.wrap .u64 (1 * (2 ^ (min (Int.toNat x10) 64)))))),v46,(.lst a0),(iz x10),(iz (IntKind.wrap .i64 (64+x10))),v50,(iz x54),bt,(.int .u64 x9),(iz x10),(.int .u64 (IntKind.wrap .u64 (1 * (2 ^ (min (Int.toNat x10) 64))))),(.int .u64 (bits .or .u64 x9 (IntKind.wrap .u64 (1 * (2 ^ (min (Int.toNat x10) 64)))))),tz,tz,tz,tz],h53⟩))
 (k7 .normal ⟨[(.lst a0),tz,v0,v2,(.int .u64 x9),(iz (IntKind.wrap .i64 (x10+1))),(.agg [(iz 0),(.int .u64 0)]),(iz x10),bt,(iz x10),(iz (IntKind.wrap .i64 (x10+1))),(.lst a0),(iz x10),v36,(iz x40),bt,v41,(.int .u64 x45),(iz x10),(.int .u64 (IntKind.wrap .u64 (1 * (2 ^ (min (Int.toNat x10) 64))))),(.int .u64 (bits .or .u64 x45 (IntKind.wrap .u64 (1 * (2 ^ (min (Int.toNat x10) 64)))))),v46,(.lst a0),(iz x10),(iz (IntKind.wrap .i64 (64+x10))),v50,(iz x54),bf,v32,v33,v34,v35,tz,tz,tz,tz],h53⟩)))
 (C.hop h39 (.ixAS .any 1 (.v (.lst a0)) (.v (iz (IntKind.wrap .i64 (64+x10))))) fun v55 h56 =>
 C.hop h56 (.load false 1 (.v v55)) fun v57 h58 =>
 C.int .i64 (some v57) fun x59 =>
 cnd (x59 == 1)
 (cnd (decide (x10 < 0))
 (none)
 (k7 .normal ⟨[(.lst a0),tz,v0,v2,(.int .u64 (bits .or .u64 x9 (IntKind.wrap .u64 (1 * (2 ^ (min (Int.toNat x10) 64)))))),(iz (IntKind.wrap .i64 (x10+1))),(.agg [(iz 0),(.int .u64 0)]),(iz x10),bt,(iz x10),(iz (IntKind.wrap .i64 (x10+1))),(.lst a0),(iz x10),v36,(iz x40),bf,v20,v21,v22,v23,v24,v25,(.lst a0),(iz x10),(iz (IntKind.wrap .i64 (64+x10))),v55,(iz x59),bt,(.int .u64 x9),(iz x10),(.int .u64 (IntKind.wrap .u64 (1 * (2 ^ (min (Int.toNat x10) 64))))),(.int .u64 (bits .or .u64 x9 (IntKind.wrap .u64 (1 * (2 ^ (min (Int.toNat x10) 64)))))),tz,tz,tz,tz],h58⟩))
 (k7 .normal ⟨[(.lst a0),tz,v0,v2,(.int .u64 x9),(iz (IntKind.wrap .i64 (x10+1))),(.agg [(iz 0),(.int .u64 0)]),(iz x10),bt,(iz x10),(iz (IntKind.wrap .i64 (x10+1))),(.lst a0),(iz x10),v36,(iz x40),bf,v20,v21,v22,v23,v24,v25,(.lst a0),(iz x10),(iz (IntKind.wrap .i64 (64+x10))),v55,(iz x59),bf,v32,v33,v34,v35,tz,tz,tz,tz],h58⟩)))
 (k7 (.exit 0) ⟨[(.lst a0),tz,v0,v2,(.int .u64 x9),(iz x10),(.agg [(iz 0),(.int .u64 0)]),(iz x10),bf,v13,v14,v15,v16,v17,v18,v19,v20,v21,v22,v23,v24,v25,v26,v27,v28,v29,v30,v31,v32,v33,v34,v35,tz,tz,tz,tz],(St.H s6)⟩))
 (none)
def r73X0_0 (C:Cb) (d:Nat) (a0:List AV) (v0 v2:AV):St→Ans:=fun s60 =>
 cnd ((List.length s60.env) == 36)
 (sames C s60.env 0 [(.lst a0),tz,v0,v2] <|
 C.int .u64 s60.env[4]? fun x61 =>
 C.int .i64 s60.env[5]? fun x62 =>
 C.same s60.env[6]? (.agg [(iz 0),(.int .u64 0)]) <|
 C.int .i64 s60.env[7]? fun x63 =>
 C.bool s60.env[8]? fun b64 =>
 anys C s60.env 9 23 <|
 sames C s60.env 32 [tz,tz,tz,tz] <|
 C.hop (St.H s60) (.fldA 0 (.v v2)) fun v88 h89 =>
 C.hop h89 (.store 1 (.v v88) (.v (iz (IntKind.wrap .i64 x61)))) fun v90 h91 =>
 C.hop h91 (.load true 2 (.v v2)) fun v92 h93 =>
 C.agg 2 (some v92) fun l94 =>
 C.int .i64 l94[0]? fun x95 =>
 C.int .u64 l94[1]? fun x96 =>
 C.hop h93 (.store 2 (.v v0) (.v (.agg [(iz x95),(.int .u64 x96)]))) fun v97 h98 =>
 C.hop h98 (.load true 2 (.v v0)) fun v99 h100 =>
 C.fin h98 v99)
 (none)
def r73E0 (C:Cb) (d:Nat) (a0:List AV) (v0 v2:AV):St→Ans:=fun s8 =>
 cnd ((List.length s8.env) == 36)
 (sames C s8.env 0 [(.lst a0),tz,v0,v2] <|
 C.int .u64 s8.env[4]? fun x101 =>
 C.int .i64 s8.env[5]? fun x102 =>
 C.same s8.env[6]? (.agg [(iz 0),(.int .u64 0)]) <|
 anys C s8.env 7 25 <|
 sames C s8.env 32 [tz,tz,tz,tz] <|
 C.hop (St.H s8) (.load true 2 (.v v0)) fun v128 h129 =>
 C.fin (St.H s8) v128)
 (none)
theorem r73 (C:Cb) (d:Nat) (a0:List AV):xcall C M unr d 73 [(.lst a0)] =
 C.hop [] (.alloc E81) fun v0 h1 =>
 C.hop h1 (.alloc E81) fun v2 h3 =>
 C.hop h3 (.store 2 (.v v2) (.v (.agg [(iz 0),(.int .u64 0)]))) fun v4 h5 =>
 C.iter (r73R0 C d a0 v0 v2) 10000000000000000000 ⟨[(.lst a0),tz,v0,v2,(.int .u64 0),(iz 0),(.agg [(iz 0),(.int .u64 0)]),tz,tz,tz,tz,tz,tz,tz,tz,tz,tz,tz,tz,tz,tz,tz,tz,tz,tz,tz,tz,tz,tz,tz,tz,tz,tz,tz,tz,tz],h5⟩ [0] [r73X0_0 C d a0 v0 v2] (r73E0 C d a0 v0 v2):=by kernel_rfl
theorem r74 (C:Cb) (d:Nat) (a0 a1:Int):xcall C M unr d 74 [(.agg [(iz a0),(iz a1)])] =
 C.bool (pcall M d 57 [(.agg [(iz a0),(iz a1)])]) fun b0 =>
 some (.bool (!b0)):=by kernel_rfl
theorem r75 (C:Cb) (d:Nat) (a0 a1:Int):xcall C M unr d 75 [(iz a0),(iz a1)] =
 C.tup 2 (pcall M d 77 [(.int .u64 (IntKind.wrap .u64 a0)),(.int .u64 (IntKind.wrap .u64 a1))]) fun l0 =>
 C.int .u64 l0[0]? fun x1 =>
 C.int .u64 l0[1]? fun x2 =>
 cnd (decide (a0 < 0))
 (cnd (decide (a1 < 0))
 (some (.agg [(iz (IntKind.wrap .i64 (IntKind.wrap .u64 ((IntKind.wrap .u64 (x1 - (IntKind.wrap .u64 a1))) - (IntKind.wrap .u64 a0))))),(.int .u64 x2)]))
 (some (.agg [(iz (IntKind.wrap .i64 (IntKind.wrap .u64 (x1 - (IntKind.wrap .u64 a1))))),(.int .u64 x2)])))
 (cnd (decide (a1 < 0))
 (some (.agg [(iz (IntKind.wrap .i64 (IntKind.wrap .u64 (x1 - (IntKind.wrap .u64 a0))))),(.int .u64 x2)]))
 (some (.agg [(iz (IntKind.wrap .i64 x1)),(.int .u64 x2)]))):=by kernel_rfl
theorem r76 (C:Cb) (d:Nat) (a0 a1 a2 a3:Int):xcall C M unr d 76 [(.agg [(iz a0),(.int .u64 a1)]),(.agg [(iz a2),(.int .u64 a3)])] =
 C.int .i64 (pcall M d 79 [(iz a0),(iz a2)]) fun x0 =>
 C.int .i64 (pcall M d 80 [(.int .u64 a1),(.int .u64 a3)]) fun x1 =>
 C.int .i64 (pcall M d 78 [(.lst [(iz x0),(iz x1)])]) fun x2 =>
 some (iz x2):=by kernel_rfl
theorem r77 (C:Cb) (d:Nat) (a0 a1:Int):xcall C M unr d 77 [(.int .u64 a0),(.int .u64 a1)] =
 some (.tup [(.int .u64 (IntKind.wrap .u64 ((IntKind.wrap .u64 ((IntKind.wrap .u64 ((Int.fdiv a0 (2 ^ (min (Int.toNat 32) 64))) * (Int.fdiv a1 (2 ^ (min (Int.toNat 32) 64)))))+(Int.fdiv (IntKind.wrap .u64 ((IntKind.wrap .u64 ((Int.fdiv a0 (2 ^ (min (Int.toNat 32) 64))) * (bits .and .u64 a1 4294967295)))+(Int.fdiv (IntKind.wrap .u64 ((bits .and .u64 a0 4294967295) * (bits .and .u64 a1 4294967295))) (2 ^ (min (Int.toNat 32) 64))))) (2 ^ (min (Int.toNat 32) 64)))))+(Int.fdiv (IntKind.wrap .u64 ((bits .and .u64 (IntKind.wrap .u64 ((IntKind.wrap .u64 ((Int.fdiv a0 (2 ^ (min (Int.toNat 32) 64))) * (bits .and .u64 a1 4294967295)))+(Int.fdiv (IntKind.wrap .u64 ((bits .and .u64 a0 4294967295) * (bits .and .u64 a1 4294967295))) (2 ^ (min (Int.toNat 32) 64))))) 4294967295)+(IntKind.wrap .u64 ((bits .and .u64 a0 4294967295) * (Int.fdiv a1 (2 ^ (min (Int.toNat 32) 64))))))) (2 ^ (min (Int.toNat 32) 64)))))),(.int .u64 (IntKind.wrap .u64 (a0 * a1)))]):=by kernel_rfl
def r78R0 (C:Cb) (d:Nat) (a0:List AV):St→(Ex→St→Ans)→Ans:=fun s0 k1 =>
 cnd ((List.length s0.env) == 18)
 (sames C s0.env 0 [(.lst a0),tz] <|
 C.int .i64 s0.env[2]? fun x3 =>
 sames C s0.env 3 [(iz 0),tz] <|
 C.any s0.env[5]? fun v4 =>
 sames C s0.env 6 [(.lst a0),(iz (((List.length a0):Nat):Int))] <|
 C.int .i64 s0.env[8]? fun x5 =>
 C.any s0.env[9]? fun v6 =>
 C.any s0.env[10]? fun v7 =>
 C.any s0.env[11]? fun v8 =>
 C.any s0.env[12]? fun v9 =>
 C.any s0.env[13]? fun v10 =>
 C.any s0.env[14]? fun v11 =>
 C.any s0.env[15]? fun v12 =>
 C.any s0.env[16]? fun v13 =>
 C.same s0.env[17]? tz <|
 C.sameH (St.H s0) [] <|
 cnd (decide (x5 < (((List.length a0):Nat):Int)))
 (cnd (decide ((0:Int)≤x5))
 (C.int .i64 a0[(Int.toNat x5)]? fun x14 =>
 cnd (x14 != 0)
 (k1 .ret ⟨[(.lst a0),tz,(iz x14),(iz 0),tz,(iz x14),(.lst a0),(iz (((List.length a0):Nat):Int)),(iz x5),bt,(.fptr (iz x14) 0),(iz x14),(iz x14),(iz 0),bt,(iz x14),v13,tz],[]⟩)
 (k1 .normal ⟨[(.lst a0),tz,(iz x3),(iz 0),tz,(iz x14),(.lst a0),(iz (((List.length a0):Nat):Int)),(iz (IntKind.wrap .i64 (x5+1))),bt,(.fptr (iz x14) 0),(iz x14),(iz x14),(iz 0),bf,v12,(iz (IntKind.wrap .i64 (x5+1))),tz],[]⟩))
 (none))
 (k1 (.exit 0) ⟨[(.lst a0),tz,(iz x3),(iz 0),tz,v4,(.lst a0),(iz (((List.length a0):Nat):Int)),(iz x5),bf,v7,v8,v9,v10,v11,v12,v13,tz],[]⟩))
 (none)
def r78X0_0 (C:Cb) (d:Nat) (a0:List AV):St→Ans:=fun s15 =>
 cnd ((List.length s15.env) == 18)
 (sames C s15.env 0 [(.lst a0),tz] <|
 C.int .i64 s15.env[2]? fun x16 =>
 sames C s15.env 3 [(iz 0),tz] <|
 C.any s15.env[5]? fun v17 =>
 sames C s15.env 6 [(.lst a0),(iz (((List.length a0):Nat):Int))] <|
 C.int .i64 s15.env[8]? fun x18 =>
 anys C s15.env 9 8 <|
 C.same s15.env[17]? tz <|
 C.sameH (St.H s15) [] <|
 some (iz 0))
 (none)
def r78E0 (C:Cb) (d:Nat) (a0:List AV):St→Ans:=fun s2 =>
 cnd ((List.length s2.env) == 18)
 (sames C s2.env 0 [(.lst a0),tz] <|
 C.int .i64 s2.env[2]? fun x27 =>
 sames C s2.env 3 [(iz 0),tz] <|
 C.int .i64 s2.env[5]? fun x28 =>
 sames C s2.env 6 [(.lst a0),(iz (((List.length a0):Nat):Int))] <|
 C.int .i64 s2.env[8]? fun x29 =>
 anys C s2.env 9 2 <|
 C.int .i64 s2.env[11]? fun x32 =>
 C.int .i64 s2.env[12]? fun x33 =>
 C.int .i64 s2.env[13]? fun x34 =>
 C.bool s2.env[14]? fun b35 =>
 C.int .i64 s2.env[15]? fun x36 =>
 C.any s2.env[16]? fun v37 =>
 C.same s2.env[17]? tz <|
 C.sameH (St.H s2) [] <|
 some (iz x27))
 (none)
theorem r78 (C:Cb) (d:Nat) (a0:List AV):xcall C M unr d 78 [(.lst a0)] =
 C.iter (r78R0 C d a0) 10000000000000000000 ⟨[(.lst a0),tz,(iz 0),(iz 0),tz,tz,(.lst a0),(iz (((List.length a0):Nat):Int)),(iz 0),tz,tz,tz,tz,tz,tz,tz,tz,tz],[]⟩ [0] [r78X0_0 C d a0] (r78E0 C d a0):=by kernel_rfl
theorem r79 (C:Cb) (d:Nat) (a0 a1:Int):xcall C M unr d 79 [(iz a0),(iz a1)] =
 C.bool (pcall M d 81 [(iz a0)]) fun b0 =>
 C.bool (pcall M d 81 [(iz a1)]) fun b1 =>
 cnd b0
 (cnd b1
 (some (iz 0))
 (some (iz (-1))))
 (cnd b1
 (some (iz 1))
 (cnd (decide (a0 < a1))
 (some (iz (-1)))
 (cnd (decide (a0 > a1))
 (some (iz 1))
 (some (iz 0))))):=by kernel_rfl
theorem r80 (C:Cb) (d:Nat) (a0 a1:Int):xcall C M unr d 80 [(.int .u64 a0),(.int .u64 a1)] =
 C.bool (pcall M d 82 [(.int .u64 a0)]) fun b0 =>
 C.bool (pcall M d 82 [(.int .u64 a1)]) fun b1 =>
 cnd b0
 (cnd b1
 (some (iz 0))
 (some (iz (-1))))
 (cnd b1
 (some (iz 1))
 (cnd (decide (a0 < a1))
 (some (iz (-1)))
 (cnd (decide (a0 > a1))
 (some (iz 1))
 (some (iz 0))))):=by kernel_rfl
theorem r81 (C:Cb) (d:Nat) (a0:Int):xcall C M unr d 81 [(iz a0)] =
 some (.bool (a0 != a0)):=by kernel_rfl
theorem r82 (C:Cb) (d:Nat) (a0:Int):xcall C M unr d 82 [(.int .u64 a0)] =
 some (.bool (a0 != a0)):=by kernel_rfl
noncomputable def X38_0_0 (d:Nat) (a0 a1:List AV) :Ans :=
 some bt
theorem X38_0_0_ok (d:Nat) (a0 a1:List AV) (b27:Bool) (x28 x29:Int) (v30:AV) (x31:Int) (b32:Bool) (v33 v34 v35 v36 v37 v38 v39 v40 v41 v42 v43:AV):r38X0_0 C0 d a0 a1 ⟨[(.lst a0),(.lst a1),tz,tz,(.bool b27),(iz x28),(.lst a0),(iz (((List.length a0):Nat):Int)),(.lst a1),(iz (((List.length a1):Nat):Int)),bf,(iz x29),v30,(iz x31),(.bool b32),v33,v34,v35,v36,v37,v38,v39,v40,v41,v42,v43],[]⟩=X38_0_0 d a0 a1 :=by
 unfold r38X0_0; refine Eq.trans (pl_len (by rfl)) ?_; refine yt ySs ?_; refine yt yB ?_; refine yt yI ?_; refine yt ySs ?_; refine yt yI ?_; refine yt yA ?_; refine yt yI ?_; refine yt yB ?_; refine yt yAs ?_; refine Eq.trans (pl_sameH) ?_
 rfl
noncomputable def E38_0 (d:Nat) (a0 a1:List AV) (b44:Bool):Ans :=
 some (.bool b44)
theorem E38_0_ok (d:Nat) (a0 a1:List AV) (b44:Bool) (x45 x46:Int) (v47:AV) (x48:Int) (b49:Bool) (v50 v51 v52:AV) (x53:Int) (v54:AV) (x56 x57:Int) (v58:AV) (x59:Int) (v60:AV) (x62 x63:Int) (b64:Bool):r38E0 C0 d a0 a1 ⟨[(.lst a0),(.lst a1),tz,tz,(.bool b44),(iz x45),(.lst a0),(iz (((List.length a0):Nat):Int)),(.lst a1),(iz (((List.length a1):Nat):Int)),bf,(iz x46),v47,(iz x48),(.bool b49),v50,v51,v52,(iz x53),v54,(.agg [(iz x56),(iz x57)]),v58,(iz x59),v60,(.agg [(iz x62),(iz x63)]),(.bool b64)],[]⟩=E38_0 d a0 a1 b44:=by
 unfold r38E0; refine Eq.trans (pl_len (by rfl)) ?_; refine yt ySs ?_; refine yt yB ?_; refine yt yI ?_; refine yt ySs ?_; refine yt yI ?_; refine yt yA ?_; refine yt yI ?_; refine yt yB ?_; refine yt yAs ?_; refine yt yI ?_; refine yt yA ?_; refine yt yG ?_; (iterate 2 (refine yt yI ?_)); refine yt yA ?_; refine yt yI ?_; refine yt yA ?_; refine yt yG ?_; (iterate 2 (refine yt yI ?_)); refine yt yB ?_; refine Eq.trans (pl_sameH) ?_
 rfl
noncomputable def L38_0 (d:Nat) (a0 a1:List AV):Nat→Int→Ans
 | 0,_=>none
 | n+1,x4 =>
 cnd (decide (x4 < (((List.length a0):Nat):Int)))
  (cnd (decide ((0:Int)≤x4))
  (C0.agg 2 a0[(Int.toNat x4)]? fun l20 =>
  C0.int .i64 l20[0]? fun x21 =>
  C0.int .i64 l20[1]? fun x22 =>
  cnd (decide ((0:Int)≤x4))
  (C0.agg 2 a1[(Int.toNat x4)]? fun l23 =>
  C0.int .i64 l23[0]? fun x24 =>
  C0.int .i64 l23[1]? fun x25 =>
  cnd (xor true ((x21 == x24) && ((x22 == x25) && true)))
  (E38_0 d a0 a1 false)
  (L38_0 d a0 a1 n (IntKind.wrap .i64 (x4+1))))
  (none))
  (none))
  (X38_0_0 d a0 a1)
theorem L38_0_s (d:Nat) (a0 a1:List AV) (n:Nat) (x4:Int):L38_0 d a0 a1 (n+1) x4=(cnd (decide (x4 < (((List.length a0):Nat):Int)))
 (cnd (decide ((0:Int)≤x4))
 (C0.agg 2 a0[(Int.toNat x4)]? fun l20 =>
 C0.int .i64 l20[0]? fun x21 =>
 C0.int .i64 l20[1]? fun x22 =>
 cnd (decide ((0:Int)≤x4))
 (C0.agg 2 a1[(Int.toNat x4)]? fun l23 =>
 C0.int .i64 l23[0]? fun x24 =>
 C0.int .i64 l23[1]? fun x25 =>
 cnd (xor true ((x21 == x24) && ((x22 == x25) && true)))
 (E38_0 d a0 a1 false)
 (L38_0 d a0 a1 n (IntKind.wrap .i64 (x4+1))))
 (none))
 (none))
 (X38_0_0 d a0 a1)):=by kernel_rfl
theorem it38_0 (d:Nat) (a0 a1:List AV)  :∀ (n:Nat) (b3:Bool) (x4:Int) (v5 v6 v7 v8 v9 v10 v11 v12 v13 v14 v15 v16 v17 v18 v19:AV),C0.iter (r38R0 C0 d a0 a1) n ⟨[(.lst a0),(.lst a1),tz,tz,(.bool b3),(iz x4),(.lst a0),(iz (((List.length a0):Nat):Int)),(.lst a1),(iz (((List.length a1):Nat):Int)),bf,v5,v6,v7,v8,v9,v10,v11,v12,v13,v14,v15,v16,v17,v18,v19],[]⟩ [0] [r38X0_0 C0 d a0 a1] (r38E0 C0 d a0 a1)=L38_0 d a0 a1 n x4:=by
 generalize hR:r38R0 C0 d a0 a1=R
 intro n
 induction n with
 | zero=>intros; rfl
 | succ n ih =>
   intro b3 x4 v5 v6 v7 v8 v9 v10 v11 v12 v13 v14 v15 v16 v17 v18 v19
   simp only [it_ret] at ih
   rw [it_ret,xiter_s]
   refine Eq.trans (congrFun (congrFun hR.symm _) _) ?_
   unfold r38R0
   refine Eq.trans (pl_len (by rfl)) ?_; refine yt ySs ?_; refine yt yB ?_; refine yt yI ?_; refine yt ySs ?_; refine yt yAs ?_; (iterate 11 (refine yt yA ?_)); refine Eq.trans (pl_sameH) ?_
   simp only [kIter_n,kIter_x,kIter_r,kOut_x,kOut_r,xgo_hit,xgo_miss,ih,X38_0_0_ok d a0 a1  ,E38_0_ok d a0 a1  ]
   exact (L38_0_s d a0 a1 n x4).symm
theorem q38 (d:Nat) (a0 a1:List AV):xcall C0 M unr d 38 [(.lst a0),(.lst a1)] =
 cnd ((((List.length a0):Nat):Int) != (((List.length a1):Nat):Int))
  (some bf)
  (L38_0 d a0 a1 10000000000000000000 0):=(r38 C0 d a0 a1).trans (by simp only [it38_0])
noncomputable def X59f74_0_0 (d:Nat) (a0:List AV) :Ans :=
 some (iz (-1))
theorem X59f74_0_0_ok (d:Nat) (a0:List AV) (x21:Int) (v22:AV) (x23:Int) (v24 v25 v26 v27 v28 v29 v30 v31 v32 v33:AV):r59f74X0_0 C0 d a0 ⟨[(.lst a0),(.fn 74 [] []),tz,tz,(iz x21),v22,(.lst a0),(iz (((List.length a0):Nat):Int)),(iz x23),v24,v25,v26,v27,v28,v29,v30,v31,v32,v33],[]⟩=X59f74_0_0 d a0 :=by
 unfold r59f74X0_0; refine Eq.trans (pl_len (by rfl)) ?_; refine yt ySs ?_; refine yt yI ?_; refine yt yA ?_; refine yt ySs ?_; refine yt yI ?_; refine yt yAs ?_; refine Eq.trans (pl_sameH) ?_
 rfl
noncomputable def E59f74_0 (d:Nat) (a0:List AV) (x34:Int):Ans :=
 some (iz x34)
theorem E59f74_0_ok (d:Nat) (a0:List AV) (x34 x35 x36:Int) (v37:AV) (x38:Int) (v39 v40:AV) (x41:Int) (v42:AV) (x44 x45:Int) (b46:Bool) (x47:Int) (v48:AV):r59f74E0 C0 d a0 ⟨[(.lst a0),(.fn 74 [] []),tz,tz,(iz x34),(iz x35),(.lst a0),(iz (((List.length a0):Nat):Int)),(iz x36),v37,(iz x38),v39,v40,(iz x41),v42,(.agg [(iz x44),(iz x45)]),(.bool b46),(iz x47),v48],[]⟩=E59f74_0 d a0 x34:=by
 unfold r59f74E0; refine Eq.trans (pl_len (by rfl)) ?_; refine yt ySs ?_; (iterate 2 (refine yt yI ?_)); refine yt ySs ?_; refine yt yI ?_; refine yt yA ?_; refine yt yI ?_; refine yt yAs ?_; refine yt yI ?_; refine yt yA ?_; refine yt yG ?_; (iterate 2 (refine yt yI ?_)); refine yt yB ?_; refine yt yI ?_; refine yt yA ?_; refine Eq.trans (pl_sameH) ?_
 rfl
noncomputable def L59f74_0 (d:Nat) (a0:List AV):Nat→Int→Ans
 | 0,_=>none
 | n+1,x5 =>
 cnd (decide (x5 < (((List.length a0):Nat):Int)))
  (cnd (decide ((0:Int)≤x5))
  (C0.agg 2 a0[(Int.toNat x5)]? fun l16 =>
  C0.int .i64 l16[0]? fun x17 =>
  C0.int .i64 l16[1]? fun x18 =>
  C0.bool (pcall M d 74 [(.agg [(iz x17),(iz x18)])]) fun b19 =>
  cnd b19
  (E59f74_0 d a0 x5)
  (L59f74_0 d a0 n (IntKind.wrap .i64 (x5+1))))
  (none))
  (X59f74_0_0 d a0)
theorem L59f74_0_s (d:Nat) (a0:List AV) (n:Nat) (x5:Int):L59f74_0 d a0 (n+1) x5=(cnd (decide (x5 < (((List.length a0):Nat):Int)))
 (cnd (decide ((0:Int)≤x5))
 (C0.agg 2 a0[(Int.toNat x5)]? fun l16 =>
 C0.int .i64 l16[0]? fun x17 =>
 C0.int .i64 l16[1]? fun x18 =>
 C0.bool (pcall M d 74 [(.agg [(iz x17),(iz x18)])]) fun b19 =>
 cnd b19
 (E59f74_0 d a0 x5)
 (L59f74_0 d a0 n (IntKind.wrap .i64 (x5+1))))
 (none))
 (X59f74_0_0 d a0)):=by kernel_rfl
theorem it59f74_0 (d:Nat) (a0:List AV)  :∀ (n:Nat) (x3:Int) (v4:AV) (x5:Int) (v6 v7 v8 v9 v10 v11 v12 v13 v14 v15:AV),C0.iter (r59f74R0 C0 d a0) n ⟨[(.lst a0),(.fn 74 [] []),tz,tz,(iz x3),v4,(.lst a0),(iz (((List.length a0):Nat):Int)),(iz x5),v6,v7,v8,v9,v10,v11,v12,v13,v14,v15],[]⟩ [0] [r59f74X0_0 C0 d a0] (r59f74E0 C0 d a0)=L59f74_0 d a0 n x5:=by
 generalize hR:r59f74R0 C0 d a0=R
 intro n
 induction n with
 | zero=>intros; rfl
 | succ n ih =>
   intro x3 v4 x5 v6 v7 v8 v9 v10 v11 v12 v13 v14 v15
   simp only [it_ret] at ih
   rw [it_ret,xiter_s]
   refine Eq.trans (congrFun (congrFun hR.symm _) _) ?_
   unfold r59f74R0
   refine Eq.trans (pl_len (by rfl)) ?_; refine yt ySs ?_; refine yt yI ?_; refine yt yA ?_; refine yt ySs ?_; refine yt yI ?_; (iterate 10 (refine yt yA ?_)); refine Eq.trans (pl_sameH) ?_
   simp only [kIter_n,kIter_x,kIter_r,kOut_x,kOut_r,xgo_hit,xgo_miss,ih,X59f74_0_0_ok d a0  ,E59f74_0_ok d a0  ]
   exact (L59f74_0_s d a0 n x5).symm
theorem q59f74 (d:Nat) (a0:List AV) (a1:AV):xcall C0 M unr d 59 [(.lst a0),(.fn 74 [] [])] =
 L59f74_0 d a0 10000000000000000000 0:=(r59f74 C0 d a0 a1).trans (by simp only [it59f74_0])
noncomputable def X61_0_0 (d:Nat) (a1:Int) (v0 v5 v9:AV) (H:Heap):Ans :=
 cnd (decide (a1 < 0))
  (C0.hop H (.load true 2 (.v v9)) fun v94 h95 =>
  C0.agg 2 (some v94) fun l96 =>
  C0.int .i64 l96[0]? fun x97 =>
  C0.int .u64 l96[1]? fun x98 =>
  C0.hop h95 (.load true 2 (.v v5)) fun v99 h100 =>
  C0.agg 2 (some v99) fun l101 =>
  C0.int .i64 l101[0]? fun x102 =>
  C0.int .u64 l101[1]? fun x103 =>
  C0.agg 2 (pcall M d 68 [(.agg [(iz x102),(.int .u64 x103)])]) fun l104 =>
  C0.int .i64 l104[0]? fun x105 =>
  C0.int .u64 l104[1]? fun x106 =>
  C0.agg 2 (pcall M d 67 [(.agg [(iz x97),(.int .u64 x98)]),(.agg [(iz x105),(.int .u64 x106)])]) fun l107 =>
  C0.int .i64 l107[0]? fun x108 =>
  C0.int .u64 l107[1]? fun x109 =>
  C0.hop h100 (.store 2 (.v v9) (.v (.agg [(iz x108),(.int .u64 x109)]))) fun v110 h111 =>
  C0.hop h111 (.load true 2 (.v v9)) fun v112 h113 =>
  C0.agg 2 (some v112) fun l114 =>
  C0.int .i64 l114[0]? fun x115 =>
  C0.int .u64 l114[1]? fun x116 =>
  C0.hop h113 (.store 2 (.v v0) (.v (.agg [(iz x115),(.int .u64 x116)]))) fun v117 h118 =>
  C0.hop h118 (.load true 2 (.v v0)) fun v119 h120 =>
  C0.fin h118 v119)
  (C0.hop H (.load true 2 (.v v9)) fun v121 h122 =>
  C0.agg 2 (some v121) fun l123 =>
  C0.int .i64 l123[0]? fun x124 =>
  C0.int .u64 l123[1]? fun x125 =>
  C0.hop h122 (.store 2 (.v v0) (.v (.agg [(iz x124),(.int .u64 x125)]))) fun v126 h127 =>
  C0.hop h127 (.load true 2 (.v v0)) fun v128 h129 =>
  C0.fin h127 v128)
theorem X61_0_0_ok (d:Nat) (a0 a1:Int) (v0:AV) (x3 x4:Int) (v5 v9:AV) (x78 x79:Int) (b80:Bool) (v81 v82 v83 v84 v85 v86 v87 v88 v89 v90 v91 v92 v93:AV) (H:Heap):r61X0_0 C0 d a0 a1 v0 x3 x4 v5 v9 ⟨[(iz a0),(iz a1),tz,tz,v0,v5,v9,(.int .u64 (IntKind.wrap .u64 a1)),(iz x78),(iz a0),(.agg [(iz x3),(.int .u64 x4)]),(.agg [(iz 0),(.int .u64 0)]),(iz a1),(.int .u64 (IntKind.wrap .u64 a1)),(iz x79),(bz b80),v81,v82,v83,v84,v85,v86,v87,v88,v89,v90,v91,v92,v93,tz,tz,tz,tz,tz,tz,tz],H⟩=X61_0_0 d a1 v0 v5 v9 H:=by
 unfold r61X0_0; refine Eq.trans (pl_len (by rfl)) ?_; refine yt ySs ?_; refine yt yI ?_; refine yt ySs ?_; refine yt yI ?_; refine yt yB ?_; refine yt yAs ?_; refine yt ySs ?_
 rfl
noncomputable def L61_0 (d:Nat) (a1:Int) (v0 v5 v9:AV):Nat→Int→Heap→Ans
 | 0,_,_=>none
 | n+1,x16,H =>
 cnd (decide (x16 < 64))
  (cnd (decide (x16 < 0))
  (none)
  (cnd ((bits .and .u64 (Int.fdiv (IntKind.wrap .u64 a1) (2 ^ (min (Int.toNat x16) 64))) 1) == 1)
  (C0.hop H (.load true 2 (.v v9)) fun v32 h33 =>
  C0.agg 2 (some v32) fun l34 =>
  C0.int .i64 l34[0]? fun x35 =>
  C0.int .u64 l34[1]? fun x36 =>
  C0.hop h33 (.load true 2 (.v v5)) fun v37 h38 =>
  C0.agg 2 (some v37) fun l39 =>
  C0.int .i64 l39[0]? fun x40 =>
  C0.int .u64 l39[1]? fun x41 =>
  C0.agg 2 (pcall M d 67 [(.agg [(iz x35),(.int .u64 x36)]),(.agg [(iz x40),(.int .u64 x41)])]) fun l42 =>
  C0.int .i64 l42[0]? fun x43 =>
  C0.int .u64 l42[1]? fun x44 =>
  C0.hop h38 (.store 2 (.v v9) (.v (.agg [(iz x43),(.int .u64 x44)]))) fun v45 h46 =>
  C0.hop h46 (.load true 2 (.v v5)) fun v47 h48 =>
  C0.agg 2 (some v47) fun l49 =>
  C0.int .i64 l49[0]? fun x50 =>
  C0.int .u64 l49[1]? fun x51 =>
  C0.hop h48 (.load true 2 (.v v5)) fun v52 h53 =>
  C0.agg 2 (some v52) fun l54 =>
  C0.int .i64 l54[0]? fun x55 =>
  C0.int .u64 l54[1]? fun x56 =>
  C0.agg 2 (pcall M d 67 [(.agg [(iz x50),(.int .u64 x51)]),(.agg [(iz x55),(.int .u64 x56)])]) fun l57 =>
  C0.int .i64 l57[0]? fun x58 =>
  C0.int .u64 l57[1]? fun x59 =>
  C0.hop h53 (.store 2 (.v v5) (.v (.agg [(iz x58),(.int .u64 x59)]))) fun v60 h61 =>
  L61_0 d a1 v0 v5 v9 n (IntKind.wrap .i64 (x16+1)) h61)
  (C0.hop H (.load true 2 (.v v5)) fun v62 h63 =>
  C0.agg 2 (some v62) fun l64 =>
  C0.int .i64 l64[0]? fun x65 =>
  C0.int .u64 l64[1]? fun x66 =>
  C0.hop h63 (.load true 2 (.v v5)) fun v67 h68 =>
  C0.agg 2 (some v67) fun l69 =>
  C0.int .i64 l69[0]? fun x70 =>
  C0.int .u64 l69[1]? fun x71 =>
  C0.agg 2 (pcall M d 67 [(.agg [(iz x65),(.int .u64 x66)]),(.agg [(iz x70),(.int .u64 x71)])]) fun l72 =>
  C0.int .i64 l72[0]? fun x73 =>
  C0.int .u64 l72[1]? fun x74 =>
  C0.hop h68 (.store 2 (.v v5) (.v (.agg [(iz x73),(.int .u64 x74)]))) fun v75 h76 =>
  L61_0 d a1 v0 v5 v9 n (IntKind.wrap .i64 (x16+1)) h76)))
  (X61_0_0 d a1 v0 v5 v9 H)
theorem L61_0_s (d:Nat) (a1:Int) (v0 v5 v9:AV) (n:Nat) (x16:Int) (H:Heap):L61_0 d a1 v0 v5 v9 (n+1) x16 H=(cnd (decide (x16 < 64))
 (cnd (decide (x16 < 0))
 (none)
 (cnd ((bits .and .u64 (Int.fdiv (IntKind.wrap .u64 a1) (2 ^ (min (Int.toNat x16) 64))) 1) == 1)
 (C0.hop H (.load true 2 (.v v9)) fun v32 h33 =>
 C0.agg 2 (some v32) fun l34 =>
 C0.int .i64 l34[0]? fun x35 =>
 C0.int .u64 l34[1]? fun x36 =>
 C0.hop h33 (.load true 2 (.v v5)) fun v37 h38 =>
 C0.agg 2 (some v37) fun l39 =>
 C0.int .i64 l39[0]? fun x40 =>
 C0.int .u64 l39[1]? fun x41 =>
 C0.agg 2 (pcall M d 67 [(.agg [(iz x35),(.int .u64 x36)]),(.agg [(iz x40),(.int .u64 x41)])]) fun l42 =>
 C0.int .i64 l42[0]? fun x43 =>
 C0.int .u64 l42[1]? fun x44 =>
 C0.hop h38 (.store 2 (.v v9) (.v (.agg [(iz x43),(.int .u64 x44)]))) fun v45 h46 =>
 C0.hop h46 (.load true 2 (.v v5)) fun v47 h48 =>
 C0.agg 2 (some v47) fun l49 =>
 C0.int .i64 l49[0]? fun x50 =>
 C0.int .u64 l49[1]? fun x51 =>
 C0.hop h48 (.load true 2 (.v v5)) fun v52 h53 =>
 C0.agg 2 (some v52) fun l54 =>
 C0.int .i64 l54[0]? fun x55 =>
 C0.int .u64 l54[1]? fun x56 =>
 C0.agg 2 (pcall M d 67 [(.agg [(iz x50),(.int .u64 x51)]),(.agg [(iz x55),(.int .u64 x56)])]) fun l57 =>
 C0.int .i64 l57[0]? fun x58 =>
 C0.int .u64 l57[1]? fun x59 =>
 C0.hop h53 (.store 2 (.v v5) (.v (.agg [(iz x58),(.int .u64 x59)]))) fun v60 h61 =>
 L61_0 d a1 v0 v5 v9 n (IntKind.wrap .i64 (x16+1)) h61)
 (C0.hop H (.load true 2 (.v v5)) fun v62 h63 =>
 C0.agg 2 (some v62) fun l64 =>
 C0.int .i64 l64[0]? fun x65 =>
 C0.int .u64 l64[1]? fun x66 =>
 C0.hop h63 (.load true 2 (.v v5)) fun v67 h68 =>
 C0.agg 2 (some v67) fun l69 =>
 C0.int .i64 l69[0]? fun x70 =>
 C0.int .u64 l69[1]? fun x71 =>
 C0.agg 2 (pcall M d 67 [(.agg [(iz x65),(.int .u64 x66)]),(.agg [(iz x70),(.int .u64 x71)])]) fun l72 =>
 C0.int .i64 l72[0]? fun x73 =>
 C0.int .u64 l72[1]? fun x74 =>
 C0.hop h68 (.store 2 (.v v5) (.v (.agg [(iz x73),(.int .u64 x74)]))) fun v75 h76 =>
 L61_0 d a1 v0 v5 v9 n (IntKind.wrap .i64 (x16+1)) h76)))
 (X61_0_0 d a1 v0 v5 v9 H)):=by kernel_rfl
theorem it61_0 (d:Nat) (a0 a1:Int) (v0:AV) (x3 x4:Int) (v5 v9:AV)  :∀ (n:Nat) (x16:Int) (v17 v18 v19 v20 v21 v22 v23 v24 v25 v26 v27 v28 v29 v30 v31:AV) (H:Heap),C0.iter (r61R0 C0 d a0 a1 v0 x3 x4 v5 v9) n ⟨[(iz a0),(iz a1),tz,tz,v0,v5,v9,(.int .u64 (IntKind.wrap .u64 a1)),(iz x16),(iz a0),(.agg [(iz x3),(.int .u64 x4)]),(.agg [(iz 0),(.int .u64 0)]),(iz a1),(.int .u64 (IntKind.wrap .u64 a1)),v17,v18,v19,v20,v21,v22,v23,v24,v25,v26,v27,v28,v29,v30,v31,tz,tz,tz,tz,tz,tz,tz],H⟩ [0] [r61X0_0 C0 d a0 a1 v0 x3 x4 v5 v9] (r61E0 C0 d a0 a1 v0 x3 x4 v5 v9)=L61_0 d a1 v0 v5 v9 n x16 H:=by
 generalize hR:r61R0 C0 d a0 a1 v0 x3 x4 v5 v9=R
 intro n
 induction n with
 | zero=>intros; rfl
 | succ n ih =>
   intro x16 v17 v18 v19 v20 v21 v22 v23 v24 v25 v26 v27 v28 v29 v30 v31 H
   simp only [it_ret] at ih
   rw [it_ret,xiter_s]
   refine Eq.trans (congrFun (congrFun hR.symm _) _) ?_
   unfold r61R0
   refine Eq.trans (pl_len (by rfl)) ?_; refine yt ySs ?_; refine yt yI ?_; refine yt ySs ?_; refine yt yAs ?_; (iterate 13 (refine yt yA ?_)); refine yt ySs ?_
   simp only [kIter_n,kIter_x,kIter_r,kOut_x,kOut_r,xgo_hit,xgo_miss,ih,X61_0_0_ok d a0 a1 v0 x3 x4 v5 v9  ]
   exact (L61_0_s d a1 v0 v5 v9 n x16 H).symm
theorem q61 (d:Nat) (a0 a1:Int):xcall C0 M unr d 61 [(iz a0),(iz a1)] =
 C0.hop [] (.alloc E81) fun v0 h1 =>
 C0.agg 2 (pcall M d 66 [(iz a0)]) fun l2 =>
 C0.int .i64 l2[0]? fun x3 =>
 C0.int .u64 l2[1]? fun x4 =>
 C0.hop h1 (.alloc E81) fun v5 h6 =>
 C0.hop h6 (.store 2 (.v v5) (.v (.agg [(iz x3),(.int .u64 x4)]))) fun v7 h8 =>
 C0.hop h8 (.alloc E81) fun v9 h10 =>
 C0.hop h10 (.store 2 (.v v9) (.v (.agg [(iz 0),(.int .u64 0)]))) fun v11 h12 =>
 L61_0 d a1 v0 v5 v9 10000000000000000000 0 h12:=(r61 C0 d a0 a1).trans (by simp only [it61_0])
noncomputable def X67_0_0 (d:Nat) (v4 v11 v17 v62:AV) (H:Heap):Ans :=
 C0.snp H [v62] fun l88 b89 =>
  C0.agg 2 (pcall M d 73 l88) fun l90 =>
  C0.int .i64 l90[0]? fun x91 =>
  C0.int .u64 l90[1]? fun x92 =>
  cnd (b89 || true)
  (C0.hop H (.store 2 (.v v4) (.v (.agg [(iz x91),(.int .u64 x92)]))) fun v93 h94 =>
  C0.hop h94 (.load true 2 (.v v4)) fun v95 h96 =>
  C0.fin h94 v95)
  (none)
theorem X67_0_0_ok (d:Nat) (a0 a1 a2 a3:Int) (v0 v2 v4:AV) (x9 x10:Int) (v11:AV) (x15 x16:Int) (v17 v62:AV) (x63 x64:Int) (v65:AV) (x66:Int) (b67:Bool) (v68 v69 v70 v71 v72 v73 v74 v75 v76 v77 v78 v79 v80 v81 v82 v83 v84 v85 v86 v87:AV) (H:Heap):r67X0_0 C0 d a0 a1 a2 a3 v0 v2 v4 x9 x10 v11 x15 x16 v17 ⟨[(.agg [(iz a0),(.int .u64 a1)]),(.agg [(iz a2),(.int .u64 a3)]),v0,v2,v4,v11,v17,v62,(iz x63),(iz x64),v65,(.agg [(iz x9),(.int .u64 x10)]),v11,(.agg [(iz x15),(.int .u64 x16)]),v17,(iz x66),(bz b67),v68,v69,v70,v71,v72,v73,v74,v75,v76,v77,v78,v79,v80,v81,v82,v83,v84,v85,v86,v87,tz,tz],H⟩=X67_0_0 d v4 v11 v17 v62 H:=by
 unfold r67X0_0; refine Eq.trans (pl_len (by rfl)) ?_; refine yt ySs ?_; refine yt yA ?_; (iterate 2 (refine yt yI ?_)); refine yt yA ?_; refine yt ySs ?_; refine yt yI ?_; refine yt yB ?_; refine yt yAs ?_; refine yt ySs ?_
 rfl
noncomputable def L67_0 (d:Nat) (v4 v11 v17:AV):Nat→AV→Int→Int→Heap→Ans
 | 0,_,_,_,_=>none
 | n+1,v21,x22,x23,H =>
 cnd (decide (x23 < 128))
  (C0.hop H (.ixAS .any 1 (.v v11) (.v (iz x23))) fun v47 h48 =>
  C0.hop h48 (.load false 1 (.v v47)) fun v49 h50 =>
  C0.int .i64 (some v49) fun x51 =>
  C0.hop h50 (.ixAS .any 1 (.v v17) (.v (iz x23))) fun v52 h53 =>
  C0.hop h53 (.load false 1 (.v v52)) fun v54 h55 =>
  C0.int .i64 (some v54) fun x56 =>
  C0.hop h55 (.mkrow E3 1 [(0,(.v (iz (Int.tmod (IntKind.wrap .i64 ((IntKind.wrap .i64 (x51+x56))+x22)) 2))))]) fun v57 h58 =>
  C0.hop h58 (.app E3 (.v v21) (.v v57)) fun v59 h60 =>
  L67_0 d v4 v11 v17 n v59 (IntKind.wrap .i64 (Int.tdiv (IntKind.wrap .i64 ((IntKind.wrap .i64 (x51+x56))+x22)) 2)) (IntKind.wrap .i64 (x23+1)) h60)
  (X67_0_0 d v4 v11 v17 v21 H)
theorem L67_0_s (d:Nat) (v4 v11 v17:AV) (n:Nat) (v21:AV) (x22 x23:Int) (H:Heap):L67_0 d v4 v11 v17 (n+1) v21 x22 x23 H=(cnd (decide (x23 < 128))
 (C0.hop H (.ixAS .any 1 (.v v11) (.v (iz x23))) fun v47 h48 =>
 C0.hop h48 (.load false 1 (.v v47)) fun v49 h50 =>
 C0.int .i64 (some v49) fun x51 =>
 C0.hop h50 (.ixAS .any 1 (.v v17) (.v (iz x23))) fun v52 h53 =>
 C0.hop h53 (.load false 1 (.v v52)) fun v54 h55 =>
 C0.int .i64 (some v54) fun x56 =>
 C0.hop h55 (.mkrow E3 1 [(0,(.v (iz (Int.tmod (IntKind.wrap .i64 ((IntKind.wrap .i64 (x51+x56))+x22)) 2))))]) fun v57 h58 =>
 C0.hop h58 (.app E3 (.v v21) (.v v57)) fun v59 h60 =>
 L67_0 d v4 v11 v17 n v59 (IntKind.wrap .i64 (Int.tdiv (IntKind.wrap .i64 ((IntKind.wrap .i64 (x51+x56))+x22)) 2)) (IntKind.wrap .i64 (x23+1)) h60)
 (X67_0_0 d v4 v11 v17 v21 H)):=by kernel_rfl
theorem it67_0 (d:Nat) (a0 a1 a2 a3:Int) (v0 v2 v4:AV) (x9 x10:Int) (v11:AV) (x15 x16:Int) (v17:AV)  :∀ (n:Nat) (v21:AV) (x22 x23:Int) (v24 v25 v26 v27 v28 v29 v30 v31 v32 v33 v34 v35 v36 v37 v38 v39 v40 v41 v42 v43 v44 v45 v46:AV) (H:Heap),C0.iter (r67R0 C0 d a0 a1 a2 a3 v0 v2 v4 x9 x10 v11 x15 x16 v17) n ⟨[(.agg [(iz a0),(.int .u64 a1)]),(.agg [(iz a2),(.int .u64 a3)]),v0,v2,v4,v11,v17,v21,(iz x22),(iz x23),v24,(.agg [(iz x9),(.int .u64 x10)]),v11,(.agg [(iz x15),(.int .u64 x16)]),v17,v25,v26,v27,v28,v29,v30,v31,v32,v33,v34,v35,v36,v37,v38,v39,v40,v41,v42,v43,v44,v45,v46,tz,tz],H⟩ [0] [r67X0_0 C0 d a0 a1 a2 a3 v0 v2 v4 x9 x10 v11 x15 x16 v17] (r67E0 C0 d a0 a1 a2 a3 v0 v2 v4 x9 x10 v11 x15 x16 v17)=L67_0 d v4 v11 v17 n v21 x22 x23 H:=by
 generalize hR:r67R0 C0 d a0 a1 a2 a3 v0 v2 v4 x9 x10 v11 x15 x16 v17=R
 intro n
 induction n with
 | zero=>intros; rfl
 | succ n ih =>
   intro v21 x22 x23 v24 v25 v26 v27 v28 v29 v30 v31 v32 v33 v34 v35 v36 v37 v38 v39 v40 v41 v42 v43 v44 v45 v46 H
   simp only [it_ret] at ih
   rw [it_ret,xiter_s]
   refine Eq.trans (congrFun (congrFun hR.symm _) _) ?_
   unfold r67R0
   refine Eq.trans (pl_len (by rfl)) ?_; refine yt ySs ?_; refine yt yA ?_; (iterate 2 (refine yt yI ?_)); refine yt yA ?_; refine yt ySs ?_; refine yt yAs ?_; (iterate 20 (refine yt yA ?_)); refine yt ySs ?_
   simp only [kIter_n,kIter_x,kIter_r,kOut_x,kOut_r,xgo_hit,xgo_miss,ih,X67_0_0_ok d a0 a1 a2 a3 v0 v2 v4 x9 x10 v11 x15 x16 v17  ]
   exact (L67_0_s d v4 v11 v17 n v21 x22 x23 H).symm
theorem q67 (d:Nat) (a0 a1 a2 a3:Int):xcall C0 M unr d 67 [(.agg [(iz a0),(.int .u64 a1)]),(.agg [(iz a2),(.int .u64 a3)])] =
 C0.hop [] (.box E81 (.v (.agg [(iz a0),(.int .u64 a1)]))) fun v0 h1 =>
 C0.hop h1 (.box E81 (.v (.agg [(iz a2),(.int .u64 a3)]))) fun v2 h3 =>
 C0.hop h3 (.alloc E81) fun v4 h5 =>
 C0.hop h5 (.load true 2 (.v v0)) fun v6 h7 =>
 C0.agg 2 (some v6) fun l8 =>
 C0.int .i64 l8[0]? fun x9 =>
 C0.int .u64 l8[1]? fun x10 =>
 C0.any (pcall M d 72 [(.agg [(iz x9),(.int .u64 x10)])]) fun v11 =>
 C0.hop h7 (.load true 2 (.v v2)) fun v12 h13 =>
 C0.agg 2 (some v12) fun l14 =>
 C0.int .i64 l14[0]? fun x15 =>
 C0.int .u64 l14[1]? fun x16 =>
 C0.any (pcall M d 72 [(.agg [(iz x15),(.int .u64 x16)])]) fun v17 =>
 L67_0 d v4 v11 v17 10000000000000000000 (.zsl true) 0 0 h13:=(r67 C0 d a0 a1 a2 a3).trans (by simp only [it67_0])
noncomputable def X72_1_0 (d:Nat) (v0 v74:AV) (H:Heap):Ans :=
 C0.fin H v74
theorem X72_1_0_ok (d:Nat) (a0 a1:Int) (v0:AV) (x31 x32:Int) (b33:Bool) (v34 v35 v36 v37 v38 v39 v40 v41 v42 v43 v44 v74:AV) (x75 x76:Int) (b77:Bool) (v78 v79 v80 v81 v82 v83 v84 v85 v86 v87 v88 v89:AV) (H:Heap):r72X1_0 C0 d a0 a1 v0 x31 x32 b33 v34 v35 v36 v37 v38 v39 v40 v41 v42 v43 v44 ⟨[(.agg [(iz a0),(.int .u64 a1)]),v0,(.zsl true),v74,(iz x31),(iz x75),(iz x32),(bz b33),v34,v35,v36,v37,v38,v39,v40,v41,v42,v43,v44,(iz x76),(bz b77),v78,v79,v80,v81,v82,v83,v84,v85,v86,v87,v88,v89,tz],H⟩=X72_1_0 d v0 v74 H:=by
 unfold r72X1_0; refine Eq.trans (pl_len (by rfl)) ?_; refine yt ySs ?_; refine yt yA ?_; refine yt yS ?_; refine yt yI ?_; refine yt ySs ?_; refine yt yI ?_; refine yt yB ?_; refine yt yAs ?_; refine yt yS ?_
 rfl
noncomputable def L72_1 (d:Nat) (v0:AV):Nat→AV→Int→Heap→Ans
 | 0,_,_,_=>none
 | n+1,v48,x49,H =>
 cnd (decide (x49 < 64))
  (C0.hop H (.fldA 0 (.v v0)) fun v64 h65 =>
  C0.hop h65 (.load false 1 (.v v64)) fun v66 h67 =>
  C0.int .i64 (some v66) fun x68 =>
  cnd (decide (x49 < 0))
  (none)
  (C0.hop h67 (.mkrow E3 1 [(0,(.v (iz (IntKind.wrap .i64 (bits .and .u64 (Int.fdiv (IntKind.wrap .u64 x68) (2 ^ (min (Int.toNat x49) 64))) 1)))))]) fun v69 h70 =>
  C0.hop h70 (.app E3 (.v v48) (.v v69)) fun v71 h72 =>
  L72_1 d v0 n v71 (IntKind.wrap .i64 (x49+1)) h72))
  (X72_1_0 d v0 v48 H)
theorem L72_1_s (d:Nat) (v0:AV) (n:Nat) (v48:AV) (x49:Int) (H:Heap):L72_1 d v0 (n+1) v48 x49 H=(cnd (decide (x49 < 64))
 (C0.hop H (.fldA 0 (.v v0)) fun v64 h65 =>
 C0.hop h65 (.load false 1 (.v v64)) fun v66 h67 =>
 C0.int .i64 (some v66) fun x68 =>
 cnd (decide (x49 < 0))
 (none)
 (C0.hop h67 (.mkrow E3 1 [(0,(.v (iz (IntKind.wrap .i64 (bits .and .u64 (Int.fdiv (IntKind.wrap .u64 x68) (2 ^ (min (Int.toNat x49) 64))) 1)))))]) fun v69 h70 =>
 C0.hop h70 (.app E3 (.v v48) (.v v69)) fun v71 h72 =>
 L72_1 d v0 n v71 (IntKind.wrap .i64 (x49+1)) h72))
 (X72_1_0 d v0 v48 H)):=by kernel_rfl
theorem it72_1 (d:Nat) (a0 a1:Int) (v0:AV) (x31 x32:Int) (b33:Bool) (v34 v35 v36 v37 v38 v39 v40 v41 v42 v43 v44:AV)  :∀ (n:Nat) (v48:AV) (x49:Int) (v50 v51 v52 v53 v54 v55 v56 v57 v58 v59 v60 v61 v62 v63:AV) (H:Heap),C0.iter (r72R1 C0 d a0 a1 v0 x31 x32 b33 v34 v35 v36 v37 v38 v39 v40 v41 v42 v43 v44) n ⟨[(.agg [(iz a0),(.int .u64 a1)]),v0,(.zsl true),v48,(iz x31),(iz x49),(iz x32),(bz b33),v34,v35,v36,v37,v38,v39,v40,v41,v42,v43,v44,v50,v51,v52,v53,v54,v55,v56,v57,v58,v59,v60,v61,v62,v63,tz],H⟩ [2] [r72X1_0 C0 d a0 a1 v0 x31 x32 b33 v34 v35 v36 v37 v38 v39 v40 v41 v42 v43 v44] (r72E1 C0 d a0 a1 v0 x31 x32 b33 v34 v35 v36 v37 v38 v39 v40 v41 v42 v43 v44)=L72_1 d v0 n v48 x49 H:=by
 generalize hR:r72R1 C0 d a0 a1 v0 x31 x32 b33 v34 v35 v36 v37 v38 v39 v40 v41 v42 v43 v44=R
 intro n
 induction n with
 | zero=>intros; rfl
 | succ n ih =>
   intro v48 x49 v50 v51 v52 v53 v54 v55 v56 v57 v58 v59 v60 v61 v62 v63 H
   simp only [it_ret] at ih
   rw [it_ret,xiter_s]
   refine Eq.trans (congrFun (congrFun hR.symm _) _) ?_
   unfold r72R1
   refine Eq.trans (pl_len (by rfl)) ?_; refine yt ySs ?_; refine yt yA ?_; refine yt yS ?_; refine yt yI ?_; refine yt ySs ?_; refine yt yAs ?_; (iterate 12 (refine yt yA ?_)); refine yt yS ?_
   simp only [kIter_n,kIter_x,kIter_r,kOut_x,kOut_r,xgo_hit,xgo_miss,ih,X72_1_0_ok d a0 a1 v0 x31 x32 b33 v34 v35 v36 v37 v38 v39 v40 v41 v42 v43 v44  ]
   exact (L72_1_s d v0 n v48 x49 H).symm
noncomputable def X72_0_0 (d:Nat) (v0 v30:AV) (H:Heap):Ans :=
 L72_1 d v0 10000000000000000000 v30 0 H
theorem X72_0_0_ok (d:Nat) (a0 a1:Int) (v0 v30:AV) (x31 x32:Int) (b33:Bool) (v34 v35 v36 v37 v38 v39 v40 v41 v42 v43 v44:AV) (H:Heap):r72X0_0 C0 d a0 a1 v0 ⟨[(.agg [(iz a0),(.int .u64 a1)]),v0,(.zsl true),v30,(iz x31),tz,(iz x32),(bz b33),v34,v35,v36,v37,v38,v39,v40,v41,v42,v43,v44,tz,tz,tz,tz,tz,tz,tz,tz,tz,tz,tz,tz,tz,tz,tz],H⟩=X72_0_0 d v0 v30 H:=by
 unfold r72X0_0; refine Eq.trans (pl_len (by rfl)) ?_; refine yt ySs ?_; refine yt yA ?_; refine yt yI ?_; refine yt yS ?_; refine yt yI ?_; refine yt yB ?_; (iterate 11 (refine yt yA ?_)); refine yt ySs ?_
 first | (simp only [it72_1] <;> rfl) | rfl
noncomputable def L72_0 (d:Nat) (v0:AV):Nat→AV→Int→Heap→Ans
 | 0,_,_,_=>none
 | n+1,v5,x6,H =>
 cnd (decide (x6 < 64))
  (C0.hop H (.fldA 1 (.v v0)) fun v20 h21 =>
  C0.hop h21 (.load false 1 (.v v20)) fun v22 h23 =>
  C0.int .u64 (some v22) fun x24 =>
  cnd (decide (x6 < 0))
  (none)
  (C0.hop h23 (.mkrow E3 1 [(0,(.v (iz (IntKind.wrap .i64 (bits .and .u64 (Int.fdiv x24 (2 ^ (min (Int.toNat x6) 64))) 1)))))]) fun v25 h26 =>
  C0.hop h26 (.app E3 (.v v5) (.v v25)) fun v27 h28 =>
  L72_0 d v0 n v27 (IntKind.wrap .i64 (x6+1)) h28))
  (X72_0_0 d v0 v5 H)
theorem L72_0_s (d:Nat) (v0:AV) (n:Nat) (v5:AV) (x6:Int) (H:Heap):L72_0 d v0 (n+1) v5 x6 H=(cnd (decide (x6 < 64))
 (C0.hop H (.fldA 1 (.v v0)) fun v20 h21 =>
 C0.hop h21 (.load false 1 (.v v20)) fun v22 h23 =>
 C0.int .u64 (some v22) fun x24 =>
 cnd (decide (x6 < 0))
 (none)
 (C0.hop h23 (.mkrow E3 1 [(0,(.v (iz (IntKind.wrap .i64 (bits .and .u64 (Int.fdiv x24 (2 ^ (min (Int.toNat x6) 64))) 1)))))]) fun v25 h26 =>
 C0.hop h26 (.app E3 (.v v5) (.v v25)) fun v27 h28 =>
 L72_0 d v0 n v27 (IntKind.wrap .i64 (x6+1)) h28))
 (X72_0_0 d v0 v5 H)):=by kernel_rfl
theorem it72_0 (d:Nat) (a0 a1:Int) (v0:AV)  :∀ (n:Nat) (v5:AV) (x6:Int) (v7 v8 v9 v10 v11 v12 v13 v14 v15 v16 v17 v18 v19:AV) (H:Heap),C0.iter (r72R0 C0 d a0 a1 v0) n ⟨[(.agg [(iz a0),(.int .u64 a1)]),v0,(.zsl true),v5,(iz x6),tz,v7,v8,v9,v10,v11,v12,v13,v14,v15,v16,v17,v18,v19,tz,tz,tz,tz,tz,tz,tz,tz,tz,tz,tz,tz,tz,tz,tz],H⟩ [0] [r72X0_0 C0 d a0 a1 v0] (r72E0 C0 d a0 a1 v0)=L72_0 d v0 n v5 x6 H:=by
 generalize hR:r72R0 C0 d a0 a1 v0=R
 intro n
 induction n with
 | zero=>intros; rfl
 | succ n ih =>
   intro v5 x6 v7 v8 v9 v10 v11 v12 v13 v14 v15 v16 v17 v18 v19 H
   simp only [it_ret] at ih
   rw [it_ret,xiter_s]
   refine Eq.trans (congrFun (congrFun hR.symm _) _) ?_
   unfold r72R0
   refine Eq.trans (pl_len (by rfl)) ?_; refine yt ySs ?_; refine yt yA ?_; refine yt yI ?_; refine yt yS ?_; refine yt yAs ?_; (iterate 11 (refine yt yA ?_)); refine yt ySs ?_
   simp only [kIter_n,kIter_x,kIter_r,kOut_x,kOut_r,xgo_hit,xgo_miss,ih,X72_0_0_ok d a0 a1 v0  ]
   exact (L72_0_s d v0 n v5 x6 H).symm
theorem q72 (d:Nat) (a0 a1:Int):xcall C0 M unr d 72 [(.agg [(iz a0),(.int .u64 a1)])] =
 C0.hop [] (.box E81 (.v (.agg [(iz a0),(.int .u64 a1)]))) fun v0 h1 =>
 L72_0 d v0 10000000000000000000 (.zsl true) 0 h1:=(r72 C0 d a0 a1).trans (by simp only [it72_0])
noncomputable def X73_0_0 (d:Nat) (a0:List AV) (v0 v2:AV) (x61:Int) (H:Heap):Ans :=
 C0.hop H (.fldA 0 (.v v2)) fun v88 h89 =>
  C0.hop h89 (.store 1 (.v v88) (.v (iz (IntKind.wrap .i64 x61)))) fun v90 h91 =>
  C0.hop h91 (.load true 2 (.v v2)) fun v92 h93 =>
  C0.agg 2 (some v92) fun l94 =>
  C0.int .i64 l94[0]? fun x95 =>
  C0.int .u64 l94[1]? fun x96 =>
  C0.hop h93 (.store 2 (.v v0) (.v (.agg [(iz x95),(.int .u64 x96)]))) fun v97 h98 =>
  C0.hop h98 (.load true 2 (.v v0)) fun v99 h100 =>
  C0.fin h98 v99
theorem X73_0_0_ok (d:Nat) (a0:List AV) (v0 v2:AV) (x61 x62 x63:Int) (b64:Bool) (v65 v66 v67 v68 v69 v70 v71 v72 v73 v74 v75 v76 v77 v78 v79 v80 v81 v82 v83 v84 v85 v86 v87:AV) (H:Heap):r73X0_0 C0 d a0 v0 v2 ⟨[(.lst a0),tz,v0,v2,(.int .u64 x61),(iz x62),(.agg [(iz 0),(.int .u64 0)]),(iz x63),(bz b64),v65,v66,v67,v68,v69,v70,v71,v72,v73,v74,v75,v76,v77,v78,v79,v80,v81,v82,v83,v84,v85,v86,v87,tz,tz,tz,tz],H⟩=X73_0_0 d a0 v0 v2 x61 H:=by
 unfold r73X0_0; refine Eq.trans (pl_len (by rfl)) ?_; refine yt ySs ?_; (iterate 2 (refine yt yI ?_)); refine yt yS ?_; refine yt yI ?_; refine yt yB ?_; refine yt yAs ?_; refine yt ySs ?_
 rfl
noncomputable def L73_0 (d:Nat) (a0:List AV) (v0 v2:AV):Nat→Int→Int→Heap→Ans
 | 0,_,_,_=>none
 | n+1,x9,x10,H =>
 cnd (decide (x10 < 64))
  (C0.hop H (.ixAS .any 1 (.v (.lst a0)) (.v (iz x10))) fun v36 h37 =>
  C0.hop h37 (.load false 1 (.v v36)) fun v38 h39 =>
  C0.int .i64 (some v38) fun x40 =>
  cnd (x40 == 1)
  (C0.hop h39 (.fldA 1 (.v v2)) fun v41 h42 =>
  C0.hop h42 (.load false 1 (.v v41)) fun v43 h44 =>
  C0.int .u64 (some v43) fun x45 =>
  cnd (decide (x10 < 0))
  (none)
  (C0.hop h44 (.fldA 1 (.v v2)) fun v46 h47 =>
  C0.hop h47 (.store 1 (.v v46) (.v (.int .u64 (bits .or .u64 x45 (IntKind.wrap .u64 (1 * (2 ^ (min (Int.toNat x10) 64)))))))) fun v48 h49 =>
  C0.hop h49 (.ixAS .any 1 (.v (.lst a0)) (.v (iz (IntKind.wrap .i64 (64+x10))))) fun v50 h51 =>
  C0.hop h51 (.load false 1 (.v v50)) fun v52 h53 =>
  C0.int .i64 (some v52) fun x54 =>
  cnd (x54 == 1)
  (cnd (decide (x10 < 0))
  (none)
  (L73_0 d a0 v0 v2 n (bits .or .u64 x9 (IntKind.wrap .u64 (1 * (2 ^ (min (Int.toNat x10) 64))))) (IntKind.wrap .i64 (x10+1)) h53))
  (L73_0 d a0 v0 v2 n x9 (IntKind.wrap .i64 (x10+1)) h53)))
  (C0.hop h39 (.ixAS .any 1 (.v (.lst a0)) (.v (iz (IntKind.wrap .i64 (64+x10))))) fun v55 h56 =>
  C0.hop h56 (.load false 1 (.v v55)) fun v57 h58 =>
  C0.int .i64 (some v57) fun x59 =>
  cnd (x59 == 1)
  (cnd (decide (x10 < 0))
  (none)
  (L73_0 d a0 v0 v2 n (bits .or .u64 x9 (IntKind.wrap .u64 (1 * (2 ^ (min (Int.toNat x10) 64))))) (IntKind.wrap .i64 (x10+1)) h58))
  (L73_0 d a0 v0 v2 n x9 (IntKind.wrap .i64 (x10+1)) h58)))
  (X73_0_0 d a0 v0 v2 x9 H)
theorem L73_0_s (d:Nat) (a0:List AV) (v0 v2:AV) (n:Nat) (x9 x10:Int) (H:Heap):L73_0 d a0 v0 v2 (n+1) x9 x10 H=(cnd (decide (x10 < 64))
 (C0.hop H (.ixAS .any 1 (.v (.lst a0)) (.v (iz x10))) fun v36 h37 =>
 C0.hop h37 (.load false 1 (.v v36)) fun v38 h39 =>
 C0.int .i64 (some v38) fun x40 =>
 cnd (x40 == 1)
 (C0.hop h39 (.fldA 1 (.v v2)) fun v41 h42 =>
 C0.hop h42 (.load false 1 (.v v41)) fun v43 h44 =>
 C0.int .u64 (some v43) fun x45 =>
 cnd (decide (x10 < 0))
 (none)
 (C0.hop h44 (.fldA 1 (.v v2)) fun v46 h47 =>
 C0.hop h47 (.store 1 (.v v46) (.v (.int .u64 (bits .or .u64 x45 (IntKind.wrap .u64 (1 * (2 ^ (min (Int.toNat x10) 64)))))))) fun v48 h49 =>
 C0.hop h49 (.ixAS .any 1 (.v (.lst a0)) (.v (iz (IntKind.wrap .i64 (64+x10))))) fun v50 h51 =>
 C0.hop h51 (.load false 1 (.v v50)) fun v52 h53 =>
 C0.int .i64 (some v52) fun x54 =>
 cnd (x54 == 1)
 (cnd (decide (x10 < 0))
 (none)
 (L73_0 d a0 v0 v2 n (bits .or .u64 x9 (IntKind.wrap .u64 (1 * (2 ^ (min (Int.toNat x10) 64))))) (IntKind.wrap .i64 (x10+1)) h53))
 (L73_0 d a0 v0 v2 n x9 (IntKind.wrap .i64 (x10+1)) h53)))
 (C0.hop h39 (.ixAS .any 1 (.v (.lst a0)) (.v (iz (IntKind.wrap .i64 (64+x10))))) fun v55 h56 =>
 C0.hop h56 (.load false 1 (.v v55)) fun v57 h58 =>
 C0.int .i64 (some v57) fun x59 =>
 cnd (x59 == 1)
 (cnd (decide (x10 < 0))
 (none)
 (L73_0 d a0 v0 v2 n (bits .or .u64 x9 (IntKind.wrap .u64 (1 * (2 ^ (min (Int.toNat x10) 64))))) (IntKind.wrap .i64 (x10+1)) h58))
 (L73_0 d a0 v0 v2 n x9 (IntKind.wrap .i64 (x10+1)) h58)))
 (X73_0_0 d a0 v0 v2 x9 H)):=by kernel_rfl
theorem it73_0 (d:Nat) (a0:List AV) (v0 v2:AV)  :∀ (n:Nat) (x9 x10:Int) (v11 v12 v13 v14 v15 v16 v17 v18 v19 v20 v21 v22 v23 v24 v25 v26 v27 v28 v29 v30 v31 v32 v33 v34 v35:AV) (H:Heap),C0.iter (r73R0 C0 d a0 v0 v2) n ⟨[(.lst a0),tz,v0,v2,(.int .u64 x9),(iz x10),(.agg [(iz 0),(.int .u64 0)]),v11,v12,v13,v14,v15,v16,v17,v18,v19,v20,v21,v22,v23,v24,v25,v26,v27,v28,v29,v30,v31,v32,v33,v34,v35,tz,tz,tz,tz],H⟩ [0] [r73X0_0 C0 d a0 v0 v2] (r73E0 C0 d a0 v0 v2)=L73_0 d a0 v0 v2 n x9 x10 H:=by
 generalize hR:r73R0 C0 d a0 v0 v2=R
 intro n
 induction n with
 | zero=>intros; rfl
 | succ n ih =>
   intro x9 x10 v11 v12 v13 v14 v15 v16 v17 v18 v19 v20 v21 v22 v23 v24 v25 v26 v27 v28 v29 v30 v31 v32 v33 v34 v35 H
   simp only [it_ret] at ih
   rw [it_ret,xiter_s]
   refine Eq.trans (congrFun (congrFun hR.symm _) _) ?_
   unfold r73R0
   refine Eq.trans (pl_len (by rfl)) ?_; refine yt ySs ?_; (iterate 2 (refine yt yI ?_)); refine yt yS ?_; refine yt yAs ?_; (iterate 23 (refine yt yA ?_)); refine yt ySs ?_
   simp only [kIter_n,kIter_x,kIter_r,kOut_x,kOut_r,xgo_hit,xgo_miss,ih,X73_0_0_ok d a0 v0 v2  ]
   exact (L73_0_s d a0 v0 v2 n x9 x10 H).symm
theorem q73 (d:Nat) (a0:List AV):xcall C0 M unr d 73 [(.lst a0)] =
 C0.hop [] (.alloc E81) fun v0 h1 =>
 C0.hop h1 (.alloc E81) fun v2 h3 =>
 C0.hop h3 (.store 2 (.v v2) (.v (.agg [(iz 0),(.int .u64 0)]))) fun v4 h5 =>
 L73_0 d a0 v0 v2 10000000000000000000 0 0 h5:=(r73 C0 d a0).trans (by simp only [it73_0])
noncomputable def X78_0_0 (d:Nat) (a0:List AV) :Ans :=
 some (iz 0)
theorem X78_0_0_ok (d:Nat) (a0:List AV) (x16:Int) (v17:AV) (x18:Int) (v19 v20 v21 v22 v23 v24 v25 v26:AV):r78X0_0 C0 d a0 ⟨[(.lst a0),tz,(iz x16),(iz 0),tz,v17,(.lst a0),(iz (((List.length a0):Nat):Int)),(iz x18),v19,v20,v21,v22,v23,v24,v25,v26,tz],[]⟩=X78_0_0 d a0 :=by
 unfold r78X0_0; refine Eq.trans (pl_len (by rfl)) ?_; refine yt ySs ?_; refine yt yI ?_; refine yt ySs ?_; refine yt yA ?_; refine yt ySs ?_; refine yt yI ?_; refine yt yAs ?_; refine yt yS ?_; refine Eq.trans (pl_sameH) ?_
 rfl
noncomputable def E78_0 (d:Nat) (a0:List AV) (x27:Int):Ans :=
 some (iz x27)
theorem E78_0_ok (d:Nat) (a0:List AV) (x27 x28 x29:Int) (v30 v31:AV) (x32 x33 x34:Int) (b35:Bool) (x36:Int) (v37:AV):r78E0 C0 d a0 ⟨[(.lst a0),tz,(iz x27),(iz 0),tz,(iz x28),(.lst a0),(iz (((List.length a0):Nat):Int)),(iz x29),v30,v31,(iz x32),(iz x33),(iz x34),(.bool b35),(iz x36),v37,tz],[]⟩=E78_0 d a0 x27:=by
 unfold r78E0; refine Eq.trans (pl_len (by rfl)) ?_; refine yt ySs ?_; refine yt yI ?_; refine yt ySs ?_; refine yt yI ?_; refine yt ySs ?_; refine yt yI ?_; refine yt yAs ?_; (iterate 3 (refine yt yI ?_)); refine yt yB ?_; refine yt yI ?_; refine yt yA ?_; refine yt yS ?_; refine Eq.trans (pl_sameH) ?_
 rfl
noncomputable def L78_0 (d:Nat) (a0:List AV):Nat→Int→Ans
 | 0,_=>none
 | n+1,x5 =>
 cnd (decide (x5 < (((List.length a0):Nat):Int)))
  (cnd (decide ((0:Int)≤x5))
  (C0.int .i64 a0[(Int.toNat x5)]? fun x14 =>
  cnd (x14 != 0)
  (E78_0 d a0 x14)
  (L78_0 d a0 n (IntKind.wrap .i64 (x5+1))))
  (none))
  (X78_0_0 d a0)
theorem L78_0_s (d:Nat) (a0:List AV) (n:Nat) (x5:Int):L78_0 d a0 (n+1) x5=(cnd (decide (x5 < (((List.length a0):Nat):Int)))
 (cnd (decide ((0:Int)≤x5))
 (C0.int .i64 a0[(Int.toNat x5)]? fun x14 =>
 cnd (x14 != 0)
 (E78_0 d a0 x14)
 (L78_0 d a0 n (IntKind.wrap .i64 (x5+1))))
 (none))
 (X78_0_0 d a0)):=by kernel_rfl
theorem it78_0 (d:Nat) (a0:List AV)  :∀ (n:Nat) (x3:Int) (v4:AV) (x5:Int) (v6 v7 v8 v9 v10 v11 v12 v13:AV),C0.iter (r78R0 C0 d a0) n ⟨[(.lst a0),tz,(iz x3),(iz 0),tz,v4,(.lst a0),(iz (((List.length a0):Nat):Int)),(iz x5),v6,v7,v8,v9,v10,v11,v12,v13,tz],[]⟩ [0] [r78X0_0 C0 d a0] (r78E0 C0 d a0)=L78_0 d a0 n x5:=by
 generalize hR:r78R0 C0 d a0=R
 intro n
 induction n with
 | zero=>intros; rfl
 | succ n ih =>
   intro x3 v4 x5 v6 v7 v8 v9 v10 v11 v12 v13
   simp only [it_ret] at ih
   rw [it_ret,xiter_s]
   refine Eq.trans (congrFun (congrFun hR.symm _) _) ?_
   unfold r78R0
   refine Eq.trans (pl_len (by rfl)) ?_; refine yt ySs ?_; refine yt yI ?_; refine yt ySs ?_; refine yt yA ?_; refine yt ySs ?_; refine yt yI ?_; (iterate 8 (refine yt yA ?_)); refine yt yS ?_; refine Eq.trans (pl_sameH) ?_
   simp only [kIter_n,kIter_x,kIter_r,kOut_x,kOut_r,xgo_hit,xgo_miss,ih,X78_0_0_ok d a0  ,E78_0_ok d a0  ]
   exact (L78_0_s d a0 n x5).symm
theorem q78 (d:Nat) (a0:List AV):xcall C0 M unr d 78 [(.lst a0)] =
 L78_0 d a0 10000000000000000000 0:=(r78 C0 d a0).trans (by simp only [it78_0])
end Go.Proofs.Ytbmedgpiphibaaa.AE

namespace Go.Proofs.Ytbmedgpiphibaaa.AE
set_option linter.unusedVariables false
set_option linter.unusedSimpArgs false
set_option linter.constructorNameAsVariable false
open Go Go.Proofs.Ytbmedgpiphibaaa.Geo
abbrev i64 (n:Int):AV:=.int .i64 n
abbrev u64 (n:Int):AV:=.int .u64 n
abbrev pt (p:Int × Int):AV:=.agg [.int .i64 p.1,.int .i64 p.2]
theorem s81 (d:Nat) (x:Int):pcall M (d+1) 81 [.int .i64 x]=some (.bool false):=told (r81 C0 d x) (by simp)
theorem s82 (d:Nat) (x:Int):pcall M (d+1) 82 [.int .u64 x]=some (.bool false):=told (r82 C0 d x) (by simp)
theorem s79 (d:Nat) (x y:Int):pcall M (d+2) 79 [.int .i64 x,.int .i64 y]=some (.int .i64 (cmp x y)):=told (r79 C0 (d+1) x y) (by
 rw [s81,s81,C0_bool,C0_bool,cnd_f,cnd_f]
 unfold cmp
 by_cases h:x < y
 ·simp [h,cnd_t]
 ·by_cases h2:y < x <;> simp [h,h2,cnd_t,cnd_f])
theorem s80 (d:Nat) (x y:Int):pcall M (d+2) 80 [.int .u64 x,.int .u64 y]=some (.int .i64 (cmp x y)):=told (r80 C0 (d+1) x y) (by
 rw [s82,s82,C0_bool,C0_bool,cnd_f,cnd_f]
 unfold cmp
 by_cases h:x < y
 ·simp [h,cnd_t]
 ·by_cases h2:y < x <;> simp [h,h2,cnd_t,cnd_f])
theorem s62 (d:Nat) (x:Int):pcall M (d+1) 62 [.int .i64 x]=some (.bool (decide (Okc x))):=told (r62 C0 d x) (by
 unfold Okc
 by_cases h:x ≥ -1099511627776 <;> by_cases h2:x≤1099511627776 <;> simp [h,h2,cnd_t,cnd_f])
theorem s57 (d:Nat) (p:Int × Int):pcall M (d+2) 57 [pt p]=some (.bool (decide (OkP p))):=told (r57 C0 (d+1) p.1 p.2) (by
 rw [s62,s62,C0_bool,C0_bool]
 unfold OkP
 by_cases h:Okc p.1 <;> by_cases h2:Okc p.2 <;> simp [h,h2,cnd_t,cnd_f])
theorem s74 (d:Nat) (p:Int × Int):pcall M (d+3) 74 [pt p]=some (.bool (!decide (OkP p))):=told (r74 C0 (d+2) p.1 p.2) (by
 rw [s57,C0_bool])
def fi:List Pt→Int→Int
 | [],_=>-1
 | p::l,i=>if OkP p then fi l (i+1) else i
theorem pts_at {ps:List Pt} {i:Nat} (h:i < ps.length):(ps.map pt)[((i:Nat):Int).toNat]?=some (pt ps[i]):=by simp [h]
theorem s59_0 (d:Nat) (ps:List Pt) (hl:ps.length < 9223372036854775807):∀ (l2:List Pt) (i f:Nat),ps.drop i=l2→l2.length < f →
 L59f74_0 (d+3) (ps.map pt) f (i:Nat)=some (.int .i64 (fi l2 (i:Nat))):=by
 intro l2
 induction l2 with
 | nil =>
   intro i f hd hf
   obtain ⟨f,rfl⟩:∃ m,f=m+1:=⟨f - 1,by omega⟩
   have:ps.length≤i:=List.drop_eq_nil_iff.mp hd
   rw [L59f74_0,decide_eq_false (by simp; omega),cnd_f]; rfl
 | cons p l2 ih =>
   intro i f hd hf
   obtain ⟨f,rfl⟩:∃ m,f=m+1:=⟨f - 1,by simp at hf; omega⟩
   have hi:i < ps.length:=by
    rcases Nat.lt_or_ge i ps.length with h | h
    ·exact h
    ·rw [List.drop_eq_nil_of_le h] at hd; cases hd
   have hp:ps[i]=p:=by have:=List.drop_eq_getElem_cons hi; rw [hd] at this; exact (List.cons.inj this).1.symm
   have hd2:ps.drop (i+1)=l2:=by have:=List.drop_eq_getElem_cons hi; rw [hd] at this; exact (List.cons.inj this).2.symm
   rw [L59f74_0,decide_eq_true (by simp; omega),cnd_t,decide_eq_true (by omega),cnd_t,pts_at hi]
   refine Eq.trans (pl_agg (by rfl) (by rfl)) ?_; refine Eq.trans (pl_int (by rfl)) ?_; refine Eq.trans (pl_int (by rfl)) ?_
   rw [show pcall M (d+3) 74 [.agg [.int .i64 ps[i].1,.int .i64 ps[i].2]]=some (.bool (!decide (OkP ps[i]))) from s74 d ps[i],C0_bool,hp]
   simp only [fi]
   by_cases h:OkP p
   ·rw [decide_eq_true h,if_pos h,show IntKind.wrap .i64 ((i:Int)+1)=((i+1:Nat):Int) by rw [IntKind.wrap_i64]; omega]
    refine (ih (i+1) f hd2 (by simp at hf; omega)).trans ?_
    simp
   ·rw [decide_eq_false h,if_neg h]; rfl
theorem s59 (d:Nat) (ps:List Pt) (hl:ps.length < 140737488355329):pcall M (d+4) 59 [.lst (ps.map pt),.fn 74 [] []]=some (.int .i64 (fi ps 0)) :=
 told (q59f74 (d+3) (ps.map pt) .nilp) (s59_0 d ps (by omega) ps 0 _ rfl (by omega))
theorem s78 (d:Nat) (x y:Int):pcall M (d+1) 78 [.lst [.int .i64 x,.int .i64 y]]=some (.int .i64 (if x ≠ 0 then x else y)):=told (q78 d _) (by
 rw [show (10000000000000000000:Nat)=9999999999999999997+1+1+1 from rfl,L78_0]
 refine Eq.trans (pl_len (by rfl)) ?_; refine Eq.trans (pl_len (by rfl)) ?_; refine Eq.trans (pl_int (by rfl)) ?_
 by_cases hx:x=0
 ·subst hx
  refine Eq.trans (pl_f (by rfl)) ?_
  rw [L78_0]
  refine Eq.trans (pl_len (by rfl)) ?_; refine Eq.trans (pl_len (by rfl)) ?_; refine Eq.trans (pl_int (by rfl)) ?_
  by_cases hy:y=0
  ·subst hy
   refine Eq.trans (pl_f (by rfl)) ?_
   rw [L78_0]; rfl
  ·rw [show (y != 0)=true by simp [hy],cnd_t]; rfl
 ·rw [show (x != 0)=true by simp [hx],cnd_t,if_pos hx]; rfl)
theorem s76 (d:Nat) (a b:Int) (ha:-170141183460469231731687303715884105728≤a) (ha':a < 170141183460469231731687303715884105728) (hb:-170141183460469231731687303715884105728≤b) (hb':b < 170141183460469231731687303715884105728) :
 pcall M (d+3) 76 [.agg [.int .i64 (hiw a),.int .u64 (low a)],.agg [.int .i64 (hiw b),.int .u64 (low b)]]=some (.int .i64 (cmp a b)):=told (r76 C0 (d+2) _ _ _ _) (by
 rw [s79,s80,C0_int,C0_int,s78,C0_int]
 have e1:hiw a=a / 18446744073709551616:=by unfold hiw; rw [i64_small (by omega) (by omega)]
 have e2:hiw b=b / 18446744073709551616:=by unfold hiw; rw [i64_small (by omega) (by omega)]
 rw [e1,e2]
 unfold low cmp
 congr 2
 repeat' split
 all_goals omega)
theorem s77 (d:Nat) (a b:Int) (ha:0≤a) (ha':a < 18446744073709551616) (hb:0≤b) (hb':b < 18446744073709551616) :
 ∃ hi lo,pcall M (d+1) 77 [.int .u64 a,.int .u64 b]=some (.tup [.int .u64 hi,.int .u64 lo])∧hi * 18446744073709551616+lo=a * b∧0≤lo∧lo < 18446744073709551616∧0≤hi∧hi < 18446744073709551616:=by
 refine ⟨_,_,told (r77 C0 d a b) rfl,?_⟩
 have h32:∀ x:Int,Int.fdiv x (2 ^ (min (Int.toNat 32) 64))=x / 4294967296:=by
  intro x
  rw [show ((2:Int) ^ (min (Int.toNat 32) 64))=4294967296 from by decide]
  exact Int.fdiv_eq_ediv_of_nonneg x (by decide)
 rw [u64_and32 ha ha',u64_and32 hb hb']
 simp only [h32]
 obtain ⟨a1,a0,e1,e2,e3,e4⟩:∃ a1 a0:Int,a / 4294967296=a1∧a % 4294967296=a0∧a=a1 * 4294967296+a0∧(0≤a0∧a0 < 4294967296∧0≤a1∧a1 < 4294967296):=⟨_,_,rfl,rfl,by omega,by omega⟩
 obtain ⟨b1,b0,f1,f2,f3,f4⟩:∃ a1 a0:Int,b / 4294967296=a1∧b % 4294967296=a0∧b=a1 * 4294967296+a0∧(0≤a0∧a0 < 4294967296∧0≤a1∧a1 < 4294967296):=⟨_,_,rfl,rfl,by omega,by omega⟩
 rw [e1,e2,f1,f2]
 have hp:a * b=(a1 * b1) * 18446744073709551616+(a1 * b0+a0 * b1) * 4294967296+a0 * b0:=by rw [e3,f3]; grind
 rw [hp]
 have bd:∀ x y:Int,0≤x→x < 4294967296→0≤y→y < 4294967296→0≤x * y∧x * y≤18446744065119617025:=by
  intro x y h1 h2 h3 h4
  exact ⟨Int.mul_nonneg h1 h3,Int.le_trans (Int.mul_le_mul (show x≤4294967295 by omega) (show y≤4294967295 by omega) h3 (by omega)) (by decide)⟩
 have B11:=bd a1 b1 (by omega) (by omega) (by omega) (by omega)
 have B10:=bd a1 b0 (by omega) (by omega) (by omega) (by omega)
 have B01:=bd a0 b1 (by omega) (by omega) (by omega) (by omega)
 have B00:=bd a0 b0 (by omega) (by omega) (by omega) (by omega)
 generalize a1 * b1=p11 at *
 generalize a1 * b0=p10 at *
 generalize a0 * b1=p01 at *
 generalize a0 * b0=p00 at *
 simp only [u64w]
 rw [show ∀ x:Int,Go.bits .and .u64 (x % 18446744073709551616) 4294967295=(x % 18446744073709551616) % 4294967296 from fun x=>u64_and32 (by omega) (by omega)]
 omega
theorem s75 (d:Nat) (a b:Int) (ha:-9223372036854775808≤a) (ha':a < 9223372036854775808) (hb:-9223372036854775808≤b) (hb':b < 9223372036854775808) :
 pcall M (d+2) 75 [.int .i64 a,.int .i64 b]=some (.agg [.int .i64 (hiw (a * b)),.int .u64 (low (a * b))]):=told (r75 C0 (d+1) a b) (by
 obtain ⟨hi,lo,e,h0,l0,l1,i0,i1⟩:=s77 d (IntKind.u64.wrap a) (IntKind.u64.wrap b) (by rw [u64w]; omega) (by rw [u64w]; omega) (by rw [u64w]; omega) (by rw [u64w]; omega)
 have bd:=mul_bd63 a b ha ha' hb hb'
 rw [e,C0_tup2]
 simp only [at0,at1,C0_int,u64w]
 rw [u64w,u64w] at h0
 unfold hiw low
 have fin:∀ h:Int,(h * 18446744073709551616+lo - a * b) % 340282366920938463463374607431768211456=0→(some (.agg [.int .i64 (IntKind.i64.wrap h),.int .u64 lo]):Ans)=some (.agg [.int .i64 (IntKind.i64.wrap (a * b / 18446744073709551616)),.int .u64 (a * b % 18446744073709551616)]):=by
  intro h hh
  generalize a * b=p at *
  have e2:lo=p % 18446744073709551616:=by omega
  have e1:IntKind.i64.wrap h=IntKind.i64.wrap (p / 18446744073709551616):=by rw [i64w,i64w]; omega
  rw [e1,e2]
 by_cases ca:a < 0
 ·rw [decide_eq_true ca,cnd_t]
  have ua:a % 18446744073709551616=a+18446744073709551616:=by omega
  by_cases cb:b < 0
  ·rw [decide_eq_true cb,cnd_t]
   have ub:b % 18446744073709551616=b+18446744073709551616:=by omega
   have hp:(a+18446744073709551616) * (b+18446744073709551616)=a * b+18446744073709551616 * (a+b)+340282366920938463463374607431768211456:=by grind
   rw [ua,ub,hp] at h0
   rw [ua,ub]
   refine fin _ ?_
   generalize a * b=p at *
   omega
  ·rw [decide_eq_false cb,cnd_f]
   have ub:b % 18446744073709551616=b:=by omega
   have hp:(a+18446744073709551616) * b=a * b+18446744073709551616 * b:=by grind
   rw [ua,ub,hp] at h0
   rw [ub]
   refine fin _ ?_
   generalize a * b=p at *
   omega
 ·rw [decide_eq_false ca,cnd_f]
  have ua:a % 18446744073709551616=a:=by omega
  by_cases cb:b < 0
  ·rw [decide_eq_true cb,cnd_t]
   have ub:b % 18446744073709551616=b+18446744073709551616:=by omega
   have hp:a * (b+18446744073709551616)=a * b+18446744073709551616 * a:=by grind
   rw [ua,ub,hp] at h0
   rw [ua]
   refine fin _ ?_
   generalize a * b=p at *
   omega
  ·rw [decide_eq_false cb,cnd_f]
   have ub:b % 18446744073709551616=b:=by omega
   rw [ua,ub] at h0
   refine fin _ ?_
   generalize a * b=p at *
   omega)
theorem fi_ge (ps:List Pt):∀ i:Int,0≤i→(fi ps i ≥ 0 ↔ ¬ ∀ p ∈ ps,OkP p):=by
 induction ps with
 | nil=>intro i hi; simp [fi]
 | cons p l ih =>
   intro i hi
   simp only [fi]
   by_cases h:OkP p
   ·simp only [h,if_true]; rw [ih (i+1) (by omega)]; simp [h]
   ·simp only [h,if_false]
    exact ⟨fun _ hh=>h (hh p (by simp)),fun _=>hi⟩
theorem s69 (d:Nat) (ps:List Pt) (hl:ps.length < 140737488355329):pcall M (d+6) 69 [.lst (ps.map pt)]=some (.bool (decide (∀ p ∈ ps,OkP p))):=told (r69 C0 (d+5) _) (by
 have h30:pcall M (d+5) 53 [.lst (ps.map pt),.fn 74 [] []]=some (.bool (decide (fi ps 0 ≥ 0))):=told (r53f74 C0 (d+4) _ .nilp) (by rw [s59 d ps hl,C0_int])
 rw [h30,C0_bool]
 congr 2
 have:=fi_ge ps 0 (by decide)
 by_cases h:∀ p ∈ ps,OkP p
 ·have:¬ fi ps 0 ≥ 0:=fun hh=>(this.mp hh) h
  rw [decide_eq_true h,decide_eq_false this]; rfl
 ·rw [decide_eq_false h,decide_eq_true (this.mpr h)]; rfl)
def ok3 (a b c:Pt):Prop:=OkP a∧OkP b∧OkP c
instance (a b c:Pt):Decidable (ok3 a b c):=by unfold ok3; infer_instance
def tn3 (a b c:Pt):Int:=if ok3 a b c then sg (TN a b c) else 0
def onB (p a b:Pt):Bool:=decide (ok3 p a b∧On p a b)
def ok4 (a b c d:Pt):Prop:=OkP a∧OkP b∧OkP c∧OkP d
instance (a b c d:Pt):Decidable (ok4 a b c d):=by unfold ok4; infer_instance
def meetB (a b c d:Pt):Bool:=decide (ok4 a b c d∧Meet a b c d)
theorem cmp_sg (p q:Int):cmp p q=sg (p - q):=by unfold cmp sg; split <;> split <;> (try split) <;> (try split) <;> omega
theorem s70 (d:Nat) (a b c:Pt):pcall M (d+7) 70 [pt a,pt b,pt c]=some (.int .i64 (tn3 a b c)):=told (r70 C0 (d+6) _ _ _ _ _ _) (by
 have h22:=s69 d [a,b,c] (by simp)
 simp only [List.map_cons,List.map_nil,pt] at h22
 rw [h22,C0_bool]
 unfold tn3
 by_cases h:ok3 a b c
 ·rw [if_pos h,decide_eq_true (by simpa [ok3] using h)]
  obtain ⟨⟨⟨ha,ha'⟩,hb,hb'⟩,⟨⟨hc,hc'⟩,hd,hd'⟩,⟨he,he'⟩,hf,hf'⟩:=h
  rw [i64_small (n:=b.1 - a.1) (by omega) (by omega),i64_small (n:=c.2 - a.2) (by omega) (by omega),i64_small (n:=b.2 - a.2) (by omega) (by omega),i64_small (n:=c.1 - a.1) (by omega) (by omega)]
  rw [s75 (d+4) _ _ (by omega) (by omega) (by omega) (by omega),s75 (d+4) _ _ (by omega) (by omega) (by omega) (by omega)]
  have p1:=prod_bd41 (x:=b.1 - a.1) (y:=c.2 - a.2) (by omega) (by omega) (by omega) (by omega)
  have p2:=prod_bd41 (x:=b.2 - a.2) (y:=c.1 - a.1) (by omega) (by omega) (by omega) (by omega)
  simp only [Bool.not_true,cnd_f,C0_agg2,at0,at1,C0_int]
  rw [s76 (d+3) _ _ (by omega) (by omega) (by omega) (by omega),C0_int,cmp_sg]
  rfl
 ·rw [if_neg h,decide_eq_false (by simpa [ok3] using h)]
  rfl)
def btw (x y z:Int):Bool:=decide ((y≤x∧x≤z) ∨ (z≤x∧x≤y))
theorem btw_t {x y z:Int}:btw x y z=true ↔ (y≤x∧x≤z) ∨ (z≤x∧x≤y):=decide_eq_true_iff
def okB (l:List Pt):Bool:=decide (∀ p ∈ l,OkP p)
theorem okB_t {l:List Pt}:okB l=true ↔ ∀ p ∈ l,OkP p:=decide_eq_true_iff
def zeroB (x:Int):Bool:=x == 0
theorem zeroB_t {x:Int}:zeroB x=true ↔ x=0:=beq_iff_eq
def negB (x:Int):Bool:=decide (x < 0)
theorem negB_t {x:Int}:negB x=true ↔ x < 0:=decide_eq_true_iff
theorem onB_t {p a b:Pt}:onB p a b=true ↔ ok3 p a b∧On p a b:=decide_eq_true_iff
theorem meetB_t {a b c d:Pt}:meetB a b c d=true ↔ ok4 a b c d∧Meet a b c d:=decide_eq_true_iff
theorem s71 (d:Nat) (x y z:Int):pcall M (d+1) 71 [.int .i64 x,.int .i64 y,.int .i64 z]=some (.bool (btw x y z)):=told (r71 C0 d x y z) (by
 have e1:(if z < y then z else y)=min z y:=by omega
 have e2:(if z > y then z else y)=max z y:=by omega
 rw [e1,e2]
 unfold btw
 by_cases h:min z y≤x
 ·rw [decide_eq_true h,cnd_t]; congr 2; rw [decide_eq_decide]; omega
 ·rw [decide_eq_false h,cnd_f]; exact congrArg (fun b=>some (AV.bool b)) (decide_eq_false (by omega)).symm)
theorem s64 (d:Nat) (p a b:Pt):pcall M (d+8) 64 [pt p,pt a,pt b]=some (.bool (onB p a b)):=told (r64 C0 (d+7) _ _ _ _ _ _) (by
 have h22:=s69 (d+1) [p,a,b] (by simp)
 simp only [List.map_cons,List.map_nil,pt] at h22
 have h12:=s70 d a b p
 simp only [pt] at h12
 rw [h22,C0_bool,h12,C0_int,s71 (d+6),s71 (d+6),C0_bool,C0_bool]
 change cnd (okB [p,a,b]) (cnd (zeroB (tn3 a b p)) (cnd (btw p.1 a.1 b.1) (some (.bool (btw p.2 a.2 b.2))) (some (.bool false))) (some (.bool false))) (some (.bool false))=_
 have hok:okB [p,a,b]=true ↔ ok3 p a b:=by rw [okB_t]; simp [ok3]
 have key:onB p a b=(okB [p,a,b] && (zeroB (tn3 a b p) && (btw p.1 a.1 b.1 && btw p.2 a.2 b.2))):=by
  rw [Bool.eq_iff_iff]
  simp only [Bool.and_eq_true,onB_t,hok,zeroB_t,btw_t]
  constructor
  ·rintro ⟨h,hT,hB⟩
   exact ⟨h,by rw [tn3,if_pos ⟨h.2.1,h.2.2,h.1⟩,sg_zero]; exact hT,hB⟩
  ·rintro ⟨h,hT,hB⟩
   rw [tn3,if_pos ⟨h.2.1,h.2.2,h.1⟩,sg_zero] at hT
   exact ⟨h,hT,hB⟩
 rw [key]
 cases okB [p,a,b] <;> cases zeroB (tn3 a b p) <;> cases btw p.1 a.1 b.1 <;> rfl)
theorem tn3_sg {a b c:Pt} (h:ok3 a b c):tn3 a b c=sg (TN a b c):=if_pos h
theorem sg_small (u v:Int):IntKind.i64.wrap (sg u * sg v)=sg u * sg v:=by
 rcases sg_cases u with ⟨_,h⟩ | ⟨_,h⟩ | ⟨_,h⟩ <;> rcases sg_cases v with ⟨_,h'⟩ | ⟨_,h'⟩ | ⟨_,h'⟩ <;> rw [h,h',i64w] <;> decide
theorem s65 (d:Nat) (a b c e:Pt):pcall M (d+9) 65 [pt a,pt b,pt c,pt e]=some (.bool (meetB a b c e)):=told (r65 C0 (d+8) _ _ _ _ _ _ _ _) (by
 have h22:=s69 (d+2) [a,b,c,e] (by simp)
 simp only [List.map_cons,List.map_nil,pt] at h22
 have o:=fun p q r=>s64 d p q r
 have t:=fun p q r=>s70 (d+1) p q r
 simp only [pt] at o t
 rw [h22,C0_bool,o a c e,o b c e,o c a b,o e a b,t a b c,t a b e,t c e a,t c e b]
 simp only [C0_bool,C0_int]
 change cnd (!okB [a,b,c,e]) (some (.bool false)) (cnd (onB a c e) (some (.bool true)) (cnd (onB b c e) (some (.bool true)) (cnd (onB c a b) (some (.bool true)) (cnd (onB e a b) (some (.bool true))
  (cnd (negB (IntKind.wrap .i64 (tn3 a b c * tn3 a b e))) (some (.bool (negB (IntKind.wrap .i64 (tn3 c e a * tn3 c e b))))) (some (.bool false)))))))=_
 have hok:okB [a,b,c,e]=true ↔ ok4 a b c e:=by rw [okB_t]; simp [ok4]
 have key:meetB a b c e=(okB [a,b,c,e] && (onB a c e || (onB b c e || (onB c a b || (onB e a b || (negB (IntKind.wrap .i64 (tn3 a b c * tn3 a b e)) && negB (IntKind.wrap .i64 (tn3 c e a * tn3 c e b)))))))):=by
  rw [Bool.eq_iff_iff]
  simp only [Bool.and_eq_true,Bool.or_eq_true,onB_t,hok,negB_t,meetB_t]
  refine and_congr_right fun h=>?_
  obtain ⟨ha,hb,hc,he⟩:=h
  rw [tn3_sg ⟨ha,hb,hc⟩,tn3_sg ⟨ha,hb,he⟩,tn3_sg ⟨hc,he,ha⟩,tn3_sg ⟨hc,he,hb⟩,sg_small,sg_small]
  simp only [ok3,ha,hb,hc,he,true_and,and_true]
  exact Iff.rfl
 rw [key]
 cases okB [a,b,c,e] <;> cases onB a c e <;> cases onB b c e <;> cases onB c a b <;> cases onB e a b <;> cases negB (IntKind.wrap .i64 (tn3 a b c * tn3 a b e)) <;> rfl)
theorem s48 (d:Nat) (p:Pt):pcall M (d+1) 48 [pt p]=some (.bool (decide (OkP p))):=told (r48 C0 d _ _) (by
 unfold OkP Okc
 by_cases h1:p.1 ≥ -1099511627776 <;> by_cases h2:p.1≤1099511627776 <;> by_cases h3:p.2 ≥ -1099511627776 <;> by_cases h4:p.2≤1099511627776 <;> simp [h1,h2,h3,h4,cnd_t,cnd_f])
end Go.Proofs.Ytbmedgpiphibaaa.AE

namespace Go.Proofs.Ytbmedgpiphibaaa.AE
set_option linter.unusedVariables false
set_option linter.unusedSimpArgs false
open Go
def bin:List Int→Int
 | []=>0
 | x::l=>x+2 * bin l
def bitl (n:Int):Nat→List Int
 | 0=>[]
 | k+1=>n % 2::bitl (n / 2) k
theorem bin_app (l m:List Int):bin (l ++ m)=bin l+2 ^ l.length * bin m:=by
 induction l with
 | nil=>simp [bin]
 | cons x l ih=>simp only [List.cons_append,bin,ih,List.length_cons,Int.pow_succ]; grind
theorem bitl_len (n:Int) (k:Nat):(bitl n k).length=k:=by
 induction k generalizing n with
 | zero=>rfl
 | succ k ih=>simp [bitl,ih]
theorem bitl_snoc (n:Int) (k:Nat):bitl n (k+1)=bitl n k ++ [n / 2 ^ k % 2]:=by
 induction k generalizing n with
 | zero=>simp [bitl]
 | succ k ih =>
   rw [bitl,ih (n / 2),bitl]
   simp only [List.cons_append]
   rw [Int.ediv_ediv_of_nonneg (by decide),Int.pow_succ,Int.mul_comm (2 ^ k) 2]
theorem bin_bitl (n:Int) (k:Nat):bin (bitl n k)=n % 2 ^ k:=by
 induction k generalizing n with
 | zero=>simp [bitl,bin]
 | succ k ih =>
   simp only [bitl,bin,ih]
   have hp:(0:Int) < 2 ^ k:=Int.pow_pos (by decide)
   have e1:=Int.mul_ediv_add_emod (n / 2) (2 ^ k)
   have e2:=Int.emod_nonneg (n / 2) (show (2:Int) ^ k ≠ 0 by omega)
   have e3:=Int.emod_lt_of_pos (n / 2) hp
   rw [Int.pow_succ]
   symm
   have e0:n=n % 2+2 * (n / 2 % 2 ^ k)+(2 ^ k * 2) * (n / 2 / 2 ^ k):=by
    rw [Int.mul_assoc (2 ^ k) 2,Int.mul_left_comm (2 ^ k) 2]; omega
   rw [e0]
   rw [Int.add_mul_emod_self_left]
   have h2:(n % 2+2 * (n / 2 % 2 ^ k)+2 ^ k * 2 * (n / 2 / 2 ^ k))=n:=e0.symm
   rw [h2]
   exact Int.emod_eq_of_lt (by omega) (by omega)
def Bits (l:List Int):Prop:=∀ x ∈ l,x=0 ∨ x=1
theorem bin_nonneg {l:List Int} (h:Bits l):0≤bin l∧bin l < 2 ^ l.length:=by
 induction l with
 | nil=>simp [bin]
 | cons x l ih =>
   have:=ih fun y hy=>h y (List.mem_cons_of_mem _ hy)
   have hx:=h x (List.mem_cons_self ..)
   simp only [bin,List.length_cons,Int.pow_succ]
   omega
theorem bitl_bits (n:Int) (k:Nat):Bits (bitl n k):=by
 induction k generalizing n with
 | zero=>intro x hx; cases hx
 | succ k ih =>
   intro x hx
   rcases List.mem_cons.mp hx with rfl | hx
   ·omega
   ·exact ih _ x hx
theorem bits_app {l m:List Int}:Bits (l ++ m) ↔ Bits l∧Bits m:=by
 unfold Bits; simp only [List.mem_append]
 exact ⟨fun h=>⟨fun x hx=>h x (.inl hx),fun x hx=>h x (.inr hx)⟩,fun h x hx=>hx.elim (h.1 x) (h.2 x)⟩
theorem u64_or_pow {x:Int} {i:Nat} (hi:i < 64) (h:0≤x) (h':x < 2 ^ i):Go.bits .or .u64 x (2 ^ i)=x+2 ^ i:=by
 obtain ⟨n,rfl⟩:=Int.eq_ofNat_of_zero_le h
 have hn:n < 2 ^ i:=by exact_mod_cast h'
 have hp:(2:Nat) ^ i < 2 ^ 64:=Nat.pow_lt_pow_right (by decide) hi
 have hp2:(2:Nat) ^ i+2 ^ i≤2 ^ 64:=by
  have:=Nat.pow_le_pow_right (n:=2) (by decide) (show i+1≤64 by omega)
  rw [Nat.pow_succ] at this; omega
 show IntKind.u64.wrap ((BitVec.ofInt 64 (n:Int) ||| BitVec.ofInt 64 ((2:Int) ^ i)).toNat:Int)=_
 rw [show ((2:Int) ^ i)=((2 ^ i:Nat):Int) by simp,BitVec.toNat_or,BitVec.ofInt_natCast,BitVec.ofInt_natCast,BitVec.toNat_ofNat,BitVec.toNat_ofNat,Nat.mod_eq_of_lt (by omega),Nat.mod_eq_of_lt hp]
 have:=Nat.two_pow_add_eq_or_of_lt (i:=i) hn 1
 rw [Nat.mul_one] at this
 rw [Nat.or_comm,← this,u64_small (by omega) (by omega)]
 simp; omega
theorem pow64 (i:Nat) (hi:i < 64):(0:Int) < 2 ^ i∧(2:Int) ^ i < 18446744073709551616:=by
 constructor
 ·exact Int.pow_pos (by decide)
 ·have:(2:Nat) ^ i < 2 ^ 64:=Nat.pow_lt_pow_right (by decide) hi
  have h2:((2 ^ i:Nat):Int) < ((2 ^ 64:Nat):Int):=by exact_mod_cast this
  simpa using h2
end Go.Proofs.Ytbmedgpiphibaaa.AE

namespace Go.Proofs.Ytbmedgpiphibaaa.AE
set_option linter.unusedVariables false
set_option linter.unusedSimpArgs false
set_option linter.constructorNameAsVariable false
open Go
abbrev wd (n:Int):AV:=.agg [.int .i64 (hiw n),.int .u64 (low n)]
theorem low_rng (n:Int):0≤low n∧low n < 18446744073709551616:=by unfold low; omega
theorem u_hiw (n:Int):IntKind.wrap .u64 (hiw n)=n / 18446744073709551616 % 18446744073709551616:=by unfold hiw; rw [i64w,u64w]; omega
theorem shr1 {x:Int} {i:Nat} (hi:i < 64) (h:0≤x) (h':x < 18446744073709551616):IntKind.wrap .i64 (bits .and .u64 (Int.fdiv x (2 ^ (min (Int.toNat (i:Int)) 64))) 1)=x / 2 ^ i % 2:=by
 rw [show min (Int.toNat (i:Int)) 64=i by omega,Int.fdiv_eq_ediv_of_nonneg _ (Int.le_of_lt (pow64 i hi).1)]
 have hp:=pow64 i hi
 have h1:0≤x / 2 ^ i:=Int.ediv_nonneg h (by omega)
 have h2:x / 2 ^ i < 18446744073709551616:=Int.lt_of_le_of_lt (Int.ediv_le_self _ h) h'
 have:=u64_mask 1 (by decide) h1 h2
 rw [show ((2:Int) ^ 1 - 1)=1 by decide,show ((2:Int) ^ 1)=2 by decide] at this
 rw [this,i64w]; omega
theorem wrap_succ (i:Nat) (h:i < 9223372036854775807):IntKind.wrap .i64 ((i:Int)+1)=((i+1:Nat):Int):=by rw [i64w]; omega
theorem bits1 (d:Nat) (n:Int):∀ (k i f:Nat) (H:Heap) (v:AV) (l:List Int),i+k=64→k < f→l.length=64+i→hget H 0=some ⟨E81,[wd n]⟩→Own H E3 v (iv l)→¬ names v 0 →
 L72_1 d (.ptr 0 0 0) f v (i:Nat) H=some (.lst (iv (l ++ ((List.range k).map fun j=>n / 18446744073709551616 % 18446744073709551616 / 2 ^ (i+j) % 2)))):=by
 intro k
 induction k with
 | zero =>
   intro i f H v l hi hf hl h0 ho hn
   obtain ⟨f,rfl⟩:∃ g,f=g+1:=⟨f - 1,by omega⟩
   rw [L72_1,decide_eq_false (by omega),cnd_f,X72_1_0,C0_fin,snap_iv ho]; simp
 | succ k ih =>
   intro i f H v l hi hf hl h0 ho hn
   obtain ⟨f,rfl⟩:∃ g,f=g+1:=⟨f - 1,by omega⟩
   rw [L72_1,decide_eq_true (by omega),cnd_t,sh_ptr,ld_ptr h0 (by rfl) (by rfl),C0_int,decide_eq_false (by omega),cnd_f,u_hiw,shr1 (by omega) (by omega) (by omega)]
   obtain ⟨v',H',e,ho',hn',_,hk⟩:=app_one (x:=.int .i64 (n / 18446744073709551616 % 18446744073709551616 / 2 ^ i % 2)) ho (by rfl) (by rw [iv_len,hl]; change (64+i+1) * 8≤_; omega) (by rw [iv_len]; omega)
   rw [e,wrap_succ i (by omega),ih (i+1) f H' v' (l ++ [n / 18446744073709551616 % 18446744073709551616 / 2 ^ i % 2]) (by omega) (by omega) (by simp; omega) (hk 0 _ hn h0) (by rw [iv_app]; exact ho') (fun hc=>by have:=hn' 0 hc; omega)]
   rw [List.append_assoc,List.range_succ_eq_map]
   simp [Nat.add_assoc,Nat.add_comm 1,List.map_map,Function.comp_def]
theorem bitl_range (m:Int) (k:Nat):bitl m k=(List.range k).map fun j=>m / 2 ^ j % 2:=by
 induction k with
 | zero=>rfl
 | succ k ih=>rw [bitl_snoc,ih,List.range_succ,List.map_append]; rfl
def wbits (n:Int):List Int:=bitl (low n) 64 ++ bitl (n / 18446744073709551616 % 18446744073709551616) 64
theorem wbits_len (n:Int):(wbits n).length=128:=by simp [wbits,bitl_len]
theorem wbits_bits (n:Int):Bits (wbits n):=bits_app.mpr ⟨bitl_bits _ _,bitl_bits _ _⟩
theorem bin_wbits (n:Int):bin (wbits n)=n % 340282366920938463463374607431768211456:=by
 unfold wbits; rw [bin_app,bin_bitl,bin_bitl,bitl_len]
 have e:(2:Int) ^ 64=18446744073709551616:=by decide
 rw [e]; unfold low; omega
theorem bits0 (d:Nat) (n:Int):∀ (k i f:Nat) (H:Heap) (v:AV),i+k=64→k < f→hget H 0=some ⟨E81,[wd n]⟩→Own H E3 v (iv (bitl (low n) i))→¬ names v 0 →
 L72_0 d (.ptr 0 0 0) f v (i:Nat) H=some (.lst (iv (wbits n))):=by
 intro k
 induction k with
 | zero =>
   intro i f H v hi hf h0 ho hn
   obtain ⟨f,rfl⟩:∃ g,f=g+1:=⟨f - 1,by omega⟩
   obtain rfl:i=64:=by omega
   rw [L72_0,decide_eq_false (by omega),cnd_f,X72_0_0]
   have:=bits1 d n 64 0 10000000000000000000 H v _ (by omega) (by omega) (by simp [bitl_len]) h0 ho hn
   simp only [Nat.zero_add,← bitl_range] at this
   exact this
 | succ k ih =>
   intro i f H v hi hf h0 ho hn
   obtain ⟨f,rfl⟩:∃ g,f=g+1:=⟨f - 1,by omega⟩
   have l0:=low_rng n
   rw [L72_0,decide_eq_true (by omega),cnd_t,sh_ptr,ld_ptr h0 (by rfl) (by rfl),C0_int,decide_eq_false (by omega),cnd_f,shr1 (by omega) l0.1 l0.2]
   obtain ⟨v',H',e,ho',hn',_,hk⟩:=app_one (x:=.int .i64 (low n / 2 ^ i % 2)) ho (by rfl) (by rw [iv_len,bitl_len]; change (i+1) * 8≤_; omega) (by rw [iv_len,bitl_len]; omega)
   rw [e,wrap_succ i (by omega),ih (i+1) f H' v' (by omega) (by omega) (hk 0 _ hn h0) (by rw [bitl_snoc,iv_app]; exact ho') (fun hc=>by have:=hn' 0 hc; omega)]
theorem s72 (d:Nat) (n:Int):pcall M (d+1) 72 [wd n]=some (.lst (iv (wbits n))):=told (q72 d _ _) (by
 refine Eq.trans (hop_eq (by rfl)) ?_
 exact bits0 d n 64 0 10000000000000000000 _ _ (by omega) (by omega) rfl (.inl ⟨rfl,_,rfl⟩) (by rintro ⟨o,m,h⟩; cases h))
theorem bin_take {l:List Int} {i:Nat} (h:i < l.length):bin (l.take (i+1))=bin (l.take i)+2 ^ i * l[i]:=by
 rw [List.take_succ_eq_append_getElem h,bin_app]
 simp [bin,List.length_take,Nat.min_eq_left (Nat.le_of_lt h)]
theorem wd_congr {a b:Int} (h:a % 340282366920938463463374607431768211456=b % 340282366920938463463374607431768211456):wd a=wd b:=by
 have e1:hiw a=hiw b:=by unfold hiw; rw [i64w,i64w]; omega
 have e2:low a=low b:=by unfold low; omega
 rw [wd,wd,e1,e2]
theorem take_bits {l:List Int} (h:Bits l) (i:Nat):Bits (l.take i):=fun x hx=>h x (List.mem_of_mem_take hx)
theorem drop_bits {l:List Int} (h:Bits l) (i:Nat):Bits (l.drop i):=fun x hx=>h x (List.mem_of_mem_drop hx)
theorem bin_lt {l:List Int} (h:Bits l) {i:Nat} (hi:i≤l.length):0≤bin (l.take i)∧bin (l.take i) < 2 ^ i:=by
 have:=bin_nonneg (take_bits h i)
 rwa [List.length_take,Nat.min_eq_left hi] at this
theorem shl1 {i:Nat} (hi:i < 64):IntKind.wrap .u64 (1 * (2 ^ (min (Int.toNat (i:Int)) 64)))=2 ^ i:=by
 rw [show min (Int.toNat (i:Int)) 64=i by omega,Int.one_mul]
 exact u64_small (Int.le_of_lt (pow64 i hi).1) (pow64 i hi).2
theorem value1 (d:Nat) (l:List Int) (hb:Bits l) (hl:l.length=128):∀ (k i f:Nat),i+k=64→k < f →
 L73_0 d (iv l) (.ptr 0 0 0) (.ptr 1 0 0) f (bin ((l.drop 64).take i)) (i:Nat) [some ⟨E81,[wd 0]⟩,some ⟨E81,[.agg [.int .i64 0,.int .u64 (bin (l.take i))]]⟩]=some (wd (bin l)):=by
 intro k
 induction k with
 | zero =>
   intro i f hi hf
   obtain ⟨f,rfl⟩:∃ g,f=g+1:=⟨f - 1,by omega⟩
   obtain rfl:i=64:=by omega
   rw [L73_0,decide_eq_false (by omega),cnd_f,X73_0_0]
   have b1:=bin_lt hb (i:=64) (by omega)
   have e0:(l.drop 64).take 64=l.drop 64:=List.take_of_length_le (by simp; omega)
   have e1:bin l=bin (l.take 64)+2 ^ 64 * bin (l.drop 64):=by
    have:=bin_app (l.take 64) (l.drop 64)
    rw [List.take_append_drop,List.length_take,Nat.min_eq_left (by omega)] at this
    exact this
   have e2:(2:Int) ^ 64=18446744073709551616:=by decide
   rw [e2] at b1 e1
   have h1:hiw (bin l)=IntKind.wrap .i64 (bin (l.drop 64)):=by unfold hiw; rw [e1]; congr 1; omega
   have h2:low (bin l)=bin (l.take 64):=by unfold low; omega
   have hwd:wd (bin l)=.agg [.int .i64 (IntKind.wrap .i64 (bin (l.drop 64))),.int .u64 (bin (l.take 64))]:=by rw [wd,h1,h2]
   rw [hwd,e0]
   refine Eq.trans (hop_eq (by rfl)) ?_; refine Eq.trans (hop_eq (by rfl)) ?_; refine Eq.trans (hop_eq (by rfl)) ?_; refine Eq.trans (pl_agg (by rfl) (by rfl)) ?_; refine Eq.trans (pl_int (by rfl)) ?_; refine Eq.trans (pl_int (by rfl)) ?_; refine Eq.trans (hop_eq (by rfl)) ?_; refine Eq.trans (hop_eq (by rfl)) ?_
   rfl
 | succ k ih =>
   intro i f hi hf
   obtain ⟨f,rfl⟩:∃ g,f=g+1:=⟨f - 1,by omega⟩
   have i1:i < l.length:=by omega
   have i2:i < (l.drop 64).length:=by simp; omega
   have g1:(iv l)[((i:Nat):Int).toNat]?=some (.int .i64 l[i]):=by rw [iv_at]; simp [i1]
   have g2:(iv l)[(IntKind.wrap .i64 (64+(i:Int))).toNat]?=some (.int .i64 (l.drop 64)[i]):=by
    have:(IntKind.wrap .i64 (64+(i:Int))).toNat=64+i:=by rw [i64w]; omega
    rw [this,iv_at]; simp [List.getElem?_eq_getElem (show 64+i < l.length by omega)]
   have w0:0≤IntKind.wrap .i64 (64+(i:Int)):=by rw [i64w]; omega
   have b1:=bin_lt hb (i:=i) (by omega)
   have b2:=bin_lt (drop_bits hb 64) (i:=i) (by simp; omega)
   have IH:=ih (i+1) f (by omega) (by omega)
   rw [bin_take i1,bin_take i2] at IH
   rw [L73_0,decide_eq_true (by omega),cnd_t]
   refine Eq.trans (ix_lst (by omega) g1 (by rfl)) ?_
   refine Eq.trans (hop_eq (by rfl)) ?_; refine Eq.trans (pl_int (by rfl)) ?_
   have c0:∀ i:Nat,decide ((i:Int) < 0)=false:=fun i=>decide_eq_false (by omega)
   rcases hb l[i] (List.getElem_mem _) with x0 | x0 <;> rcases drop_bits hb 64 (l.drop 64)[i] (List.getElem_mem _) with y0 | y0
   all_goals rw [x0] ; rw [y0] at g2
   ·rw [x0,y0] at IH
    refine Eq.trans (pl_f (by rfl)) ?_
    refine Eq.trans (ix_lst w0 g2 (by rfl)) ?_
    refine Eq.trans (hop_eq (by rfl)) ?_; refine Eq.trans (pl_int (by rfl)) ?_
    refine Eq.trans (pl_f (by rfl)) ?_
    rw [wrap_succ i (by omega)]
    simpa using IH
   ·rw [x0,y0] at IH
    refine Eq.trans (pl_f (by rfl)) ?_
    refine Eq.trans (ix_lst w0 g2 (by rfl)) ?_
    refine Eq.trans (hop_eq (by rfl)) ?_; refine Eq.trans (pl_int (by rfl)) ?_; refine Eq.trans (pl_len (by rfl)) ?_
    rw [c0,cnd_f,wrap_succ i (by omega),shl1 (by omega),u64_or_pow (by omega) b2.1 b2.2]
    simpa using IH
   ·rw [x0,y0] at IH
    refine Eq.trans (pl_len (by rfl)) ?_; refine Eq.trans (hop_eq (by rfl)) ?_; refine Eq.trans (hop_eq (by rfl)) ?_; refine Eq.trans (pl_int (by rfl)) ?_
    rw [c0,cnd_f,shl1 (by omega),u64_or_pow (by omega) b1.1 b1.2]
    refine Eq.trans (hop_eq (by rfl)) ?_; refine Eq.trans (hop_eq (by rfl)) ?_
    refine Eq.trans (ix_lst w0 g2 (by rfl)) ?_
    refine Eq.trans (hop_eq (by rfl)) ?_; refine Eq.trans (pl_int (by rfl)) ?_
    refine Eq.trans (pl_f (by rfl)) ?_
    rw [wrap_succ i (by omega)]
    simp only [Int.mul_one,Int.mul_zero,Int.add_zero] at IH
    exact IH
   ·rw [x0,y0] at IH
    refine Eq.trans (pl_len (by rfl)) ?_; refine Eq.trans (hop_eq (by rfl)) ?_; refine Eq.trans (hop_eq (by rfl)) ?_; refine Eq.trans (pl_int (by rfl)) ?_
    rw [c0,cnd_f,shl1 (by omega),u64_or_pow (by omega) b1.1 b1.2]
    refine Eq.trans (hop_eq (by rfl)) ?_; refine Eq.trans (hop_eq (by rfl)) ?_
    refine Eq.trans (ix_lst w0 g2 (by rfl)) ?_
    refine Eq.trans (hop_eq (by rfl)) ?_; refine Eq.trans (pl_int (by rfl)) ?_; refine Eq.trans (pl_len (by rfl)) ?_
    rw [cnd_f,wrap_succ i (by omega),u64_or_pow (by omega) b2.1 b2.2]
    simp only [Int.mul_one] at IH
    exact IH
theorem s73 (d:Nat) (l:List Int) (hb:Bits l) (hl:l.length=128):pcall M (d+1) 73 [.lst (iv l)]=some (wd (bin l)):=told (q73 d _) (by
 refine Eq.trans (hop_eq (by rfl)) ?_; refine Eq.trans (hop_eq (by rfl)) ?_; refine Eq.trans (hop_eq (by rfl)) ?_
 have:=value1 d l hb hl 64 0 10000000000000000000 (by omega) (by omega)
 simp only [List.take_zero,bin] at this
 exact this)
theorem plus1 (d:Nat) (x y:List Int) (hx:Bits x) (hy:Bits y) (lx:x.length=128) (ly:y.length=128):∀ (k i f:Nat) (H:Heap) (v:AV) (out:List Int) (c:Int),i+k=128→k < f→out.length=i→Bits out→(c=0 ∨ c=1) →
 bin out+2 ^ i * c=bin (x.take i)+bin (y.take i)→hget H 2=some ⟨E81,[wd 0]⟩→Own H E3 v (iv out)→¬ names v 2→2 < H.length →
 L67_0 (d+1) (.ptr 2 0 0) (.lst (iv x)) (.lst (iv y)) f v c (i:Nat) H=some (wd (bin x+bin y)):=by
 intro k
 induction k with
 | zero =>
   intro i f H v out c hi hf lo ob hc hs h2 ho hn hl
   obtain ⟨f,rfl⟩:∃ g,f=g+1:=⟨f - 1,by omega⟩
   obtain rfl:i=128:=by omega
   rw [L67_0,decide_eq_false (by omega),cnd_f,X67_0_0,snp_own ho (by intro h; rw [h] at lo; simp at lo),s73 d out ob lo]
   refine Eq.trans (pl_agg (by rfl) (by rfl)) ?_; refine Eq.trans (pl_int (by rfl)) ?_; refine Eq.trans (pl_int (by rfl)) ?_; refine Eq.trans (pl_len (by rfl)) ?_
   rw [st_ptr h2 (by rfl) (by rfl)]
   refine Eq.trans (ld_ptr (hget_set hl) (by rfl) (by rfl)) ?_
   rw [List.take_of_length_le (by omega),List.take_of_length_le (by omega)] at hs
   have e2:(2:Int) ^ 128=340282366920938463463374607431768211456:=by decide
   rw [e2] at hs
   rw [wd_congr (a:=bin x+bin y) (b:=bin out) (by rw [← hs]; omega)]
   rfl
 | succ k ih =>
   intro i f H v out c hi hf lo ob hc hs h2 ho hn hl
   obtain ⟨f,rfl⟩:∃ g,f=g+1:=⟨f - 1,by omega⟩
   have i1:i < x.length:=by omega
   have i2:i < y.length:=by omega
   have g1:(iv x)[((i:Nat):Int).toNat]?=some (.int .i64 x[i]):=by rw [iv_at]; simp [i1]
   have g2:(iv y)[((i:Nat):Int).toNat]?=some (.int .i64 y[i]):=by rw [iv_at]; simp [i2]
   have bx:=hx x[i] (List.getElem_mem _)
   have by':=hy y[i] (List.getElem_mem _)
   rw [L67_0,decide_eq_true (by omega),cnd_t]
   refine Eq.trans (ix_lst (by omega) g1 (by rfl)) ?_
   refine Eq.trans (hop_eq (by rfl)) ?_; refine Eq.trans (pl_int (by rfl)) ?_
   refine Eq.trans (ix_lst (by omega) g2 (by rfl)) ?_
   refine Eq.trans (hop_eq (by rfl)) ?_; refine Eq.trans (pl_int (by rfl)) ?_
   obtain ⟨t,ht⟩:∃ t,t=x[i]+y[i]+c:=⟨_,rfl⟩
   have ew:IntKind.wrap .i64 ((IntKind.wrap .i64 (x[i]+y[i]))+c)=t:=by rw [i64w,i64w]; omega
   have e1:Int.tmod t 2=t % 2:=Int.tmod_eq_emod_of_nonneg (by omega)
   have e2:Int.tdiv t 2=t / 2:=Int.tdiv_eq_ediv_of_nonneg (by omega)
   have e3:IntKind.wrap .i64 (t / 2)=t / 2:=i64_small (by omega) (by omega)
   rw [ew,e1,e2,e3]
   obtain ⟨v',H',e,ho',hn',hl',hk⟩:=app_one (x:=.int .i64 (t % 2)) ho (by rfl) (by rw [iv_len,lo]; change (i+1) * 8≤_; omega) (by rw [iv_len,lo]; omega)
   rw [e,wrap_succ i (by omega)]
   refine ih (i+1) f H' v' (out ++ [t % 2]) (t / 2) (by omega) (by omega) (by simp [lo]) (bits_app.mpr ⟨ob,by intro z hz; simp at hz; omega⟩) (by omega) ?_ (hk 2 _ hn h2) (by rw [iv_app]; exact ho') (fun hc=>by have:=hn' 2 hc; omega) (by omega)
   rw [bin_app,lo,bin_take i1,bin_take i2,Int.pow_succ]
   simp only [bin]
   have e4:t=t % 2+2 * (t / 2):=by omega
   have:bin out+2 ^ i * (t % 2+2 * 0)+2 ^ i * 2 * (t / 2)=bin out+2 ^ i * (t % 2+2 * (t / 2)):=by grind
   rw [this,← e4,ht]
   grind
theorem s67 (d:Nat) (a b:Int):pcall M (d+2) 67 [wd a,wd b]=some (wd (a+b)):=told (q67 (d+1) _ _ _ _) (by
 refine Eq.trans (hop_eq (by rfl)) ?_; refine Eq.trans (hop_eq (by rfl)) ?_; refine Eq.trans (hop_eq (by rfl)) ?_; refine Eq.trans (hop_eq (by rfl)) ?_; refine Eq.trans (pl_agg (by rfl) (by rfl)) ?_; refine Eq.trans (pl_int (by rfl)) ?_; refine Eq.trans (pl_int (by rfl)) ?_
 refine Eq.trans (pl_any (s72 d a)) ?_
 refine Eq.trans (hop_eq (by rfl)) ?_; refine Eq.trans (pl_agg (by rfl) (by rfl)) ?_; refine Eq.trans (pl_int (by rfl)) ?_; refine Eq.trans (pl_int (by rfl)) ?_
 refine Eq.trans (pl_any (s72 d b)) ?_
 have:=plus1 d (wbits a) (wbits b) (wbits_bits a) (wbits_bits b) (wbits_len a) (wbits_len b) 128 0 10000000000000000000
  [some ⟨E81,[wd a]⟩,some ⟨E81,[wd b]⟩,some ⟨E81,[wd 0]⟩] (.zsl true) [] 0 (by omega) (by omega) rfl (by intro z hz; cases hz) (.inl rfl) (by simp [bin]) rfl (.inl ⟨rfl,_,rfl⟩) (by rintro ⟨o,m,h⟩; cases h) (by simp)
 refine this.trans ?_
 rw [bin_wbits,bin_wbits,wd_congr (a:=a+b) (b:=a % 340282366920938463463374607431768211456+b % 340282366920938463463374607431768211456) (by omega)])
theorem s66 (d:Nat) (x:Int) (h:-9223372036854775808≤x) (h':x < 9223372036854775808):pcall M (d+1) 66 [.int .i64 x]=some (wd x):=told (r66 C0 d x) (by
 have e2:IntKind.wrap .u64 x=low x:=by unfold low; rw [u64w]
 rw [e2]
 by_cases hx:x < 0
 ·rw [decide_eq_true hx,cnd_t,wd,show hiw x=-1 by unfold hiw; rw [i64w]; omega]
 ·rw [decide_eq_false hx,cnd_f,wd,show hiw x=0 by unfold hiw; rw [i64w]; omega])
theorem bits_not_i64 (x:Int) (h:-9223372036854775808≤x) (h':x < 9223372036854775808):Go.bits .xor .i64 (-1) x=-1 - x:=by
 show IntKind.i64.wrap ((BitVec.ofInt 64 (-1) ^^^ BitVec.ofInt 64 x).toNat:Int)=_
 rw [show BitVec.ofInt 64 (-1)=BitVec.allOnes 64 by decide,BitVec.allOnes_xor,BitVec.toNat_not,i64w,BitVec.toNat_ofInt]
 have:((2 ^ 64:Nat):Int)=18446744073709551616:=by decide
 rw [this]
 omega
theorem bits_not_u64 (x:Int) (h:0≤x) (h':x < 18446744073709551616):Go.bits .xor .u64 18446744073709551615 x=18446744073709551615 - x:=by
 show IntKind.u64.wrap ((BitVec.ofInt 64 18446744073709551615 ^^^ BitVec.ofInt 64 x).toNat:Int)=_
 rw [show BitVec.ofInt 64 18446744073709551615=BitVec.allOnes 64 by decide,BitVec.allOnes_xor,BitVec.toNat_not,u64w,BitVec.toNat_ofInt]
 have:((2 ^ 64:Nat):Int)=18446744073709551616:=by decide
 rw [this]
 omega
theorem hiw_rng (n:Int):-9223372036854775808≤hiw n∧hiw n < 9223372036854775808:=by unfold hiw; rw [i64w]; omega
theorem s68 (d:Nat) (n:Int):pcall M (d+3) 68 [wd n]=some (wd (-n)):=told (r68 C0 (d+2) _ _) (by
 have r1:=hiw_rng n
 have r2:=low_rng n
 rw [if_pos rfl,if_neg (by decide),bits_not_i64 _ r1.1 r1.2,show IntKind.max .u64=18446744073709551615 by decide,bits_not_u64 _ r2.1 r2.2]
 have e:(.agg [.int .i64 (-1 - hiw n),.int .u64 (18446744073709551615 - low n)]:AV)=wd (-1 - n):=by
  rw [wd,show -1 - hiw n=hiw (-1 - n) by unfold hiw; rw [i64w,i64w]; omega,show 18446744073709551615 - low n=low (-1 - n) by unfold low; omega]
 have e1:(.agg [.int .i64 0,.int .u64 1]:AV)=wd 1:=by rfl
 rw [e,e1,s67]
 refine Eq.trans (pl_agg (by rfl) (by rfl)) ?_; refine Eq.trans (pl_int (by rfl)) ?_; refine Eq.trans (pl_int (by rfl)) ?_
 rw [show -1 - n+1=-n by omega])
theorem mod_succ (n:Int) (i:Nat):n % 2 ^ (i+1)=n % 2 ^ i+2 ^ i * (n / 2 ^ i % 2):=by
 have:=congrArg bin (bitl_snoc n i)
 rw [bin_app,bin_bitl,bin_bitl,bitl_len] at this
 simpa [bin] using this
theorem and1 {x:Int} {i:Nat} (hi:i < 64) (h:0≤x) (h':x < 18446744073709551616):bits .and .u64 (Int.fdiv x (2 ^ (min (Int.toNat (i:Int)) 64))) 1=x / 2 ^ i % 2:=by
 rw [show min (Int.toNat (i:Int)) 64=i by omega,Int.fdiv_eq_ediv_of_nonneg _ (Int.le_of_lt (pow64 i hi).1)]
 have hp:=pow64 i hi
 have h1:0≤x / 2 ^ i:=Int.ediv_nonneg h (by omega)
 have h2:x / 2 ^ i < 18446744073709551616:=Int.lt_of_le_of_lt (Int.ediv_le_self _ h) h'
 have:=u64_mask 1 (by decide) h1 h2
 rwa [show ((2:Int) ^ 1 - 1)=1 by decide,show ((2:Int) ^ 1)=2 by decide] at this
theorem mul1 (d:Nat) (a b:Int) (hb:-9223372036854775808≤b) (hb':b < 9223372036854775808):∀ (k i f:Nat),i+k=64→k < f →
 L61_0 (d+3) b (.ptr 0 0 0) (.ptr 1 0 0) (.ptr 2 0 0) f (i:Nat) [some ⟨E81,[wd 0]⟩,some ⟨E81,[wd (a * 2 ^ i)]⟩,some ⟨E81,[wd (a * (b % 18446744073709551616 % 2 ^ i))]⟩]=some (wd (a * b)):=by
 intro k
 induction k with
 | zero =>
   intro i f hi hf
   obtain ⟨f,rfl⟩:∃ g,f=g+1:=⟨f - 1,by omega⟩
   obtain rfl:i=64:=by omega
   have e2:(2:Int) ^ 64=18446744073709551616:=by decide
   rw [L61_0,decide_eq_false (by omega),cnd_f,X61_0_0,e2]
   by_cases h:b < 0
   ·rw [decide_eq_true h,cnd_t]
    refine Eq.trans (hop_eq (by rfl)) ?_; refine Eq.trans (pl_agg (by rfl) (by rfl)) ?_; refine Eq.trans (pl_int (by rfl)) ?_; refine Eq.trans (pl_int (by rfl)) ?_; refine Eq.trans (hop_eq (by rfl)) ?_; refine Eq.trans (pl_agg (by rfl) (by rfl)) ?_; refine Eq.trans (pl_int (by rfl)) ?_; refine Eq.trans (pl_int (by rfl)) ?_
    refine Eq.trans (pl_agg (s68 d _) (by rfl)) ?_
    refine Eq.trans (pl_int (by rfl)) ?_; refine Eq.trans (pl_int (by rfl)) ?_
    refine Eq.trans (pl_agg (s67 (d+1) _ _) (by rfl)) ?_
    refine Eq.trans (pl_int (by rfl)) ?_; refine Eq.trans (pl_int (by rfl)) ?_; refine Eq.trans (hop_eq (by rfl)) ?_; refine Eq.trans (hop_eq (by rfl)) ?_; refine Eq.trans (pl_agg (by rfl) (by rfl)) ?_; refine Eq.trans (pl_int (by rfl)) ?_; refine Eq.trans (pl_int (by rfl)) ?_; refine Eq.trans (hop_eq (by rfl)) ?_; refine Eq.trans (hop_eq (by rfl)) ?_
    have e3:a * (b % 18446744073709551616 % 18446744073709551616)+-(a * 18446744073709551616)=a * b:=by
     rw [show b % 18446744073709551616 % 18446744073709551616=b+18446744073709551616 by omega]; grind
    rw [← e3]; rfl
   ·rw [decide_eq_false h,cnd_f]
    refine Eq.trans (hop_eq (by rfl)) ?_; refine Eq.trans (pl_agg (by rfl) (by rfl)) ?_; refine Eq.trans (pl_int (by rfl)) ?_; refine Eq.trans (pl_int (by rfl)) ?_; refine Eq.trans (hop_eq (by rfl)) ?_; refine Eq.trans (hop_eq (by rfl)) ?_
    have e3:a * (b % 18446744073709551616 % 18446744073709551616)=a * b:=by rw [show b % 18446744073709551616 % 18446744073709551616=b by omega]
    rw [← e3]; rfl
 | succ k ih =>
   intro i f hi hf
   obtain ⟨f,rfl⟩:∃ g,f=g+1:=⟨f - 1,by omega⟩
   have IH:=ih (i+1) f (by omega) (by omega)
   rw [mod_succ] at IH
   have px:a * 2 ^ (i+1)=a * 2 ^ i+a * 2 ^ i:=by rw [Int.pow_succ]; grind
   rw [px] at IH
   rw [L61_0,decide_eq_true (by omega),cnd_t,decide_eq_false (by omega),cnd_f,u64w,and1 (by omega) (by omega) (by omega)]
   rcases (show b % 18446744073709551616 / 2 ^ i % 2=0 ∨ b % 18446744073709551616 / 2 ^ i % 2=1 by omega) with h | h
   ·rw [h] at IH ⊢
    refine Eq.trans (pl_f (by rfl)) ?_
    refine Eq.trans (hop_eq (by rfl)) ?_; refine Eq.trans (pl_agg (by rfl) (by rfl)) ?_; refine Eq.trans (pl_int (by rfl)) ?_; refine Eq.trans (pl_int (by rfl)) ?_; refine Eq.trans (hop_eq (by rfl)) ?_; refine Eq.trans (pl_agg (by rfl) (by rfl)) ?_; refine Eq.trans (pl_int (by rfl)) ?_; refine Eq.trans (pl_int (by rfl)) ?_
    refine Eq.trans (pl_agg (s67 (d+1) _ _) (by rfl)) ?_
    refine Eq.trans (pl_int (by rfl)) ?_; refine Eq.trans (pl_int (by rfl)) ?_; refine Eq.trans (hop_eq (by rfl)) ?_
    rw [wrap_succ i (by omega)]
    rw [Int.mul_zero,Int.add_zero] at IH
    exact IH
   ·rw [h] at IH ⊢
    refine Eq.trans (pl_len (by rfl)) ?_; refine Eq.trans (hop_eq (by rfl)) ?_; refine Eq.trans (pl_agg (by rfl) (by rfl)) ?_; refine Eq.trans (pl_int (by rfl)) ?_; refine Eq.trans (pl_int (by rfl)) ?_; refine Eq.trans (hop_eq (by rfl)) ?_; refine Eq.trans (pl_agg (by rfl) (by rfl)) ?_; refine Eq.trans (pl_int (by rfl)) ?_; refine Eq.trans (pl_int (by rfl)) ?_
    refine Eq.trans (pl_agg (s67 (d+1) _ _) (by rfl)) ?_
    refine Eq.trans (pl_int (by rfl)) ?_; refine Eq.trans (pl_int (by rfl)) ?_; refine Eq.trans (hop_eq (by rfl)) ?_; refine Eq.trans (hop_eq (by rfl)) ?_; refine Eq.trans (pl_agg (by rfl) (by rfl)) ?_; refine Eq.trans (pl_int (by rfl)) ?_; refine Eq.trans (pl_int (by rfl)) ?_; refine Eq.trans (hop_eq (by rfl)) ?_; refine Eq.trans (pl_agg (by rfl) (by rfl)) ?_; refine Eq.trans (pl_int (by rfl)) ?_; refine Eq.trans (pl_int (by rfl)) ?_
    refine Eq.trans (pl_agg (s67 (d+1) _ _) (by rfl)) ?_
    refine Eq.trans (pl_int (by rfl)) ?_; refine Eq.trans (pl_int (by rfl)) ?_; refine Eq.trans (hop_eq (by rfl)) ?_
    rw [wrap_succ i (by omega)]
    rw [Int.mul_one,Int.mul_add] at IH
    exact IH
theorem s61 (d:Nat) (a b:Int) (ha:-9223372036854775808≤a) (ha':a < 9223372036854775808) (hb:-9223372036854775808≤b) (hb':b < 9223372036854775808) :
 pcall M (d+4) 61 [.int .i64 a,.int .i64 b]=some (wd (a * b)):=told (q61 (d+3) _ _) (by
 refine Eq.trans (hop_eq (by rfl)) ?_
 refine Eq.trans (pl_agg (s66 (d+2) a ha ha') (by rfl)) ?_
 refine Eq.trans (pl_int (by rfl)) ?_; refine Eq.trans (pl_int (by rfl)) ?_; refine Eq.trans (hop_eq (by rfl)) ?_; refine Eq.trans (hop_eq (by rfl)) ?_; refine Eq.trans (hop_eq (by rfl)) ?_; refine Eq.trans (hop_eq (by rfl)) ?_
 have:=mul1 d a b hb hb' 64 0 10000000000000000000 (by omega) (by omega)
 have e:b % 18446744073709551616 % 2 ^ 0=0:=by rw [show (2:Int) ^ 0=1 from rfl,Int.emod_one]
 rw [e,show a * 2 ^ 0=a by rw [show (2:Int) ^ 0=1 from rfl,Int.mul_one],Int.mul_zero] at this
 exact this)
theorem s60 (d:Nat) (a b:Int) (ha:-170141183460469231731687303715884105728≤a) (ha':a < 170141183460469231731687303715884105728) (hb:-170141183460469231731687303715884105728≤b) (hb':b < 170141183460469231731687303715884105728) :
 pcall M (d+1) 60 [wd a,wd b]=some (.int .i64 (cmp a b)):=told (r60 C0 d _ _ _ _) (by
 have e1:hiw a=a / 18446744073709551616:=by unfold hiw; rw [i64_small (by omega) (by omega)]
 have e2:hiw b=b / 18446744073709551616:=by unfold hiw; rw [i64_small (by omega) (by omega)]
 rw [e1,e2]
 unfold low cmp
 by_cases c1:a / 18446744073709551616 < b / 18446744073709551616
 ·rw [decide_eq_true c1,cnd_t,if_pos (by omega)]
 ·rw [decide_eq_false c1,cnd_f]
  by_cases c2:a / 18446744073709551616=b / 18446744073709551616
  ·rw [show (a / 18446744073709551616 == b / 18446744073709551616)=true by simp [c2],cnd_t]
   by_cases c3:a % 18446744073709551616 < b % 18446744073709551616
   ·rw [decide_eq_true c3,cnd_t,if_pos (by omega)]
   ·rw [decide_eq_false c3,cnd_f]
    by_cases c4:a % 18446744073709551616=b % 18446744073709551616
    ·rw [show (a % 18446744073709551616 == b % 18446744073709551616)=true by simp [c4],if_neg (by omega),if_neg (by omega)]; rfl
    ·rw [show (a % 18446744073709551616 == b % 18446744073709551616)=false by simp [c4],if_neg (by omega),if_pos (by omega)]; rfl
  ·rw [show (a / 18446744073709551616 == b / 18446744073709551616)=false by simp [c2],cnd_f,if_neg (by omega),if_pos (by omega)]; rfl)
end Go.Proofs.Ytbmedgpiphibaaa.AE

namespace Go.Proofs.Ytbmedgpiphibaaa.AE
set_option linter.unusedVariables false
set_option linter.unusedSimpArgs false
set_option linter.constructorNameAsVariable false
open Go Go.Proofs.Ytbmedgpiphibaaa.Geo
theorem s55 (d:Nat) (a b c:Pt):pcall M (d+5) 55 [pt a,pt b,pt c]=some (.int .i64 (tn3 a b c)):=told (r55 C0 (d+4) _ _ _ _ _ _) (by
 have R:=fun p=>s48 (d+3) p
 simp only [pt] at R
 rw [R a,R b,R c]
 simp only [C0_bool]
 unfold tn3
 by_cases ha:OkP a
 ·by_cases hb:OkP b
  ·by_cases hc:OkP c
   ·rw [if_pos ⟨ha,hb,hc⟩,decide_eq_true ha,decide_eq_true hb,decide_eq_true hc]
    obtain ⟨⟨ha,ha'⟩,hb1,hb1'⟩:=ha
    obtain ⟨⟨hc1,hc1'⟩,hd,hd'⟩:=hb
    obtain ⟨⟨he,he'⟩,hf,hf'⟩:=hc
    rw [i64_small (n:=b.1 - a.1) (by omega) (by omega),i64_small (n:=c.2 - a.2) (by omega) (by omega),i64_small (n:=b.2 - a.2) (by omega) (by omega),i64_small (n:=c.1 - a.1) (by omega) (by omega)]
    rw [s61 d _ _ (by omega) (by omega) (by omega) (by omega),s61 d _ _ (by omega) (by omega) (by omega) (by omega)]
    have p1:=prod_bd41 (x:=b.1 - a.1) (y:=c.2 - a.2) (by omega) (by omega) (by omega) (by omega)
    have p2:=prod_bd41 (x:=b.2 - a.2) (y:=c.1 - a.1) (by omega) (by omega) (by omega) (by omega)
    simp only [Bool.not_true,cnd_f,C0_agg2,at0,at1,C0_int]
    rw [s60 (d+3) _ _ (by omega) (by omega) (by omega) (by omega),C0_int,cmp_sg]
    rfl
   ·rw [if_neg fun h=>hc h.2.2,decide_eq_true ha,decide_eq_true hb,decide_eq_false hc]; rfl
  ·rw [if_neg fun h=>hb h.2.1,decide_eq_true ha,decide_eq_false hb]; rfl
 ·rw [if_neg fun h=>ha h.1,decide_eq_false ha]; rfl)
theorem s50 (d:Nat) (p a b:Pt):pcall M (d+6) 50 [pt p,pt a,pt b]=some (.bool (onB p a b)):=told (r50 C0 (d+5) _ _ _ _ _ _) (by
 have R:=fun p=>s48 (d+4) p
 have t:=s55 d a b p
 simp only [pt] at R t
 rw [R a,R b,R p,t]
 simp only [C0_bool,C0_int]
 have e1:∀ x y:Int,(if y < x then y else x)=min x y:=fun x y=>by omega
 have e2:∀ x y:Int,(if y > x then y else x)=max x y:=fun x y=>by omega
 rw [e1,e1,e2,e2]
 by_cases ha:OkP a
 ·by_cases hb:OkP b
  ·by_cases hp:OkP p
   ·rw [decide_eq_true ha,decide_eq_true hb,decide_eq_true hp,tn3_sg ⟨ha,hb,hp⟩]
    simp only [Bool.not_true,cnd_f]
    by_cases ht:TN a b p=0
    ·rw [show (sg (TN a b p) != 0)=false by simp [sg_zero,ht],cnd_f]
     have key:onB p a b=(decide (p.1 ≥ min a.1 b.1) && (decide (p.1≤max a.1 b.1) && (decide (p.2 ≥ min a.2 b.2) && decide (p.2≤max a.2 b.2)))):=by
      rw [Bool.eq_iff_iff]
      simp only [Bool.and_eq_true,onB_t,decide_eq_true_eq]
      unfold On Btw
      constructor
      ·rintro ⟨_,_,h⟩; omega
      ·intro h; exact ⟨⟨hp,ha,hb⟩,ht,by omega⟩
     rw [key]
     cases decide (p.1 ≥ min a.1 b.1) <;> cases decide (p.1≤max a.1 b.1) <;> cases decide (p.2 ≥ min a.2 b.2) <;> rfl
    ·rw [show (sg (TN a b p) != 0)=true by simp [sg_zero,ht],cnd_t]
     have:onB p a b=false:=by rw [← Bool.not_eq_true]; intro h; exact ht (onB_t.mp h).2.1
     rw [this]
   ·have:onB p a b=false:=by rw [← Bool.not_eq_true]; intro h; exact hp (onB_t.mp h).1.1
    rw [decide_eq_true ha,decide_eq_true hb,decide_eq_false hp,this]; rfl
  ·have:onB p a b=false:=by rw [← Bool.not_eq_true]; intro h; exact hb (onB_t.mp h).1.2.2
   rw [decide_eq_true ha,decide_eq_false hb,this]; rfl
 ·have:onB p a b=false:=by rw [← Bool.not_eq_true]; intro h; exact ha (onB_t.mp h).1.2.1
  rw [decide_eq_false ha,this]; rfl)
def okb (p:Pt):Bool:=decide (OkP p)
theorem okb_t {p:Pt}:okb p=true ↔ OkP p:=decide_eq_true_iff
theorem s51 (d:Nat) (a b c e:Pt):pcall M (d+7) 51 [pt a,pt b,pt c,pt e]=some (.bool (meetB a b c e)):=told (r51 C0 (d+6) _ _ _ _ _ _ _ _) (by
 have R:=fun p=>s48 (d+5) p
 have o:=fun p q r=>s50 d p q r
 have t:=fun p q r=>s55 (d+1) p q r
 simp only [pt] at o t R
 rw [R a,R b,R c,R e,o a c e,o b c e,o c a b,o e a b,t a b c,t a b e,t c e a,t c e b]
 simp only [C0_bool,C0_int]
 change cnd (!okb a) (some (.bool false)) (cnd (!okb b) (some (.bool false)) (cnd (!okb c) (some (.bool false)) (cnd (!okb e) (some (.bool false)) (cnd (onB a c e) (some (.bool true)) (cnd (onB b c e) (some (.bool true)) (cnd (onB c a b) (some (.bool true)) (cnd (onB e a b) (some (.bool true))
  (cnd (negB (IntKind.wrap .i64 (tn3 a b c * tn3 a b e))) (some (.bool (negB (IntKind.wrap .i64 (tn3 c e a * tn3 c e b))))) (some (.bool false))))))))))=_
 have key:meetB a b c e=(okb a && (okb b && (okb c && (okb e && (onB a c e || (onB b c e || (onB c a b || (onB e a b || (negB (IntKind.wrap .i64 (tn3 a b c * tn3 a b e)) && negB (IntKind.wrap .i64 (tn3 c e a * tn3 c e b))))))))))):=by
  rw [Bool.eq_iff_iff]
  simp only [Bool.and_eq_true,Bool.or_eq_true,onB_t,okb_t,negB_t,meetB_t]
  have fin:ok4 a b c e→(Meet a b c e ↔ (ok3 a c e∧On a c e ∨ ok3 b c e∧On b c e ∨ ok3 c a b∧On c a b ∨ ok3 e a b∧On e a b ∨ IntKind.wrap .i64 (tn3 a b c * tn3 a b e) < 0∧IntKind.wrap .i64 (tn3 c e a * tn3 c e b) < 0)):=by
   rintro ⟨ha,hb,hc,he⟩
   rw [tn3_sg ⟨ha,hb,hc⟩,tn3_sg ⟨ha,hb,he⟩,tn3_sg ⟨hc,he,ha⟩,tn3_sg ⟨hc,he,hb⟩,sg_small,sg_small]
   simp only [ok3,ha,hb,hc,he,true_and,and_true]
   exact Iff.rfl
  constructor
  ·rintro ⟨h,hm⟩; exact ⟨h.1,h.2.1,h.2.2.1,h.2.2.2,(fin h).mp hm⟩
  ·rintro ⟨h1,h2,h3,h4,hm⟩; exact ⟨⟨h1,h2,h3,h4⟩,(fin ⟨h1,h2,h3,h4⟩).mpr hm⟩
 rw [key]
 cases okb a <;> cases okb b <;> cases okb c <;> cases okb e <;> cases onB a c e <;> cases onB b c e <;> cases onB c a b <;> cases onB e a b <;> cases negB (IntKind.wrap .i64 (tn3 a b c * tn3 a b e)) <;> rfl)
end Go.Proofs.Ytbmedgpiphibaaa.AE

namespace Go.Proofs.Ytbmedgpiphibaaa.AE
set_option linter.unusedVariables false
set_option linter.unusedSimpArgs false
set_option linter.constructorNameAsVariable false
open Go
set_option maxRecDepth 100000
set_option maxHeartbeats 0
def r35R0 (C:Cb) (d:Nat) (a0:List AV):St→(Ex→St→Ans)→Ans:=fun s0 k1 =>
 cnd ((List.length s0.env) == 47)
 (sames C s0.env 0 [(.lst a0),tz] <|
 C.bool s0.env[2]? fun b3 =>
 C.int .i64 s0.env[3]? fun x4 =>
 anys C s0.env 4 9 <|
 C.any s0.env[13]? fun v14 =>
 C.any s0.env[14]? fun v15 =>
 C.any s0.env[15]? fun v16 =>
 C.any s0.env[16]? fun v17 =>
 C.any s0.env[17]? fun v18 =>
 C.any s0.env[18]? fun v19 =>
 C.any s0.env[19]? fun v20 =>
 C.any s0.env[20]? fun v21 =>
 C.any s0.env[21]? fun v22 =>
 C.any s0.env[22]? fun v23 =>
 C.any s0.env[23]? fun v24 =>
 C.any s0.env[24]? fun v25 =>
 C.any s0.env[25]? fun v26 =>
 C.any s0.env[26]? fun v27 =>
 C.any s0.env[27]? fun v28 =>
 C.any s0.env[28]? fun v29 =>
 C.any s0.env[29]? fun v30 =>
 C.any s0.env[30]? fun v31 =>
 C.any s0.env[31]? fun v32 =>
 C.any s0.env[32]? fun v33 =>
 C.any s0.env[33]? fun v34 =>
 C.any s0.env[34]? fun v35 =>
 C.any s0.env[35]? fun v36 =>
 C.any s0.env[36]? fun v37 =>
 C.any s0.env[37]? fun v38 =>
 C.any s0.env[38]? fun v39 =>
 C.any s0.env[39]? fun v40 =>
 C.any s0.env[40]? fun v41 =>
 C.any s0.env[41]? fun v42 =>
 C.any s0.env[42]? fun v43 =>
 C.any s0.env[43]? fun v44 =>
 C.any s0.env[44]? fun v45 =>
 sames C s0.env 45 [tz,tz] <|
 C.sameH (St.H s0) [] <|
 cnd (decide (x4 < (((List.length a0):Nat):Int)))
 (cnd (decide ((((List.length a0):Nat):Int)≤8))
 (cnd (decide ((0:Int)≤x4))
 (C.agg 2 a0[(Int.toNat x4)]? fun l46 =>
 C.int .i64 l46[0]? fun x47 =>
 C.int .i64 l46[1]? fun x48 =>
 cnd (decide (x47 < (-1073741824)))
 (k1 .ret ⟨[(.lst a0),tz,bf,(iz x4),(iz x4),(.lst a0),(iz (((List.length a0):Nat):Int)),(.bool (decide (x4 < (((List.length a0):Nat):Int)))),bt,(.lst a0),(iz (((List.length a0):Nat):Int)),(.bool (decide ((((List.length a0):Nat):Int)≤8))),bt,v14,v15,(.lst a0),(iz x4),(.fptr (.agg [(iz x47),(iz x48)]) 0),(.fptr (.agg [(iz x47),(iz x48)]) 0),(iz x47),(.bool (decide (x47 < (-1073741824)))),bt,tz,tz,tz,tz,tz,tz,bt,bt,tz,tz,tz,tz,tz,tz,bt,bt,tz,tz,tz,tz,tz,tz,bt,tz,tz],[]⟩)
 (cnd (decide ((0:Int)≤x4))
 (C.agg 2 a0[(Int.toNat x4)]? fun l49 =>
 C.int .i64 l49[0]? fun x50 =>
 C.int .i64 l49[1]? fun x51 =>
 cnd (decide (x50 > 1073741824))
 (k1 .ret ⟨[(.lst a0),tz,bf,(iz x4),(iz x4),(.lst a0),(iz (((List.length a0):Nat):Int)),(.bool (decide (x4 < (((List.length a0):Nat):Int)))),bt,(.lst a0),(iz (((List.length a0):Nat):Int)),(.bool (decide ((((List.length a0):Nat):Int)≤8))),bt,v14,v15,(.lst a0),(iz x4),(.fptr (.agg [(iz x47),(iz x48)]) 0),(.fptr (.agg [(iz x47),(iz x48)]) 0),(iz x47),(.bool (decide (x47 < (-1073741824)))),bf,(.lst a0),(iz x4),(.fptr (.agg [(iz x50),(iz x51)]) 0),(.fptr (.agg [(iz x50),(iz x51)]) 0),(iz x50),(.bool (decide (x50 > 1073741824))),(.bool (decide (x50 > 1073741824))),bt,tz,tz,tz,tz,tz,tz,bt,bt,tz,tz,tz,tz,tz,tz,bt,tz,tz],[]⟩)
 (cnd (decide ((0:Int)≤x4))
 (C.agg 2 a0[(Int.toNat x4)]? fun l52 =>
 C.int .i64 l52[0]? fun x53 =>
 C.int .i64 l52[1]? fun x54 =>
 cnd (decide (x54 < (-1073741824)))
 (k1 .ret ⟨[(.lst a0),tz,bf,(iz x4),(iz x4),(.lst a0),(iz (((List.length a0):Nat):Int)),(.bool (decide (x4 < (((List.length a0):Nat):Int)))),bt,(.lst a0),(iz (((List.length a0):Nat):Int)),(.bool (decide ((((List.length a0):Nat):Int)≤8))),bt,v14,v15,(.lst a0),(iz x4),(.fptr (.agg [(iz x47),(iz x48)]) 0),(.fptr (.agg [(iz x47),(iz x48)]) 0),(iz x47),(.bool (decide (x47 < (-1073741824)))),bf,(.lst a0),(iz x4),(.fptr (.agg [(iz x50),(iz x51)]) 0),(.fptr (.agg [(iz x50),(iz x51)]) 0),(iz x50),(.bool (decide (x50 > 1073741824))),(.bool (decide (x50 > 1073741824))),bf,(.lst a0),(iz x4),(.fptr (.agg [(iz x53),(iz x54)]) 0),(.fptr (.agg [(iz x53),(iz x54)]) 1),(iz x54),(.bool (decide (x54 < (-1073741824)))),(.bool (decide (x54 < (-1073741824)))),bt,tz,tz,tz,tz,tz,tz,bt,tz,tz],[]⟩)
 (cnd (decide ((0:Int)≤x4))
 (C.agg 2 a0[(Int.toNat x4)]? fun l55 =>
 C.int .i64 l55[0]? fun x56 =>
 C.int .i64 l55[1]? fun x57 =>
 cnd (decide (x57 > 1073741824))
 (k1 .ret ⟨[(.lst a0),tz,bf,(iz x4),(iz x4),(.lst a0),(iz (((List.length a0):Nat):Int)),(.bool (decide (x4 < (((List.length a0):Nat):Int)))),bt,(.lst a0),(iz (((List.length a0):Nat):Int)),(.bool (decide ((((List.length a0):Nat):Int)≤8))),bt,v14,v15,(.lst a0),(iz x4),(.fptr (.agg [(iz x47),(iz x48)]) 0),(.fptr (.agg [(iz x47),(iz x48)]) 0),(iz x47),(.bool (decide (x47 < (-1073741824)))),bf,(.lst a0),(iz x4),(.fptr (.agg [(iz x50),(iz x51)]) 0),(.fptr (.agg [(iz x50),(iz x51)]) 0),(iz x50),(.bool (decide (x50 > 1073741824))),(.bool (decide (x50 > 1073741824))),bf,(.lst a0),(iz x4),(.fptr (.agg [(iz x53),(iz x54)]) 0),(.fptr (.agg [(iz x53),(iz x54)]) 1),(iz x54),(.bool (decide (x54 < (-1073741824)))),(.bool (decide (x54 < (-1073741824)))),bf,(.lst a0),(iz x4),(.fptr (.agg [(iz x56),(iz x57)]) 0),(.fptr (.agg [(iz x56),(iz x57)]) 1),(iz x57),(.bool (decide (x57 > 1073741824))),bt,tz,tz],[]⟩)
 (k1 .normal ⟨[(.lst a0),tz,(.bool b3),(iz (IntKind.wrap .i64 (x4+1))),(iz x4),(.lst a0),(iz (((List.length a0):Nat):Int)),(.bool (decide (x4 < (((List.length a0):Nat):Int)))),bt,(.lst a0),(iz (((List.length a0):Nat):Int)),(.bool (decide ((((List.length a0):Nat):Int)≤8))),bt,(iz x4),(iz (IntKind.wrap .i64 (x4+1))),(.lst a0),(iz x4),(.fptr (.agg [(iz x47),(iz x48)]) 0),(.fptr (.agg [(iz x47),(iz x48)]) 0),(iz x47),(.bool (decide (x47 < (-1073741824)))),bf,(.lst a0),(iz x4),(.fptr (.agg [(iz x50),(iz x51)]) 0),(.fptr (.agg [(iz x50),(iz x51)]) 0),(iz x50),(.bool (decide (x50 > 1073741824))),(.bool (decide (x50 > 1073741824))),bf,(.lst a0),(iz x4),(.fptr (.agg [(iz x53),(iz x54)]) 0),(.fptr (.agg [(iz x53),(iz x54)]) 1),(iz x54),(.bool (decide (x54 < (-1073741824)))),(.bool (decide (x54 < (-1073741824)))),bf,(.lst a0),(iz x4),(.fptr (.agg [(iz x56),(iz x57)]) 0),(.fptr (.agg [(iz x56),(iz x57)]) 1),(iz x57),(.bool (decide (x57 > 1073741824))),bf,tz,tz],[]⟩))
 (none)))
 (none)))
 (none)))
 (none))
 (k1 (.exit 0) ⟨[(.lst a0),tz,(.bool b3),(iz x4),(iz x4),(.lst a0),(iz (((List.length a0):Nat):Int)),(.bool (decide (x4 < (((List.length a0):Nat):Int)))),bt,(.lst a0),(iz (((List.length a0):Nat):Int)),(.bool (decide ((((List.length a0):Nat):Int)≤8))),bf,v14,v15,v16,v17,v18,v19,v20,v21,v22,v23,v24,v25,v26,v27,v28,v29,v30,v31,v32,v33,v34,v35,v36,v37,v38,v39,v40,v41,v42,v43,v44,v45,tz,tz],[]⟩))
 (k1 (.exit 0) ⟨[(.lst a0),tz,(.bool b3),(iz x4),(iz x4),(.lst a0),(iz (((List.length a0):Nat):Int)),(.bool (decide (x4 < (((List.length a0):Nat):Int)))),bf,tz,tz,tz,bf,v14,v15,v16,v17,v18,v19,v20,v21,v22,v23,v24,v25,v26,v27,v28,v29,v30,v31,v32,v33,v34,v35,v36,v37,v38,v39,v40,v41,v42,v43,v44,v45,tz,tz],[]⟩))
 (none)
def r35X0_0 (C:Cb) (d:Nat) (a0:List AV):St→Ans:=fun s58 =>
 cnd ((List.length s58.env) == 47)
 (sames C s58.env 0 [(.lst a0),tz] <|
 C.bool s58.env[2]? fun b59 =>
 C.int .i64 s58.env[3]? fun x60 =>
 C.int .i64 s58.env[4]? fun x61 =>
 C.any s58.env[5]? fun v62 =>
 C.int .i64 s58.env[6]? fun x63 =>
 C.bool s58.env[7]? fun b64 =>
 C.bool s58.env[8]? fun b65 =>
 anys C s58.env 9 3 <|
 C.bool s58.env[12]? fun b69 =>
 anys C s58.env 13 32 <|
 sames C s58.env 45 [tz,tz] <|
 C.sameH (St.H s58) [] <|
 C.bool (pcall M d 45 [(.lst a0)]) fun b102 =>
 some (.bool b102))
 (none)
def r35E0 (C:Cb) (d:Nat) (a0:List AV):St→Ans:=fun s2 =>
 cnd ((List.length s2.env) == 47)
 (sames C s2.env 0 [(.lst a0),tz] <|
 C.bool s2.env[2]? fun b103 =>
 C.int .i64 s2.env[3]? fun x104 =>
 C.int .i64 s2.env[4]? fun x105 =>
 C.any s2.env[5]? fun v106 =>
 C.int .i64 s2.env[6]? fun x107 =>
 C.bool s2.env[7]? fun b108 =>
 C.bool s2.env[8]? fun b109 =>
 anys C s2.env 9 3 <|
 C.bool s2.env[12]? fun b113 =>
 anys C s2.env 13 3 <|
 C.int .i64 s2.env[16]? fun x117 =>
 anys C s2.env 17 2 <|
 C.int .i64 s2.env[19]? fun x120 =>
 C.bool s2.env[20]? fun b121 =>
 C.bool s2.env[21]? fun b122 =>
 anys C s2.env 22 6 <|
 C.bool s2.env[28]? fun b129 =>
 C.bool s2.env[29]? fun b130 =>
 anys C s2.env 30 6 <|
 C.bool s2.env[36]? fun b137 =>
 C.bool s2.env[37]? fun b138 =>
 anys C s2.env 38 6 <|
 C.bool s2.env[44]? fun b145 =>
 sames C s2.env 45 [tz,tz] <|
 C.sameH (St.H s2) [] <|
 some (.bool b103))
 (none)
theorem r35 (C:Cb) (d:Nat) (a0:List AV):xcall C M unr d 35 [(.lst a0)] =
 C.iter (r35R0 C d a0) 10000000000000000000 ⟨[(.lst a0),tz,bf,(iz 0),tz,tz,tz,tz,tz,tz,tz,tz,tz,tz,tz,tz,tz,tz,tz,tz,tz,tz,tz,tz,tz,tz,tz,tz,tz,tz,tz,tz,tz,tz,tz,tz,tz,tz,tz,tz,tz,tz,tz,tz,tz,tz,tz],[]⟩ [0] [r35X0_0 C d a0] (r35E0 C d a0):=by kernel_rfl
def r45R2 (C:Cb) (d:Nat) (a0:List AV) (x2 x29 x30 x31:Int) (b32:Bool) (v33 v34 v35 v36 v37 v38 v39 v40:AV) (k42:Ex→St→Ans) (x45:Int) (v54 v55:AV):St→(Ex→St→Ans)→Ans:=fun s121 k122 =>
 cnd ((List.length s121.env) == 100)
 (sames C s121.env 0 [(.lst a0),tz] <|
 C.bool s121.env[2]? fun b124 =>
 sames C s121.env 3 [(iz x2),(iz x29),(iz x45)] <|
 C.int .i64 s121.env[6]? fun x125 =>
 C.any s121.env[7]? fun v126 =>
 C.any s121.env[8]? fun v127 =>
 C.any s121.env[9]? fun v128 =>
 C.any s121.env[10]? fun v129 =>
 sames C s121.env 11 [(.lst a0),(iz x2),(iz x2),(.bool (decide (x2 < 3))),bf,(iz x2),(.bool (decide (x2 > 8))),bf,(iz x30),(iz x31),(.bool b32),v33,v34,v35,v36,v37,v38,v39,v40,(iz x45),(iz x2),bt,v54,v55,(iz x45),(iz (IntKind.wrap .i64 (x45+1)))] <|
 anys C s121.env 37 3 <|
 C.any s121.env[40]? fun v133 =>
 C.any s121.env[41]? fun v134 =>
 C.any s121.env[42]? fun v135 =>
 C.any s121.env[43]? fun v136 =>
 C.any s121.env[44]? fun v137 =>
 C.any s121.env[45]? fun v138 =>
 C.any s121.env[46]? fun v139 =>
 C.any s121.env[47]? fun v140 =>
 C.any s121.env[48]? fun v141 =>
 C.any s121.env[49]? fun v142 =>
 C.any s121.env[50]? fun v143 =>
 C.any s121.env[51]? fun v144 =>
 C.any s121.env[52]? fun v145 =>
 C.any s121.env[53]? fun v146 =>
 C.any s121.env[54]? fun v147 =>
 C.any s121.env[55]? fun v148 =>
 C.any s121.env[56]? fun v149 =>
 C.any s121.env[57]? fun v150 =>
 C.any s121.env[58]? fun v151 =>
 C.any s121.env[59]? fun v152 =>
 C.any s121.env[60]? fun v153 =>
 C.any s121.env[61]? fun v154 =>
 C.any s121.env[62]? fun v155 =>
 C.any s121.env[63]? fun v156 =>
 C.any s121.env[64]? fun v157 =>
 C.any s121.env[65]? fun v158 =>
 C.any s121.env[66]? fun v159 =>
 C.any s121.env[67]? fun v160 =>
 C.any s121.env[68]? fun v161 =>
 C.any s121.env[69]? fun v162 =>
 C.any s121.env[70]? fun v163 =>
 C.any s121.env[71]? fun v164 =>
 C.any s121.env[72]? fun v165 =>
 C.any s121.env[73]? fun v166 =>
 C.any s121.env[74]? fun v167 =>
 C.any s121.env[75]? fun v168 =>
 C.any s121.env[76]? fun v169 =>
 C.any s121.env[77]? fun v170 =>
 C.any s121.env[78]? fun v171 =>
 C.any s121.env[79]? fun v172 =>
 C.any s121.env[80]? fun v173 =>
 C.any s121.env[81]? fun v174 =>
 C.any s121.env[82]? fun v175 =>
 C.any s121.env[83]? fun v176 =>
 C.any s121.env[84]? fun v177 =>
 C.any s121.env[85]? fun v178 =>
 C.any s121.env[86]? fun v179 =>
 C.any s121.env[87]? fun v180 =>
 C.any s121.env[88]? fun v181 =>
 C.any s121.env[89]? fun v182 =>
 C.any s121.env[90]? fun v183 =>
 C.any s121.env[91]? fun v184 =>
 C.any s121.env[92]? fun v185 =>
 C.any s121.env[93]? fun v186 =>
 C.any s121.env[94]? fun v187 =>
 C.any s121.env[95]? fun v188 =>
 C.any s121.env[96]? fun v189 =>
 C.any s121.env[97]? fun v190 =>
 C.any s121.env[98]? fun v191 =>
 C.any s121.env[99]? fun v192 =>
 cnd (decide (x125 < x2))
 (C.hop (St.H s121) (.ixAS .any 2 (.v (.lst a0)) (.v (iz x45))) fun v193 h194 =>
 C.hop h194 (.load true 2 (.v v193)) fun v195 h196 =>
 C.agg 2 (some v195) fun l197 =>
 C.int .i64 l197[0]? fun x198 =>
 C.int .i64 l197[1]? fun x199 =>
 C.snp h196 [(.lst a0),(iz x45)] fun l200 b201 =>
 C.agg 2 (pcall M d 49 l200) fun l202 =>
 C.int .i64 l202[0]? fun x203 =>
 C.int .i64 l202[1]? fun x204 =>
 cnd (b201 || true)
 (C.hop h196 (.ixAS .any 2 (.v (.lst a0)) (.v (iz x125))) fun v205 h206 =>
 C.hop h206 (.load true 2 (.v v205)) fun v207 h208 =>
 C.agg 2 (some v207) fun l209 =>
 C.int .i64 l209[0]? fun x210 =>
 C.int .i64 l209[1]? fun x211 =>
 C.snp h208 [(.lst a0),(iz x125)] fun l212 b213 =>
 C.agg 2 (pcall M d 49 l212) fun l214 =>
 C.int .i64 l214[0]? fun x215 =>
 C.int .i64 l214[1]? fun x216 =>
 cnd (b213 || true)
 (C.hop h208 (.alloc E50) fun v217 h218 =>
 C.hop h218 (.alloc E50) fun v219 h220 =>
 C.hop h220 (.alloc E50) fun v221 h222 =>
 C.hop h222 (.alloc E50) fun v223 h224 =>
 C.disj (.addr v205) (.addr v217) <|
 C.hop h224 (.store 2 (.v v217) (.v (.agg [(iz x198),(iz x199)]))) fun v225 h226 =>
 C.disj (.addr v205) (.addr v219) <|
 C.hop h226 (.store 2 (.v v219) (.v (.agg [(iz x203),(iz x204)]))) fun v227 h228 =>
 C.hop h228 (.store 2 (.v v221) (.v (.agg [(iz x210),(iz x211)]))) fun v229 h230 =>
 C.hop h230 (.store 2 (.v v223) (.v (.agg [(iz x215),(iz x216)]))) fun v231 h232 =>
 C.hop h232 (.load true 2 (.v v217)) fun v233 h234 =>
 C.agg 2 (some v233) fun l235 =>
 C.int .i64 l235[0]? fun x236 =>
 C.int .i64 l235[1]? fun x237 =>
 C.hop h234 (.load true 2 (.v v221)) fun v238 h239 =>
 C.agg 2 (some v238) fun l240 =>
 C.int .i64 l240[0]? fun x241 =>
 C.int .i64 l240[1]? fun x242 =>
 cnd (xor false ((x236 == x241) && ((x237 == x242) && true)))
 (k122 .ret ⟨[(.lst a0),tz,bf,(iz x2),(iz x29),(iz x45),(iz x125),v217,v219,v221,v223,(.lst a0),(iz x2),(iz x2),(bz (decide (x2 < 3))),bf,(iz x2),(bz (decide (x2 > 8))),bf,(iz x30),(iz x31),(bz b32),v33,v34,v35,v36,v37,v38,v39,v40,(iz x45),(iz x2),bt,v54,v55,(iz x45),(iz (IntKind.wrap .i64 (x45+1))),(iz x125),(iz x2),bt,v133,v134,(.lst a0),(iz x45),v193,(.agg [(iz x198),(iz x199)]),(.lst a0),(iz x45),(.agg [(iz x203),(iz x204)]),(.lst a0),(iz x125),v205,(.agg [(iz x210),(iz x211)]),(.lst a0),(iz x125),(.agg [(iz x215),(iz x216)]),bt,(.agg [(iz x236),(iz x237)]),(.agg [(iz x241),(iz x242)]),(bz (xor false ((x236 == x241) && ((x237 == x242) && true)))),v153,v154,v155,v156,v157,v158,v159,v160,v161,v162,v163,v164,v165,v166,v167,v168,v169,v170,v171,v172,v173,v174,v175,v176,v177,v178,v179,v180,v181,v182,v183,v184,v185,v186,v187,v188,v189,v190,v191,v192],h239⟩)
 (cnd (x125 == (IntKind.wrap .i64 (x45+1)))
 (C.hop h239 (.load true 2 (.v v223)) fun v243 h244 =>
 C.agg 2 (some v243) fun l245 =>
 C.int .i64 l245[0]? fun x246 =>
 C.int .i64 l245[1]? fun x247 =>
 C.hop h244 (.load true 2 (.v v217)) fun v248 h249 =>
 C.agg 2 (some v248) fun l250 =>
 C.int .i64 l250[0]? fun x251 =>
 C.int .i64 l250[1]? fun x252 =>
 C.hop h249 (.load true 2 (.v v219)) fun v253 h254 =>
 C.agg 2 (some v253) fun l255 =>
 C.int .i64 l255[0]? fun x256 =>
 C.int .i64 l255[1]? fun x257 =>
 C.bool (pcall M d 50 [(.agg [(iz x246),(iz x247)]),(.agg [(iz x251),(iz x252)]),(.agg [(iz x256),(iz x257)])]) fun b258 =>
 cnd b258
 (k122 .ret ⟨[(.lst a0),tz,bf,(iz x2),(iz x29),(iz x45),(iz x125),v217,v219,v221,v223,(.lst a0),(iz x2),(iz x2),(bz (decide (x2 < 3))),bf,(iz x2),(bz (decide (x2 > 8))),bf,(iz x30),(iz x31),(bz b32),v33,v34,v35,v36,v37,v38,v39,v40,(iz x45),(iz x2),bt,v54,v55,(iz x45),(iz (IntKind.wrap .i64 (x45+1))),(iz x125),(iz x2),bt,v133,v134,(.lst a0),(iz x45),v193,(.agg [(iz x198),(iz x199)]),(.lst a0),(iz x45),(.agg [(iz x203),(iz x204)]),(.lst a0),(iz x125),v205,(.agg [(iz x210),(iz x211)]),(.lst a0),(iz x125),(.agg [(iz x215),(iz x216)]),bf,(.agg [(iz x236),(iz x237)]),(.agg [(iz x241),(iz x242)]),(bz (xor false ((x236 == x241) && ((x237 == x242) && true)))),bt,(iz x125),(iz x45),(iz (IntKind.wrap .i64 (x45+1))),(bz (x125 == (IntKind.wrap .i64 (x45+1)))),(.agg [(iz x246),(iz x247)]),(.agg [(iz x251),(iz x252)]),(.agg [(iz x256),(iz x257)]),(bz b258),bt,tz,tz,tz,tz,bt,v168,v169,v170,v171,v172,v173,v174,v175,v176,v177,v178,v179,v180,v181,v182,v183,v184,v185,v186,v187,v188,v189,v190,v191,v192],h254⟩)
 (C.hop h254 (.load true 2 (.v v217)) fun v259 h260 =>
 C.agg 2 (some v259) fun l261 =>
 C.int .i64 l261[0]? fun x262 =>
 C.int .i64 l261[1]? fun x263 =>
 C.hop h260 (.load true 2 (.v v221)) fun v264 h265 =>
 C.agg 2 (some v264) fun l266 =>
 C.int .i64 l266[0]? fun x267 =>
 C.int .i64 l266[1]? fun x268 =>
 C.hop h265 (.load true 2 (.v v223)) fun v269 h270 =>
 C.agg 2 (some v269) fun l271 =>
 C.int .i64 l271[0]? fun x272 =>
 C.int .i64 l271[1]? fun x273 =>
 C.bool (pcall M d 50 [(.agg [(iz x262),(iz x263)]),(.agg [(iz x267),(iz x268)]),(.agg [(iz x272),(iz x273)])]) fun b274 =>
 cnd b274
 (k122 .ret ⟨[(.lst a0),tz,bf,(iz x2),(iz x29),(iz x45),(iz x125),v217,v219,v221,v223,(.lst a0),(iz x2),(iz x2),(bz (decide (x2 < 3))),bf,(iz x2),(bz (decide (x2 > 8))),bf,(iz x30),(iz x31),(bz b32),v33,v34,v35,v36,v37,v38,v39,v40,(iz x45),(iz x2),bt,v54,v55,(iz x45),(iz (IntKind.wrap .i64 (x45+1))),(iz x125),(iz x2),bt,v133,v134,(.lst a0),(iz x45),v193,(.agg [(iz x198),(iz x199)]),(.lst a0),(iz x45),(.agg [(iz x203),(iz x204)]),(.lst a0),(iz x125),v205,(.agg [(iz x210),(iz x211)]),(.lst a0),(iz x125),(.agg [(iz x215),(iz x216)]),bf,(.agg [(iz x236),(iz x237)]),(.agg [(iz x241),(iz x242)]),(bz (xor false ((x236 == x241) && ((x237 == x242) && true)))),bt,(iz x125),(iz x45),(iz (IntKind.wrap .i64 (x45+1))),(bz (x125 == (IntKind.wrap .i64 (x45+1)))),(.agg [(iz x246),(iz x247)]),(.agg [(iz x251),(iz x252)]),(.agg [(iz x256),(iz x257)]),(bz b258),bf,(.agg [(iz x262),(iz x263)]),(.agg [(iz x267),(iz x268)]),(.agg [(iz x272),(iz x273)]),(bz b274),bt,v168,v169,v170,v171,v172,v173,v174,v175,v176,v177,v178,v179,v180,v181,v182,v183,v184,v185,v186,v187,v188,v189,v190,v191,v192],h270⟩)
 (k122 .normal ⟨[(.lst a0),tz,(bz b124),(iz x2),(iz x29),(iz x45),(iz (IntKind.wrap .i64 (x125+1))),v217,v219,v221,v223,(.lst a0),(iz x2),(iz x2),(bz (decide (x2 < 3))),bf,(iz x2),(bz (decide (x2 > 8))),bf,(iz x30),(iz x31),(bz b32),v33,v34,v35,v36,v37,v38,v39,v40,(iz x45),(iz x2),bt,v54,v55,(iz x45),(iz (IntKind.wrap .i64 (x45+1))),(iz x125),(iz x2),bt,(iz x125),(iz (IntKind.wrap .i64 (x125+1))),(.lst a0),(iz x45),v193,(.agg [(iz x198),(iz x199)]),(.lst a0),(iz x45),(.agg [(iz x203),(iz x204)]),(.lst a0),(iz x125),v205,(.agg [(iz x210),(iz x211)]),(.lst a0),(iz x125),(.agg [(iz x215),(iz x216)]),bf,(.agg [(iz x236),(iz x237)]),(.agg [(iz x241),(iz x242)]),(bz (xor false ((x236 == x241) && ((x237 == x242) && true)))),bt,(iz x125),(iz x45),(iz (IntKind.wrap .i64 (x45+1))),(bz (x125 == (IntKind.wrap .i64 (x45+1)))),(.agg [(iz x246),(iz x247)]),(.agg [(iz x251),(iz x252)]),(.agg [(iz x256),(iz x257)]),(bz b258),bf,(.agg [(iz x262),(iz x263)]),(.agg [(iz x267),(iz x268)]),(.agg [(iz x272),(iz x273)]),(bz b274),bf,v168,v169,v170,v171,v172,v173,v174,v175,v176,v177,v178,v179,v180,v181,v182,v183,v184,v185,v186,v187,v188,v189,v190,v191,v192],h270⟩)))
 (cnd (x45 == 0)
 (cnd (x125 == (IntKind.wrap .i64 (x2 - 1)))
 (C.hop h239 (.load true 2 (.v v221)) fun v275 h276 =>
 C.agg 2 (some v275) fun l277 =>
 C.int .i64 l277[0]? fun x278 =>
 C.int .i64 l277[1]? fun x279 =>
 C.hop h276 (.load true 2 (.v v217)) fun v280 h281 =>
 C.agg 2 (some v280) fun l282 =>
 C.int .i64 l282[0]? fun x283 =>
 C.int .i64 l282[1]? fun x284 =>
 C.hop h281 (.load true 2 (.v v219)) fun v285 h286 =>
 C.agg 2 (some v285) fun l287 =>
 C.int .i64 l287[0]? fun x288 =>
 C.int .i64 l287[1]? fun x289 =>
 C.bool (pcall M d 50 [(.agg [(iz x278),(iz x279)]),(.agg [(iz x283),(iz x284)]),(.agg [(iz x288),(iz x289)])]) fun b290 =>
 cnd b290
 (k122 .ret ⟨[(.lst a0),tz,bf,(iz x2),(iz x29),(iz x45),(iz x125),v217,v219,v221,v223,(.lst a0),(iz x2),(iz x2),(bz (decide (x2 < 3))),bf,(iz x2),(bz (decide (x2 > 8))),bf,(iz x30),(iz x31),(bz b32),v33,v34,v35,v36,v37,v38,v39,v40,(iz x45),(iz x2),bt,v54,v55,(iz x45),(iz (IntKind.wrap .i64 (x45+1))),(iz x125),(iz x2),bt,v133,v134,(.lst a0),(iz x45),v193,(.agg [(iz x198),(iz x199)]),(.lst a0),(iz x45),(.agg [(iz x203),(iz x204)]),(.lst a0),(iz x125),v205,(.agg [(iz x210),(iz x211)]),(.lst a0),(iz x125),(.agg [(iz x215),(iz x216)]),bf,(.agg [(iz x236),(iz x237)]),(.agg [(iz x241),(iz x242)]),(bz (xor false ((x236 == x241) && ((x237 == x242) && true)))),bf,(iz x125),(iz x45),(iz (IntKind.wrap .i64 (x45+1))),(bz (x125 == (IntKind.wrap .i64 (x45+1)))),v158,v159,v160,v161,v162,v163,v164,v165,v166,v167,bt,(iz x45),(bz (x45 == 0)),bt,(iz x125),(iz x2),(iz (IntKind.wrap .i64 (x2 - 1))),(bz (x125 == (IntKind.wrap .i64 (x2 - 1)))),(bz (x125 == (IntKind.wrap .i64 (x2 - 1)))),(.agg [(iz x278),(iz x279)]),(.agg [(iz x283),(iz x284)]),(.agg [(iz x288),(iz x289)]),(bz b290),bt,tz,tz,tz,tz,bt,v187,v188,v189,v190,v191,v192],h286⟩)
 (C.hop h286 (.load true 2 (.v v219)) fun v291 h292 =>
 C.agg 2 (some v291) fun l293 =>
 C.int .i64 l293[0]? fun x294 =>
 C.int .i64 l293[1]? fun x295 =>
 C.hop h292 (.load true 2 (.v v221)) fun v296 h297 =>
 C.agg 2 (some v296) fun l298 =>
 C.int .i64 l298[0]? fun x299 =>
 C.int .i64 l298[1]? fun x300 =>
 C.hop h297 (.load true 2 (.v v223)) fun v301 h302 =>
 C.agg 2 (some v301) fun l303 =>
 C.int .i64 l303[0]? fun x304 =>
 C.int .i64 l303[1]? fun x305 =>
 C.bool (pcall M d 50 [(.agg [(iz x294),(iz x295)]),(.agg [(iz x299),(iz x300)]),(.agg [(iz x304),(iz x305)])]) fun b306 =>
 cnd b306
 (k122 .ret ⟨[(.lst a0),tz,bf,(iz x2),(iz x29),(iz x45),(iz x125),v217,v219,v221,v223,(.lst a0),(iz x2),(iz x2),(bz (decide (x2 < 3))),bf,(iz x2),(bz (decide (x2 > 8))),bf,(iz x30),(iz x31),(bz b32),v33,v34,v35,v36,v37,v38,v39,v40,(iz x45),(iz x2),bt,v54,v55,(iz x45),(iz (IntKind.wrap .i64 (x45+1))),(iz x125),(iz x2),bt,v133,v134,(.lst a0),(iz x45),v193,(.agg [(iz x198),(iz x199)]),(.lst a0),(iz x45),(.agg [(iz x203),(iz x204)]),(.lst a0),(iz x125),v205,(.agg [(iz x210),(iz x211)]),(.lst a0),(iz x125),(.agg [(iz x215),(iz x216)]),bf,(.agg [(iz x236),(iz x237)]),(.agg [(iz x241),(iz x242)]),(bz (xor false ((x236 == x241) && ((x237 == x242) && true)))),bf,(iz x125),(iz x45),(iz (IntKind.wrap .i64 (x45+1))),(bz (x125 == (IntKind.wrap .i64 (x45+1)))),v158,v159,v160,v161,v162,v163,v164,v165,v166,v167,bt,(iz x45),(bz (x45 == 0)),bt,(iz x125),(iz x2),(iz (IntKind.wrap .i64 (x2 - 1))),(bz (x125 == (IntKind.wrap .i64 (x2 - 1)))),(bz (x125 == (IntKind.wrap .i64 (x2 - 1)))),(.agg [(iz x278),(iz x279)]),(.agg [(iz x283),(iz x284)]),(.agg [(iz x288),(iz x289)]),(bz b290),bf,(.agg [(iz x294),(iz x295)]),(.agg [(iz x299),(iz x300)]),(.agg [(iz x304),(iz x305)]),(bz b306),bt,v187,v188,v189,v190,v191,v192],h302⟩)
 (k122 .normal ⟨[(.lst a0),tz,(bz b124),(iz x2),(iz x29),(iz x45),(iz (IntKind.wrap .i64 (x125+1))),v217,v219,v221,v223,(.lst a0),(iz x2),(iz x2),(bz (decide (x2 < 3))),bf,(iz x2),(bz (decide (x2 > 8))),bf,(iz x30),(iz x31),(bz b32),v33,v34,v35,v36,v37,v38,v39,v40,(iz x45),(iz x2),bt,v54,v55,(iz x45),(iz (IntKind.wrap .i64 (x45+1))),(iz x125),(iz x2),bt,(iz x125),(iz (IntKind.wrap .i64 (x125+1))),(.lst a0),(iz x45),v193,(.agg [(iz x198),(iz x199)]),(.lst a0),(iz x45),(.agg [(iz x203),(iz x204)]),(.lst a0),(iz x125),v205,(.agg [(iz x210),(iz x211)]),(.lst a0),(iz x125),(.agg [(iz x215),(iz x216)]),bf,(.agg [(iz x236),(iz x237)]),(.agg [(iz x241),(iz x242)]),(bz (xor false ((x236 == x241) && ((x237 == x242) && true)))),bf,(iz x125),(iz x45),(iz (IntKind.wrap .i64 (x45+1))),(bz (x125 == (IntKind.wrap .i64 (x45+1)))),v158,v159,v160,v161,v162,v163,v164,v165,v166,v167,bt,(iz x45),(bz (x45 == 0)),bt,(iz x125),(iz x2),(iz (IntKind.wrap .i64 (x2 - 1))),(bz (x125 == (IntKind.wrap .i64 (x2 - 1)))),(bz (x125 == (IntKind.wrap .i64 (x2 - 1)))),(.agg [(iz x278),(iz x279)]),(.agg [(iz x283),(iz x284)]),(.agg [(iz x288),(iz x289)]),(bz b290),bf,(.agg [(iz x294),(iz x295)]),(.agg [(iz x299),(iz x300)]),(.agg [(iz x304),(iz x305)]),(bz b306),bf,v187,v188,v189,v190,v191,v192],h302⟩)))
 (C.hop h239 (.load true 2 (.v v217)) fun v307 h308 =>
 C.agg 2 (some v307) fun l309 =>
 C.int .i64 l309[0]? fun x310 =>
 C.int .i64 l309[1]? fun x311 =>
 C.hop h308 (.load true 2 (.v v219)) fun v312 h313 =>
 C.agg 2 (some v312) fun l314 =>
 C.int .i64 l314[0]? fun x315 =>
 C.int .i64 l314[1]? fun x316 =>
 C.hop h313 (.load true 2 (.v v221)) fun v317 h318 =>
 C.agg 2 (some v317) fun l319 =>
 C.int .i64 l319[0]? fun x320 =>
 C.int .i64 l319[1]? fun x321 =>
 C.hop h318 (.load true 2 (.v v223)) fun v322 h323 =>
 C.agg 2 (some v322) fun l324 =>
 C.int .i64 l324[0]? fun x325 =>
 C.int .i64 l324[1]? fun x326 =>
 C.bool (pcall M d 51 [(.agg [(iz x310),(iz x311)]),(.agg [(iz x315),(iz x316)]),(.agg [(iz x320),(iz x321)]),(.agg [(iz x325),(iz x326)])]) fun b327 =>
 cnd b327
 (k122 .ret ⟨[(.lst a0),tz,bf,(iz x2),(iz x29),(iz x45),(iz x125),v217,v219,v221,v223,(.lst a0),(iz x2),(iz x2),(bz (decide (x2 < 3))),bf,(iz x2),(bz (decide (x2 > 8))),bf,(iz x30),(iz x31),(bz b32),v33,v34,v35,v36,v37,v38,v39,v40,(iz x45),(iz x2),bt,v54,v55,(iz x45),(iz (IntKind.wrap .i64 (x45+1))),(iz x125),(iz x2),bt,v133,v134,(.lst a0),(iz x45),v193,(.agg [(iz x198),(iz x199)]),(.lst a0),(iz x45),(.agg [(iz x203),(iz x204)]),(.lst a0),(iz x125),v205,(.agg [(iz x210),(iz x211)]),(.lst a0),(iz x125),(.agg [(iz x215),(iz x216)]),bf,(.agg [(iz x236),(iz x237)]),(.agg [(iz x241),(iz x242)]),(bz (xor false ((x236 == x241) && ((x237 == x242) && true)))),bf,(iz x125),(iz x45),(iz (IntKind.wrap .i64 (x45+1))),(bz (x125 == (IntKind.wrap .i64 (x45+1)))),v158,v159,v160,v161,v162,v163,v164,v165,v166,v167,bf,(iz x45),(bz (x45 == 0)),bt,(iz x125),(iz x2),(iz (IntKind.wrap .i64 (x2 - 1))),(bz (x125 == (IntKind.wrap .i64 (x2 - 1)))),(bz (x125 == (IntKind.wrap .i64 (x2 - 1)))),v177,v178,v179,v180,v181,v182,v183,v184,v185,v186,bt,(.agg [(iz x310),(iz x311)]),(.agg [(iz x315),(iz x316)]),(.agg [(iz x320),(iz x321)]),(.agg [(iz x325),(iz x326)]),(bz b327)],h323⟩)
 (k122 .normal ⟨[(.lst a0),tz,(bz b124),(iz x2),(iz x29),(iz x45),(iz (IntKind.wrap .i64 (x125+1))),v217,v219,v221,v223,(.lst a0),(iz x2),(iz x2),(bz (decide (x2 < 3))),bf,(iz x2),(bz (decide (x2 > 8))),bf,(iz x30),(iz x31),(bz b32),v33,v34,v35,v36,v37,v38,v39,v40,(iz x45),(iz x2),bt,v54,v55,(iz x45),(iz (IntKind.wrap .i64 (x45+1))),(iz x125),(iz x2),bt,(iz x125),(iz (IntKind.wrap .i64 (x125+1))),(.lst a0),(iz x45),v193,(.agg [(iz x198),(iz x199)]),(.lst a0),(iz x45),(.agg [(iz x203),(iz x204)]),(.lst a0),(iz x125),v205,(.agg [(iz x210),(iz x211)]),(.lst a0),(iz x125),(.agg [(iz x215),(iz x216)]),bf,(.agg [(iz x236),(iz x237)]),(.agg [(iz x241),(iz x242)]),(bz (xor false ((x236 == x241) && ((x237 == x242) && true)))),bf,(iz x125),(iz x45),(iz (IntKind.wrap .i64 (x45+1))),(bz (x125 == (IntKind.wrap .i64 (x45+1)))),v158,v159,v160,v161,v162,v163,v164,v165,v166,v167,bf,(iz x45),(bz (x45 == 0)),bt,(iz x125),(iz x2),(iz (IntKind.wrap .i64 (x2 - 1))),(bz (x125 == (IntKind.wrap .i64 (x2 - 1)))),(bz (x125 == (IntKind.wrap .i64 (x2 - 1)))),v177,v178,v179,v180,v181,v182,v183,v184,v185,v186,bf,(.agg [(iz x310),(iz x311)]),(.agg [(iz x315),(iz x316)]),(.agg [(iz x320),(iz x321)]),(.agg [(iz x325),(iz x326)]),(bz b327)],h323⟩)))
 (C.hop h239 (.load true 2 (.v v217)) fun v328 h329 =>
 C.agg 2 (some v328) fun l330 =>
 C.int .i64 l330[0]? fun x331 =>
 C.int .i64 l330[1]? fun x332 =>
 C.hop h329 (.load true 2 (.v v219)) fun v333 h334 =>
 C.agg 2 (some v333) fun l335 =>
 C.int .i64 l335[0]? fun x336 =>
 C.int .i64 l335[1]? fun x337 =>
 C.hop h334 (.load true 2 (.v v221)) fun v338 h339 =>
 C.agg 2 (some v338) fun l340 =>
 C.int .i64 l340[0]? fun x341 =>
 C.int .i64 l340[1]? fun x342 =>
 C.hop h339 (.load true 2 (.v v223)) fun v343 h344 =>
 C.agg 2 (some v343) fun l345 =>
 C.int .i64 l345[0]? fun x346 =>
 C.int .i64 l345[1]? fun x347 =>
 C.bool (pcall M d 51 [(.agg [(iz x331),(iz x332)]),(.agg [(iz x336),(iz x337)]),(.agg [(iz x341),(iz x342)]),(.agg [(iz x346),(iz x347)])]) fun b348 =>
 cnd b348
 (k122 .ret ⟨[(.lst a0),tz,bf,(iz x2),(iz x29),(iz x45),(iz x125),v217,v219,v221,v223,(.lst a0),(iz x2),(iz x2),(bz (decide (x2 < 3))),bf,(iz x2),(bz (decide (x2 > 8))),bf,(iz x30),(iz x31),(bz b32),v33,v34,v35,v36,v37,v38,v39,v40,(iz x45),(iz x2),bt,v54,v55,(iz x45),(iz (IntKind.wrap .i64 (x45+1))),(iz x125),(iz x2),bt,v133,v134,(.lst a0),(iz x45),v193,(.agg [(iz x198),(iz x199)]),(.lst a0),(iz x45),(.agg [(iz x203),(iz x204)]),(.lst a0),(iz x125),v205,(.agg [(iz x210),(iz x211)]),(.lst a0),(iz x125),(.agg [(iz x215),(iz x216)]),bf,(.agg [(iz x236),(iz x237)]),(.agg [(iz x241),(iz x242)]),(bz (xor false ((x236 == x241) && ((x237 == x242) && true)))),bf,(iz x125),(iz x45),(iz (IntKind.wrap .i64 (x45+1))),(bz (x125 == (IntKind.wrap .i64 (x45+1)))),v158,v159,v160,v161,v162,v163,v164,v165,v166,v167,bf,(iz x45),(bz (x45 == 0)),bf,tz,tz,tz,tz,bf,v177,v178,v179,v180,v181,v182,v183,v184,v185,v186,bt,(.agg [(iz x331),(iz x332)]),(.agg [(iz x336),(iz x337)]),(.agg [(iz x341),(iz x342)]),(.agg [(iz x346),(iz x347)]),(bz b348)],h344⟩)
 (k122 .normal ⟨[(.lst a0),tz,(bz b124),(iz x2),(iz x29),(iz x45),(iz (IntKind.wrap .i64 (x125+1))),v217,v219,v221,v223,(.lst a0),(iz x2),(iz x2),(bz (decide (x2 < 3))),bf,(iz x2),(bz (decide (x2 > 8))),bf,(iz x30),(iz x31),(bz b32),v33,v34,v35,v36,v37,v38,v39,v40,(iz x45),(iz x2),bt,v54,v55,(iz x45),(iz (IntKind.wrap .i64 (x45+1))),(iz x125),(iz x2),bt,(iz x125),(iz (IntKind.wrap .i64 (x125+1))),(.lst a0),(iz x45),v193,(.agg [(iz x198),(iz x199)]),(.lst a0),(iz x45),(.agg [(iz x203),(iz x204)]),(.lst a0),(iz x125),v205,(.agg [(iz x210),(iz x211)]),(.lst a0),(iz x125),(.agg [(iz x215),(iz x216)]),bf,(.agg [(iz x236),(iz x237)]),(.agg [(iz x241),(iz x242)]),(bz (xor false ((x236 == x241) && ((x237 == x242) && true)))),bf,(iz x125),(iz x45),(iz (IntKind.wrap .i64 (x45+1))),(bz (x125 == (IntKind.wrap .i64 (x45+1)))),v158,v159,v160,v161,v162,v163,v164,v165,v166,v167,bf,(iz x45),(bz (x45 == 0)),bf,tz,tz,tz,tz,bf,v177,v178,v179,v180,v181,v182,v183,v184,v185,v186,bf,(.agg [(iz x331),(iz x332)]),(.agg [(iz x336),(iz x337)]),(.agg [(iz x341),(iz x342)]),(.agg [(iz x346),(iz x347)]),(bz b348)],h344⟩)))))
 (none))
 (none))
 (k122 (.exit 4) ⟨[(.lst a0),tz,(bz b124),(iz x2),(iz x29),(iz x45),(iz x125),v126,v127,v128,v129,(.lst a0),(iz x2),(iz x2),(bz (decide (x2 < 3))),bf,(iz x2),(bz (decide (x2 > 8))),bf,(iz x30),(iz x31),(bz b32),v33,v34,v35,v36,v37,v38,v39,v40,(iz x45),(iz x2),bt,v54,v55,(iz x45),(iz (IntKind.wrap .i64 (x45+1))),(iz x125),(iz x2),bf,v133,v134,v135,v136,v137,v138,v139,v140,v141,v142,v143,v144,v145,v146,v147,v148,v149,v150,v151,v152,v153,v154,v155,v156,v157,v158,v159,v160,v161,v162,v163,v164,v165,v166,v167,v168,v169,v170,v171,v172,v173,v174,v175,v176,v177,v178,v179,v180,v181,v182,v183,v184,v185,v186,v187,v188,v189,v190,v191,v192],(St.H s121)⟩))
 (none)
def r45X2_0 (C:Cb) (d:Nat) (a0:List AV) (x2 x29 x30 x31:Int) (b32:Bool) (v33 v34 v35 v36 v37 v38 v39 v40:AV) (k42:Ex→St→Ans) (x45:Int) (v54 v55:AV):St→Ans:=fun s349 =>
 cnd ((List.length s349.env) == 100)
 (sames C s349.env 0 [(.lst a0),tz] <|
 C.bool s349.env[2]? fun b350 =>
 sames C s349.env 3 [(iz x2),(iz x29),(iz x45)] <|
 C.int .i64 s349.env[6]? fun x351 =>
 C.any s349.env[7]? fun v352 =>
 C.any s349.env[8]? fun v353 =>
 C.any s349.env[9]? fun v354 =>
 C.any s349.env[10]? fun v355 =>
 sames C s349.env 11 [(.lst a0),(iz x2),(iz x2),(.bool (decide (x2 < 3))),bf,(iz x2),(.bool (decide (x2 > 8))),bf,(iz x30),(iz x31),(.bool b32),v33,v34,v35,v36,v37,v38,v39,v40,(iz x45),(iz x2),bt,v54,v55,(iz x45),(iz (IntKind.wrap .i64 (x45+1)))] <|
 C.int .i64 s349.env[37]? fun x356 =>
 C.int .i64 s349.env[38]? fun x357 =>
 C.bool s349.env[39]? fun b358 =>
 C.any s349.env[40]? fun v359 =>
 C.any s349.env[41]? fun v360 =>
 C.any s349.env[42]? fun v361 =>
 C.any s349.env[43]? fun v362 =>
 C.any s349.env[44]? fun v363 =>
 C.any s349.env[45]? fun v364 =>
 C.any s349.env[46]? fun v365 =>
 C.any s349.env[47]? fun v366 =>
 C.any s349.env[48]? fun v367 =>
 C.any s349.env[49]? fun v368 =>
 C.any s349.env[50]? fun v369 =>
 C.any s349.env[51]? fun v370 =>
 C.any s349.env[52]? fun v371 =>
 C.any s349.env[53]? fun v372 =>
 C.any s349.env[54]? fun v373 =>
 C.any s349.env[55]? fun v374 =>
 C.any s349.env[56]? fun v375 =>
 C.any s349.env[57]? fun v376 =>
 C.any s349.env[58]? fun v377 =>
 C.any s349.env[59]? fun v378 =>
 C.any s349.env[60]? fun v379 =>
 C.any s349.env[61]? fun v380 =>
 C.any s349.env[62]? fun v381 =>
 C.any s349.env[63]? fun v382 =>
 C.any s349.env[64]? fun v383 =>
 C.any s349.env[65]? fun v384 =>
 C.any s349.env[66]? fun v385 =>
 C.any s349.env[67]? fun v386 =>
 C.any s349.env[68]? fun v387 =>
 C.any s349.env[69]? fun v388 =>
 C.any s349.env[70]? fun v389 =>
 C.any s349.env[71]? fun v390 =>
 C.any s349.env[72]? fun v391 =>
 C.any s349.env[73]? fun v392 =>
 C.any s349.env[74]? fun v393 =>
 C.any s349.env[75]? fun v394 =>
 C.any s349.env[76]? fun v395 =>
 C.any s349.env[77]? fun v396 =>
 C.any s349.env[78]? fun v397 =>
 C.any s349.env[79]? fun v398 =>
 C.any s349.env[80]? fun v399 =>
 C.any s349.env[81]? fun v400 =>
 C.any s349.env[82]? fun v401 =>
 C.any s349.env[83]? fun v402 =>
 C.any s349.env[84]? fun v403 =>
 C.any s349.env[85]? fun v404 =>
 C.any s349.env[86]? fun v405 =>
 C.any s349.env[87]? fun v406 =>
 C.any s349.env[88]? fun v407 =>
 C.any s349.env[89]? fun v408 =>
 C.any s349.env[90]? fun v409 =>
 C.any s349.env[91]? fun v410 =>
 C.any s349.env[92]? fun v411 =>
 C.any s349.env[93]? fun v412 =>
 C.any s349.env[94]? fun v413 =>
 C.any s349.env[95]? fun v414 =>
 C.any s349.env[96]? fun v415 =>
 C.any s349.env[97]? fun v416 =>
 C.any s349.env[98]? fun v417 =>
 C.any s349.env[99]? fun v418 =>
 k42 .normal ⟨[(.lst a0),tz,(bz b350),(iz x2),(iz x29),(iz (IntKind.wrap .i64 (x45+1))),(iz x351),v352,v353,v354,v355,(.lst a0),(iz x2),(iz x2),(bz (decide (x2 < 3))),bf,(iz x2),(bz (decide (x2 > 8))),bf,(iz x30),(iz x31),(bz b32),v33,v34,v35,v36,v37,v38,v39,v40,(iz x45),(iz x2),bt,(iz x45),(iz (IntKind.wrap .i64 (x45+1))),(iz x45),(iz (IntKind.wrap .i64 (x45+1))),(iz x356),(iz x357),(bz b358),v359,v360,v361,v362,v363,v364,v365,v366,v367,v368,v369,v370,v371,v372,v373,v374,v375,v376,v377,v378,v379,v380,v381,v382,v383,v384,v385,v386,v387,v388,v389,v390,v391,v392,v393,v394,v395,v396,v397,v398,v399,v400,v401,v402,v403,v404,v405,v406,v407,v408,v409,v410,v411,v412,v413,v414,v415,v416,v417,v418],(St.H s349)⟩)
 (none)
def r45E2 (C:Cb) (d:Nat) (a0:List AV) (x2 x29 x30 x31:Int) (b32:Bool) (v33 v34 v35 v36 v37 v38 v39 v40:AV) (k42:Ex→St→Ans) (x45:Int) (v54 v55:AV):St→Ans:=fun s123 =>
 cnd ((List.length s123.env) == 100)
 (sames C s123.env 0 [(.lst a0),tz] <|
 C.bool s123.env[2]? fun b419 =>
 sames C s123.env 3 [(iz x2),(iz x29),(iz x45)] <|
 C.int .i64 s123.env[6]? fun x420 =>
 C.any s123.env[7]? fun v421 =>
 C.any s123.env[8]? fun v422 =>
 C.any s123.env[9]? fun v423 =>
 C.any s123.env[10]? fun v424 =>
 sames C s123.env 11 [(.lst a0),(iz x2),(iz x2),(.bool (decide (x2 < 3))),bf,(iz x2),(.bool (decide (x2 > 8))),bf,(iz x30),(iz x31),(.bool b32),v33,v34,v35,v36,v37,v38,v39,v40,(iz x45),(iz x2),bt,v54,v55,(iz x45),(iz (IntKind.wrap .i64 (x45+1)))] <|
 C.int .i64 s123.env[37]? fun x425 =>
 C.int .i64 s123.env[38]? fun x426 =>
 C.bool s123.env[39]? fun b427 =>
 C.any s123.env[40]? fun v428 =>
 C.any s123.env[41]? fun v429 =>
 C.any s123.env[42]? fun v430 =>
 C.int .i64 s123.env[43]? fun x431 =>
 C.any s123.env[44]? fun v432 =>
 C.agg 2 s123.env[45]? fun l433 =>
 C.int .i64 l433[0]? fun x434 =>
 C.int .i64 l433[1]? fun x435 =>
 C.any s123.env[46]? fun v436 =>
 C.int .i64 s123.env[47]? fun x437 =>
 C.agg 2 s123.env[48]? fun l438 =>
 C.int .i64 l438[0]? fun x439 =>
 C.int .i64 l438[1]? fun x440 =>
 C.any s123.env[49]? fun v441 =>
 C.int .i64 s123.env[50]? fun x442 =>
 C.any s123.env[51]? fun v443 =>
 C.agg 2 s123.env[52]? fun l444 =>
 C.int .i64 l444[0]? fun x445 =>
 C.int .i64 l444[1]? fun x446 =>
 C.any s123.env[53]? fun v447 =>
 C.int .i64 s123.env[54]? fun x448 =>
 C.agg 2 s123.env[55]? fun l449 =>
 C.int .i64 l449[0]? fun x450 =>
 C.int .i64 l449[1]? fun x451 =>
 C.bool s123.env[56]? fun b452 =>
 C.agg 2 s123.env[57]? fun l453 =>
 C.int .i64 l453[0]? fun x454 =>
 C.int .i64 l453[1]? fun x455 =>
 C.agg 2 s123.env[58]? fun l456 =>
 C.int .i64 l456[0]? fun x457 =>
 C.int .i64 l456[1]? fun x458 =>
 C.bool s123.env[59]? fun b459 =>
 C.any s123.env[60]? fun v460 =>
 C.any s123.env[61]? fun v461 =>
 C.any s123.env[62]? fun v462 =>
 C.any s123.env[63]? fun v463 =>
 C.any s123.env[64]? fun v464 =>
 C.any s123.env[65]? fun v465 =>
 C.any s123.env[66]? fun v466 =>
 C.any s123.env[67]? fun v467 =>
 C.any s123.env[68]? fun v468 =>
 C.any s123.env[69]? fun v469 =>
 C.any s123.env[70]? fun v470 =>
 C.any s123.env[71]? fun v471 =>
 C.any s123.env[72]? fun v472 =>
 C.any s123.env[73]? fun v473 =>
 C.any s123.env[74]? fun v474 =>
 C.any s123.env[75]? fun v475 =>
 C.any s123.env[76]? fun v476 =>
 C.any s123.env[77]? fun v477 =>
 C.any s123.env[78]? fun v478 =>
 C.any s123.env[79]? fun v479 =>
 C.any s123.env[80]? fun v480 =>
 C.any s123.env[81]? fun v481 =>
 C.any s123.env[82]? fun v482 =>
 C.any s123.env[83]? fun v483 =>
 C.any s123.env[84]? fun v484 =>
 C.any s123.env[85]? fun v485 =>
 C.any s123.env[86]? fun v486 =>
 C.any s123.env[87]? fun v487 =>
 C.any s123.env[88]? fun v488 =>
 C.any s123.env[89]? fun v489 =>
 C.any s123.env[90]? fun v490 =>
 C.any s123.env[91]? fun v491 =>
 C.any s123.env[92]? fun v492 =>
 C.any s123.env[93]? fun v493 =>
 C.any s123.env[94]? fun v494 =>
 C.any s123.env[95]? fun v495 =>
 C.any s123.env[96]? fun v496 =>
 C.any s123.env[97]? fun v497 =>
 C.any s123.env[98]? fun v498 =>
 C.any s123.env[99]? fun v499 =>
 k42 .ret ⟨[(.lst a0),tz,(bz b419),(iz x2),(iz x29),(iz x45),(iz x420),v421,v422,v423,v424,(.lst a0),(iz x2),(iz x2),(bz (decide (x2 < 3))),bf,(iz x2),(bz (decide (x2 > 8))),bf,(iz x30),(iz x31),(bz b32),v33,v34,v35,v36,v37,v38,v39,v40,(iz x45),(iz x2),bt,v54,v55,(iz x45),(iz (IntKind.wrap .i64 (x45+1))),(iz x425),(iz x426),(bz b427),v428,v429,v430,(iz x431),v432,(.agg [(iz x434),(iz x435)]),v436,(iz x437),(.agg [(iz x439),(iz x440)]),v441,(iz x442),v443,(.agg [(iz x445),(iz x446)]),v447,(iz x448),(.agg [(iz x450),(iz x451)]),(bz b452),(.agg [(iz x454),(iz x455)]),(.agg [(iz x457),(iz x458)]),(bz b459),v460,v461,v462,v463,v464,v465,v466,v467,v468,v469,v470,v471,v472,v473,v474,v475,v476,v477,v478,v479,v480,v481,v482,v483,v484,v485,v486,v487,v488,v489,v490,v491,v492,v493,v494,v495,v496,v497,v498,v499],(St.H s123)⟩)
 (none)
def r45R1 (C:Cb) (d:Nat) (a0:List AV) (x2 x29 x30 x31:Int) (b32:Bool) (v33 v34 v35 v36 v37 v38 v39 v40:AV):St→(Ex→St→Ans)→Ans:=fun s41 k42 =>
 cnd ((List.length s41.env) == 100)
 (sames C s41.env 0 [(.lst a0),tz] <|
 C.bool s41.env[2]? fun b44 =>
 sames C s41.env 3 [(iz x2),(iz x29)] <|
 C.int .i64 s41.env[5]? fun x45 =>
 C.any s41.env[6]? fun v46 =>
 C.any s41.env[7]? fun v47 =>
 C.any s41.env[8]? fun v48 =>
 C.any s41.env[9]? fun v49 =>
 C.any s41.env[10]? fun v50 =>
 sames C s41.env 11 [(.lst a0),(iz x2),(iz x2),(.bool (decide (x2 < 3))),bf,(iz x2),(.bool (decide (x2 > 8))),bf,(iz x30),(iz x31),(.bool b32),v33,v34,v35,v36,v37,v38,v39,v40] <|
 anys C s41.env 30 3 <|
 C.any s41.env[33]? fun v54 =>
 C.any s41.env[34]? fun v55 =>
 C.any s41.env[35]? fun v56 =>
 C.any s41.env[36]? fun v57 =>
 C.any s41.env[37]? fun v58 =>
 C.any s41.env[38]? fun v59 =>
 C.any s41.env[39]? fun v60 =>
 C.any s41.env[40]? fun v61 =>
 C.any s41.env[41]? fun v62 =>
 C.any s41.env[42]? fun v63 =>
 C.any s41.env[43]? fun v64 =>
 C.any s41.env[44]? fun v65 =>
 C.any s41.env[45]? fun v66 =>
 C.any s41.env[46]? fun v67 =>
 C.any s41.env[47]? fun v68 =>
 C.any s41.env[48]? fun v69 =>
 C.any s41.env[49]? fun v70 =>
 C.any s41.env[50]? fun v71 =>
 C.any s41.env[51]? fun v72 =>
 C.any s41.env[52]? fun v73 =>
 C.any s41.env[53]? fun v74 =>
 C.any s41.env[54]? fun v75 =>
 C.any s41.env[55]? fun v76 =>
 C.any s41.env[56]? fun v77 =>
 C.any s41.env[57]? fun v78 =>
 C.any s41.env[58]? fun v79 =>
 C.any s41.env[59]? fun v80 =>
 C.any s41.env[60]? fun v81 =>
 C.any s41.env[61]? fun v82 =>
 C.any s41.env[62]? fun v83 =>
 C.any s41.env[63]? fun v84 =>
 C.any s41.env[64]? fun v85 =>
 C.any s41.env[65]? fun v86 =>
 C.any s41.env[66]? fun v87 =>
 C.any s41.env[67]? fun v88 =>
 C.any s41.env[68]? fun v89 =>
 C.any s41.env[69]? fun v90 =>
 C.any s41.env[70]? fun v91 =>
 C.any s41.env[71]? fun v92 =>
 C.any s41.env[72]? fun v93 =>
 C.any s41.env[73]? fun v94 =>
 C.any s41.env[74]? fun v95 =>
 C.any s41.env[75]? fun v96 =>
 C.any s41.env[76]? fun v97 =>
 C.any s41.env[77]? fun v98 =>
 C.any s41.env[78]? fun v99 =>
 C.any s41.env[79]? fun v100 =>
 C.any s41.env[80]? fun v101 =>
 C.any s41.env[81]? fun v102 =>
 C.any s41.env[82]? fun v103 =>
 C.any s41.env[83]? fun v104 =>
 C.any s41.env[84]? fun v105 =>
 C.any s41.env[85]? fun v106 =>
 C.any s41.env[86]? fun v107 =>
 C.any s41.env[87]? fun v108 =>
 C.any s41.env[88]? fun v109 =>
 C.any s41.env[89]? fun v110 =>
 C.any s41.env[90]? fun v111 =>
 C.any s41.env[91]? fun v112 =>
 C.any s41.env[92]? fun v113 =>
 C.any s41.env[93]? fun v114 =>
 C.any s41.env[94]? fun v115 =>
 C.any s41.env[95]? fun v116 =>
 C.any s41.env[96]? fun v117 =>
 C.any s41.env[97]? fun v118 =>
 C.any s41.env[98]? fun v119 =>
 C.any s41.env[99]? fun v120 =>
 cnd (decide (x45 < x2))
 (C.iter (r45R2 C d a0 x2 x29 x30 x31 b32 v33 v34 v35 v36 v37 v38 v39 v40 k42 x45 v54 v55) 10000000000000000000 ⟨[(.lst a0),tz,(bz b44),(iz x2),(iz x29),(iz x45),(iz (IntKind.wrap .i64 (x45+1))),v47,v48,v49,v50,(.lst a0),(iz x2),(iz x2),(bz (decide (x2 < 3))),bf,(iz x2),(bz (decide (x2 > 8))),bf,(iz x30),(iz x31),(bz b32),v33,v34,v35,v36,v37,v38,v39,v40,(iz x45),(iz x2),bt,v54,v55,(iz x45),(iz (IntKind.wrap .i64 (x45+1))),v58,v59,v60,v61,v62,v63,v64,v65,v66,v67,v68,v69,v70,v71,v72,v73,v74,v75,v76,v77,v78,v79,v80,v81,v82,v83,v84,v85,v86,v87,v88,v89,v90,v91,v92,v93,v94,v95,v96,v97,v98,v99,v100,v101,v102,v103,v104,v105,v106,v107,v108,v109,v110,v111,v112,v113,v114,v115,v116,v117,v118,v119,v120],(St.H s41)⟩ [4] [r45X2_0 C d a0 x2 x29 x30 x31 b32 v33 v34 v35 v36 v37 v38 v39 v40 k42 x45 v54 v55] (r45E2 C d a0 x2 x29 x30 x31 b32 v33 v34 v35 v36 v37 v38 v39 v40 k42 x45 v54 v55))
 (k42 (.exit 2) ⟨[(.lst a0),tz,(bz b44),(iz x2),(iz x29),(iz x45),v46,v47,v48,v49,v50,(.lst a0),(iz x2),(iz x2),(bz (decide (x2 < 3))),bf,(iz x2),(bz (decide (x2 > 8))),bf,(iz x30),(iz x31),(bz b32),v33,v34,v35,v36,v37,v38,v39,v40,(iz x45),(iz x2),bf,v54,v55,v56,v57,v58,v59,v60,v61,v62,v63,v64,v65,v66,v67,v68,v69,v70,v71,v72,v73,v74,v75,v76,v77,v78,v79,v80,v81,v82,v83,v84,v85,v86,v87,v88,v89,v90,v91,v92,v93,v94,v95,v96,v97,v98,v99,v100,v101,v102,v103,v104,v105,v106,v107,v108,v109,v110,v111,v112,v113,v114,v115,v116,v117,v118,v119,v120],(St.H s41)⟩))
 (none)
def r45X1_0 (C:Cb) (d:Nat) (a0:List AV) (x2 x29 x30 x31:Int) (b32:Bool) (v33 v34 v35 v36 v37 v38 v39 v40:AV):St→Ans:=fun s500 =>
 cnd ((List.length s500.env) == 100)
 (sames C s500.env 0 [(.lst a0),tz] <|
 C.bool s500.env[2]? fun b501 =>
 sames C s500.env 3 [(iz x2),(iz x29)] <|
 C.int .i64 s500.env[5]? fun x502 =>
 anys C s500.env 6 5 <|
 sames C s500.env 11 [(.lst a0),(iz x2),(iz x2),(.bool (decide (x2 < 3))),bf,(iz x2),(.bool (decide (x2 > 8))),bf,(iz x30),(iz x31),(.bool b32),v33,v34,v35,v36,v37,v38,v39,v40] <|
 C.int .i64 s500.env[30]? fun x508 =>
 C.int .i64 s500.env[31]? fun x509 =>
 C.bool s500.env[32]? fun b510 =>
 anys C s500.env 33 67 <|
 C.fin (St.H s500) bt)
 (none)
def r45E1 (C:Cb) (d:Nat) (a0:List AV) (x2 x29 x30 x31:Int) (b32:Bool) (v33 v34 v35 v36 v37 v38 v39 v40:AV):St→Ans:=fun s43 =>
 cnd ((List.length s43.env) == 100)
 (sames C s43.env 0 [(.lst a0),tz] <|
 C.bool s43.env[2]? fun b578 =>
 sames C s43.env 3 [(iz x2),(iz x29)] <|
 C.int .i64 s43.env[5]? fun x579 =>
 C.int .i64 s43.env[6]? fun x580 =>
 anys C s43.env 7 4 <|
 sames C s43.env 11 [(.lst a0),(iz x2),(iz x2),(.bool (decide (x2 < 3))),bf,(iz x2),(.bool (decide (x2 > 8))),bf,(iz x30),(iz x31),(.bool b32),v33,v34,v35,v36,v37,v38,v39,v40] <|
 C.int .i64 s43.env[30]? fun x585 =>
 C.int .i64 s43.env[31]? fun x586 =>
 C.bool s43.env[32]? fun b587 =>
 anys C s43.env 33 2 <|
 C.int .i64 s43.env[35]? fun x590 =>
 C.int .i64 s43.env[36]? fun x591 =>
 C.int .i64 s43.env[37]? fun x592 =>
 C.int .i64 s43.env[38]? fun x593 =>
 C.bool s43.env[39]? fun b594 =>
 anys C s43.env 40 3 <|
 C.int .i64 s43.env[43]? fun x598 =>
 C.any s43.env[44]? fun v599 =>
 C.agg 2 s43.env[45]? fun l600 =>
 C.int .i64 l600[0]? fun x601 =>
 C.int .i64 l600[1]? fun x602 =>
 C.any s43.env[46]? fun v603 =>
 C.int .i64 s43.env[47]? fun x604 =>
 C.agg 2 s43.env[48]? fun l605 =>
 C.int .i64 l605[0]? fun x606 =>
 C.int .i64 l605[1]? fun x607 =>
 C.any s43.env[49]? fun v608 =>
 C.int .i64 s43.env[50]? fun x609 =>
 C.any s43.env[51]? fun v610 =>
 C.agg 2 s43.env[52]? fun l611 =>
 C.int .i64 l611[0]? fun x612 =>
 C.int .i64 l611[1]? fun x613 =>
 C.any s43.env[53]? fun v614 =>
 C.int .i64 s43.env[54]? fun x615 =>
 C.agg 2 s43.env[55]? fun l616 =>
 C.int .i64 l616[0]? fun x617 =>
 C.int .i64 l616[1]? fun x618 =>
 C.bool s43.env[56]? fun b619 =>
 C.agg 2 s43.env[57]? fun l620 =>
 C.int .i64 l620[0]? fun x621 =>
 C.int .i64 l620[1]? fun x622 =>
 C.agg 2 s43.env[58]? fun l623 =>
 C.int .i64 l623[0]? fun x624 =>
 C.int .i64 l623[1]? fun x625 =>
 C.bool s43.env[59]? fun b626 =>
 anys C s43.env 60 40 <|
 C.fin (St.H s43) (.bool b578))
 (none)
def r45R0 (C:Cb) (d:Nat) (a0:List AV) (x2:Int):St→(Ex→St→Ans)→Ans:=fun s3 k4 =>
 cnd ((List.length s3.env) == 100)
 (sames C s3.env 0 [(.lst a0),tz] <|
 C.bool s3.env[2]? fun b6 =>
 C.same s3.env[3]? (iz x2) <|
 C.int .i64 s3.env[4]? fun x7 =>
 sames C s3.env 5 [tz,tz,tz,tz,tz,tz,(.lst a0),(iz x2),(iz x2),(.bool (decide (x2 < 3))),bf,(iz x2),(.bool (decide (x2 > 8))),bf] <|
 anys C s3.env 19 3 <|
 C.any s3.env[22]? fun v11 =>
 C.any s3.env[23]? fun v12 =>
 C.any s3.env[24]? fun v13 =>
 C.any s3.env[25]? fun v14 =>
 C.any s3.env[26]? fun v15 =>
 C.any s3.env[27]? fun v16 =>
 C.any s3.env[28]? fun v17 =>
 C.any s3.env[29]? fun v18 =>
 sames C s3.env 30 [tz,tz,tz,tz,tz,tz,tz,tz,tz,tz,tz,tz,tz,tz,tz,tz,tz,tz,tz,tz,tz,tz,tz,tz,tz,tz,tz,tz,tz,tz,tz,tz,tz,tz,tz,tz,tz,tz,tz,tz,tz,tz,tz,tz,tz,tz,tz,tz,tz,tz,tz,tz,tz,tz,tz,tz,tz,tz,tz,tz,tz,tz,tz,tz,tz,tz,tz,tz,tz,tz] <|
 cnd (decide (x7 < x2))
 (C.hop (St.H s3) (.ixAS .any 2 (.v (.lst a0)) (.v (iz x7))) fun v19 h20 =>
 C.hop h20 (.load true 2 (.v v19)) fun v21 h22 =>
 C.agg 2 (some v21) fun l23 =>
 C.int .i64 l23[0]? fun x24 =>
 C.int .i64 l23[1]? fun x25 =>
 C.bool (pcall M d 48 [(.agg [(iz x24),(iz x25)])]) fun b26 =>
 cnd (!b26)
 (k4 .ret ⟨[(.lst a0),tz,bf,(iz x2),(iz x7),tz,tz,tz,tz,tz,tz,(.lst a0),(iz x2),(iz x2),(bz (decide (x2 < 3))),bf,(iz x2),(bz (decide (x2 > 8))),bf,(iz x7),(iz x2),bt,v11,v12,(.lst a0),(iz x7),v19,(.agg [(iz x24),(iz x25)]),(bz b26),bt,tz,tz,tz,tz,tz,tz,tz,tz,tz,tz,tz,tz,tz,tz,tz,tz,tz,tz,tz,tz,tz,tz,tz,tz,tz,tz,tz,tz,tz,tz,tz,tz,tz,tz,tz,tz,tz,tz,tz,tz,tz,tz,tz,tz,tz,tz,tz,tz,tz,tz,tz,tz,tz,tz,tz,tz,tz,tz,tz,tz,tz,tz,tz,tz,tz,tz,tz,tz,tz,tz],h22⟩)
 (k4 .normal ⟨[(.lst a0),tz,(bz b6),(iz x2),(iz (IntKind.wrap .i64 (x7+1))),tz,tz,tz,tz,tz,tz,(.lst a0),(iz x2),(iz x2),(bz (decide (x2 < 3))),bf,(iz x2),(bz (decide (x2 > 8))),bf,(iz x7),(iz x2),bt,(iz x7),(iz (IntKind.wrap .i64 (x7+1))),(.lst a0),(iz x7),v19,(.agg [(iz x24),(iz x25)]),(bz b26),bf,tz,tz,tz,tz,tz,tz,tz,tz,tz,tz,tz,tz,tz,tz,tz,tz,tz,tz,tz,tz,tz,tz,tz,tz,tz,tz,tz,tz,tz,tz,tz,tz,tz,tz,tz,tz,tz,tz,tz,tz,tz,tz,tz,tz,tz,tz,tz,tz,tz,tz,tz,tz,tz,tz,tz,tz,tz,tz,tz,tz,tz,tz,tz,tz,tz,tz,tz,tz,tz,tz],h22⟩))
 (k4 (.exit 0) ⟨[(.lst a0),tz,(bz b6),(iz x2),(iz x7),tz,tz,tz,tz,tz,tz,(.lst a0),(iz x2),(iz x2),(bz (decide (x2 < 3))),bf,(iz x2),(bz (decide (x2 > 8))),bf,(iz x7),(iz x2),bf,v11,v12,v13,v14,v15,v16,v17,v18,tz,tz,tz,tz,tz,tz,tz,tz,tz,tz,tz,tz,tz,tz,tz,tz,tz,tz,tz,tz,tz,tz,tz,tz,tz,tz,tz,tz,tz,tz,tz,tz,tz,tz,tz,tz,tz,tz,tz,tz,tz,tz,tz,tz,tz,tz,tz,tz,tz,tz,tz,tz,tz,tz,tz,tz,tz,tz,tz,tz,tz,tz,tz,tz,tz,tz,tz,tz,tz,tz],(St.H s3)⟩))
 (none)
def r45X0_0 (C:Cb) (d:Nat) (a0:List AV) (x2:Int):St→Ans:=fun s27 =>
 cnd ((List.length s27.env) == 100)
 (sames C s27.env 0 [(.lst a0),tz] <|
 C.bool s27.env[2]? fun b28 =>
 C.same s27.env[3]? (iz x2) <|
 C.int .i64 s27.env[4]? fun x29 =>
 sames C s27.env 5 [tz,tz,tz,tz,tz,tz,(.lst a0),(iz x2),(iz x2),(.bool (decide (x2 < 3))),bf,(iz x2),(.bool (decide (x2 > 8))),bf] <|
 C.int .i64 s27.env[19]? fun x30 =>
 C.int .i64 s27.env[20]? fun x31 =>
 C.bool s27.env[21]? fun b32 =>
 C.any s27.env[22]? fun v33 =>
 C.any s27.env[23]? fun v34 =>
 C.any s27.env[24]? fun v35 =>
 C.any s27.env[25]? fun v36 =>
 C.any s27.env[26]? fun v37 =>
 C.any s27.env[27]? fun v38 =>
 C.any s27.env[28]? fun v39 =>
 C.any s27.env[29]? fun v40 =>
 sames C s27.env 30 [tz,tz,tz,tz,tz,tz,tz,tz,tz,tz,tz,tz,tz,tz,tz,tz,tz,tz,tz,tz,tz,tz,tz,tz,tz,tz,tz,tz,tz,tz,tz,tz,tz,tz,tz,tz,tz,tz,tz,tz,tz,tz,tz,tz,tz,tz,tz,tz,tz,tz,tz,tz,tz,tz,tz,tz,tz,tz,tz,tz,tz,tz,tz,tz,tz,tz,tz,tz,tz,tz] <|
 C.iter (r45R1 C d a0 x2 x29 x30 x31 b32 v33 v34 v35 v36 v37 v38 v39 v40) 10000000000000000000 ⟨[(.lst a0),tz,(bz b28),(iz x2),(iz x29),(iz 0),tz,tz,tz,tz,tz,(.lst a0),(iz x2),(iz x2),(bz (decide (x2 < 3))),bf,(iz x2),(bz (decide (x2 > 8))),bf,(iz x30),(iz x31),(bz b32),v33,v34,v35,v36,v37,v38,v39,v40,tz,tz,tz,tz,tz,tz,tz,tz,tz,tz,tz,tz,tz,tz,tz,tz,tz,tz,tz,tz,tz,tz,tz,tz,tz,tz,tz,tz,tz,tz,tz,tz,tz,tz,tz,tz,tz,tz,tz,tz,tz,tz,tz,tz,tz,tz,tz,tz,tz,tz,tz,tz,tz,tz,tz,tz,tz,tz,tz,tz,tz,tz,tz,tz,tz,tz,tz,tz,tz,tz],(St.H s27)⟩ [2] [r45X1_0 C d a0 x2 x29 x30 x31 b32 v33 v34 v35 v36 v37 v38 v39 v40] (r45E1 C d a0 x2 x29 x30 x31 b32 v33 v34 v35 v36 v37 v38 v39 v40))
 (none)
def r45E0 (C:Cb) (d:Nat) (a0:List AV) (x2:Int):St→Ans:=fun s5 =>
 cnd ((List.length s5.env) == 100)
 (sames C s5.env 0 [(.lst a0),tz] <|
 C.bool s5.env[2]? fun b667 =>
 C.same s5.env[3]? (iz x2) <|
 C.int .i64 s5.env[4]? fun x668 =>
 sames C s5.env 5 [tz,tz,tz,tz,tz,tz,(.lst a0),(iz x2),(iz x2),(.bool (decide (x2 < 3))),bf,(iz x2),(.bool (decide (x2 > 8))),bf] <|
 C.int .i64 s5.env[19]? fun x669 =>
 C.int .i64 s5.env[20]? fun x670 =>
 C.bool s5.env[21]? fun b671 =>
 anys C s5.env 22 3 <|
 C.int .i64 s5.env[25]? fun x675 =>
 C.any s5.env[26]? fun v676 =>
 C.agg 2 s5.env[27]? fun l677 =>
 C.int .i64 l677[0]? fun x678 =>
 C.int .i64 l677[1]? fun x679 =>
 C.bool s5.env[28]? fun b680 =>
 C.bool s5.env[29]? fun b681 =>
 sames C s5.env 30 [tz,tz,tz,tz,tz,tz,tz,tz,tz,tz,tz,tz,tz,tz,tz,tz,tz,tz,tz,tz,tz,tz,tz,tz,tz,tz,tz,tz,tz,tz,tz,tz,tz,tz,tz,tz,tz,tz,tz,tz,tz,tz,tz,tz,tz,tz,tz,tz,tz,tz,tz,tz,tz,tz,tz,tz,tz,tz,tz,tz,tz,tz,tz,tz,tz,tz,tz,tz,tz,tz] <|
 C.fin (St.H s5) (.bool b667))
 (none)
theorem r45 (C:Cb) (d:Nat) (a0:List AV):xcall C M unr d 45 [(.lst a0)] =
 C.hop [] (.bk .lenV [(.v (.lst a0))]) fun v0 h1 =>
 C.int .i64 (some v0) fun x2 =>
 cnd (decide (x2 < 3))
 (C.fin h1 bf)
 (cnd (decide (x2 > 8))
 (C.fin h1 bf)
 (C.iter (r45R0 C d a0 x2) 10000000000000000000 ⟨[(.lst a0),tz,bf,(iz x2),(iz 0),tz,tz,tz,tz,tz,tz,(.lst a0),(iz x2),(iz x2),(bz (decide (x2 < 3))),bf,(iz x2),(bz (decide (x2 > 8))),bf,tz,tz,tz,tz,tz,tz,tz,tz,tz,tz,tz,tz,tz,tz,tz,tz,tz,tz,tz,tz,tz,tz,tz,tz,tz,tz,tz,tz,tz,tz,tz,tz,tz,tz,tz,tz,tz,tz,tz,tz,tz,tz,tz,tz,tz,tz,tz,tz,tz,tz,tz,tz,tz,tz,tz,tz,tz,tz,tz,tz,tz,tz,tz,tz,tz,tz,tz,tz,tz,tz,tz,tz,tz,tz,tz,tz,tz,tz,tz,tz,tz],h1⟩ [0] [r45X0_0 C d a0 x2] (r45E0 C d a0 x2))):=by kernel_rfl
theorem r47 (C:Cb) (d:Nat) (a0:List AV):xcall C M unr d 47 [(.lst a0)] =
 C.bool (pcall M d 52 [(.lst a0)]) fun b0 =>
 cnd b0
 (C.bool (pcall M d 53 [(.lst a0),(.fn 54 [] [])]) fun b1 =>
 some (.bool (!b1)))
 (some bf):=by kernel_rfl
theorem r49 (C:Cb) (d:Nat) (a0:List AV) (a1:Int):xcall C M unr d 49 [(.lst a0),(iz a1)] =
 cnd (decide ((((List.length a0):Nat):Int)=0))
 (none)
 (cnd (decide ((0:Int)≤(Int.tmod (IntKind.wrap .i64 (a1+1)) (((List.length a0):Nat):Int))))
 (C.agg 2 a0[(Int.toNat (Int.tmod (IntKind.wrap .i64 (a1+1)) (((List.length a0):Nat):Int)))]? fun l0 =>
 C.int .i64 l0[0]? fun x1 =>
 C.int .i64 l0[1]? fun x2 =>
 some (.agg [(iz x1),(iz x2)]))
 (none)):=by kernel_rfl
def r52R1 (C:Cb) (d:Nat) (a0:List AV) (b0:Bool) (k2:Ex→St→Ans) (x7:Int) (v31:AV):St→(Ex→St→Ans)→Ans:=fun s32 k33 =>
 cnd ((List.length s32.env) == 44)
 (sames C s32.env 0 [(.lst a0),tz] <|
 C.bool s32.env[2]? fun b35 =>
 sames C s32.env 3 [(iz (((List.length a0):Nat):Int)),(iz x7)] <|
 C.any s32.env[5]? fun v36 =>
 sames C s32.env 6 [(.lst a0),(iz (((List.length a0):Nat):Int)),(iz (((List.length a0):Nat):Int)),(.bool (decide ((((List.length a0):Nat):Int) < 3))),bf,(iz (((List.length a0):Nat):Int)),(.bool (decide ((((List.length a0):Nat):Int) > 8))),(.bool (decide ((((List.length a0):Nat):Int) > 8))),bf,(.lst a0),(.bool b0),bf,(iz (((List.length a0):Nat):Int)),(iz x7),bt,(iz x7),(iz x7)] <|
 C.int .i64 s32.env[23]? fun x37 =>
 C.any s32.env[24]? fun v38 =>
 C.any s32.env[25]? fun v39 =>
 C.any s32.env[26]? fun v40 =>
 C.any s32.env[27]? fun v41 =>
 C.any s32.env[28]? fun v42 =>
 C.any s32.env[29]? fun v43 =>
 C.any s32.env[30]? fun v44 =>
 C.any s32.env[31]? fun v45 =>
 C.any s32.env[32]? fun v46 =>
 C.any s32.env[33]? fun v47 =>
 C.any s32.env[34]? fun v48 =>
 C.any s32.env[35]? fun v49 =>
 C.any s32.env[36]? fun v50 =>
 C.any s32.env[37]? fun v51 =>
 C.any s32.env[38]? fun v52 =>
 C.any s32.env[39]? fun v53 =>
 C.any s32.env[40]? fun v54 =>
 C.any s32.env[41]? fun v55 =>
 C.any s32.env[42]? fun v56 =>
 C.same s32.env[43]? v31 <|
 C.sameH (St.H s32) [] <|
 cnd (decide (x37 < x7))
 (cnd (decide ((0:Int)≤x7))
 (C.agg 2 a0[(Int.toNat x7)]? fun l57 =>
 C.int .i64 l57[0]? fun x58 =>
 C.int .i64 l57[1]? fun x59 =>
 cnd (decide ((0:Int)≤x37))
 (C.agg 2 a0[(Int.toNat x37)]? fun l60 =>
 C.int .i64 l60[0]? fun x61 =>
 C.int .i64 l60[1]? fun x62 =>
 cnd (xor false ((x58 == x61) && ((x59 == x62) && true)))
 (k33 .ret ⟨[(.lst a0),tz,bf,(iz (((List.length a0):Nat):Int)),(iz x7),(iz x37),(.lst a0),(iz (((List.length a0):Nat):Int)),(iz (((List.length a0):Nat):Int)),(.bool (decide ((((List.length a0):Nat):Int) < 3))),bf,(iz (((List.length a0):Nat):Int)),(.bool (decide ((((List.length a0):Nat):Int) > 8))),(.bool (decide ((((List.length a0):Nat):Int) > 8))),bf,(.lst a0),(.bool b0),bf,(iz (((List.length a0):Nat):Int)),(iz x7),bt,(iz x7),(iz x7),(iz x37),bt,(iz x37),(.lst a0),(iz x7),(.fptr (.agg [(iz x58),(iz x59)]) 0),(.agg [(iz x58),(iz x59)]),(.lst a0),(iz x37),(.fptr (.agg [(iz x61),(iz x62)]) 0),(.agg [(iz x61),(iz x62)]),(.bool (xor false ((x58 == x61) && ((x59 == x62) && true)))),bt,tz,tz,tz,tz,tz,bt,v56,v31],[]⟩)
 (C.bool (pcall M d 58 [(.lst a0),(iz x37),(iz x7)]) fun b63 =>
 cnd (!b63)
 (k33 .ret ⟨[(.lst a0),tz,bf,(iz (((List.length a0):Nat):Int)),(iz x7),(iz x37),(.lst a0),(iz (((List.length a0):Nat):Int)),(iz (((List.length a0):Nat):Int)),(.bool (decide ((((List.length a0):Nat):Int) < 3))),bf,(iz (((List.length a0):Nat):Int)),(.bool (decide ((((List.length a0):Nat):Int) > 8))),(.bool (decide ((((List.length a0):Nat):Int) > 8))),bf,(.lst a0),(.bool b0),bf,(iz (((List.length a0):Nat):Int)),(iz x7),bt,(iz x7),(iz x7),(iz x37),bt,(iz x37),(.lst a0),(iz x7),(.fptr (.agg [(iz x58),(iz x59)]) 0),(.agg [(iz x58),(iz x59)]),(.lst a0),(iz x37),(.fptr (.agg [(iz x61),(iz x62)]) 0),(.agg [(iz x61),(iz x62)]),(.bool (xor false ((x58 == x61) && ((x59 == x62) && true)))),bf,(.lst a0),(iz x37),(iz x7),(.bool b63),(.bool (!b63)),bt,v56,v31],[]⟩)
 (k33 .normal ⟨[(.lst a0),tz,(.bool b35),(iz (((List.length a0):Nat):Int)),(iz x7),(iz x37),(.lst a0),(iz (((List.length a0):Nat):Int)),(iz (((List.length a0):Nat):Int)),(.bool (decide ((((List.length a0):Nat):Int) < 3))),bf,(iz (((List.length a0):Nat):Int)),(.bool (decide ((((List.length a0):Nat):Int) > 8))),(.bool (decide ((((List.length a0):Nat):Int) > 8))),bf,(.lst a0),(.bool b0),bf,(iz (((List.length a0):Nat):Int)),(iz x7),bt,(iz x7),(iz x7),(iz (IntKind.wrap .i64 (x37+1))),bt,(iz x37),(.lst a0),(iz x7),(.fptr (.agg [(iz x58),(iz x59)]) 0),(.agg [(iz x58),(iz x59)]),(.lst a0),(iz x37),(.fptr (.agg [(iz x61),(iz x62)]) 0),(.agg [(iz x61),(iz x62)]),(.bool (xor false ((x58 == x61) && ((x59 == x62) && true)))),bf,(.lst a0),(iz x37),(iz x7),(.bool b63),(.bool (!b63)),bf,(iz (IntKind.wrap .i64 (x37+1))),v31],[]⟩)))
 (none))
 (none))
 (k33 (.exit 2) ⟨[(.lst a0),tz,(.bool b35),(iz (((List.length a0):Nat):Int)),(iz x7),v36,(.lst a0),(iz (((List.length a0):Nat):Int)),(iz (((List.length a0):Nat):Int)),(.bool (decide ((((List.length a0):Nat):Int) < 3))),bf,(iz (((List.length a0):Nat):Int)),(.bool (decide ((((List.length a0):Nat):Int) > 8))),(.bool (decide ((((List.length a0):Nat):Int) > 8))),bf,(.lst a0),(.bool b0),bf,(iz (((List.length a0):Nat):Int)),(iz x7),bt,(iz x7),(iz x7),(iz x37),bf,v39,v40,v41,v42,v43,v44,v45,v46,v47,v48,v49,v50,v51,v52,v53,v54,v55,v56,v31],[]⟩))
 (none)
def r52X1_0 (C:Cb) (d:Nat) (a0:List AV) (b0:Bool) (k2:Ex→St→Ans) (x7:Int) (v31:AV):St→Ans:=fun s64 =>
 cnd ((List.length s64.env) == 44)
 (sames C s64.env 0 [(.lst a0),tz] <|
 C.bool s64.env[2]? fun b65 =>
 sames C s64.env 3 [(iz (((List.length a0):Nat):Int)),(iz x7)] <|
 C.any s64.env[5]? fun v66 =>
 sames C s64.env 6 [(.lst a0),(iz (((List.length a0):Nat):Int)),(iz (((List.length a0):Nat):Int)),(.bool (decide ((((List.length a0):Nat):Int) < 3))),bf,(iz (((List.length a0):Nat):Int)),(.bool (decide ((((List.length a0):Nat):Int) > 8))),(.bool (decide ((((List.length a0):Nat):Int) > 8))),bf,(.lst a0),(.bool b0),bf,(iz (((List.length a0):Nat):Int)),(iz x7),bt,(iz x7),(iz x7)] <|
 C.int .i64 s64.env[23]? fun x67 =>
 C.bool s64.env[24]? fun b68 =>
 C.any s64.env[25]? fun v69 =>
 C.any s64.env[26]? fun v70 =>
 C.any s64.env[27]? fun v71 =>
 C.any s64.env[28]? fun v72 =>
 C.any s64.env[29]? fun v73 =>
 C.any s64.env[30]? fun v74 =>
 C.any s64.env[31]? fun v75 =>
 C.any s64.env[32]? fun v76 =>
 C.any s64.env[33]? fun v77 =>
 C.any s64.env[34]? fun v78 =>
 C.any s64.env[35]? fun v79 =>
 C.any s64.env[36]? fun v80 =>
 C.any s64.env[37]? fun v81 =>
 C.any s64.env[38]? fun v82 =>
 C.any s64.env[39]? fun v83 =>
 C.any s64.env[40]? fun v84 =>
 C.any s64.env[41]? fun v85 =>
 C.any s64.env[42]? fun v86 =>
 C.same s64.env[43]? v31 <|
 C.sameH (St.H s64) [] <|
 k2 .normal ⟨[(.lst a0),tz,(.bool b65),(iz (((List.length a0):Nat):Int)),(iz x7),v66,(.lst a0),(iz (((List.length a0):Nat):Int)),(iz (((List.length a0):Nat):Int)),(.bool (decide ((((List.length a0):Nat):Int) < 3))),bf,(iz (((List.length a0):Nat):Int)),(.bool (decide ((((List.length a0):Nat):Int) > 8))),(.bool (decide ((((List.length a0):Nat):Int) > 8))),bf,(.lst a0),(.bool b0),bf,(iz (((List.length a0):Nat):Int)),(iz (IntKind.wrap .i64 (x7+1))),bt,(iz x7),(iz x7),(iz x67),(.bool b68),v69,v70,v71,v72,v73,v74,v75,v76,v77,v78,v79,v80,v81,v82,v83,v84,v85,v86,(iz (IntKind.wrap .i64 (x7+1)))],[]⟩)
 (none)
def r52E1 (C:Cb) (d:Nat) (a0:List AV) (b0:Bool) (k2:Ex→St→Ans) (x7:Int) (v31:AV):St→Ans:=fun s34 =>
 cnd ((List.length s34.env) == 44)
 (sames C s34.env 0 [(.lst a0),tz] <|
 C.bool s34.env[2]? fun b87 =>
 sames C s34.env 3 [(iz (((List.length a0):Nat):Int)),(iz x7)] <|
 C.int .i64 s34.env[5]? fun x88 =>
 sames C s34.env 6 [(.lst a0),(iz (((List.length a0):Nat):Int)),(iz (((List.length a0):Nat):Int)),(.bool (decide ((((List.length a0):Nat):Int) < 3))),bf,(iz (((List.length a0):Nat):Int)),(.bool (decide ((((List.length a0):Nat):Int) > 8))),(.bool (decide ((((List.length a0):Nat):Int) > 8))),bf,(.lst a0),(.bool b0),bf,(iz (((List.length a0):Nat):Int)),(iz x7),bt,(iz x7),(iz x7)] <|
 C.int .i64 s34.env[23]? fun x89 =>
 C.bool s34.env[24]? fun b90 =>
 C.int .i64 s34.env[25]? fun x91 =>
 C.any s34.env[26]? fun v92 =>
 C.int .i64 s34.env[27]? fun x93 =>
 C.any s34.env[28]? fun v94 =>
 C.agg 2 s34.env[29]? fun l95 =>
 C.int .i64 l95[0]? fun x96 =>
 C.int .i64 l95[1]? fun x97 =>
 C.any s34.env[30]? fun v98 =>
 C.int .i64 s34.env[31]? fun x99 =>
 C.any s34.env[32]? fun v100 =>
 C.agg 2 s34.env[33]? fun l101 =>
 C.int .i64 l101[0]? fun x102 =>
 C.int .i64 l101[1]? fun x103 =>
 C.bool s34.env[34]? fun b104 =>
 C.bool s34.env[35]? fun b105 =>
 C.any s34.env[36]? fun v106 =>
 C.any s34.env[37]? fun v107 =>
 C.any s34.env[38]? fun v108 =>
 C.any s34.env[39]? fun v109 =>
 C.any s34.env[40]? fun v110 =>
 C.bool s34.env[41]? fun b111 =>
 C.any s34.env[42]? fun v112 =>
 C.same s34.env[43]? v31 <|
 C.sameH (St.H s34) [] <|
 k2 .ret ⟨[(.lst a0),tz,(.bool b87),(iz (((List.length a0):Nat):Int)),(iz x7),(iz x88),(.lst a0),(iz (((List.length a0):Nat):Int)),(iz (((List.length a0):Nat):Int)),(.bool (decide ((((List.length a0):Nat):Int) < 3))),bf,(iz (((List.length a0):Nat):Int)),(.bool (decide ((((List.length a0):Nat):Int) > 8))),(.bool (decide ((((List.length a0):Nat):Int) > 8))),bf,(.lst a0),(.bool b0),bf,(iz (((List.length a0):Nat):Int)),(iz x7),bt,(iz x7),(iz x7),(iz x89),(.bool b90),(iz x91),v92,(iz x93),v94,(.agg [(iz x96),(iz x97)]),v98,(iz x99),v100,(.agg [(iz x102),(iz x103)]),(.bool b104),(.bool b105),v106,v107,v108,v109,v110,(.bool b111),v112,v31],[]⟩)
 (none)
def r52R0 (C:Cb) (d:Nat) (a0:List AV) (b0:Bool):St→(Ex→St→Ans)→Ans:=fun s1 k2 =>
 cnd ((List.length s1.env) == 44)
 (sames C s1.env 0 [(.lst a0),tz] <|
 C.bool s1.env[2]? fun b4 =>
 C.same s1.env[3]? (iz (((List.length a0):Nat):Int)) <|
 C.any s1.env[4]? fun v5 =>
 C.any s1.env[5]? fun v6 =>
 sames C s1.env 6 [(.lst a0),(iz (((List.length a0):Nat):Int)),(iz (((List.length a0):Nat):Int)),(.bool (decide ((((List.length a0):Nat):Int) < 3))),bf,(iz (((List.length a0):Nat):Int)),(.bool (decide ((((List.length a0):Nat):Int) > 8))),(.bool (decide ((((List.length a0):Nat):Int) > 8))),bf,(.lst a0),(.bool b0),bf,(iz (((List.length a0):Nat):Int))] <|
 C.int .i64 s1.env[19]? fun x7 =>
 C.any s1.env[20]? fun v8 =>
 C.any s1.env[21]? fun v9 =>
 C.any s1.env[22]? fun v10 =>
 C.any s1.env[23]? fun v11 =>
 C.any s1.env[24]? fun v12 =>
 C.any s1.env[25]? fun v13 =>
 C.any s1.env[26]? fun v14 =>
 C.any s1.env[27]? fun v15 =>
 C.any s1.env[28]? fun v16 =>
 C.any s1.env[29]? fun v17 =>
 C.any s1.env[30]? fun v18 =>
 C.any s1.env[31]? fun v19 =>
 C.any s1.env[32]? fun v20 =>
 C.any s1.env[33]? fun v21 =>
 C.any s1.env[34]? fun v22 =>
 C.any s1.env[35]? fun v23 =>
 C.any s1.env[36]? fun v24 =>
 C.any s1.env[37]? fun v25 =>
 C.any s1.env[38]? fun v26 =>
 C.any s1.env[39]? fun v27 =>
 C.any s1.env[40]? fun v28 =>
 C.any s1.env[41]? fun v29 =>
 C.any s1.env[42]? fun v30 =>
 C.any s1.env[43]? fun v31 =>
 C.sameH (St.H s1) [] <|
 cnd (decide (x7 < (((List.length a0):Nat):Int)))
 (C.iter (r52R1 C d a0 b0 k2 x7 v31) 10000000000000000000 ⟨[(.lst a0),tz,(.bool b4),(iz (((List.length a0):Nat):Int)),(iz x7),v6,(.lst a0),(iz (((List.length a0):Nat):Int)),(iz (((List.length a0):Nat):Int)),(.bool (decide ((((List.length a0):Nat):Int) < 3))),bf,(iz (((List.length a0):Nat):Int)),(.bool (decide ((((List.length a0):Nat):Int) > 8))),(.bool (decide ((((List.length a0):Nat):Int) > 8))),bf,(.lst a0),(.bool b0),bf,(iz (((List.length a0):Nat):Int)),(iz x7),bt,(iz x7),(iz x7),(iz 0),v12,v13,v14,v15,v16,v17,v18,v19,v20,v21,v22,v23,v24,v25,v26,v27,v28,v29,v30,v31],[]⟩ [2] [r52X1_0 C d a0 b0 k2 x7 v31] (r52E1 C d a0 b0 k2 x7 v31))
 (k2 (.exit 0) ⟨[(.lst a0),tz,(.bool b4),(iz (((List.length a0):Nat):Int)),v5,v6,(.lst a0),(iz (((List.length a0):Nat):Int)),(iz (((List.length a0):Nat):Int)),(.bool (decide ((((List.length a0):Nat):Int) < 3))),bf,(iz (((List.length a0):Nat):Int)),(.bool (decide ((((List.length a0):Nat):Int) > 8))),(.bool (decide ((((List.length a0):Nat):Int) > 8))),bf,(.lst a0),(.bool b0),bf,(iz (((List.length a0):Nat):Int)),(iz x7),bf,v9,v10,v11,v12,v13,v14,v15,v16,v17,v18,v19,v20,v21,v22,v23,v24,v25,v26,v27,v28,v29,v30,v31],[]⟩))
 (none)
def r52X0_0 (C:Cb) (d:Nat) (a0:List AV) (b0:Bool):St→Ans:=fun s113 =>
 cnd ((List.length s113.env) == 44)
 (sames C s113.env 0 [(.lst a0),tz] <|
 C.bool s113.env[2]? fun b114 =>
 C.same s113.env[3]? (iz (((List.length a0):Nat):Int)) <|
 anys C s113.env 4 2 <|
 sames C s113.env 6 [(.lst a0),(iz (((List.length a0):Nat):Int)),(iz (((List.length a0):Nat):Int)),(.bool (decide ((((List.length a0):Nat):Int) < 3))),bf,(iz (((List.length a0):Nat):Int)),(.bool (decide ((((List.length a0):Nat):Int) > 8))),(.bool (decide ((((List.length a0):Nat):Int) > 8))),bf,(.lst a0),(.bool b0),bf,(iz (((List.length a0):Nat):Int))] <|
 C.int .i64 s113.env[19]? fun x117 =>
 C.bool s113.env[20]? fun b118 =>
 anys C s113.env 21 23 <|
 C.sameH (St.H s113) [] <|
 some bt)
 (none)
def r52E0 (C:Cb) (d:Nat) (a0:List AV) (b0:Bool):St→Ans:=fun s3 =>
 cnd ((List.length s3.env) == 44)
 (sames C s3.env 0 [(.lst a0),tz] <|
 C.bool s3.env[2]? fun b142 =>
 C.same s3.env[3]? (iz (((List.length a0):Nat):Int)) <|
 C.int .i64 s3.env[4]? fun x143 =>
 C.int .i64 s3.env[5]? fun x144 =>
 sames C s3.env 6 [(.lst a0),(iz (((List.length a0):Nat):Int)),(iz (((List.length a0):Nat):Int)),(.bool (decide ((((List.length a0):Nat):Int) < 3))),bf,(iz (((List.length a0):Nat):Int)),(.bool (decide ((((List.length a0):Nat):Int) > 8))),(.bool (decide ((((List.length a0):Nat):Int) > 8))),bf,(.lst a0),(.bool b0),bf,(iz (((List.length a0):Nat):Int))] <|
 C.int .i64 s3.env[19]? fun x145 =>
 C.bool s3.env[20]? fun b146 =>
 C.int .i64 s3.env[21]? fun x147 =>
 C.int .i64 s3.env[22]? fun x148 =>
 C.int .i64 s3.env[23]? fun x149 =>
 C.bool s3.env[24]? fun b150 =>
 C.int .i64 s3.env[25]? fun x151 =>
 C.any s3.env[26]? fun v152 =>
 C.int .i64 s3.env[27]? fun x153 =>
 C.any s3.env[28]? fun v154 =>
 C.agg 2 s3.env[29]? fun l155 =>
 C.int .i64 l155[0]? fun x156 =>
 C.int .i64 l155[1]? fun x157 =>
 C.any s3.env[30]? fun v158 =>
 C.int .i64 s3.env[31]? fun x159 =>
 C.any s3.env[32]? fun v160 =>
 C.agg 2 s3.env[33]? fun l161 =>
 C.int .i64 l161[0]? fun x162 =>
 C.int .i64 l161[1]? fun x163 =>
 C.bool s3.env[34]? fun b164 =>
 C.bool s3.env[35]? fun b165 =>
 anys C s3.env 36 5 <|
 C.bool s3.env[41]? fun b171 =>
 anys C s3.env 42 2 <|
 C.sameH (St.H s3) [] <|
 some (.bool b142))
 (none)
theorem r52 (C:Cb) (d:Nat) (a0:List AV):xcall C M unr d 52 [(.lst a0)] =
 cnd (decide ((((List.length a0):Nat):Int) < 3))
 (some bf)
 (cnd (decide ((((List.length a0):Nat):Int) > 8))
 (some bf)
 (C.bool (pcall M d 53 [(.lst a0),(.fn 56 [] [])]) fun b0 =>
 cnd b0
 (some bf)
 (C.iter (r52R0 C d a0 b0) 10000000000000000000 ⟨[(.lst a0),tz,bf,(iz (((List.length a0):Nat):Int)),tz,tz,(.lst a0),(iz (((List.length a0):Nat):Int)),(iz (((List.length a0):Nat):Int)),(.bool (decide ((((List.length a0):Nat):Int) < 3))),bf,(iz (((List.length a0):Nat):Int)),(.bool (decide ((((List.length a0):Nat):Int) > 8))),(.bool (decide ((((List.length a0):Nat):Int) > 8))),bf,(.lst a0),(.bool b0),bf,(iz (((List.length a0):Nat):Int)),(iz 0),tz,tz,tz,tz,tz,tz,tz,tz,tz,tz,tz,tz,tz,tz,tz,tz,tz,tz,tz,tz,tz,tz,tz,tz],[]⟩ [0] [r52X0_0 C d a0 b0] (r52E0 C d a0 b0)))):=by kernel_rfl
theorem r53f56 (C:Cb) (d:Nat) (a0:List AV) (a1:AV):xcall C M unr d 53 [(.lst a0),(.fn 56 [] [])] =
 C.int .i64 (pcall M d 59 [(.lst a0),(.fn 56 [] [])]) fun x0 =>
 some (.bool (decide (x0 ≥ 0))):=by kernel_rfl
theorem r53f54 (C:Cb) (d:Nat) (a0:List AV) (a1:AV):xcall C M unr d 53 [(.lst a0),(.fn 54 [] [])] =
 C.int .i64 (pcall M d 59 [(.lst a0),(.fn 54 [] [])]) fun x0 =>
 some (.bool (decide (x0 ≥ 0))):=by kernel_rfl
theorem r54 (C:Cb) (d:Nat) (a0 a1:Int):xcall C M unr d 54 [(.agg [(iz a0),(iz a1)])] =
 some (.bool (decide ((if ((IntKind.wrap .i64 (0 - a1)) > (if (a1 > (if ((IntKind.wrap .i64 (0 - a0)) > a0) then (IntKind.wrap .i64 (0 - a0)) else a0)) then a1 else (if ((IntKind.wrap .i64 (0 - a0)) > a0) then (IntKind.wrap .i64 (0 - a0)) else a0))) then (IntKind.wrap .i64 (0 - a1)) else (if (a1 > (if ((IntKind.wrap .i64 (0 - a0)) > a0) then (IntKind.wrap .i64 (0 - a0)) else a0)) then a1 else (if ((IntKind.wrap .i64 (0 - a0)) > a0) then (IntKind.wrap .i64 (0 - a0)) else a0))) > 1073741824))):=by kernel_rfl
theorem r56 (C:Cb) (d:Nat) (a0 a1:Int):xcall C M unr d 56 [(.agg [(iz a0),(iz a1)])] =
 C.bool (pcall M d 57 [(.agg [(iz a0),(iz a1)])]) fun b0 =>
 some (.bool (!b0)):=by kernel_rfl
theorem r58 (C:Cb) (d:Nat) (a0:List AV) (a1 a2:Int):xcall C M unr d 58 [(.lst a0),(iz a1),(iz a2)] =
 C.tup 2 (pcall M d 63 [(.lst a0),(iz a1)]) fun l0 =>
 C.agg 2 l0[0]? fun l1 =>
 C.int .i64 l1[0]? fun x2 =>
 C.int .i64 l1[1]? fun x3 =>
 C.agg 2 l0[1]? fun l4 =>
 C.int .i64 l4[0]? fun x5 =>
 C.int .i64 l4[1]? fun x6 =>
 C.tup 2 (pcall M d 63 [(.lst a0),(iz a2)]) fun l7 =>
 C.agg 2 l7[0]? fun l8 =>
 C.int .i64 l8[0]? fun x9 =>
 C.int .i64 l8[1]? fun x10 =>
 C.agg 2 l7[1]? fun l11 =>
 C.int .i64 l11[0]? fun x12 =>
 C.int .i64 l11[1]? fun x13 =>
 cnd (decide ((((List.length a0):Nat):Int)=0))
 (none)
 (cnd ((Int.tmod (IntKind.wrap .i64 (a1+1)) (((List.length a0):Nat):Int)) == a2)
 (C.bool (pcall M d 64 [(.agg [(iz x12),(iz x13)]),(.agg [(iz x2),(iz x3)]),(.agg [(iz x5),(iz x6)])]) fun b14 =>
 cnd (!b14)
 (C.bool (pcall M d 64 [(.agg [(iz x2),(iz x3)]),(.agg [(iz x9),(iz x10)]),(.agg [(iz x12),(iz x13)])]) fun b15 =>
 some (.bool (!b15)))
 (some bf))
 (cnd (decide ((((List.length a0):Nat):Int)=0))
 (none)
 (cnd ((Int.tmod (IntKind.wrap .i64 (a2+1)) (((List.length a0):Nat):Int)) == a1)
 (C.bool (pcall M d 64 [(.agg [(iz x9),(iz x10)]),(.agg [(iz x2),(iz x3)]),(.agg [(iz x5),(iz x6)])]) fun b16 =>
 cnd (!b16)
 (C.bool (pcall M d 64 [(.agg [(iz x5),(iz x6)]),(.agg [(iz x9),(iz x10)]),(.agg [(iz x12),(iz x13)])]) fun b17 =>
 some (.bool (!b17)))
 (some bf))
 (C.bool (pcall M d 65 [(.agg [(iz x2),(iz x3)]),(.agg [(iz x5),(iz x6)]),(.agg [(iz x9),(iz x10)]),(.agg [(iz x12),(iz x13)])]) fun b18 =>
 some (.bool (!b18)))))):=by kernel_rfl
def r59f56R0 (C:Cb) (d:Nat) (a0:List AV):St→(Ex→St→Ans)→Ans:=fun s0 k1 =>
 cnd ((List.length s0.env) == 19)
 (sames C s0.env 0 [(.lst a0),(.fn 56 [] []),tz,tz] <|
 C.int .i64 s0.env[4]? fun x3 =>
 C.any s0.env[5]? fun v4 =>
 sames C s0.env 6 [(.lst a0),(iz (((List.length a0):Nat):Int))] <|
 C.int .i64 s0.env[8]? fun x5 =>
 C.any s0.env[9]? fun v6 =>
 C.any s0.env[10]? fun v7 =>
 C.any s0.env[11]? fun v8 =>
 C.any s0.env[12]? fun v9 =>
 C.any s0.env[13]? fun v10 =>
 C.any s0.env[14]? fun v11 =>
 C.any s0.env[15]? fun v12 =>
 C.any s0.env[16]? fun v13 =>
 C.any s0.env[17]? fun v14 =>
 C.any s0.env[18]? fun v15 =>
 C.sameH (St.H s0) [] <|
 cnd (decide (x5 < (((List.length a0):Nat):Int)))
 (cnd (decide ((0:Int)≤x5))
 (C.agg 2 a0[(Int.toNat x5)]? fun l16 =>
 C.int .i64 l16[0]? fun x17 =>
 C.int .i64 l16[1]? fun x18 =>
 C.bool (pcall M d 56 [(.agg [(iz x17),(iz x18)])]) fun b19 =>
 cnd b19
 (k1 .ret ⟨[(.lst a0),(.fn 56 [] []),tz,tz,(iz x5),(iz x5),(.lst a0),(iz (((List.length a0):Nat):Int)),(iz x5),bt,(iz x5),(.fn 56 [] []),(.lst a0),(iz x5),(.fptr (.agg [(iz x17),(iz x18)]) 0),(.agg [(iz x17),(iz x18)]),bt,(iz x5),v15],[]⟩)
 (k1 .normal ⟨[(.lst a0),(.fn 56 [] []),tz,tz,(iz x3),(iz x5),(.lst a0),(iz (((List.length a0):Nat):Int)),(iz (IntKind.wrap .i64 (x5+1))),bt,(iz x5),(.fn 56 [] []),(.lst a0),(iz x5),(.fptr (.agg [(iz x17),(iz x18)]) 0),(.agg [(iz x17),(iz x18)]),bf,v14,(iz (IntKind.wrap .i64 (x5+1)))],[]⟩))
 (none))
 (k1 (.exit 0) ⟨[(.lst a0),(.fn 56 [] []),tz,tz,(iz x3),v4,(.lst a0),(iz (((List.length a0):Nat):Int)),(iz x5),bf,v7,v8,v9,v10,v11,v12,v13,v14,v15],[]⟩))
 (none)
def r59f56X0_0 (C:Cb) (d:Nat) (a0:List AV):St→Ans:=fun s20 =>
 cnd ((List.length s20.env) == 19)
 (sames C s20.env 0 [(.lst a0),(.fn 56 [] []),tz,tz] <|
 C.int .i64 s20.env[4]? fun x21 =>
 C.any s20.env[5]? fun v22 =>
 sames C s20.env 6 [(.lst a0),(iz (((List.length a0):Nat):Int))] <|
 C.int .i64 s20.env[8]? fun x23 =>
 anys C s20.env 9 10 <|
 C.sameH (St.H s20) [] <|
 some (iz (-1)))
 (none)
def r59f56E0 (C:Cb) (d:Nat) (a0:List AV):St→Ans:=fun s2 =>
 cnd ((List.length s2.env) == 19)
 (sames C s2.env 0 [(.lst a0),(.fn 56 [] []),tz,tz] <|
 C.int .i64 s2.env[4]? fun x34 =>
 C.int .i64 s2.env[5]? fun x35 =>
 sames C s2.env 6 [(.lst a0),(iz (((List.length a0):Nat):Int))] <|
 C.int .i64 s2.env[8]? fun x36 =>
 C.any s2.env[9]? fun v37 =>
 C.int .i64 s2.env[10]? fun x38 =>
 anys C s2.env 11 2 <|
 C.int .i64 s2.env[13]? fun x41 =>
 C.any s2.env[14]? fun v42 =>
 C.agg 2 s2.env[15]? fun l43 =>
 C.int .i64 l43[0]? fun x44 =>
 C.int .i64 l43[1]? fun x45 =>
 C.bool s2.env[16]? fun b46 =>
 C.int .i64 s2.env[17]? fun x47 =>
 C.any s2.env[18]? fun v48 =>
 C.sameH (St.H s2) [] <|
 some (iz x34))
 (none)
theorem r59f56 (C:Cb) (d:Nat) (a0:List AV) (a1:AV):xcall C M unr d 59 [(.lst a0),(.fn 56 [] [])] =
 C.iter (r59f56R0 C d a0) 10000000000000000000 ⟨[(.lst a0),(.fn 56 [] []),tz,tz,(iz 0),tz,(.lst a0),(iz (((List.length a0):Nat):Int)),(iz 0),tz,tz,tz,tz,tz,tz,tz,tz,tz,tz],[]⟩ [0] [r59f56X0_0 C d a0] (r59f56E0 C d a0):=by kernel_rfl
def r59f54R0 (C:Cb) (d:Nat) (a0:List AV):St→(Ex→St→Ans)→Ans:=fun s0 k1 =>
 cnd ((List.length s0.env) == 19)
 (sames C s0.env 0 [(.lst a0),(.fn 54 [] []),tz,tz] <|
 C.int .i64 s0.env[4]? fun x3 =>
 C.any s0.env[5]? fun v4 =>
 sames C s0.env 6 [(.lst a0),(iz (((List.length a0):Nat):Int))] <|
 C.int .i64 s0.env[8]? fun x5 =>
 C.any s0.env[9]? fun v6 =>
 C.any s0.env[10]? fun v7 =>
 C.any s0.env[11]? fun v8 =>
 C.any s0.env[12]? fun v9 =>
 C.any s0.env[13]? fun v10 =>
 C.any s0.env[14]? fun v11 =>
 C.any s0.env[15]? fun v12 =>
 C.any s0.env[16]? fun v13 =>
 C.any s0.env[17]? fun v14 =>
 C.any s0.env[18]? fun v15 =>
 C.sameH (St.H s0) [] <|
 cnd (decide (x5 < (((List.length a0):Nat):Int)))
 (cnd (decide ((0:Int)≤x5))
 (C.agg 2 a0[(Int.toNat x5)]? fun l16 =>
 C.int .i64 l16[0]? fun x17 =>
 C.int .i64 l16[1]? fun x18 =>
 C.bool (pcall M d 54 [(.agg [(iz x17),(iz x18)])]) fun b19 =>
 cnd b19
 (k1 .ret ⟨[(.lst a0),(.fn 54 [] []),tz,tz,(iz x5),(iz x5),(.lst a0),(iz (((List.length a0):Nat):Int)),(iz x5),bt,(iz x5),(.fn 54 [] []),(.lst a0),(iz x5),(.fptr (.agg [(iz x17),(iz x18)]) 0),(.agg [(iz x17),(iz x18)]),bt,(iz x5),v15],[]⟩)
 (k1 .normal ⟨[(.lst a0),(.fn 54 [] []),tz,tz,(iz x3),(iz x5),(.lst a0),(iz (((List.length a0):Nat):Int)),(iz (IntKind.wrap .i64 (x5+1))),bt,(iz x5),(.fn 54 [] []),(.lst a0),(iz x5),(.fptr (.agg [(iz x17),(iz x18)]) 0),(.agg [(iz x17),(iz x18)]),bf,v14,(iz (IntKind.wrap .i64 (x5+1)))],[]⟩))
 (none))
 (k1 (.exit 0) ⟨[(.lst a0),(.fn 54 [] []),tz,tz,(iz x3),v4,(.lst a0),(iz (((List.length a0):Nat):Int)),(iz x5),bf,v7,v8,v9,v10,v11,v12,v13,v14,v15],[]⟩))
 (none)
def r59f54X0_0 (C:Cb) (d:Nat) (a0:List AV):St→Ans:=fun s20 =>
 cnd ((List.length s20.env) == 19)
 (sames C s20.env 0 [(.lst a0),(.fn 54 [] []),tz,tz] <|
 C.int .i64 s20.env[4]? fun x21 =>
 C.any s20.env[5]? fun v22 =>
 sames C s20.env 6 [(.lst a0),(iz (((List.length a0):Nat):Int))] <|
 C.int .i64 s20.env[8]? fun x23 =>
 anys C s20.env 9 10 <|
 C.sameH (St.H s20) [] <|
 some (iz (-1)))
 (none)
def r59f54E0 (C:Cb) (d:Nat) (a0:List AV):St→Ans:=fun s2 =>
 cnd ((List.length s2.env) == 19)
 (sames C s2.env 0 [(.lst a0),(.fn 54 [] []),tz,tz] <|
 C.int .i64 s2.env[4]? fun x34 =>
 C.int .i64 s2.env[5]? fun x35 =>
 sames C s2.env 6 [(.lst a0),(iz (((List.length a0):Nat):Int))] <|
 C.int .i64 s2.env[8]? fun x36 =>
 C.any s2.env[9]? fun v37 =>
 C.int .i64 s2.env[10]? fun x38 =>
 anys C s2.env 11 2 <|
 C.int .i64 s2.env[13]? fun x41 =>
 C.any s2.env[14]? fun v42 =>
 C.agg 2 s2.env[15]? fun l43 =>
 C.int .i64 l43[0]? fun x44 =>
 C.int .i64 l43[1]? fun x45 =>
 C.bool s2.env[16]? fun b46 =>
 C.int .i64 s2.env[17]? fun x47 =>
 C.any s2.env[18]? fun v48 =>
 C.sameH (St.H s2) [] <|
 some (iz x34))
 (none)
theorem r59f54 (C:Cb) (d:Nat) (a0:List AV) (a1:AV):xcall C M unr d 59 [(.lst a0),(.fn 54 [] [])] =
 C.iter (r59f54R0 C d a0) 10000000000000000000 ⟨[(.lst a0),(.fn 54 [] []),tz,tz,(iz 0),tz,(.lst a0),(iz (((List.length a0):Nat):Int)),(iz 0),tz,tz,tz,tz,tz,tz,tz,tz,tz,tz],[]⟩ [0] [r59f54X0_0 C d a0] (r59f54E0 C d a0):=by kernel_rfl
theorem r63 (C:Cb) (d:Nat) (a0:List AV) (a1:Int):xcall C M unr d 63 [(.lst a0),(iz a1)] =
 cnd (decide ((0:Int)≤a1))
 (C.agg 2 a0[(Int.toNat a1)]? fun l0 =>
 C.int .i64 l0[0]? fun x1 =>
 C.int .i64 l0[1]? fun x2 =>
 cnd (decide ((((List.length a0):Nat):Int)=0))
 (none)
 (cnd (decide ((0:Int)≤(Int.tmod (IntKind.wrap .i64 (a1+1)) (((List.length a0):Nat):Int))))
 (C.agg 2 a0[(Int.toNat (Int.tmod (IntKind.wrap .i64 (a1+1)) (((List.length a0):Nat):Int)))]? fun l3 =>
 C.int .i64 l3[0]? fun x4 =>
 C.int .i64 l3[1]? fun x5 =>
 some (.tup [(.agg [(iz x1),(iz x2)]),(.agg [(iz x4),(iz x5)])]))
 (none)))
 (none):=by kernel_rfl
end Go.Proofs.Ytbmedgpiphibaaa.AE
