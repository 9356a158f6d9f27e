/- The texts that the law PolyTriangle needs, part 4. No conditions. -/
import Derived.ChangeArms
import Derived.WideShapes
import Derived.OpenShut
import Derived.Deep.Slices
import Derived.Test.YtkfppigcjdapnaaMPolyTriangle3
namespace Go.Proofs.Ytkfppigcjdapnaa.AE
set_option linter.unusedVariables false
set_option linter.unusedSimpArgs false
set_option linter.constructorNameAsVariable false
open Go
set_option maxRecDepth 100000
set_option maxHeartbeats 0
noncomputable def X7_2_0 (d : Nat) (v23 : AV) (x59 : Int) (k55N : Bool → Int → Heap → Ans) (b159 : Bool) (H : Heap) : Ans :=
  k55N b159 (IntKind.wrap .i64 (x59 + 1)) H
theorem X7_2_0_ok (d : Nat) (a0 a1 a2 a3 a4 a5 a6 a7 : Int) (v0 v2 v4 v6 : AV) (x11 x12 x16 x17 x21 x22 : Int) (v23 : AV) (b43 b44 b45 : Bool) (v46 v47 v48 : AV) (x53 : Int) (k55 : Ex → St → Ans) (x59 : Int) (v86 : AV) (k55N : Bool → Int → Heap → Ans) (hk55N : ∀ (b57 : Bool) (v58 : AV) (x59 : Int) (v60 v61 v62 v63 v64 v65 v66 v67 v68 v69 v70 v71 v72 v73 v74 v75 v76 v77 v78 v79 v80 v81 v82 v83 v84 v85 v86 : AV) (H : Heap), k55 .normal ⟨[(.agg [(iz a0), (iz a1)]), (.agg [(iz a2), (iz a3)]), (.agg [(iz a4), (iz a5)]), (.agg [(iz a6), (iz a7)]), v0, v2, v4, v6, bf, v23, (.bool b57), tz, v58, tz, tz, tz, tz, tz, (.agg [(iz x11), (iz x12)]), (.agg [(iz x16), (iz x17)]), (.agg [(iz x21), (iz x22)]), v23, (.bool b43), (.bool b44), (.bool b45), v46, v47, v48, bf, tz, v23, (iz x53), (iz x59), v60, v61, v62, v63, v64, v65, v66, v67, v68, v69, v70, v71, v72, v73, v74, v75, v76, v77, v78, v79, v80, v81, v82, v83, v84, v85, v86, tz, tz, tz, tz, tz, tz, tz, tz, tz, tz, tz, tz, tz, tz, tz, tz, tz, tz, tz, tz, tz, tz, tz, tz, tz, tz, tz, tz, tz, tz, tz, tz, tz, tz, tz, tz, tz, tz, tz, tz, tz, tz, tz, tz, tz, tz, tz, tz, tz, tz, tz, tz, tz, tz, tz, tz, tz, tz, tz, tz, tz, tz, tz, tz], H⟩ = k55N b57 x59 H) (b159 : Bool) (v160 v161 : AV) (x163 x164 : Int) (b165 b166 : Bool) (v167 v168 v169 v170 v171 v172 v173 v174 v175 v176 v177 v178 : AV) (b179 b180 : Bool) (v181 v182 v183 v184 v185 v186 : AV) (b187 : Bool) (H : Heap) : r7X2_0 C0 d a0 a1 a2 a3 a4 a5 a6 a7 v0 v2 v4 v6 x11 x12 x16 x17 x21 x22 v23 b43 b44 b45 v46 v47 v48 x53 k55 x59 v86 ⟨[(.agg [(iz a0), (iz a1)]), (.agg [(iz a2), (iz a3)]), (.agg [(iz a4), (iz a5)]), (.agg [(iz a6), (iz a7)]), v0, v2, v4, v6, bf, v23, (.bool b159), tz, v160, tz, tz, tz, tz, tz, (.agg [(iz x11), (iz x12)]), (.agg [(iz x16), (iz x17)]), (.agg [(iz x21), (iz x22)]), v23, (.bool b43), (.bool b44), (.bool b45), v46, v47, v48, bf, tz, v23, (iz x53), (iz x59), bt, v161, (.agg [(iz x163), (iz x164)]), (.bool b165), (.bool b166), v167, v168, v169, v170, v171, v172, v173, v174, v175, v176, v177, v178, (.bool b179), (.bool b180), v181, v182, v183, v184, v185, v186, (.bool b187), v86, tz, tz, tz, tz, tz, tz, tz, tz, tz, tz, tz, tz, tz, tz, tz, tz, tz, tz, tz, tz, tz, tz, tz, tz, tz, tz, tz, tz, tz, tz, tz, tz, tz, tz, tz, tz, tz, tz, tz, tz, tz, tz, tz, tz, tz, tz, tz, tz, tz, tz, tz, tz, tz, tz, tz, tz, tz, tz, tz, tz, tz, tz, tz, tz], H⟩ = X7_2_0 d v23 x59 k55N b159 H := by
  try dsimp only at hk55N
  unfold r7X2_0; refine Eq.trans (pl_len (by rfl)) ?_; (iterate 10 (refine yt yS ?_)); refine yt yB ?_; refine yt yS ?_; refine yt yA ?_; (iterate 21 (refine yt yS ?_)); refine yt yA ?_; refine yt yG ?_; (iterate 2 (refine yt yI ?_)); (iterate 2 (refine yt yB ?_)); (iterate 12 (refine yt yA ?_)); (iterate 2 (refine yt yB ?_)); (iterate 6 (refine yt yA ?_)); refine yt yB ?_; (iterate 65 (refine yt yS ?_))
  first | (simp only [hk55N] <;> rfl) | rfl
noncomputable def E7_2 (d : Nat) (v23 : AV) (x59 : Int) (k55N : Bool → Int → Heap → Ans) (H : Heap) : Ans :=
  none
theorem E7_2_ok (d : Nat) (a0 a1 a2 a3 a4 a5 a6 a7 : Int) (v0 v2 v4 v6 : AV) (x11 x12 x16 x17 x21 x22 : Int) (v23 : AV) (b43 b44 b45 : Bool) (v46 v47 v48 : AV) (x53 : Int) (k55 : Ex → St → Ans) (x59 : Int) (v86 : AV) (k55N : Bool → Int → Heap → Ans) (hk55N : ∀ (b57 : Bool) (v58 : AV) (x59 : Int) (v60 v61 v62 v63 v64 v65 v66 v67 v68 v69 v70 v71 v72 v73 v74 v75 v76 v77 v78 v79 v80 v81 v82 v83 v84 v85 v86 : AV) (H : Heap), k55 .normal ⟨[(.agg [(iz a0), (iz a1)]), (.agg [(iz a2), (iz a3)]), (.agg [(iz a4), (iz a5)]), (.agg [(iz a6), (iz a7)]), v0, v2, v4, v6, bf, v23, (.bool b57), tz, v58, tz, tz, tz, tz, tz, (.agg [(iz x11), (iz x12)]), (.agg [(iz x16), (iz x17)]), (.agg [(iz x21), (iz x22)]), v23, (.bool b43), (.bool b44), (.bool b45), v46, v47, v48, bf, tz, v23, (iz x53), (iz x59), v60, v61, v62, v63, v64, v65, v66, v67, v68, v69, v70, v71, v72, v73, v74, v75, v76, v77, v78, v79, v80, v81, v82, v83, v84, v85, v86, tz, tz, tz, tz, tz, tz, tz, tz, tz, tz, tz, tz, tz, tz, tz, tz, tz, tz, tz, tz, tz, tz, tz, tz, tz, tz, tz, tz, tz, tz, tz, tz, tz, tz, tz, tz, tz, tz, tz, tz, tz, tz, tz, tz, tz, tz, tz, tz, tz, tz, tz, tz, tz, tz, tz, tz, tz, tz, tz, tz, tz, tz, tz, tz], H⟩ = k55N b57 x59 H) (b188 : Bool) (v189 v190 v191 v192 v193 v194 v195 v196 v197 v198 v199 v200 v201 v202 v203 v204 v205 v206 v207 v208 v209 v210 v211 v212 v213 v214 : AV) (H : Heap) : r7E2 C0 d a0 a1 a2 a3 a4 a5 a6 a7 v0 v2 v4 v6 x11 x12 x16 x17 x21 x22 v23 b43 b44 b45 v46 v47 v48 x53 k55 x59 v86 ⟨[(.agg [(iz a0), (iz a1)]), (.agg [(iz a2), (iz a3)]), (.agg [(iz a4), (iz a5)]), (.agg [(iz a6), (iz a7)]), v0, v2, v4, v6, bf, v23, (.bool b188), tz, v189, tz, tz, tz, tz, tz, (.agg [(iz x11), (iz x12)]), (.agg [(iz x16), (iz x17)]), (.agg [(iz x21), (iz x22)]), v23, (.bool b43), (.bool b44), (.bool b45), v46, v47, v48, bf, tz, v23, (iz x53), (iz x59), bt, v190, v191, v192, v193, v194, v195, v196, v197, v198, v199, v200, v201, v202, v203, v204, v205, v206, v207, v208, v209, v210, v211, v212, v213, v214, v86, tz, tz, tz, tz, tz, tz, tz, tz, tz, tz, tz, tz, tz, tz, tz, tz, tz, tz, tz, tz, tz, tz, tz, tz, tz, tz, tz, tz, tz, tz, tz, tz, tz, tz, tz, tz, tz, tz, tz, tz, tz, tz, tz, tz, tz, tz, tz, tz, tz, tz, tz, tz, tz, tz, tz, tz, tz, tz, tz, tz, tz, tz, tz, tz], H⟩ = E7_2 d v23 x59 k55N H := by
  try dsimp only at hk55N
  unfold r7E2; refine Eq.trans (pl_len (by rfl)) ?_; (iterate 10 (refine yt yS ?_)); refine yt yB ?_; refine yt yS ?_; refine yt yA ?_; (iterate 21 (refine yt yS ?_)); (iterate 25 (refine yt yA ?_)); (iterate 65 (refine yt yS ?_))
  first | (simp only [hk55N] <;> rfl) | rfl
noncomputable def L7_2 (d : Nat) (v23 : AV) (x59 : Int) (k55N : Bool → Int → Heap → Ans) : Nat → Bool → Heap → Ans
  | 0, _, _ => none
  | n + 1, b90, H =>
  C0.hop H (.ixAS .any 2 (.v v23) (.v (iz x59))) fun v117 h118 =>
   C0.hop h118 (.load true 2 (.v v117)) fun v119 h120 =>
   C0.agg 2 (some v119) fun l121 =>
   C0.int .i64 l121[0]? fun x122 =>
   C0.int .i64 l121[1]? fun x123 =>
   C0.hop h120 (.alloc E24) fun v124 h125 =>
   C0.hop h125 (.store 2 (.v v124) (.v (.agg [(iz x122), (iz x123)]))) fun v126 h127 =>
   cnd b90
   (C0.hop h127 (.fldA 0 (.v v124)) fun v128 h129 =>
   C0.hop h129 (.load false 1 (.v v128)) fun v130 h131 =>
   C0.int .i64 (some v130) fun x132 =>
   C0.hop h131 (.fldA 0 (.v v124)) fun v133 h134 =>
   C0.hop h134 (.load false 1 (.v v133)) fun v135 h136 =>
   C0.int .i64 (some v135) fun x137 =>
   C0.hop h136 (.fldA 1 (.v v124)) fun v138 h139 =>
   C0.hop h139 (.load false 1 (.v v138)) fun v140 h141 =>
   C0.int .i64 (some v140) fun x142 =>
   C0.hop h141 (.fldA 1 (.v v124)) fun v143 h144 =>
   C0.hop h144 (.load false 1 (.v v143)) fun v145 h146 =>
   C0.int .i64 (some v145) fun x147 =>
   cnd (decide ((if ((IntKind.wrap .i64 (0 - x147)) > (if (x142 > (if ((IntKind.wrap .i64 (0 - x137)) > x132) then (IntKind.wrap .i64 (0 - x137)) else x132)) then x142 else (if ((IntKind.wrap .i64 (0 - x137)) > x132) then (IntKind.wrap .i64 (0 - x137)) else x132))) then (IntKind.wrap .i64 (0 - x147)) else (if (x142 > (if ((IntKind.wrap .i64 (0 - x137)) > x132) then (IntKind.wrap .i64 (0 - x137)) else x132)) then x142 else (if ((IntKind.wrap .i64 (0 - x137)) > x132) then (IntKind.wrap .i64 (0 - x137)) else x132))) ≤ 1073741824))
   (C0.hop h146 (.fldA 0 (.v v124)) fun v148 h149 =>
   C0.hop h149 (.load false 1 (.v v148)) fun v150 h151 =>
   C0.int .i64 (some v150) fun x152 =>
   C0.hop h151 (.fldA 1 (.v v124)) fun v153 h154 =>
   C0.hop h154 (.load false 1 (.v v153)) fun v155 h156 =>
   C0.int .i64 (some v155) fun x157 =>
   X7_2_0 d v23 x59 k55N (decide ((if (x157 < x152) then x157 else x152) ≥ (-1073741824))) h156)
   (X7_2_0 d v23 x59 k55N false h146))
   (X7_2_0 d v23 x59 k55N false h127)
theorem it7_2 (d : Nat) (a0 a1 a2 a3 a4 a5 a6 a7 : Int) (v0 v2 v4 v6 : AV) (x11 x12 x16 x17 x21 x22 : Int) (v23 : AV) (b43 b44 b45 : Bool) (v46 v47 v48 : AV) (x53 : Int) (k55 : Ex → St → Ans) (x59 : Int) (v86 : AV) (k55N : Bool → Int → Heap → Ans) (hk55N : ∀ (b57 : Bool) (v58 : AV) (x59 : Int) (v60 v61 v62 v63 v64 v65 v66 v67 v68 v69 v70 v71 v72 v73 v74 v75 v76 v77 v78 v79 v80 v81 v82 v83 v84 v85 v86 : AV) (H : Heap), k55 .normal ⟨[(.agg [(iz a0), (iz a1)]), (.agg [(iz a2), (iz a3)]), (.agg [(iz a4), (iz a5)]), (.agg [(iz a6), (iz a7)]), v0, v2, v4, v6, bf, v23, (.bool b57), tz, v58, tz, tz, tz, tz, tz, (.agg [(iz x11), (iz x12)]), (.agg [(iz x16), (iz x17)]), (.agg [(iz x21), (iz x22)]), v23, (.bool b43), (.bool b44), (.bool b45), v46, v47, v48, bf, tz, v23, (iz x53), (iz x59), v60, v61, v62, v63, v64, v65, v66, v67, v68, v69, v70, v71, v72, v73, v74, v75, v76, v77, v78, v79, v80, v81, v82, v83, v84, v85, v86, tz, tz, tz, tz, tz, tz, tz, tz, tz, tz, tz, tz, tz, tz, tz, tz, tz, tz, tz, tz, tz, tz, tz, tz, tz, tz, tz, tz, tz, tz, tz, tz, tz, tz, tz, tz, tz, tz, tz, tz, tz, tz, tz, tz, tz, tz, tz, tz, tz, tz, tz, tz, tz, tz, tz, tz, tz, tz, tz, tz, tz, tz, tz, tz], H⟩ = k55N b57 x59 H) : ∀ (n : Nat) (b90 : Bool) (v91 v92 v93 v94 v95 v96 v97 v98 v99 v100 v101 v102 v103 v104 v105 v106 v107 v108 v109 v110 v111 v112 v113 v114 v115 v116 : AV) (H : Heap), C0.iter (r7R2 C0 d a0 a1 a2 a3 a4 a5 a6 a7 v0 v2 v4 v6 x11 x12 x16 x17 x21 x22 v23 b43 b44 b45 v46 v47 v48 x53 k55 x59 v86) n ⟨[(.agg [(iz a0), (iz a1)]), (.agg [(iz a2), (iz a3)]), (.agg [(iz a4), (iz a5)]), (.agg [(iz a6), (iz a7)]), v0, v2, v4, v6, bf, v23, (.bool b90), tz, v91, tz, tz, tz, tz, tz, (.agg [(iz x11), (iz x12)]), (.agg [(iz x16), (iz x17)]), (.agg [(iz x21), (iz x22)]), v23, (.bool b43), (.bool b44), (.bool b45), v46, v47, v48, bf, tz, v23, (iz x53), (iz x59), bt, v92, v93, v94, v95, v96, v97, v98, v99, v100, v101, v102, v103, v104, v105, v106, v107, v108, v109, v110, v111, v112, v113, v114, v115, v116, v86, tz, tz, tz, tz, tz, tz, tz, tz, tz, tz, tz, tz, tz, tz, tz, tz, tz, tz, tz, tz, tz, tz, tz, tz, tz, tz, tz, tz, tz, tz, tz, tz, tz, tz, tz, tz, tz, tz, tz, tz, tz, tz, tz, tz, tz, tz, tz, tz, tz, tz, tz, tz, tz, tz, tz, tz, tz, tz, tz, tz, tz, tz, tz, tz], H⟩ [2000000] [r7X2_0 C0 d a0 a1 a2 a3 a4 a5 a6 a7 v0 v2 v4 v6 x11 x12 x16 x17 x21 x22 v23 b43 b44 b45 v46 v47 v48 x53 k55 x59 v86] (r7E2 C0 d a0 a1 a2 a3 a4 a5 a6 a7 v0 v2 v4 v6 x11 x12 x16 x17 x21 x22 v23 b43 b44 b45 v46 v47 v48 x53 k55 x59 v86) = L7_2 d v23 x59 k55N n b90 H := by
  generalize hR : r7R2 C0 d a0 a1 a2 a3 a4 a5 a6 a7 v0 v2 v4 v6 x11 x12 x16 x17 x21 x22 v23 b43 b44 b45 v46 v47 v48 x53 k55 x59 v86 = R
  intro n
  induction n with
  | zero => intros; rfl
  | succ n ih =>
    intro b90 v91 v92 v93 v94 v95 v96 v97 v98 v99 v100 v101 v102 v103 v104 v105 v106 v107 v108 v109 v110 v111 v112 v113 v114 v115 v116 H
    simp only [it_ret] at ih
    rw [it_ret, xiter_s]
    refine Eq.trans (congrFun (congrFun hR.symm _) _) ?_
    unfold r7R2
    refine Eq.trans (pl_len (by rfl)) ?_; (iterate 10 (refine yt yS ?_)); refine yt yB ?_; refine yt yS ?_; refine yt yA ?_; (iterate 21 (refine yt yS ?_)); (iterate 25 (refine yt yA ?_)); (iterate 65 (refine yt yS ?_))
    simp only [L7_2, kIter_n, kIter_x, kIter_r, kOut_x, kOut_r, xgo_hit, xgo_miss, ih, X7_2_0_ok d a0 a1 a2 a3 a4 a5 a6 a7 v0 v2 v4 v6 x11 x12 x16 x17 x21 x22 v23 b43 b44 b45 v46 v47 v48 x53 k55 x59 v86 k55N hk55N, E7_2_ok d a0 a1 a2 a3 a4 a5 a6 a7 v0 v2 v4 v6 x11 x12 x16 x17 x21 x22 v23 b43 b44 b45 v46 v47 v48 x53 k55 x59 v86 k55N hk55N]
noncomputable def X7_7_0 (d : Nat) (v6 v23 : AV) (x261 x374 : Int) (b415 : Bool) (H : Heap) : Ans :=
  C0.fin H (.bool b415)
theorem X7_7_0_ok (d : Nat) (a0 a1 a2 a3 a4 a5 a6 a7 : Int) (v0 v2 v4 v6 : AV) (x11 x12 x16 x17 x21 x22 : Int) (v23 : AV) (b43 b44 b45 : Bool) (v46 v47 v48 : AV) (x53 : Int) (b216 : Bool) (v217 : AV) (x218 : Int) (v219 v220 v221 v222 v223 v224 v225 v226 v227 v228 v229 v230 v231 v232 v233 v234 v235 v236 v237 v238 v239 v240 v241 v242 v243 v244 v245 : AV) (x249 x250 x254 x255 x259 x260 x261 : Int) (v277 : AV) (b278 b279 b280 : Bool) (v281 v282 : AV) (b283 b295 b296 b297 : Bool) (v298 v299 : AV) (x312 x313 x317 x318 x322 x323 x324 x328 x329 x333 x334 x338 x339 x340 x344 x345 x349 x350 x354 x355 x356 x374 : Int) (b375 : Bool) (x376 x377 x378 x379 : Int) (b380 : Bool) (v381 v382 v383 v384 v385 v386 : AV) (b415 : Bool) (v416 : AV) (x418 x419 x420 x421 : Int) (b422 b423 : Bool) (v424 v425 v426 v427 v428 : AV) (b429 : Bool) (H : Heap) : r7X7_0 C0 d a0 a1 a2 a3 a4 a5 a6 a7 v0 v2 v4 v6 x11 x12 x16 x17 x21 x22 v23 b43 b44 b45 v46 v47 v48 x53 b216 v217 x218 v219 v220 v221 v222 v223 v224 v225 v226 v227 v228 v229 v230 v231 v232 v233 v234 v235 v236 v237 v238 v239 v240 v241 v242 v243 v244 v245 x249 x250 x254 x255 x259 x260 x261 v277 b278 b279 b280 v281 v282 b283 b295 b296 b297 v298 v299 x312 x313 x317 x318 x322 x323 x324 x328 x329 x333 x334 x338 x339 x340 x344 x345 x349 x350 x354 x355 x356 x374 b375 x376 x377 x378 x379 b380 v381 v382 v383 v384 v385 v386 ⟨[(.agg [(iz a0), (iz a1)]), (.agg [(iz a2), (iz a3)]), (.agg [(iz a4), (iz a5)]), (.agg [(iz a6), (iz a7)]), v0, v2, v4, v6, (.bool b415), v23, (.bool b216), tz, v217, (iz x261), (iz (IntKind.wrap .i64 (x324 * x261))), (iz (IntKind.wrap .i64 (x340 * x261))), (iz (IntKind.wrap .i64 (x356 * x261))), (iz x374), (.agg [(iz x11), (iz x12)]), (.agg [(iz x16), (iz x17)]), (.agg [(iz x21), (iz x22)]), v23, (.bool b43), (.bool b44), (.bool b45), v46, v47, v48, bf, tz, v23, (iz x53), (iz x218), v219, v220, v221, v222, v223, v224, v225, v226, v227, v228, v229, v230, v231, v232, v233, v234, v235, v236, v237, v238, v239, v240, v241, v242, v243, v244, v245, (.agg [(iz x249), (iz x250)]), (.agg [(iz x254), (iz x255)]), (.agg [(iz x259), (iz x260)]), (iz x261), v277, (.bool b278), (.bool b279), (.bool b280), v281, v282, (.bool b283), bf, (.bool b295), (.bool b296), (.bool b297), v298, v299, bf, tz, tz, tz, tz, (.agg [(iz x312), (iz x313)]), (.agg [(iz x317), (iz x318)]), (.agg [(iz x322), (iz x323)]), (iz x324), (iz x261), (iz (IntKind.wrap .i64 (x324 * x261))), (.agg [(iz x328), (iz x329)]), (.agg [(iz x333), (iz x334)]), (.agg [(iz x338), (iz x339)]), (iz x340), (iz x261), (iz (IntKind.wrap .i64 (x340 * x261))), (.agg [(iz x344), (iz x345)]), (.agg [(iz x349), (iz x350)]), (.agg [(iz x354), (iz x355)]), (iz x356), (iz x261), (iz (IntKind.wrap .i64 (x356 * x261))), (.bool b375), (iz x376), (iz x377), (iz x378), (iz x379), (.bool b380), v381, v382, v383, v384, v385, v386, v416, (.agg [(iz x418), (iz x419)]), (iz x420), (iz x421), (.bool b422), (.bool b423), v424, v425, v426, v427, v428, (.bool b429)], H⟩ = X7_7_0 d v6 v23 x261 x374 b415 H := by
  unfold r7X7_0; refine Eq.trans (pl_len (by rfl)) ?_; (iterate 8 (refine yt yS ?_)); refine yt yB ?_; (iterate 103 (refine yt yS ?_)); refine yt yA ?_; refine yt yG ?_; (iterate 4 (refine yt yI ?_)); (iterate 2 (refine yt yB ?_)); (iterate 5 (refine yt yA ?_)); refine yt yB ?_
  rfl
noncomputable def E7_7 (d : Nat) (v6 v23 : AV) (x261 x374 : Int) (H : Heap) : Ans :=
  none
theorem E7_7_ok (d : Nat) (a0 a1 a2 a3 a4 a5 a6 a7 : Int) (v0 v2 v4 v6 : AV) (x11 x12 x16 x17 x21 x22 : Int) (v23 : AV) (b43 b44 b45 : Bool) (v46 v47 v48 : AV) (x53 : Int) (b216 : Bool) (v217 : AV) (x218 : Int) (v219 v220 v221 v222 v223 v224 v225 v226 v227 v228 v229 v230 v231 v232 v233 v234 v235 v236 v237 v238 v239 v240 v241 v242 v243 v244 v245 : AV) (x249 x250 x254 x255 x259 x260 x261 : Int) (v277 : AV) (b278 b279 b280 : Bool) (v281 v282 : AV) (b283 b295 b296 b297 : Bool) (v298 v299 : AV) (x312 x313 x317 x318 x322 x323 x324 x328 x329 x333 x334 x338 x339 x340 x344 x345 x349 x350 x354 x355 x356 x374 : Int) (b375 : Bool) (x376 x377 x378 x379 : Int) (b380 : Bool) (v381 v382 v383 v384 v385 v386 : AV) (b430 : Bool) (v431 v432 v433 v434 v435 v436 v437 v438 v439 v440 v441 v442 : AV) (H : Heap) : r7E7 C0 d a0 a1 a2 a3 a4 a5 a6 a7 v0 v2 v4 v6 x11 x12 x16 x17 x21 x22 v23 b43 b44 b45 v46 v47 v48 x53 b216 v217 x218 v219 v220 v221 v222 v223 v224 v225 v226 v227 v228 v229 v230 v231 v232 v233 v234 v235 v236 v237 v238 v239 v240 v241 v242 v243 v244 v245 x249 x250 x254 x255 x259 x260 x261 v277 b278 b279 b280 v281 v282 b283 b295 b296 b297 v298 v299 x312 x313 x317 x318 x322 x323 x324 x328 x329 x333 x334 x338 x339 x340 x344 x345 x349 x350 x354 x355 x356 x374 b375 x376 x377 x378 x379 b380 v381 v382 v383 v384 v385 v386 ⟨[(.agg [(iz a0), (iz a1)]), (.agg [(iz a2), (iz a3)]), (.agg [(iz a4), (iz a5)]), (.agg [(iz a6), (iz a7)]), v0, v2, v4, v6, (.bool b430), v23, (.bool b216), tz, v217, (iz x261), (iz (IntKind.wrap .i64 (x324 * x261))), (iz (IntKind.wrap .i64 (x340 * x261))), (iz (IntKind.wrap .i64 (x356 * x261))), (iz x374), (.agg [(iz x11), (iz x12)]), (.agg [(iz x16), (iz x17)]), (.agg [(iz x21), (iz x22)]), v23, (.bool b43), (.bool b44), (.bool b45), v46, v47, v48, bf, tz, v23, (iz x53), (iz x218), v219, v220, v221, v222, v223, v224, v225, v226, v227, v228, v229, v230, v231, v232, v233, v234, v235, v236, v237, v238, v239, v240, v241, v242, v243, v244, v245, (.agg [(iz x249), (iz x250)]), (.agg [(iz x254), (iz x255)]), (.agg [(iz x259), (iz x260)]), (iz x261), v277, (.bool b278), (.bool b279), (.bool b280), v281, v282, (.bool b283), bf, (.bool b295), (.bool b296), (.bool b297), v298, v299, bf, tz, tz, tz, tz, (.agg [(iz x312), (iz x313)]), (.agg [(iz x317), (iz x318)]), (.agg [(iz x322), (iz x323)]), (iz x324), (iz x261), (iz (IntKind.wrap .i64 (x324 * x261))), (.agg [(iz x328), (iz x329)]), (.agg [(iz x333), (iz x334)]), (.agg [(iz x338), (iz x339)]), (iz x340), (iz x261), (iz (IntKind.wrap .i64 (x340 * x261))), (.agg [(iz x344), (iz x345)]), (.agg [(iz x349), (iz x350)]), (.agg [(iz x354), (iz x355)]), (iz x356), (iz x261), (iz (IntKind.wrap .i64 (x356 * x261))), (.bool b375), (iz x376), (iz x377), (iz x378), (iz x379), (.bool b380), v381, v382, v383, v384, v385, v386, v431, v432, v433, v434, v435, v436, v437, v438, v439, v440, v441, v442], H⟩ = E7_7 d v6 v23 x261 x374 H := by
  unfold r7E7; refine Eq.trans (pl_len (by rfl)) ?_; (iterate 8 (refine yt yS ?_)); refine yt yB ?_; (iterate 103 (refine yt yS ?_)); (iterate 12 (refine yt yA ?_))
  rfl
noncomputable def L7_7 (d : Nat) (v6 v23 : AV) (x261 x374 : Int) : Nat → Heap → Ans
  | 0, _ => none
  | n + 1, H =>
  C0.hop H (.load true 2 (.v v6)) fun v403 h404 =>
   C0.agg 2 (some v403) fun l405 =>
   C0.int .i64 l405[0]? fun x406 =>
   C0.int .i64 l405[1]? fun x407 =>
   C0.snp h404 [v23, (.agg [(iz x406), (iz x407)])] fun l408 b409 =>
   C0.int .i64 (pcall M d 16 l408) fun x410 =>
   cnd (b409 || true)
   (cnd (x410 == x374)
   (C0.snp h404 [v23] fun l411 b412 =>
   C0.bool (pcall M d 18 l411) fun b413 =>
   cnd (b412 || true)
   (X7_7_0 d v6 v23 x261 x374 (xor false (b413 == (decide (x261 > 0)))) h404)
   (none))
   (X7_7_0 d v6 v23 x261 x374 false h404))
   (none)
theorem it7_7 (d : Nat) (a0 a1 a2 a3 a4 a5 a6 a7 : Int) (v0 v2 v4 v6 : AV) (x11 x12 x16 x17 x21 x22 : Int) (v23 : AV) (b43 b44 b45 : Bool) (v46 v47 v48 : AV) (x53 : Int) (b216 : Bool) (v217 : AV) (x218 : Int) (v219 v220 v221 v222 v223 v224 v225 v226 v227 v228 v229 v230 v231 v232 v233 v234 v235 v236 v237 v238 v239 v240 v241 v242 v243 v244 v245 : AV) (x249 x250 x254 x255 x259 x260 x261 : Int) (v277 : AV) (b278 b279 b280 : Bool) (v281 v282 : AV) (b283 b295 b296 b297 : Bool) (v298 v299 : AV) (x312 x313 x317 x318 x322 x323 x324 x328 x329 x333 x334 x338 x339 x340 x344 x345 x349 x350 x354 x355 x356 x374 : Int) (b375 : Bool) (x376 x377 x378 x379 : Int) (b380 : Bool) (v381 v382 v383 v384 v385 v386 : AV)   : ∀ (n : Nat) (b390 : Bool) (v391 v392 v393 v394 v395 v396 v397 v398 v399 v400 v401 v402 : AV) (H : Heap), C0.iter (r7R7 C0 d a0 a1 a2 a3 a4 a5 a6 a7 v0 v2 v4 v6 x11 x12 x16 x17 x21 x22 v23 b43 b44 b45 v46 v47 v48 x53 b216 v217 x218 v219 v220 v221 v222 v223 v224 v225 v226 v227 v228 v229 v230 v231 v232 v233 v234 v235 v236 v237 v238 v239 v240 v241 v242 v243 v244 v245 x249 x250 x254 x255 x259 x260 x261 v277 b278 b279 b280 v281 v282 b283 b295 b296 b297 v298 v299 x312 x313 x317 x318 x322 x323 x324 x328 x329 x333 x334 x338 x339 x340 x344 x345 x349 x350 x354 x355 x356 x374 b375 x376 x377 x378 x379 b380 v381 v382 v383 v384 v385 v386) n ⟨[(.agg [(iz a0), (iz a1)]), (.agg [(iz a2), (iz a3)]), (.agg [(iz a4), (iz a5)]), (.agg [(iz a6), (iz a7)]), v0, v2, v4, v6, (.bool b390), v23, (.bool b216), tz, v217, (iz x261), (iz (IntKind.wrap .i64 (x324 * x261))), (iz (IntKind.wrap .i64 (x340 * x261))), (iz (IntKind.wrap .i64 (x356 * x261))), (iz x374), (.agg [(iz x11), (iz x12)]), (.agg [(iz x16), (iz x17)]), (.agg [(iz x21), (iz x22)]), v23, (.bool b43), (.bool b44), (.bool b45), v46, v47, v48, bf, tz, v23, (iz x53), (iz x218), v219, v220, v221, v222, v223, v224, v225, v226, v227, v228, v229, v230, v231, v232, v233, v234, v235, v236, v237, v238, v239, v240, v241, v242, v243, v244, v245, (.agg [(iz x249), (iz x250)]), (.agg [(iz x254), (iz x255)]), (.agg [(iz x259), (iz x260)]), (iz x261), v277, (.bool b278), (.bool b279), (.bool b280), v281, v282, (.bool b283), bf, (.bool b295), (.bool b296), (.bool b297), v298, v299, bf, tz, tz, tz, tz, (.agg [(iz x312), (iz x313)]), (.agg [(iz x317), (iz x318)]), (.agg [(iz x322), (iz x323)]), (iz x324), (iz x261), (iz (IntKind.wrap .i64 (x324 * x261))), (.agg [(iz x328), (iz x329)]), (.agg [(iz x333), (iz x334)]), (.agg [(iz x338), (iz x339)]), (iz x340), (iz x261), (iz (IntKind.wrap .i64 (x340 * x261))), (.agg [(iz x344), (iz x345)]), (.agg [(iz x349), (iz x350)]), (.agg [(iz x354), (iz x355)]), (iz x356), (iz x261), (iz (IntKind.wrap .i64 (x356 * x261))), (.bool b375), (iz x376), (iz x377), (iz x378), (iz x379), (.bool b380), v381, v382, v383, v384, v385, v386, v391, v392, v393, v394, v395, v396, v397, v398, v399, v400, v401, v402], H⟩ [2000000] [r7X7_0 C0 d a0 a1 a2 a3 a4 a5 a6 a7 v0 v2 v4 v6 x11 x12 x16 x17 x21 x22 v23 b43 b44 b45 v46 v47 v48 x53 b216 v217 x218 v219 v220 v221 v222 v223 v224 v225 v226 v227 v228 v229 v230 v231 v232 v233 v234 v235 v236 v237 v238 v239 v240 v241 v242 v243 v244 v245 x249 x250 x254 x255 x259 x260 x261 v277 b278 b279 b280 v281 v282 b283 b295 b296 b297 v298 v299 x312 x313 x317 x318 x322 x323 x324 x328 x329 x333 x334 x338 x339 x340 x344 x345 x349 x350 x354 x355 x356 x374 b375 x376 x377 x378 x379 b380 v381 v382 v383 v384 v385 v386] (r7E7 C0 d a0 a1 a2 a3 a4 a5 a6 a7 v0 v2 v4 v6 x11 x12 x16 x17 x21 x22 v23 b43 b44 b45 v46 v47 v48 x53 b216 v217 x218 v219 v220 v221 v222 v223 v224 v225 v226 v227 v228 v229 v230 v231 v232 v233 v234 v235 v236 v237 v238 v239 v240 v241 v242 v243 v244 v245 x249 x250 x254 x255 x259 x260 x261 v277 b278 b279 b280 v281 v282 b283 b295 b296 b297 v298 v299 x312 x313 x317 x318 x322 x323 x324 x328 x329 x333 x334 x338 x339 x340 x344 x345 x349 x350 x354 x355 x356 x374 b375 x376 x377 x378 x379 b380 v381 v382 v383 v384 v385 v386) = L7_7 d v6 v23 x261 x374 n H := by
  generalize hR : r7R7 C0 d a0 a1 a2 a3 a4 a5 a6 a7 v0 v2 v4 v6 x11 x12 x16 x17 x21 x22 v23 b43 b44 b45 v46 v47 v48 x53 b216 v217 x218 v219 v220 v221 v222 v223 v224 v225 v226 v227 v228 v229 v230 v231 v232 v233 v234 v235 v236 v237 v238 v239 v240 v241 v242 v243 v244 v245 x249 x250 x254 x255 x259 x260 x261 v277 b278 b279 b280 v281 v282 b283 b295 b296 b297 v298 v299 x312 x313 x317 x318 x322 x323 x324 x328 x329 x333 x334 x338 x339 x340 x344 x345 x349 x350 x354 x355 x356 x374 b375 x376 x377 x378 x379 b380 v381 v382 v383 v384 v385 v386 = R
  intro n
  induction n with
  | zero => intros; rfl
  | succ n ih =>
    intro b390 v391 v392 v393 v394 v395 v396 v397 v398 v399 v400 v401 v402 H
    simp only [it_ret] at ih
    rw [it_ret, xiter_s]
    refine Eq.trans (congrFun (congrFun hR.symm _) _) ?_
    unfold r7R7
    refine Eq.trans (pl_len (by rfl)) ?_; (iterate 8 (refine yt yS ?_)); refine yt yB ?_; (iterate 103 (refine yt yS ?_)); (iterate 12 (refine yt yA ?_))
    simp only [L7_7, kIter_n, kIter_x, kIter_r, kOut_x, kOut_r, xgo_hit, xgo_miss, ih, X7_7_0_ok d a0 a1 a2 a3 a4 a5 a6 a7 v0 v2 v4 v6 x11 x12 x16 x17 x21 x22 v23 b43 b44 b45 v46 v47 v48 x53 b216 v217 x218 v219 v220 v221 v222 v223 v224 v225 v226 v227 v228 v229 v230 v231 v232 v233 v234 v235 v236 v237 v238 v239 v240 v241 v242 v243 v244 v245 x249 x250 x254 x255 x259 x260 x261 v277 b278 b279 b280 v281 v282 b283 b295 b296 b297 v298 v299 x312 x313 x317 x318 x322 x323 x324 x328 x329 x333 x334 x338 x339 x340 x344 x345 x349 x350 x354 x355 x356 x374 b375 x376 x377 x378 x379 b380 v381 v382 v383 v384 v385 v386  , E7_7_ok d a0 a1 a2 a3 a4 a5 a6 a7 v0 v2 v4 v6 x11 x12 x16 x17 x21 x22 v23 b43 b44 b45 v46 v47 v48 x53 b216 v217 x218 v219 v220 v221 v222 v223 v224 v225 v226 v227 v228 v229 v230 v231 v232 v233 v234 v235 v236 v237 v238 v239 v240 v241 v242 v243 v244 v245 x249 x250 x254 x255 x259 x260 x261 v277 b278 b279 b280 v281 v282 b283 b295 b296 b297 v298 v299 x312 x313 x317 x318 x322 x323 x324 x328 x329 x333 x334 x338 x339 x340 x344 x345 x349 x350 x354 x355 x356 x374 b375 x376 x377 x378 x379 b380 v381 v382 v383 v384 v385 v386  ]
noncomputable def X7_6_0 (d : Nat) (v6 v23 : AV) (x261 x324 x340 x356 x374 : Int) (H : Heap) : Ans :=
  L7_7 d v6 v23 x261 x374 1 H
theorem X7_6_0_ok (d : Nat) (a0 a1 a2 a3 a4 a5 a6 a7 : Int) (v0 v2 v4 v6 : AV) (x11 x12 x16 x17 x21 x22 : Int) (v23 : AV) (b43 b44 b45 : Bool) (v46 v47 v48 : AV) (x53 : Int) (b216 : Bool) (v217 : AV) (x218 : Int) (v219 v220 v221 v222 v223 v224 v225 v226 v227 v228 v229 v230 v231 v232 v233 v234 v235 v236 v237 v238 v239 v240 v241 v242 v243 v244 v245 : AV) (x249 x250 x254 x255 x259 x260 x261 : Int) (v277 : AV) (b278 b279 b280 : Bool) (v281 v282 : AV) (b283 b295 b296 b297 : Bool) (v298 v299 : AV) (x312 x313 x317 x318 x322 x323 x324 x328 x329 x333 x334 x338 x339 x340 x344 x345 x349 x350 x354 x355 x356 x374 : Int) (b375 : Bool) (x376 x377 x378 x379 : Int) (b380 : Bool) (v381 v382 v383 v384 v385 v386 : AV) (H : Heap) : r7X6_0 C0 d a0 a1 a2 a3 a4 a5 a6 a7 v0 v2 v4 v6 x11 x12 x16 x17 x21 x22 v23 b43 b44 b45 v46 v47 v48 x53 b216 v217 x218 v219 v220 v221 v222 v223 v224 v225 v226 v227 v228 v229 v230 v231 v232 v233 v234 v235 v236 v237 v238 v239 v240 v241 v242 v243 v244 v245 x249 x250 x254 x255 x259 x260 x261 v277 b278 b279 b280 v281 v282 b283 b295 b296 b297 v298 v299 x312 x313 x317 x318 x322 x323 x324 x328 x329 x333 x334 x338 x339 x340 x344 x345 x349 x350 x354 x355 x356 ⟨[(.agg [(iz a0), (iz a1)]), (.agg [(iz a2), (iz a3)]), (.agg [(iz a4), (iz a5)]), (.agg [(iz a6), (iz a7)]), v0, v2, v4, v6, bf, v23, (.bool b216), tz, v217, (iz x261), (iz (IntKind.wrap .i64 (x324 * x261))), (iz (IntKind.wrap .i64 (x340 * x261))), (iz (IntKind.wrap .i64 (x356 * x261))), (iz x374), (.agg [(iz x11), (iz x12)]), (.agg [(iz x16), (iz x17)]), (.agg [(iz x21), (iz x22)]), v23, (.bool b43), (.bool b44), (.bool b45), v46, v47, v48, bf, tz, v23, (iz x53), (iz x218), v219, v220, v221, v222, v223, v224, v225, v226, v227, v228, v229, v230, v231, v232, v233, v234, v235, v236, v237, v238, v239, v240, v241, v242, v243, v244, v245, (.agg [(iz x249), (iz x250)]), (.agg [(iz x254), (iz x255)]), (.agg [(iz x259), (iz x260)]), (iz x261), v277, (.bool b278), (.bool b279), (.bool b280), v281, v282, (.bool b283), bf, (.bool b295), (.bool b296), (.bool b297), v298, v299, bf, tz, tz, tz, tz, (.agg [(iz x312), (iz x313)]), (.agg [(iz x317), (iz x318)]), (.agg [(iz x322), (iz x323)]), (iz x324), (iz x261), (iz (IntKind.wrap .i64 (x324 * x261))), (.agg [(iz x328), (iz x329)]), (.agg [(iz x333), (iz x334)]), (.agg [(iz x338), (iz x339)]), (iz x340), (iz x261), (iz (IntKind.wrap .i64 (x340 * x261))), (.agg [(iz x344), (iz x345)]), (.agg [(iz x349), (iz x350)]), (.agg [(iz x354), (iz x355)]), (iz x356), (iz x261), (iz (IntKind.wrap .i64 (x356 * x261))), (.bool b375), (iz x376), (iz x377), (iz x378), (iz x379), (.bool b380), v381, v382, v383, v384, v385, v386, tz, tz, tz, tz, tz, tz, tz, tz, tz, tz, tz, tz], H⟩ = X7_6_0 d v6 v23 x261 x324 x340 x356 x374 H := by
  unfold r7X6_0; refine Eq.trans (pl_len (by rfl)) ?_; (iterate 17 (refine yt yS ?_)); refine yt yI ?_; (iterate 82 (refine yt yS ?_)); refine yt yB ?_; (iterate 4 (refine yt yI ?_)); refine yt yB ?_; (iterate 6 (refine yt yA ?_)); (iterate 12 (refine yt yS ?_))
  first | (simp only [it7_7] <;> rfl) | rfl
noncomputable def E7_6 (d : Nat) (v6 v23 : AV) (x261 x324 x340 x356 : Int) (H : Heap) : Ans :=
  none
theorem E7_6_ok (d : Nat) (a0 a1 a2 a3 a4 a5 a6 a7 : Int) (v0 v2 v4 v6 : AV) (x11 x12 x16 x17 x21 x22 : Int) (v23 : AV) (b43 b44 b45 : Bool) (v46 v47 v48 : AV) (x53 : Int) (b216 : Bool) (v217 : AV) (x218 : Int) (v219 v220 v221 v222 v223 v224 v225 v226 v227 v228 v229 v230 v231 v232 v233 v234 v235 v236 v237 v238 v239 v240 v241 v242 v243 v244 v245 : AV) (x249 x250 x254 x255 x259 x260 x261 : Int) (v277 : AV) (b278 b279 b280 : Bool) (v281 v282 : AV) (b283 b295 b296 b297 : Bool) (v298 v299 : AV) (x312 x313 x317 x318 x322 x323 x324 x328 x329 x333 x334 x338 x339 x340 x344 x345 x349 x350 x354 x355 x356 x443 : Int) (v444 v445 v446 v447 v448 v449 v450 v451 v452 v453 v454 v455 : AV) (H : Heap) : r7E6 C0 d a0 a1 a2 a3 a4 a5 a6 a7 v0 v2 v4 v6 x11 x12 x16 x17 x21 x22 v23 b43 b44 b45 v46 v47 v48 x53 b216 v217 x218 v219 v220 v221 v222 v223 v224 v225 v226 v227 v228 v229 v230 v231 v232 v233 v234 v235 v236 v237 v238 v239 v240 v241 v242 v243 v244 v245 x249 x250 x254 x255 x259 x260 x261 v277 b278 b279 b280 v281 v282 b283 b295 b296 b297 v298 v299 x312 x313 x317 x318 x322 x323 x324 x328 x329 x333 x334 x338 x339 x340 x344 x345 x349 x350 x354 x355 x356 ⟨[(.agg [(iz a0), (iz a1)]), (.agg [(iz a2), (iz a3)]), (.agg [(iz a4), (iz a5)]), (.agg [(iz a6), (iz a7)]), v0, v2, v4, v6, bf, v23, (.bool b216), tz, v217, (iz x261), (iz (IntKind.wrap .i64 (x324 * x261))), (iz (IntKind.wrap .i64 (x340 * x261))), (iz (IntKind.wrap .i64 (x356 * x261))), (iz x443), (.agg [(iz x11), (iz x12)]), (.agg [(iz x16), (iz x17)]), (.agg [(iz x21), (iz x22)]), v23, (.bool b43), (.bool b44), (.bool b45), v46, v47, v48, bf, tz, v23, (iz x53), (iz x218), v219, v220, v221, v222, v223, v224, v225, v226, v227, v228, v229, v230, v231, v232, v233, v234, v235, v236, v237, v238, v239, v240, v241, v242, v243, v244, v245, (.agg [(iz x249), (iz x250)]), (.agg [(iz x254), (iz x255)]), (.agg [(iz x259), (iz x260)]), (iz x261), v277, (.bool b278), (.bool b279), (.bool b280), v281, v282, (.bool b283), bf, (.bool b295), (.bool b296), (.bool b297), v298, v299, bf, tz, tz, tz, tz, (.agg [(iz x312), (iz x313)]), (.agg [(iz x317), (iz x318)]), (.agg [(iz x322), (iz x323)]), (iz x324), (iz x261), (iz (IntKind.wrap .i64 (x324 * x261))), (.agg [(iz x328), (iz x329)]), (.agg [(iz x333), (iz x334)]), (.agg [(iz x338), (iz x339)]), (iz x340), (iz x261), (iz (IntKind.wrap .i64 (x340 * x261))), (.agg [(iz x344), (iz x345)]), (.agg [(iz x349), (iz x350)]), (.agg [(iz x354), (iz x355)]), (iz x356), (iz x261), (iz (IntKind.wrap .i64 (x356 * x261))), v444, v445, v446, v447, v448, v449, v450, v451, v452, v453, v454, v455, tz, tz, tz, tz, tz, tz, tz, tz, tz, tz, tz, tz], H⟩ = E7_6 d v6 v23 x261 x324 x340 x356 H := by
  unfold r7E6; refine Eq.trans (pl_len (by rfl)) ?_; (iterate 17 (refine yt yS ?_)); refine yt yI ?_; (iterate 82 (refine yt yS ?_)); (iterate 12 (refine yt yA ?_)); (iterate 12 (refine yt yS ?_))
  rfl
noncomputable def L7_6 (d : Nat) (v6 v23 : AV) (x261 x324 x340 x356 : Int) : Nat → Int → Heap → Ans
  | 0, _, _ => none
  | n + 1, x360, H =>
  cnd (decide ((if ((IntKind.wrap .i64 (x356 * x261)) < (if ((IntKind.wrap .i64 (x340 * x261)) < (IntKind.wrap .i64 (x324 * x261))) then (IntKind.wrap .i64 (x340 * x261)) else (IntKind.wrap .i64 (x324 * x261)))) then (IntKind.wrap .i64 (x356 * x261)) else (if ((IntKind.wrap .i64 (x340 * x261)) < (IntKind.wrap .i64 (x324 * x261))) then (IntKind.wrap .i64 (x340 * x261)) else (IntKind.wrap .i64 (x324 * x261)))) > 0))
   (X7_6_0 d v6 v23 x261 x324 x340 x356 1 H)
   (cnd ((if ((IntKind.wrap .i64 (x356 * x261)) < (if ((IntKind.wrap .i64 (x340 * x261)) < (IntKind.wrap .i64 (x324 * x261))) then (IntKind.wrap .i64 (x340 * x261)) else (IntKind.wrap .i64 (x324 * x261)))) then (IntKind.wrap .i64 (x356 * x261)) else (if ((IntKind.wrap .i64 (x340 * x261)) < (IntKind.wrap .i64 (x324 * x261))) then (IntKind.wrap .i64 (x340 * x261)) else (IntKind.wrap .i64 (x324 * x261)))) == 0)
   (X7_6_0 d v6 v23 x261 x324 x340 x356 0 H)
   (X7_6_0 d v6 v23 x261 x324 x340 x356 x360 H))
theorem it7_6 (d : Nat) (a0 a1 a2 a3 a4 a5 a6 a7 : Int) (v0 v2 v4 v6 : AV) (x11 x12 x16 x17 x21 x22 : Int) (v23 : AV) (b43 b44 b45 : Bool) (v46 v47 v48 : AV) (x53 : Int) (b216 : Bool) (v217 : AV) (x218 : Int) (v219 v220 v221 v222 v223 v224 v225 v226 v227 v228 v229 v230 v231 v232 v233 v234 v235 v236 v237 v238 v239 v240 v241 v242 v243 v244 v245 : AV) (x249 x250 x254 x255 x259 x260 x261 : Int) (v277 : AV) (b278 b279 b280 : Bool) (v281 v282 : AV) (b283 b295 b296 b297 : Bool) (v298 v299 : AV) (x312 x313 x317 x318 x322 x323 x324 x328 x329 x333 x334 x338 x339 x340 x344 x345 x349 x350 x354 x355 x356 : Int)   : ∀ (n : Nat) (x360 : Int) (v361 v362 v363 v364 v365 v366 v367 v368 v369 v370 v371 v372 : AV) (H : Heap), C0.iter (r7R6 C0 d a0 a1 a2 a3 a4 a5 a6 a7 v0 v2 v4 v6 x11 x12 x16 x17 x21 x22 v23 b43 b44 b45 v46 v47 v48 x53 b216 v217 x218 v219 v220 v221 v222 v223 v224 v225 v226 v227 v228 v229 v230 v231 v232 v233 v234 v235 v236 v237 v238 v239 v240 v241 v242 v243 v244 v245 x249 x250 x254 x255 x259 x260 x261 v277 b278 b279 b280 v281 v282 b283 b295 b296 b297 v298 v299 x312 x313 x317 x318 x322 x323 x324 x328 x329 x333 x334 x338 x339 x340 x344 x345 x349 x350 x354 x355 x356) n ⟨[(.agg [(iz a0), (iz a1)]), (.agg [(iz a2), (iz a3)]), (.agg [(iz a4), (iz a5)]), (.agg [(iz a6), (iz a7)]), v0, v2, v4, v6, bf, v23, (.bool b216), tz, v217, (iz x261), (iz (IntKind.wrap .i64 (x324 * x261))), (iz (IntKind.wrap .i64 (x340 * x261))), (iz (IntKind.wrap .i64 (x356 * x261))), (iz x360), (.agg [(iz x11), (iz x12)]), (.agg [(iz x16), (iz x17)]), (.agg [(iz x21), (iz x22)]), v23, (.bool b43), (.bool b44), (.bool b45), v46, v47, v48, bf, tz, v23, (iz x53), (iz x218), v219, v220, v221, v222, v223, v224, v225, v226, v227, v228, v229, v230, v231, v232, v233, v234, v235, v236, v237, v238, v239, v240, v241, v242, v243, v244, v245, (.agg [(iz x249), (iz x250)]), (.agg [(iz x254), (iz x255)]), (.agg [(iz x259), (iz x260)]), (iz x261), v277, (.bool b278), (.bool b279), (.bool b280), v281, v282, (.bool b283), bf, (.bool b295), (.bool b296), (.bool b297), v298, v299, bf, tz, tz, tz, tz, (.agg [(iz x312), (iz x313)]), (.agg [(iz x317), (iz x318)]), (.agg [(iz x322), (iz x323)]), (iz x324), (iz x261), (iz (IntKind.wrap .i64 (x324 * x261))), (.agg [(iz x328), (iz x329)]), (.agg [(iz x333), (iz x334)]), (.agg [(iz x338), (iz x339)]), (iz x340), (iz x261), (iz (IntKind.wrap .i64 (x340 * x261))), (.agg [(iz x344), (iz x345)]), (.agg [(iz x349), (iz x350)]), (.agg [(iz x354), (iz x355)]), (iz x356), (iz x261), (iz (IntKind.wrap .i64 (x356 * x261))), v361, v362, v363, v364, v365, v366, v367, v368, v369, v370, v371, v372, tz, tz, tz, tz, tz, tz, tz, tz, tz, tz, tz, tz], H⟩ [2000000] [r7X6_0 C0 d a0 a1 a2 a3 a4 a5 a6 a7 v0 v2 v4 v6 x11 x12 x16 x17 x21 x22 v23 b43 b44 b45 v46 v47 v48 x53 b216 v217 x218 v219 v220 v221 v222 v223 v224 v225 v226 v227 v228 v229 v230 v231 v232 v233 v234 v235 v236 v237 v238 v239 v240 v241 v242 v243 v244 v245 x249 x250 x254 x255 x259 x260 x261 v277 b278 b279 b280 v281 v282 b283 b295 b296 b297 v298 v299 x312 x313 x317 x318 x322 x323 x324 x328 x329 x333 x334 x338 x339 x340 x344 x345 x349 x350 x354 x355 x356] (r7E6 C0 d a0 a1 a2 a3 a4 a5 a6 a7 v0 v2 v4 v6 x11 x12 x16 x17 x21 x22 v23 b43 b44 b45 v46 v47 v48 x53 b216 v217 x218 v219 v220 v221 v222 v223 v224 v225 v226 v227 v228 v229 v230 v231 v232 v233 v234 v235 v236 v237 v238 v239 v240 v241 v242 v243 v244 v245 x249 x250 x254 x255 x259 x260 x261 v277 b278 b279 b280 v281 v282 b283 b295 b296 b297 v298 v299 x312 x313 x317 x318 x322 x323 x324 x328 x329 x333 x334 x338 x339 x340 x344 x345 x349 x350 x354 x355 x356) = L7_6 d v6 v23 x261 x324 x340 x356 n x360 H := by
  generalize hR : r7R6 C0 d a0 a1 a2 a3 a4 a5 a6 a7 v0 v2 v4 v6 x11 x12 x16 x17 x21 x22 v23 b43 b44 b45 v46 v47 v48 x53 b216 v217 x218 v219 v220 v221 v222 v223 v224 v225 v226 v227 v228 v229 v230 v231 v232 v233 v234 v235 v236 v237 v238 v239 v240 v241 v242 v243 v244 v245 x249 x250 x254 x255 x259 x260 x261 v277 b278 b279 b280 v281 v282 b283 b295 b296 b297 v298 v299 x312 x313 x317 x318 x322 x323 x324 x328 x329 x333 x334 x338 x339 x340 x344 x345 x349 x350 x354 x355 x356 = R
  intro n
  induction n with
  | zero => intros; rfl
  | succ n ih =>
    intro x360 v361 v362 v363 v364 v365 v366 v367 v368 v369 v370 v371 v372 H
    simp only [it_ret] at ih
    rw [it_ret, xiter_s]
    refine Eq.trans (congrFun (congrFun hR.symm _) _) ?_
    unfold r7R6
    refine Eq.trans (pl_len (by rfl)) ?_; (iterate 17 (refine yt yS ?_)); refine yt yI ?_; (iterate 82 (refine yt yS ?_)); (iterate 12 (refine yt yA ?_)); (iterate 12 (refine yt yS ?_))
    simp only [L7_6, kIter_n, kIter_x, kIter_r, kOut_x, kOut_r, xgo_hit, xgo_miss, ih, X7_6_0_ok d a0 a1 a2 a3 a4 a5 a6 a7 v0 v2 v4 v6 x11 x12 x16 x17 x21 x22 v23 b43 b44 b45 v46 v47 v48 x53 b216 v217 x218 v219 v220 v221 v222 v223 v224 v225 v226 v227 v228 v229 v230 v231 v232 v233 v234 v235 v236 v237 v238 v239 v240 v241 v242 v243 v244 v245 x249 x250 x254 x255 x259 x260 x261 v277 b278 b279 b280 v281 v282 b283 b295 b296 b297 v298 v299 x312 x313 x317 x318 x322 x323 x324 x328 x329 x333 x334 x338 x339 x340 x344 x345 x349 x350 x354 x355 x356  , E7_6_ok d a0 a1 a2 a3 a4 a5 a6 a7 v0 v2 v4 v6 x11 x12 x16 x17 x21 x22 v23 b43 b44 b45 v46 v47 v48 x53 b216 v217 x218 v219 v220 v221 v222 v223 v224 v225 v226 v227 v228 v229 v230 v231 v232 v233 v234 v235 v236 v237 v238 v239 v240 v241 v242 v243 v244 v245 x249 x250 x254 x255 x259 x260 x261 v277 b278 b279 b280 v281 v282 b283 b295 b296 b297 v298 v299 x312 x313 x317 x318 x322 x323 x324 x328 x329 x333 x334 x338 x339 x340 x344 x345 x349 x350 x354 x355 x356  ]
noncomputable def X7_5_0 (d : Nat) (v0 v2 v4 v6 v23 : AV) (b216 : Bool) (x261 : Int) (b300 : Bool) (H : Heap) : Ans :=
  cnd b300
   (C0.hop H (.load true 2 (.v v6)) fun v301 h302 =>
   C0.agg 2 (some v301) fun l303 =>
   C0.int .i64 l303[0]? fun x304 =>
   C0.int .i64 l303[1]? fun x305 =>
   C0.snp h302 [v23, (.agg [(iz x304), (iz x305)])] fun l306 b307 =>
   C0.int .i64 (pcall M d 16 l306) fun x308 =>
   cnd (b307 || true)
   (C0.fin h302 (.bool (x308 == (-1))))
   (none))
   (C0.hop H (.load true 2 (.v v0)) fun v309 h310 =>
   C0.agg 2 (some v309) fun l311 =>
   C0.int .i64 l311[0]? fun x312 =>
   C0.int .i64 l311[1]? fun x313 =>
   C0.hop h310 (.load true 2 (.v v2)) fun v314 h315 =>
   C0.agg 2 (some v314) fun l316 =>
   C0.int .i64 l316[0]? fun x317 =>
   C0.int .i64 l316[1]? fun x318 =>
   C0.hop h315 (.load true 2 (.v v6)) fun v319 h320 =>
   C0.agg 2 (some v319) fun l321 =>
   C0.int .i64 l321[0]? fun x322 =>
   C0.int .i64 l321[1]? fun x323 =>
   C0.int .i64 (pcall M d 29 [(.agg [(iz x312), (iz x313)]), (.agg [(iz x317), (iz x318)]), (.agg [(iz x322), (iz x323)])]) fun x324 =>
   C0.hop h320 (.load true 2 (.v v2)) fun v325 h326 =>
   C0.agg 2 (some v325) fun l327 =>
   C0.int .i64 l327[0]? fun x328 =>
   C0.int .i64 l327[1]? fun x329 =>
   C0.hop h326 (.load true 2 (.v v4)) fun v330 h331 =>
   C0.agg 2 (some v330) fun l332 =>
   C0.int .i64 l332[0]? fun x333 =>
   C0.int .i64 l332[1]? fun x334 =>
   C0.hop h331 (.load true 2 (.v v6)) fun v335 h336 =>
   C0.agg 2 (some v335) fun l337 =>
   C0.int .i64 l337[0]? fun x338 =>
   C0.int .i64 l337[1]? fun x339 =>
   C0.int .i64 (pcall M d 29 [(.agg [(iz x328), (iz x329)]), (.agg [(iz x333), (iz x334)]), (.agg [(iz x338), (iz x339)])]) fun x340 =>
   C0.hop h336 (.load true 2 (.v v4)) fun v341 h342 =>
   C0.agg 2 (some v341) fun l343 =>
   C0.int .i64 l343[0]? fun x344 =>
   C0.int .i64 l343[1]? fun x345 =>
   C0.hop h342 (.load true 2 (.v v0)) fun v346 h347 =>
   C0.agg 2 (some v346) fun l348 =>
   C0.int .i64 l348[0]? fun x349 =>
   C0.int .i64 l348[1]? fun x350 =>
   C0.hop h347 (.load true 2 (.v v6)) fun v351 h352 =>
   C0.agg 2 (some v351) fun l353 =>
   C0.int .i64 l353[0]? fun x354 =>
   C0.int .i64 l353[1]? fun x355 =>
   C0.int .i64 (pcall M d 29 [(.agg [(iz x344), (iz x345)]), (.agg [(iz x349), (iz x350)]), (.agg [(iz x354), (iz x355)])]) fun x356 =>
   L7_6 d v6 v23 x261 x324 x340 x356 1 (-1) h352)
theorem X7_5_0_ok (d : Nat) (a0 a1 a2 a3 a4 a5 a6 a7 : Int) (v0 v2 v4 v6 : AV) (x11 x12 x16 x17 x21 x22 : Int) (v23 : AV) (b43 b44 b45 : Bool) (v46 v47 v48 : AV) (x53 : Int) (b216 : Bool) (v217 : AV) (x218 : Int) (v219 v220 v221 v222 v223 v224 v225 v226 v227 v228 v229 v230 v231 v232 v233 v234 v235 v236 v237 v238 v239 v240 v241 v242 v243 v244 v245 : AV) (x249 x250 x254 x255 x259 x260 x261 : Int) (v277 : AV) (b278 b279 b280 : Bool) (v281 v282 : AV) (b283 b295 b296 b297 : Bool) (v298 v299 : AV) (b300 : Bool) (H : Heap) : r7X5_0 C0 d a0 a1 a2 a3 a4 a5 a6 a7 v0 v2 v4 v6 x11 x12 x16 x17 x21 x22 v23 b43 b44 b45 v46 v47 v48 x53 b216 v217 x218 v219 v220 v221 v222 v223 v224 v225 v226 v227 v228 v229 v230 v231 v232 v233 v234 v235 v236 v237 v238 v239 v240 v241 v242 v243 v244 v245 x249 x250 x254 x255 x259 x260 x261 v277 b278 b279 b280 v281 v282 b283 ⟨[(.agg [(iz a0), (iz a1)]), (.agg [(iz a2), (iz a3)]), (.agg [(iz a4), (iz a5)]), (.agg [(iz a6), (iz a7)]), v0, v2, v4, v6, bf, v23, (.bool b216), tz, v217, (iz x261), tz, tz, tz, tz, (.agg [(iz x11), (iz x12)]), (.agg [(iz x16), (iz x17)]), (.agg [(iz x21), (iz x22)]), v23, (.bool b43), (.bool b44), (.bool b45), v46, v47, v48, bf, tz, v23, (iz x53), (iz x218), v219, v220, v221, v222, v223, v224, v225, v226, v227, v228, v229, v230, v231, v232, v233, v234, v235, v236, v237, v238, v239, v240, v241, v242, v243, v244, v245, (.agg [(iz x249), (iz x250)]), (.agg [(iz x254), (iz x255)]), (.agg [(iz x259), (iz x260)]), (iz x261), v277, (.bool b278), (.bool b279), (.bool b280), v281, v282, (.bool b283), bf, (.bool b295), (.bool b296), (.bool b297), v298, v299, (.bool b300), tz, tz, tz, tz, tz, tz, tz, tz, tz, tz, tz, tz, tz, tz, tz, tz, tz, tz, tz, tz, tz, tz, tz, tz, tz, tz, tz, tz, tz, tz, tz, tz, tz, tz, tz, tz, tz, tz, tz, tz, tz, tz, tz, tz, tz, tz], H⟩ = X7_5_0 d v0 v2 v4 v6 v23 b216 x261 b300 H := by
  unfold r7X5_0; refine Eq.trans (pl_len (by rfl)) ?_; (iterate 72 (refine yt yS ?_)); (iterate 3 (refine yt yB ?_)); (iterate 2 (refine yt yA ?_)); refine yt yB ?_; (iterate 46 (refine yt yS ?_))
  first | (simp only [it7_6] <;> rfl) | rfl
noncomputable def E7_5 (d : Nat) (v0 v2 v4 v6 v23 : AV) (b216 : Bool) (x261 : Int) (H : Heap) : Ans :=
  none
theorem E7_5_ok (d : Nat) (a0 a1 a2 a3 a4 a5 a6 a7 : Int) (v0 v2 v4 v6 : AV) (x11 x12 x16 x17 x21 x22 : Int) (v23 : AV) (b43 b44 b45 : Bool) (v46 v47 v48 : AV) (x53 : Int) (b216 : Bool) (v217 : AV) (x218 : Int) (v219 v220 v221 v222 v223 v224 v225 v226 v227 v228 v229 v230 v231 v232 v233 v234 v235 v236 v237 v238 v239 v240 v241 v242 v243 v244 v245 : AV) (x249 x250 x254 x255 x259 x260 x261 : Int) (v277 : AV) (b278 b279 b280 : Bool) (v281 v282 : AV) (b283 : Bool) (v456 v457 v458 v459 v460 v461 : AV) (H : Heap) : r7E5 C0 d a0 a1 a2 a3 a4 a5 a6 a7 v0 v2 v4 v6 x11 x12 x16 x17 x21 x22 v23 b43 b44 b45 v46 v47 v48 x53 b216 v217 x218 v219 v220 v221 v222 v223 v224 v225 v226 v227 v228 v229 v230 v231 v232 v233 v234 v235 v236 v237 v238 v239 v240 v241 v242 v243 v244 v245 x249 x250 x254 x255 x259 x260 x261 v277 b278 b279 b280 v281 v282 b283 ⟨[(.agg [(iz a0), (iz a1)]), (.agg [(iz a2), (iz a3)]), (.agg [(iz a4), (iz a5)]), (.agg [(iz a6), (iz a7)]), v0, v2, v4, v6, bf, v23, (.bool b216), tz, v217, (iz x261), tz, tz, tz, tz, (.agg [(iz x11), (iz x12)]), (.agg [(iz x16), (iz x17)]), (.agg [(iz x21), (iz x22)]), v23, (.bool b43), (.bool b44), (.bool b45), v46, v47, v48, bf, tz, v23, (iz x53), (iz x218), v219, v220, v221, v222, v223, v224, v225, v226, v227, v228, v229, v230, v231, v232, v233, v234, v235, v236, v237, v238, v239, v240, v241, v242, v243, v244, v245, (.agg [(iz x249), (iz x250)]), (.agg [(iz x254), (iz x255)]), (.agg [(iz x259), (iz x260)]), (iz x261), v277, (.bool b278), (.bool b279), (.bool b280), v281, v282, (.bool b283), bf, v456, v457, v458, v459, v460, v461, tz, tz, tz, tz, tz, tz, tz, tz, tz, tz, tz, tz, tz, tz, tz, tz, tz, tz, tz, tz, tz, tz, tz, tz, tz, tz, tz, tz, tz, tz, tz, tz, tz, tz, tz, tz, tz, tz, tz, tz, tz, tz, tz, tz, tz, tz], H⟩ = E7_5 d v0 v2 v4 v6 v23 b216 x261 H := by
  unfold r7E5; refine Eq.trans (pl_len (by rfl)) ?_; (iterate 72 (refine yt yS ?_)); (iterate 6 (refine yt yA ?_)); (iterate 46 (refine yt yS ?_))
  rfl
noncomputable def L7_5 (d : Nat) (v0 v2 v4 v6 v23 : AV) (b216 : Bool) (x261 : Int) : Nat → Heap → Ans
  | 0, _ => none
  | n + 1, H =>
  cnd (!b216)
   (X7_5_0 d v0 v2 v4 v6 v23 b216 x261 true H)
   (X7_5_0 d v0 v2 v4 v6 v23 b216 x261 (x261 == 0) H)
theorem it7_5 (d : Nat) (a0 a1 a2 a3 a4 a5 a6 a7 : Int) (v0 v2 v4 v6 : AV) (x11 x12 x16 x17 x21 x22 : Int) (v23 : AV) (b43 b44 b45 : Bool) (v46 v47 v48 : AV) (x53 : Int) (b216 : Bool) (v217 : AV) (x218 : Int) (v219 v220 v221 v222 v223 v224 v225 v226 v227 v228 v229 v230 v231 v232 v233 v234 v235 v236 v237 v238 v239 v240 v241 v242 v243 v244 v245 : AV) (x249 x250 x254 x255 x259 x260 x261 : Int) (v277 : AV) (b278 b279 b280 : Bool) (v281 v282 : AV) (b283 : Bool)   : ∀ (n : Nat) (v288 v289 v290 v291 v292 v293 : AV) (H : Heap), C0.iter (r7R5 C0 d a0 a1 a2 a3 a4 a5 a6 a7 v0 v2 v4 v6 x11 x12 x16 x17 x21 x22 v23 b43 b44 b45 v46 v47 v48 x53 b216 v217 x218 v219 v220 v221 v222 v223 v224 v225 v226 v227 v228 v229 v230 v231 v232 v233 v234 v235 v236 v237 v238 v239 v240 v241 v242 v243 v244 v245 x249 x250 x254 x255 x259 x260 x261 v277 b278 b279 b280 v281 v282 b283) n ⟨[(.agg [(iz a0), (iz a1)]), (.agg [(iz a2), (iz a3)]), (.agg [(iz a4), (iz a5)]), (.agg [(iz a6), (iz a7)]), v0, v2, v4, v6, bf, v23, (.bool b216), tz, v217, (iz x261), tz, tz, tz, tz, (.agg [(iz x11), (iz x12)]), (.agg [(iz x16), (iz x17)]), (.agg [(iz x21), (iz x22)]), v23, (.bool b43), (.bool b44), (.bool b45), v46, v47, v48, bf, tz, v23, (iz x53), (iz x218), v219, v220, v221, v222, v223, v224, v225, v226, v227, v228, v229, v230, v231, v232, v233, v234, v235, v236, v237, v238, v239, v240, v241, v242, v243, v244, v245, (.agg [(iz x249), (iz x250)]), (.agg [(iz x254), (iz x255)]), (.agg [(iz x259), (iz x260)]), (iz x261), v277, (.bool b278), (.bool b279), (.bool b280), v281, v282, (.bool b283), bf, v288, v289, v290, v291, v292, v293, tz, tz, tz, tz, tz, tz, tz, tz, tz, tz, tz, tz, tz, tz, tz, tz, tz, tz, tz, tz, tz, tz, tz, tz, tz, tz, tz, tz, tz, tz, tz, tz, tz, tz, tz, tz, tz, tz, tz, tz, tz, tz, tz, tz, tz, tz], H⟩ [2000000] [r7X5_0 C0 d a0 a1 a2 a3 a4 a5 a6 a7 v0 v2 v4 v6 x11 x12 x16 x17 x21 x22 v23 b43 b44 b45 v46 v47 v48 x53 b216 v217 x218 v219 v220 v221 v222 v223 v224 v225 v226 v227 v228 v229 v230 v231 v232 v233 v234 v235 v236 v237 v238 v239 v240 v241 v242 v243 v244 v245 x249 x250 x254 x255 x259 x260 x261 v277 b278 b279 b280 v281 v282 b283] (r7E5 C0 d a0 a1 a2 a3 a4 a5 a6 a7 v0 v2 v4 v6 x11 x12 x16 x17 x21 x22 v23 b43 b44 b45 v46 v47 v48 x53 b216 v217 x218 v219 v220 v221 v222 v223 v224 v225 v226 v227 v228 v229 v230 v231 v232 v233 v234 v235 v236 v237 v238 v239 v240 v241 v242 v243 v244 v245 x249 x250 x254 x255 x259 x260 x261 v277 b278 b279 b280 v281 v282 b283) = L7_5 d v0 v2 v4 v6 v23 b216 x261 n H := by
  generalize hR : r7R5 C0 d a0 a1 a2 a3 a4 a5 a6 a7 v0 v2 v4 v6 x11 x12 x16 x17 x21 x22 v23 b43 b44 b45 v46 v47 v48 x53 b216 v217 x218 v219 v220 v221 v222 v223 v224 v225 v226 v227 v228 v229 v230 v231 v232 v233 v234 v235 v236 v237 v238 v239 v240 v241 v242 v243 v244 v245 x249 x250 x254 x255 x259 x260 x261 v277 b278 b279 b280 v281 v282 b283 = R
  intro n
  induction n with
  | zero => intros; rfl
  | succ n ih =>
    intro v288 v289 v290 v291 v292 v293 H
    simp only [it_ret] at ih
    rw [it_ret, xiter_s]
    refine Eq.trans (congrFun (congrFun hR.symm _) _) ?_
    unfold r7R5
    refine Eq.trans (pl_len (by rfl)) ?_; (iterate 72 (refine yt yS ?_)); (iterate 6 (refine yt yA ?_)); (iterate 46 (refine yt yS ?_))
    simp only [L7_5, kIter_n, kIter_x, kIter_r, kOut_x, kOut_r, xgo_hit, xgo_miss, ih, X7_5_0_ok d a0 a1 a2 a3 a4 a5 a6 a7 v0 v2 v4 v6 x11 x12 x16 x17 x21 x22 v23 b43 b44 b45 v46 v47 v48 x53 b216 v217 x218 v219 v220 v221 v222 v223 v224 v225 v226 v227 v228 v229 v230 v231 v232 v233 v234 v235 v236 v237 v238 v239 v240 v241 v242 v243 v244 v245 x249 x250 x254 x255 x259 x260 x261 v277 b278 b279 b280 v281 v282 b283  , E7_5_ok d a0 a1 a2 a3 a4 a5 a6 a7 v0 v2 v4 v6 x11 x12 x16 x17 x21 x22 v23 b43 b44 b45 v46 v47 v48 x53 b216 v217 x218 v219 v220 v221 v222 v223 v224 v225 v226 v227 v228 v229 v230 v231 v232 v233 v234 v235 v236 v237 v238 v239 v240 v241 v242 v243 v244 v245 x249 x250 x254 x255 x259 x260 x261 v277 b278 b279 b280 v281 v282 b283  ]
noncomputable def X7_4_0 (d : Nat) (v0 v2 v4 v6 v23 : AV) (b216 : Bool) (x261 : Int) (b284 : Bool) (H : Heap) : Ans :=
  cnd b284
   (C0.fin H bf)
   (L7_5 d v0 v2 v4 v6 v23 b216 x261 1 H)
theorem X7_4_0_ok (d : Nat) (a0 a1 a2 a3 a4 a5 a6 a7 : Int) (v0 v2 v4 v6 : AV) (x11 x12 x16 x17 x21 x22 : Int) (v23 : AV) (b43 b44 b45 : Bool) (v46 v47 v48 : AV) (x53 : Int) (b216 : Bool) (v217 : AV) (x218 : Int) (v219 v220 v221 v222 v223 v224 v225 v226 v227 v228 v229 v230 v231 v232 v233 v234 v235 v236 v237 v238 v239 v240 v241 v242 v243 v244 v245 : AV) (x249 x250 x254 x255 x259 x260 x261 : Int) (v277 : AV) (b278 b279 b280 : Bool) (v281 v282 : AV) (b283 b284 : Bool) (H : Heap) : r7X4_0 C0 d a0 a1 a2 a3 a4 a5 a6 a7 v0 v2 v4 v6 x11 x12 x16 x17 x21 x22 v23 b43 b44 b45 v46 v47 v48 x53 b216 v217 x218 v219 v220 v221 v222 v223 v224 v225 v226 v227 v228 v229 v230 v231 v232 v233 v234 v235 v236 v237 v238 v239 v240 v241 v242 v243 v244 v245 x249 x250 x254 x255 x259 x260 x261 ⟨[(.agg [(iz a0), (iz a1)]), (.agg [(iz a2), (iz a3)]), (.agg [(iz a4), (iz a5)]), (.agg [(iz a6), (iz a7)]), v0, v2, v4, v6, bf, v23, (.bool b216), tz, v217, (iz x261), tz, tz, tz, tz, (.agg [(iz x11), (iz x12)]), (.agg [(iz x16), (iz x17)]), (.agg [(iz x21), (iz x22)]), v23, (.bool b43), (.bool b44), (.bool b45), v46, v47, v48, bf, tz, v23, (iz x53), (iz x218), v219, v220, v221, v222, v223, v224, v225, v226, v227, v228, v229, v230, v231, v232, v233, v234, v235, v236, v237, v238, v239, v240, v241, v242, v243, v244, v245, (.agg [(iz x249), (iz x250)]), (.agg [(iz x254), (iz x255)]), (.agg [(iz x259), (iz x260)]), (iz x261), v277, (.bool b278), (.bool b279), (.bool b280), v281, v282, (.bool b283), (.bool b284), tz, tz, tz, tz, tz, tz, tz, tz, tz, tz, tz, tz, tz, tz, tz, tz, tz, tz, tz, tz, tz, tz, tz, tz, tz, tz, tz, tz, tz, tz, tz, tz, tz, tz, tz, tz, tz, tz, tz, tz, tz, tz, tz, tz, tz, tz, tz, tz, tz, tz, tz, tz], H⟩ = X7_4_0 d v0 v2 v4 v6 v23 b216 x261 b284 H := by
  unfold r7X4_0; refine Eq.trans (pl_len (by rfl)) ?_; (iterate 64 (refine yt yS ?_)); refine yt yA ?_; (iterate 3 (refine yt yB ?_)); (iterate 2 (refine yt yA ?_)); (iterate 2 (refine yt yB ?_)); (iterate 52 (refine yt yS ?_))
  first | (simp only [it7_5] <;> rfl) | rfl
noncomputable def E7_4 (d : Nat) (v0 v2 v4 v6 v23 : AV) (b216 : Bool) (x261 : Int) (H : Heap) : Ans :=
  none
theorem E7_4_ok (d : Nat) (a0 a1 a2 a3 a4 a5 a6 a7 : Int) (v0 v2 v4 v6 : AV) (x11 x12 x16 x17 x21 x22 : Int) (v23 : AV) (b43 b44 b45 : Bool) (v46 v47 v48 : AV) (x53 : Int) (b216 : Bool) (v217 : AV) (x218 : Int) (v219 v220 v221 v222 v223 v224 v225 v226 v227 v228 v229 v230 v231 v232 v233 v234 v235 v236 v237 v238 v239 v240 v241 v242 v243 v244 v245 : AV) (x249 x250 x254 x255 x259 x260 x261 : Int) (v462 v463 v464 v465 v466 v467 v468 v469 : AV) (H : Heap) : r7E4 C0 d a0 a1 a2 a3 a4 a5 a6 a7 v0 v2 v4 v6 x11 x12 x16 x17 x21 x22 v23 b43 b44 b45 v46 v47 v48 x53 b216 v217 x218 v219 v220 v221 v222 v223 v224 v225 v226 v227 v228 v229 v230 v231 v232 v233 v234 v235 v236 v237 v238 v239 v240 v241 v242 v243 v244 v245 x249 x250 x254 x255 x259 x260 x261 ⟨[(.agg [(iz a0), (iz a1)]), (.agg [(iz a2), (iz a3)]), (.agg [(iz a4), (iz a5)]), (.agg [(iz a6), (iz a7)]), v0, v2, v4, v6, bf, v23, (.bool b216), tz, v217, (iz x261), tz, tz, tz, tz, (.agg [(iz x11), (iz x12)]), (.agg [(iz x16), (iz x17)]), (.agg [(iz x21), (iz x22)]), v23, (.bool b43), (.bool b44), (.bool b45), v46, v47, v48, bf, tz, v23, (iz x53), (iz x218), v219, v220, v221, v222, v223, v224, v225, v226, v227, v228, v229, v230, v231, v232, v233, v234, v235, v236, v237, v238, v239, v240, v241, v242, v243, v244, v245, (.agg [(iz x249), (iz x250)]), (.agg [(iz x254), (iz x255)]), (.agg [(iz x259), (iz x260)]), (iz x261), v462, v463, v464, v465, v466, v467, v468, v469, tz, tz, tz, tz, tz, tz, tz, tz, tz, tz, tz, tz, tz, tz, tz, tz, tz, tz, tz, tz, tz, tz, tz, tz, tz, tz, tz, tz, tz, tz, tz, tz, tz, tz, tz, tz, tz, tz, tz, tz, tz, tz, tz, tz, tz, tz, tz, tz, tz, tz, tz, tz], H⟩ = E7_4 d v0 v2 v4 v6 v23 b216 x261 H := by
  unfold r7E4; refine Eq.trans (pl_len (by rfl)) ?_; (iterate 64 (refine yt yS ?_)); (iterate 8 (refine yt yA ?_)); (iterate 52 (refine yt yS ?_))
  rfl
noncomputable def L7_4 (d : Nat) (v0 v2 v4 v6 v23 : AV) (b216 : Bool) (x261 : Int) : Nat → Heap → Ans
  | 0, _ => none
  | n + 1, H =>
  C0.snp H [v23] fun l273 b274 =>
   C0.bool (pcall M d 15 l273) fun b275 =>
   cnd (b274 || true)
   (cnd b216
   (X7_4_0 d v0 v2 v4 v6 v23 b216 x261 (xor true (b275 == (x261 != 0))) H)
   (X7_4_0 d v0 v2 v4 v6 v23 b216 x261 (xor true (b275 == false)) H))
   (none)
theorem it7_4 (d : Nat) (a0 a1 a2 a3 a4 a5 a6 a7 : Int) (v0 v2 v4 v6 : AV) (x11 x12 x16 x17 x21 x22 : Int) (v23 : AV) (b43 b44 b45 : Bool) (v46 v47 v48 : AV) (x53 : Int) (b216 : Bool) (v217 : AV) (x218 : Int) (v219 v220 v221 v222 v223 v224 v225 v226 v227 v228 v229 v230 v231 v232 v233 v234 v235 v236 v237 v238 v239 v240 v241 v242 v243 v244 v245 : AV) (x249 x250 x254 x255 x259 x260 x261 : Int)   : ∀ (n : Nat) (v265 v266 v267 v268 v269 v270 v271 v272 : AV) (H : Heap), C0.iter (r7R4 C0 d a0 a1 a2 a3 a4 a5 a6 a7 v0 v2 v4 v6 x11 x12 x16 x17 x21 x22 v23 b43 b44 b45 v46 v47 v48 x53 b216 v217 x218 v219 v220 v221 v222 v223 v224 v225 v226 v227 v228 v229 v230 v231 v232 v233 v234 v235 v236 v237 v238 v239 v240 v241 v242 v243 v244 v245 x249 x250 x254 x255 x259 x260 x261) n ⟨[(.agg [(iz a0), (iz a1)]), (.agg [(iz a2), (iz a3)]), (.agg [(iz a4), (iz a5)]), (.agg [(iz a6), (iz a7)]), v0, v2, v4, v6, bf, v23, (.bool b216), tz, v217, (iz x261), tz, tz, tz, tz, (.agg [(iz x11), (iz x12)]), (.agg [(iz x16), (iz x17)]), (.agg [(iz x21), (iz x22)]), v23, (.bool b43), (.bool b44), (.bool b45), v46, v47, v48, bf, tz, v23, (iz x53), (iz x218), v219, v220, v221, v222, v223, v224, v225, v226, v227, v228, v229, v230, v231, v232, v233, v234, v235, v236, v237, v238, v239, v240, v241, v242, v243, v244, v245, (.agg [(iz x249), (iz x250)]), (.agg [(iz x254), (iz x255)]), (.agg [(iz x259), (iz x260)]), (iz x261), v265, v266, v267, v268, v269, v270, v271, v272, tz, tz, tz, tz, tz, tz, tz, tz, tz, tz, tz, tz, tz, tz, tz, tz, tz, tz, tz, tz, tz, tz, tz, tz, tz, tz, tz, tz, tz, tz, tz, tz, tz, tz, tz, tz, tz, tz, tz, tz, tz, tz, tz, tz, tz, tz, tz, tz, tz, tz, tz, tz], H⟩ [2000000] [r7X4_0 C0 d a0 a1 a2 a3 a4 a5 a6 a7 v0 v2 v4 v6 x11 x12 x16 x17 x21 x22 v23 b43 b44 b45 v46 v47 v48 x53 b216 v217 x218 v219 v220 v221 v222 v223 v224 v225 v226 v227 v228 v229 v230 v231 v232 v233 v234 v235 v236 v237 v238 v239 v240 v241 v242 v243 v244 v245 x249 x250 x254 x255 x259 x260 x261] (r7E4 C0 d a0 a1 a2 a3 a4 a5 a6 a7 v0 v2 v4 v6 x11 x12 x16 x17 x21 x22 v23 b43 b44 b45 v46 v47 v48 x53 b216 v217 x218 v219 v220 v221 v222 v223 v224 v225 v226 v227 v228 v229 v230 v231 v232 v233 v234 v235 v236 v237 v238 v239 v240 v241 v242 v243 v244 v245 x249 x250 x254 x255 x259 x260 x261) = L7_4 d v0 v2 v4 v6 v23 b216 x261 n H := by
  generalize hR : r7R4 C0 d a0 a1 a2 a3 a4 a5 a6 a7 v0 v2 v4 v6 x11 x12 x16 x17 x21 x22 v23 b43 b44 b45 v46 v47 v48 x53 b216 v217 x218 v219 v220 v221 v222 v223 v224 v225 v226 v227 v228 v229 v230 v231 v232 v233 v234 v235 v236 v237 v238 v239 v240 v241 v242 v243 v244 v245 x249 x250 x254 x255 x259 x260 x261 = R
  intro n
  induction n with
  | zero => intros; rfl
  | succ n ih =>
    intro v265 v266 v267 v268 v269 v270 v271 v272 H
    simp only [it_ret] at ih
    rw [it_ret, xiter_s]
    refine Eq.trans (congrFun (congrFun hR.symm _) _) ?_
    unfold r7R4
    refine Eq.trans (pl_len (by rfl)) ?_; (iterate 64 (refine yt yS ?_)); (iterate 8 (refine yt yA ?_)); (iterate 52 (refine yt yS ?_))
    simp only [L7_4, kIter_n, kIter_x, kIter_r, kOut_x, kOut_r, xgo_hit, xgo_miss, ih, X7_4_0_ok d a0 a1 a2 a3 a4 a5 a6 a7 v0 v2 v4 v6 x11 x12 x16 x17 x21 x22 v23 b43 b44 b45 v46 v47 v48 x53 b216 v217 x218 v219 v220 v221 v222 v223 v224 v225 v226 v227 v228 v229 v230 v231 v232 v233 v234 v235 v236 v237 v238 v239 v240 v241 v242 v243 v244 v245 x249 x250 x254 x255 x259 x260 x261  , E7_4_ok d a0 a1 a2 a3 a4 a5 a6 a7 v0 v2 v4 v6 x11 x12 x16 x17 x21 x22 v23 b43 b44 b45 v46 v47 v48 x53 b216 v217 x218 v219 v220 v221 v222 v223 v224 v225 v226 v227 v228 v229 v230 v231 v232 v233 v234 v235 v236 v237 v238 v239 v240 v241 v242 v243 v244 v245 x249 x250 x254 x255 x259 x260 x261  ]
noncomputable def X7_1_0 (d : Nat) (v0 v2 v4 v6 v23 : AV) (x53 : Int) (b216 : Bool) (H : Heap) : Ans :=
  C0.hop H (.load true 2 (.v v0)) fun v246 h247 =>
   C0.agg 2 (some v246) fun l248 =>
   C0.int .i64 l248[0]? fun x249 =>
   C0.int .i64 l248[1]? fun x250 =>
   C0.hop h247 (.load true 2 (.v v2)) fun v251 h252 =>
   C0.agg 2 (some v251) fun l253 =>
   C0.int .i64 l253[0]? fun x254 =>
   C0.int .i64 l253[1]? fun x255 =>
   C0.hop h252 (.load true 2 (.v v4)) fun v256 h257 =>
   C0.agg 2 (some v256) fun l258 =>
   C0.int .i64 l258[0]? fun x259 =>
   C0.int .i64 l258[1]? fun x260 =>
   C0.int .i64 (pcall M d 29 [(.agg [(iz x249), (iz x250)]), (.agg [(iz x254), (iz x255)]), (.agg [(iz x259), (iz x260)])]) fun x261 =>
   L7_4 d v0 v2 v4 v6 v23 b216 x261 1 h257
theorem X7_1_0_ok (d : Nat) (a0 a1 a2 a3 a4 a5 a6 a7 : Int) (v0 v2 v4 v6 : AV) (x11 x12 x16 x17 x21 x22 : Int) (v23 : AV) (b43 b44 b45 : Bool) (v46 v47 v48 : AV) (x53 : Int) (b216 : Bool) (v217 : AV) (x218 : Int) (v219 v220 v221 v222 v223 v224 v225 v226 v227 v228 v229 v230 v231 v232 v233 v234 v235 v236 v237 v238 v239 v240 v241 v242 v243 v244 v245 : AV) (H : Heap) : r7X1_0 C0 d a0 a1 a2 a3 a4 a5 a6 a7 v0 v2 v4 v6 x11 x12 x16 x17 x21 x22 v23 b43 b44 b45 v46 v47 v48 x53 ⟨[(.agg [(iz a0), (iz a1)]), (.agg [(iz a2), (iz a3)]), (.agg [(iz a4), (iz a5)]), (.agg [(iz a6), (iz a7)]), v0, v2, v4, v6, bf, v23, (.bool b216), tz, v217, tz, tz, tz, tz, tz, (.agg [(iz x11), (iz x12)]), (.agg [(iz x16), (iz x17)]), (.agg [(iz x21), (iz x22)]), v23, (.bool b43), (.bool b44), (.bool b45), v46, v47, v48, bf, tz, v23, (iz x53), (iz x218), v219, v220, v221, v222, v223, v224, v225, v226, v227, v228, v229, v230, v231, v232, v233, v234, v235, v236, v237, v238, v239, v240, v241, v242, v243, v244, v245, tz, tz, tz, tz, tz, tz, tz, tz, tz, tz, tz, tz, tz, tz, tz, tz, tz, tz, tz, tz, tz, tz, tz, tz, tz, tz, tz, tz, tz, tz, tz, tz, tz, tz, tz, tz, tz, tz, tz, tz, tz, tz, tz, tz, tz, tz, tz, tz, tz, tz, tz, tz, tz, tz, tz, tz, tz, tz, tz, tz, tz, tz, tz, tz], H⟩ = X7_1_0 d v0 v2 v4 v6 v23 x53 b216 H := by
  unfold r7X1_0; refine Eq.trans (pl_len (by rfl)) ?_; (iterate 10 (refine yt yS ?_)); refine yt yB ?_; refine yt yS ?_; refine yt yA ?_; (iterate 19 (refine yt yS ?_)); refine yt yI ?_; (iterate 27 (refine yt yA ?_)); (iterate 64 (refine yt yS ?_))
  first | (simp only [it7_4] <;> rfl) | rfl
noncomputable def E7_1 (d : Nat) (v0 v2 v4 v6 v23 : AV) (x53 : Int) (H : Heap) : Ans :=
  C0.fin H bf
theorem E7_1_ok (d : Nat) (a0 a1 a2 a3 a4 a5 a6 a7 : Int) (v0 v2 v4 v6 : AV) (x11 x12 x16 x17 x21 x22 : Int) (v23 : AV) (b43 b44 b45 : Bool) (v46 v47 v48 : AV) (x53 : Int) (b470 : Bool) (v471 : AV) (x472 : Int) (v473 v474 v475 v476 v477 v478 v479 v480 v481 v482 v483 v484 v485 v486 v487 v488 v489 v490 v491 v492 v493 v494 v495 v496 v497 v498 v499 : AV) (H : Heap) : r7E1 C0 d a0 a1 a2 a3 a4 a5 a6 a7 v0 v2 v4 v6 x11 x12 x16 x17 x21 x22 v23 b43 b44 b45 v46 v47 v48 x53 ⟨[(.agg [(iz a0), (iz a1)]), (.agg [(iz a2), (iz a3)]), (.agg [(iz a4), (iz a5)]), (.agg [(iz a6), (iz a7)]), v0, v2, v4, v6, bf, v23, (.bool b470), tz, v471, tz, tz, tz, tz, tz, (.agg [(iz x11), (iz x12)]), (.agg [(iz x16), (iz x17)]), (.agg [(iz x21), (iz x22)]), v23, (.bool b43), (.bool b44), (.bool b45), v46, v47, v48, bf, tz, v23, (iz x53), (iz x472), v473, v474, v475, v476, v477, v478, v479, v480, v481, v482, v483, v484, v485, v486, v487, v488, v489, v490, v491, v492, v493, v494, v495, v496, v497, v498, v499, tz, tz, tz, tz, tz, tz, tz, tz, tz, tz, tz, tz, tz, tz, tz, tz, tz, tz, tz, tz, tz, tz, tz, tz, tz, tz, tz, tz, tz, tz, tz, tz, tz, tz, tz, tz, tz, tz, tz, tz, tz, tz, tz, tz, tz, tz, tz, tz, tz, tz, tz, tz, tz, tz, tz, tz, tz, tz, tz, tz, tz, tz, tz, tz], H⟩ = E7_1 d v0 v2 v4 v6 v23 x53 H := by
  unfold r7E1; refine Eq.trans (pl_len (by rfl)) ?_; (iterate 10 (refine yt yS ?_)); refine yt yB ?_; refine yt yS ?_; refine yt yA ?_; (iterate 19 (refine yt yS ?_)); refine yt yI ?_; (iterate 27 (refine yt yA ?_)); (iterate 64 (refine yt yS ?_))
  rfl
noncomputable def L7_1 (d : Nat) (v0 v2 v4 v6 v23 : AV) (x53 : Int) : Nat → Bool → Int → Heap → Ans
  | 0, _, _, _ => none
  | n + 1, b57, x59, H =>
  cnd (decide (x59 < x53))
   (L7_2 d v23 x59 (fun b57 x59 H => L7_1 d v0 v2 v4 v6 v23 x53 n b57 x59 H) 1 b57 H)
   (X7_1_0 d v0 v2 v4 v6 v23 x53 b57 H)
theorem it7_1 (d : Nat) (a0 a1 a2 a3 a4 a5 a6 a7 : Int) (v0 v2 v4 v6 : AV) (x11 x12 x16 x17 x21 x22 : Int) (v23 : AV) (b43 b44 b45 : Bool) (v46 v47 v48 : AV) (x53 : Int)   : ∀ (n : Nat) (b57 : Bool) (v58 : AV) (x59 : Int) (v60 v61 v62 v63 v64 v65 v66 v67 v68 v69 v70 v71 v72 v73 v74 v75 v76 v77 v78 v79 v80 v81 v82 v83 v84 v85 v86 : AV) (H : Heap), C0.iter (r7R1 C0 d a0 a1 a2 a3 a4 a5 a6 a7 v0 v2 v4 v6 x11 x12 x16 x17 x21 x22 v23 b43 b44 b45 v46 v47 v48 x53) n ⟨[(.agg [(iz a0), (iz a1)]), (.agg [(iz a2), (iz a3)]), (.agg [(iz a4), (iz a5)]), (.agg [(iz a6), (iz a7)]), v0, v2, v4, v6, bf, v23, (.bool b57), tz, v58, tz, tz, tz, tz, tz, (.agg [(iz x11), (iz x12)]), (.agg [(iz x16), (iz x17)]), (.agg [(iz x21), (iz x22)]), v23, (.bool b43), (.bool b44), (.bool b45), v46, v47, v48, bf, tz, v23, (iz x53), (iz x59), v60, v61, v62, v63, v64, v65, v66, v67, v68, v69, v70, v71, v72, v73, v74, v75, v76, v77, v78, v79, v80, v81, v82, v83, v84, v85, v86, tz, tz, tz, tz, tz, tz, tz, tz, tz, tz, tz, tz, tz, tz, tz, tz, tz, tz, tz, tz, tz, tz, tz, tz, tz, tz, tz, tz, tz, tz, tz, tz, tz, tz, tz, tz, tz, tz, tz, tz, tz, tz, tz, tz, tz, tz, tz, tz, tz, tz, tz, tz, tz, tz, tz, tz, tz, tz, tz, tz, tz, tz, tz, tz], H⟩ [0] [r7X1_0 C0 d a0 a1 a2 a3 a4 a5 a6 a7 v0 v2 v4 v6 x11 x12 x16 x17 x21 x22 v23 b43 b44 b45 v46 v47 v48 x53] (r7E1 C0 d a0 a1 a2 a3 a4 a5 a6 a7 v0 v2 v4 v6 x11 x12 x16 x17 x21 x22 v23 b43 b44 b45 v46 v47 v48 x53) = L7_1 d v0 v2 v4 v6 v23 x53 n b57 x59 H := by
  generalize hR : r7R1 C0 d a0 a1 a2 a3 a4 a5 a6 a7 v0 v2 v4 v6 x11 x12 x16 x17 x21 x22 v23 b43 b44 b45 v46 v47 v48 x53 = R
  intro n
  induction n with
  | zero => intros; rfl
  | succ n ih =>
    intro b57 v58 x59 v60 v61 v62 v63 v64 v65 v66 v67 v68 v69 v70 v71 v72 v73 v74 v75 v76 v77 v78 v79 v80 v81 v82 v83 v84 v85 v86 H
    simp only [it_ret] at ih
    rw [it_ret, xiter_s]
    refine Eq.trans (congrFun (congrFun hR.symm _) _) ?_
    unfold r7R1
    refine Eq.trans (pl_len (by rfl)) ?_; (iterate 10 (refine yt yS ?_)); refine yt yB ?_; refine yt yS ?_; refine yt yA ?_; (iterate 19 (refine yt yS ?_)); refine yt yI ?_; (iterate 27 (refine yt yA ?_)); (iterate 64 (refine yt yS ?_))
    have I0 := it7_2 d a0 a1 a2 a3 a4 a5 a6 a7 v0 v2 v4 v6 x11 x12 x16 x17 x21 x22 v23 b43 b44 b45 v46 v47 v48 x53 (kIter R n (kOut [0] [r7X1_0 C0 d a0 a1 a2 a3 a4 a5 a6 a7 v0 v2 v4 v6 x11 x12 x16 x17 x21 x22 v23 b43 b44 b45 v46 v47 v48 x53] (r7E1 C0 d a0 a1 a2 a3 a4 a5 a6 a7 v0 v2 v4 v6 x11 x12 x16 x17 x21 x22 v23 b43 b44 b45 v46 v47 v48 x53))) x59 v86 (fun b57 x59 H => L7_1 d v0 v2 v4 v6 v23 x53 n b57 x59 H) (fun b57 v58 x59 v60 v61 v62 v63 v64 v65 v66 v67 v68 v69 v70 v71 v72 v73 v74 v75 v76 v77 v78 v79 v80 v81 v82 v83 v84 v85 v86 H => ih b57 v58 x59 v60 v61 v62 v63 v64 v65 v66 v67 v68 v69 v70 v71 v72 v73 v74 v75 v76 v77 v78 v79 v80 v81 v82 v83 v84 v85 v86 H)
    try dsimp only at I0
    simp only [L7_1, kIter_n, kIter_x, kIter_r, kOut_x, kOut_r, xgo_hit, xgo_miss, ih, I0, X7_1_0_ok d a0 a1 a2 a3 a4 a5 a6 a7 v0 v2 v4 v6 x11 x12 x16 x17 x21 x22 v23 b43 b44 b45 v46 v47 v48 x53  , E7_1_ok d a0 a1 a2 a3 a4 a5 a6 a7 v0 v2 v4 v6 x11 x12 x16 x17 x21 x22 v23 b43 b44 b45 v46 v47 v48 x53  ]
noncomputable def X7_0_0 (d : Nat) (v0 v2 v4 v6 v23 : AV) (b49 : Bool) (H : Heap) : Ans :=
  cnd b49
   (C0.bool (pcall M d 9 []) fun b50 =>
   C0.fin H (.bool b50))
   (C0.hop H (.bk .lenV [(.v v23)]) fun v51 h52 =>
   C0.int .i64 (some v51) fun x53 =>
   L7_1 d v0 v2 v4 v6 v23 x53 1000000000000000000 true 0 h52)
theorem X7_0_0_ok (d : Nat) (a0 a1 a2 a3 a4 a5 a6 a7 : Int) (v0 v2 v4 v6 : AV) (x11 x12 x16 x17 x21 x22 : Int) (v23 : AV) (b43 b44 b45 : Bool) (v46 v47 v48 : AV) (b49 : Bool) (H : Heap) : r7X0_0 C0 d a0 a1 a2 a3 a4 a5 a6 a7 v0 v2 v4 v6 x11 x12 x16 x17 x21 x22 v23 ⟨[(.agg [(iz a0), (iz a1)]), (.agg [(iz a2), (iz a3)]), (.agg [(iz a4), (iz a5)]), (.agg [(iz a6), (iz a7)]), v0, v2, v4, v6, bf, v23, tz, tz, tz, tz, tz, tz, tz, tz, (.agg [(iz x11), (iz x12)]), (.agg [(iz x16), (iz x17)]), (.agg [(iz x21), (iz x22)]), v23, (.bool b43), (.bool b44), (.bool b45), v46, v47, v48, (.bool b49), tz, tz, tz, tz, tz, tz, tz, tz, tz, tz, tz, tz, tz, tz, tz, tz, tz, tz, tz, tz, tz, tz, tz, tz, tz, tz, tz, tz, tz, tz, tz, tz, tz, tz, tz, tz, tz, tz, tz, tz, tz, tz, tz, tz, tz, tz, tz, tz, tz, tz, tz, tz, tz, tz, tz, tz, tz, tz, tz, tz, tz, tz, tz, tz, tz, tz, tz, tz, tz, tz, tz, tz, tz, tz, tz, tz, tz, tz, tz, tz, tz, tz, tz, tz, tz, tz, tz, tz, tz, tz, tz, tz, tz, tz, tz], H⟩ = X7_0_0 d v0 v2 v4 v6 v23 b49 H := by
  unfold r7X0_0; refine Eq.trans (pl_len (by rfl)) ?_; (iterate 22 (refine yt yS ?_)); (iterate 3 (refine yt yB ?_)); (iterate 3 (refine yt yA ?_)); refine yt yB ?_; (iterate 95 (refine yt yS ?_))
  first | (simp only [it7_1] <;> rfl) | rfl
noncomputable def E7_0 (d : Nat) (v0 v2 v4 v6 v23 : AV) (H : Heap) : Ans :=
  none
theorem E7_0_ok (d : Nat) (a0 a1 a2 a3 a4 a5 a6 a7 : Int) (v0 v2 v4 v6 : AV) (x11 x12 x16 x17 x21 x22 : Int) (v23 v500 v501 v502 v503 v504 v505 v506 : AV) (H : Heap) : r7E0 C0 d a0 a1 a2 a3 a4 a5 a6 a7 v0 v2 v4 v6 x11 x12 x16 x17 x21 x22 v23 ⟨[(.agg [(iz a0), (iz a1)]), (.agg [(iz a2), (iz a3)]), (.agg [(iz a4), (iz a5)]), (.agg [(iz a6), (iz a7)]), v0, v2, v4, v6, bf, v23, tz, tz, tz, tz, tz, tz, tz, tz, (.agg [(iz x11), (iz x12)]), (.agg [(iz x16), (iz x17)]), (.agg [(iz x21), (iz x22)]), v23, v500, v501, v502, v503, v504, v505, v506, tz, tz, tz, tz, tz, tz, tz, tz, tz, tz, tz, tz, tz, tz, tz, tz, tz, tz, tz, tz, tz, tz, tz, tz, tz, tz, tz, tz, tz, tz, tz, tz, tz, tz, tz, tz, tz, tz, tz, tz, tz, tz, tz, tz, tz, tz, tz, tz, tz, tz, tz, tz, tz, tz, tz, tz, tz, tz, tz, tz, tz, tz, tz, tz, tz, tz, tz, tz, tz, tz, tz, tz, tz, tz, tz, tz, tz, tz, tz, tz, tz, tz, tz, tz, tz, tz, tz, tz, tz, tz, tz, tz, tz, tz, tz], H⟩ = E7_0 d v0 v2 v4 v6 v23 H := by
  unfold r7E0; refine Eq.trans (pl_len (by rfl)) ?_; (iterate 22 (refine yt yS ?_)); (iterate 7 (refine yt yA ?_)); (iterate 95 (refine yt yS ?_))
  rfl
noncomputable def L7_0 (d : Nat) (v0 v2 v4 v6 v23 : AV) : Nat → Heap → Ans
  | 0, _ => none
  | n + 1, H =>
  C0.bool (pcall M d 9 []) fun b35 =>
   cnd (!b35)
   (X7_0_0 d v0 v2 v4 v6 v23 true H)
   (C0.hop H (.load true 2 (.v v6)) fun v36 h37 =>
   C0.agg 2 (some v36) fun l38 =>
   C0.int .i64 l38[0]? fun x39 =>
   C0.int .i64 l38[1]? fun x40 =>
   C0.bool (pcall M d 26 [(.agg [(iz x39), (iz x40)])]) fun b41 =>
   X7_0_0 d v0 v2 v4 v6 v23 (!b41) h37)
theorem it7_0 (d : Nat) (a0 a1 a2 a3 a4 a5 a6 a7 : Int) (v0 v2 v4 v6 : AV) (x11 x12 x16 x17 x21 x22 : Int) (v23 : AV)   : ∀ (n : Nat) (v28 v29 v30 v31 v32 v33 v34 : AV) (H : Heap), C0.iter (r7R0 C0 d a0 a1 a2 a3 a4 a5 a6 a7 v0 v2 v4 v6 x11 x12 x16 x17 x21 x22 v23) n ⟨[(.agg [(iz a0), (iz a1)]), (.agg [(iz a2), (iz a3)]), (.agg [(iz a4), (iz a5)]), (.agg [(iz a6), (iz a7)]), v0, v2, v4, v6, bf, v23, tz, tz, tz, tz, tz, tz, tz, tz, (.agg [(iz x11), (iz x12)]), (.agg [(iz x16), (iz x17)]), (.agg [(iz x21), (iz x22)]), v23, v28, v29, v30, v31, v32, v33, v34, tz, tz, tz, tz, tz, tz, tz, tz, tz, tz, tz, tz, tz, tz, tz, tz, tz, tz, tz, tz, tz, tz, tz, tz, tz, tz, tz, tz, tz, tz, tz, tz, tz, tz, tz, tz, tz, tz, tz, tz, tz, tz, tz, tz, tz, tz, tz, tz, tz, tz, tz, tz, tz, tz, tz, tz, tz, tz, tz, tz, tz, tz, tz, tz, tz, tz, tz, tz, tz, tz, tz, tz, tz, tz, tz, tz, tz, tz, tz, tz, tz, tz, tz, tz, tz, tz, tz, tz, tz, tz, tz, tz, tz, tz, tz], H⟩ [2000000] [r7X0_0 C0 d a0 a1 a2 a3 a4 a5 a6 a7 v0 v2 v4 v6 x11 x12 x16 x17 x21 x22 v23] (r7E0 C0 d a0 a1 a2 a3 a4 a5 a6 a7 v0 v2 v4 v6 x11 x12 x16 x17 x21 x22 v23) = L7_0 d v0 v2 v4 v6 v23 n H := by
  generalize hR : r7R0 C0 d a0 a1 a2 a3 a4 a5 a6 a7 v0 v2 v4 v6 x11 x12 x16 x17 x21 x22 v23 = R
  intro n
  induction n with
  | zero => intros; rfl
  | succ n ih =>
    intro v28 v29 v30 v31 v32 v33 v34 H
    simp only [it_ret] at ih
    rw [it_ret, xiter_s]
    refine Eq.trans (congrFun (congrFun hR.symm _) _) ?_
    unfold r7R0
    refine Eq.trans (pl_len (by rfl)) ?_; (iterate 22 (refine yt yS ?_)); (iterate 7 (refine yt yA ?_)); (iterate 95 (refine yt yS ?_))
    simp only [L7_0, kIter_n, kIter_x, kIter_r, kOut_x, kOut_r, xgo_hit, xgo_miss, ih, X7_0_0_ok d a0 a1 a2 a3 a4 a5 a6 a7 v0 v2 v4 v6 x11 x12 x16 x17 x21 x22 v23  , E7_0_ok d a0 a1 a2 a3 a4 a5 a6 a7 v0 v2 v4 v6 x11 x12 x16 x17 x21 x22 v23  ]
/-- apogee/apogeelaw11.PolyTriangle -/
theorem q7 (d : Nat) (a0 a1 a2 a3 a4 a5 a6 a7 : Int) : xcall C0 M unr d 7 [(.agg [(iz a0), (iz a1)]), (.agg [(iz a2), (iz a3)]), (.agg [(iz a4), (iz a5)]), (.agg [(iz a6), (iz a7)])] =
  C0.hop [] (.box E24 (.v (.agg [(iz a0), (iz a1)]))) fun v0 h1 =>
  C0.hop h1 (.box E24 (.v (.agg [(iz a2), (iz a3)]))) fun v2 h3 =>
  C0.hop h3 (.box E24 (.v (.agg [(iz a4), (iz a5)]))) fun v4 h5 =>
  C0.hop h5 (.box E24 (.v (.agg [(iz a6), (iz a7)]))) fun v6 h7 =>
  C0.hop h7 (.load true 2 (.v v0)) fun v8 h9 =>
  C0.agg 2 (some v8) fun l10 =>
  C0.int .i64 l10[0]? fun x11 =>
  C0.int .i64 l10[1]? fun x12 =>
  C0.hop h9 (.load true 2 (.v v2)) fun v13 h14 =>
  C0.agg 2 (some v13) fun l15 =>
  C0.int .i64 l15[0]? fun x16 =>
  C0.int .i64 l15[1]? fun x17 =>
  C0.hop h14 (.load true 2 (.v v4)) fun v18 h19 =>
  C0.agg 2 (some v18) fun l20 =>
  C0.int .i64 l20[0]? fun x21 =>
  C0.int .i64 l20[1]? fun x22 =>
  C0.hop h19 (.mkrow E24 3 [(0, (.v (.agg [(iz x11), (iz x12)]))), (1, (.v (.agg [(iz x16), (iz x17)]))), (2, (.v (.agg [(iz x21), (iz x22)])))]) fun v23 h24 =>
  L7_0 d v0 v2 v4 v6 v23 1 h24 := (r7 C0 d a0 a1 a2 a3 a4 a5 a6 a7).trans (by simp only [it7_0])
end Go.Proofs.Ytkfppigcjdapnaa.AE

namespace Go.Proofs.Ytkfppigcjdapnaa.AE
set_option linter.unusedVariables false
set_option linter.unusedSimpArgs false
set_option linter.constructorNameAsVariable false
open Go Go.WideShapes

/-- The form of a cell. -/
inductive CT where
  | i (k : IntKind)
  | b
  | s
  | sl (ag : Bool) (es : List CT)
mutual
def CTok : CT → AV → Prop
  | .i k, v => ∃ n, v = .int k n ∧ (Lit.int k n).wf = true
  | .b, v => ∃ x, v = .bool x
  | .s, v => ∃ x, v = .str x ∧ x.length ≤ maxLen
  | .sl ag es, v => ∃ l, v = .lst l ∧ l.length ≤ maxLen ∧ ∀ x ∈ l, ∃ cs, (match ag with
    | true => x = .agg cs
    | false => cs = [x]) ∧ CTall es cs
def CTall : List CT → List AV → Prop
  | [], l => l = []
  | c :: cs, l => ∃ x t, l = x :: t ∧ CTok c x ∧ CTall cs t
end
/-- An argument of a form: is it a struct or an array; its cells. -/
def TyOK (ag : Bool) (cs : List CT) (v : AV) : Prop := ∃ l, (match ag with
  | true => v = .agg l
  | false => l = [v]) ∧ CTall cs l
theorem CTall_len : ∀ {cs : List CT} {l : List AV}, CTall cs l → l.length = cs.length
  | [], l, h => by simp only [CTall] at h; subst h; rfl
  | c :: cs, l, h => by
    simp only [CTall] at h
    obtain ⟨x, t, rfl, _, h⟩ := h
    simp [CTall_len h]
theorem CTall_app : ∀ {a b : List CT} {l m : List AV}, CTall a l → CTall b m → CTall (a ++ b) (l ++ m)
  | [], b, l, m, h, h' => by simp only [CTall] at h; subst h; exact h'
  | c :: cs, b, l, m, h, h' => by
    simp only [CTall] at h
    obtain ⟨x, t, rfl, h1, h⟩ := h
    simp only [List.cons_append, CTall]
    exact ⟨x, t ++ m, rfl, h1, CTall_app h h'⟩

section
variable (P : Program)
def ctFs (g : TypeId → Option (List CT)) : List Field → Nat → Option (List CT)
  | [], _ => some []
  | f :: fs, off => if f.offset = off then match g f.type with
      | some l => if P.cellsOf f.type = l.length then match ctFs g fs (off + l.length) with
          | some m => some (l ++ m)
          | none => none
        else none
      | none => none
    else none
def ctOf : Nat → TypeId → Option (List CT)
  | 0, _ => none
  | d + 1, t => match P.underlying t with
    | some (.int k) => some [.i k]
    | some .bool => some [.b]
    | some .string => some [.s]
    | some (.slice e) => match ctOf d e, agB P e with
      | some l, some ag => if P.cellsOf e = l.length ∧ 0 < l.length ∧ (ag || l.length == 1) = true then some [.sl ag l] else none
      | _, _ => none
    | some (.struct fs) => match ctFs P (ctOf d) fs.toList 0 with
      | some l => if P.cellsOf t = l.length then some l else none
      | none => none
    | some (.array n e) => match ctOf d e with
      | some l => if P.cellsOf e = l.length ∧ P.cellsOf t = n * l.length then some (List.replicate n l).flatten else none
      | none => none
    | _ => none
end

section
variable {H : Type} {enc : TypeId × Value → H} {P : Program} {w : World} {base : Nat} {spare : Nat → Bool} {held : Bool}
abbrev noBad : Nat → Prop := fun _ => False

/-- Each cell is told. -/
def Cells (w : World) (avs : List AV) (cs : List Value) : Prop := ∀ (i : Nat) (c : AV) (u : Value), avs[i]? = some c → cs[i]? = some u → FRep w noBad c u

theorem cells_one {c : AV} {u : Value} (h : FRep w noBad c u) : Cells w [c] [u] := by
  intro i a b ha hb
  match i with
  | 0 => cases ha; cases hb; exact h
  | i + 1 => cases ha

theorem ctFs_open {g : TypeId → Option (List CT)} {cs : List Value} (hg : ∀ t l (ds : List Value) fuel x, g t = some l → DataW.trod enc P w base spare held fuel t ds = some x → ∃ avs, avs.length = ds.length ∧ CTall l avs ∧ Cells w avs ds) :
    ∀ (fs : List Field) (off : Nat) (l : List CT), ctFs P g fs off = some l → (∀ f ∈ fs, ∃ fuel y, DataW.trod enc P w base spare held fuel f.type ((cs.drop f.offset).take (P.cellsOf f.type)) = some y) →
      ∃ avs, CTall l avs ∧ Cells w avs (cs.drop off)
  | [], off, l, h, _ => by
    simp only [ctFs] at h; cases h
    exact ⟨[], rfl, fun i c u hc _ => by cases hc⟩
  | f :: fs, off, l, h, ht => by
    simp only [ctFs] at h
    split at h
    · rename_i ho
      split at h <;> (try (cases h; done))
      rename_i l1 h1
      split at h
      · rename_i hn
        split at h <;> (try (cases h; done))
        rename_i m hm
        cases h
        obtain ⟨fuel, y, hy⟩ := ht f (List.mem_cons_self ..)
        obtain ⟨a1, e1, e2, e3⟩ := hg _ _ _ _ _ h1 hy
        obtain ⟨a2, q1, q2⟩ := ctFs_open hg fs (off + l1.length) m hm (fun f hf => ht f (List.mem_cons_of_mem _ hf))
        refine ⟨a1 ++ a2, CTall_app e2 q1, ?_⟩
        have hl : a1.length = l1.length := CTall_len e2
        intro i c u hc hu
        by_cases hi : i < a1.length
        · rw [List.getElem?_append_left hi] at hc
          refine e3 i c u hc ?_
          rw [ho, hn, List.getElem?_take, if_pos (by omega)]; exact hu
        · rw [List.getElem?_append_right (by omega)] at hc
          refine q2 (i - a1.length) c u hc ?_
          rw [List.getElem?_drop] at hu ⊢
          rw [← hu]; congr 1; omega
      · cases h
    · cases h

theorem cells?_at {a : Addr} {n : Nat} {cs : List Value} (h : w.cells? base a n = some cs) : cs.length = n ∧ ∀ j u, cs[j]? = some u → w.cell? (a.add j) = some u := by
  unfold World.cells? at h
  split at h
  · have hl : cs.length = n := by simpa using mapM_some_length h
    refine ⟨hl, fun j u hu => ?_⟩
    have hj : j < n := by
      rcases Nat.lt_or_ge j n with h1 | h1
      · exact h1
      · rw [List.getElem?_eq_none (by omega)] at hu; cases hu
    have := mapM_some_get h j j (by simp [hj])
    rw [hu] at this
    exact this
  · cases h

theorem rng_at {n i j : Nat} (h : (List.range n)[i]? = some j) : i < n ∧ i = j := by
  rcases Nat.lt_or_ge i n with h1 | h1
  · rw [List.getElem?_range h1] at h; exact ⟨h1, Option.some.inj h⟩
  · rw [List.getElem?_eq_none (by simpa using h1)] at h; cases h
theorem add_pl (b o n : Nat) : (⟨b, o, none⟩ : Addr).add n = ⟨b, o + n, none⟩ := by
  unfold Addr.add; split <;> simp_all

theorem open_cells : ∀ (d : Nat) (t : TypeId) (l : List CT) (cs : List Value) (fuel : Nat) (x : DataW H × List MemPlace), ctOf P d t = some l → DataW.trod enc P w base spare held fuel t cs = some x →
    ∃ avs, avs.length = cs.length ∧ CTall l avs ∧ Cells w avs cs
  | 0, t, l, cs, fuel, x, h, _ => by cases h
  | d + 1, t, l, cs, fuel, x, h, ht => by
    simp only [ctOf] at h
    split at h <;> (try (cases h; done))
    · rename_i k hu
      cases h
      obtain ⟨n, rfl, _, hw⟩ := DataW.trod_int hu ht
      exact ⟨[.int k n], rfl, ⟨_, _, rfl, ⟨n, rfl, hw⟩, rfl⟩, cells_one (.int k n)⟩
    · rename_i hu
      cases h
      obtain ⟨b, rfl, _⟩ := DataW.trod_bool hu ht
      exact ⟨[.bool b], rfl, ⟨_, _, rfl, ⟨b, rfl⟩, rfl⟩, cells_one (.bool b)⟩
    · rename_i hu
      cases h
      obtain ⟨s, rfl, _, hs⟩ := DataW.trod_string hu ht
      refine ⟨[.str s.data.toList], rfl, ⟨_, _, rfl, ⟨_, rfl, by simpa using hs⟩, rfl⟩, cells_one ?_⟩
      have := FRep.str (w := w) (bad := noBad) s.data.toList
      simpa using this
    · rename_i e hu
      split at h <;> (try (cases h; done))
      rename_i le ag hle hag
      split at h
      · rename_i hc
        obtain ⟨hc1, hc2, hc3⟩ := hc
        cases h
        rcases DataW.trod_slice hu ht with ⟨rfl, _⟩ | ⟨a, len, cap, elems, rest, n, _, rfl, _, hb, hl, hm, hel, hat, _, _⟩
        · exact ⟨[.lst []], rfl, ⟨_, _, rfl, ⟨[], rfl, by simp, fun x hx => by cases hx⟩, rfl⟩, cells_one (.lst0 none 0 fun _ => rfl)⟩
        · have each : ∀ i, i < len → ∃ ex : List AV × List Value, w.cells? base (a.add (i * P.cellsOf e)) (P.cellsOf e) = some ex.2 ∧ CTall le ex.1 ∧ Cells w ex.1 ex.2 := by
            intro i hi
            have h1 := hat i hi
            rw [List.getElem?_eq_getElem (by omega)] at h1
            obtain ⟨ds, h2, h3⟩ := Option.bind_eq_some_iff.mp h1
            obtain ⟨avs, _, q2, q3⟩ := open_cells d e le ds n _ hle h3
            exact ⟨(avs, ds), h2, q2, q3⟩
          obtain ⟨f, hf⟩ := Go.Deep.choose_lt each
          let el : List AV → AV := fun cs => match ag with
            | true => .agg cs
            | false => cs.headD .undef
          have elc : ∀ cs, CTall le cs → (el cs).cells = cs ∨ (ag = false ∧ ∃ v, cs = [v] ∧ el cs = v) := by
            intro cs hcs
            cases ag with
            | true => exact .inl rfl
            | false =>
              have hl1 : le.length = 1 := by simpa using hc3
              have := CTall_len hcs
              match cs, this.trans hl1 with
              | [v], _ => exact .inr ⟨rfl, v, rfl, rfl⟩
          have scal : ∀ cs, CTall le cs → (el cs).cells = cs := by
            intro cs hcs
            rcases elc cs hcs with h1 | ⟨hag', v, rfl, h2⟩
            · exact h1
            · rw [h2]
              match v, hcs with
              | .agg l', hcs =>
                exfalso
                cases le with
                | nil => simp only [CTall] at hcs; cases hcs
                | cons c cs' =>
                  simp only [CTall] at hcs
                  obtain ⟨x', t', hx', hok, _⟩ := hcs
                  injection hx' with hx1 _
                  subst hx1
                  cases c <;> simp [CTok] at hok
              | .int .., _ | .bool _, _ | .str _, _ | .nilp, _ | .zsl _, _ | .ptr .., _ | .slc .., _ | .lst _, _ | .fptr .., _ | .tup _, _ | .fn .., _ | .nilf, _ | .undef, _ | .emp, _ => rfl
          have hlen : ∀ i, i < len → ((f i).1).length = P.cellsOf e := fun i hi => by rw [CTall_len (hf i hi).2.1, hc1]
          refine ⟨[.lst ((List.range len).map fun i => el (f i).1)], rfl, ⟨_, _, rfl, ⟨_, rfl, by simp; omega, ?_⟩, rfl⟩, cells_one ?_⟩
          · intro y hy
            obtain ⟨i, hi, rfl⟩ := List.mem_map.mp hy
            have hi := List.mem_range.mp hi
            refine ⟨(f i).1, ?_, (hf i hi).2.1⟩
            cases ag with
            | true => rfl
            | false =>
              rcases elc _ (hf i hi).2.1 with h1 | ⟨_, v, h1, h2⟩
              · have h3 := scal _ (hf i hi).2.1
                have hl1 : le.length = 1 := by simpa using hc3
                have h4 := (CTall_len (hf i hi).2.1).trans hl1
                show (f i).1 = [(f i).1.headD .undef]
                match (f i).1, h4 with
                | [v], _ => rfl
              · show (f i).1 = [(f i).1.headD .undef]
                rw [h1]; rfl
          · by_cases h0 : len = 0
            · subst h0; exact .lst0 (some a) cap (fun h => by cases h)
            · have hsp : a.spot = none ∧ a.block < w.heap.size := by
                obtain ⟨g1, g2, g3⟩ := hf 0 (by omega)
                obtain ⟨g4, g5⟩ := cells?_at g1
                have h6 : ∃ u, (f 0).2[0]? = some u := ⟨_, List.getElem?_eq_getElem (by omega)⟩
                obtain ⟨u, hu0⟩ := h6
                have := g5 0 u hu0
                rw [Nat.zero_mul, show (a.add 0).add 0 = a by simp [Addr.add]] at this
                unfold World.cell? at this
                split at this
                · rename_i c _ _ hh
                  split at this
                  · cases this
                  · rename_i hs
                    refine ⟨by simpa using hs, ?_⟩
                    rcases Nat.lt_or_ge a.block w.heap.size with h7 | h7
                    · exact h7
                    · rw [Array.getElem?_eq_none h7] at hh; cases hh
                · cases this
              obtain ⟨b, o, sp⟩ := a
              obtain ⟨hsp1, hsp2⟩ := hsp
              simp only at hsp1 hsp2
              subst hsp1
              have hlm : ((List.range len).map fun i => el (f i).1).length = len := by simp
              have key := FRep.lst (w := w) (bad := noBad) ((List.range len).map fun i => el (f i).1) b o (P.cellsOf e) cap (fun i j => (f i).2.getD j (.bool false)) (by rw [hlm]; exact hl) (by omega) (fun h => h) hsp2 ?_ ?_ ?_
              · rw [hlm] at key; exact key
              · intro i y hy
                rw [List.getElem?_map] at hy
                obtain ⟨i', h1, rfl⟩ := Option.map_eq_some_iff.mp hy
                obtain ⟨h2, rfl⟩ := rng_at h1
                rw [scal _ (hf _ h2).2.1, hlen _ h2]
              · intro i y j c hy hc
                rw [List.getElem?_map] at hy
                obtain ⟨i', h1, rfl⟩ := Option.map_eq_some_iff.mp hy
                obtain ⟨h2, rfl⟩ := rng_at h1
                rw [scal _ (hf _ h2).2.1] at hc
                obtain ⟨g4, g5⟩ := cells?_at (hf _ h2).1
                have hj : j < (f i).2.length := by
                  rw [g4, ← hlen _ h2]
                  rcases Nat.lt_or_ge j (f i).1.length with h7 | h7
                  · exact h7
                  · rw [List.getElem?_eq_none h7] at hc; cases hc
                have := g5 j _ (List.getElem?_eq_getElem hj)
                rw [add_pl, add_pl] at this
                rw [List.getD_eq_getElem?_getD, List.getElem?_eq_getElem hj]
                simp only [Option.getD_some]
                rw [← Nat.add_assoc]; exact this
              · intro i y j c hy hc
                rw [List.getElem?_map] at hy
                obtain ⟨i', h1, rfl⟩ := Option.map_eq_some_iff.mp hy
                obtain ⟨h2, rfl⟩ := rng_at h1
                rw [scal _ (hf _ h2).2.1] at hc
                obtain ⟨g4, g5⟩ := cells?_at (hf _ h2).1
                have hj : j < (f i).2.length := by
                  rw [g4, ← hlen _ h2]
                  rcases Nat.lt_or_ge j (f i).1.length with h7 | h7
                  · exact h7
                  · rw [List.getElem?_eq_none h7] at hc; cases hc
                refine (hf _ h2).2.2 j c _ hc ?_
                rw [List.getD_eq_getElem?_getD, List.getElem?_eq_getElem hj]; rfl
      · cases h
    · rename_i fs hu
      split at h <;> (try (cases h; done))
      rename_i l' hl'
      split at h
      · rename_i hc
        cases h
        obtain ⟨xs, n, _, _, hlen, hxs, hf⟩ := DataW.trod_struct hu ht
        obtain ⟨avs, q1, q2⟩ := ctFs_open (cs := cs) (enc := enc) (base := base) (spare := spare) (held := held) (fun t l ds fuel x => open_cells d t l ds fuel x) fs.toList 0 l hl' (fun f hfm => by
          obtain ⟨i, hi⟩ := List.getElem?_of_mem hfm
          have h1 := hf i f (by simpa using hi)
          have hi' : i < xs.length := by
            rw [hxs]
            rcases Nat.lt_or_ge i fs.size with h7 | h7
            · exact h7
            · rw [List.getElem?_eq_none (by simpa using h7)] at hi; cases hi
          exact ⟨n, _, h1.trans (List.getElem?_eq_getElem hi')⟩)
        exact ⟨avs, by rw [CTall_len q1, hlen, hc], q1, by simpa using q2⟩
      · cases h
    · rename_i n e hu
      split at h <;> (try (cases h; done))
      rename_i le hle
      split at h
      · rename_i hc
        obtain ⟨hc1, hc2⟩ := hc
        cases h
        obtain ⟨xs, m, _, _, hlen, hxs, hf⟩ := DataW.trod_array hu ht
        have key : ∀ k, k ≤ n → ∃ avs, CTall (List.replicate k le).flatten avs ∧ Cells w avs (cs.drop ((n - k) * le.length)) := by
          intro k
          induction k with
          | zero => intro _; exact ⟨[], rfl, fun i c u hc _ => by cases hc⟩
          | succ k ih =>
            intro hk
            obtain ⟨a2, q1, q2⟩ := ih (by omega)
            have h1 := hf (n - (k + 1)) (by omega)
            rw [List.getElem?_eq_getElem (by omega)] at h1
            obtain ⟨a1, e1, e2, e3⟩ := open_cells d e le _ m _ hle h1
            refine ⟨a1 ++ a2, by rw [List.replicate_succ, List.flatten_cons]; exact CTall_app e2 q1, ?_⟩
            have hl : a1.length = le.length := CTall_len e2
            intro i c u hc hu
            by_cases hi : i < a1.length
            · rw [List.getElem?_append_left hi] at hc
              refine e3 i c u hc ?_
              rw [hc1, List.getElem?_take, if_pos (by omega)]; exact hu
            · rw [List.getElem?_append_right (by omega)] at hc
              refine q2 (i - a1.length) c u hc ?_
              rw [List.getElem?_drop] at hu ⊢
              rw [← hu]; congr 1
              have : n - k = n - (k + 1) + 1 := by omega
              rw [this, Nat.add_mul]; omega
        obtain ⟨avs, q1, q2⟩ := key n (Nat.le_refl _)
        refine ⟨avs, ?_, q1, by simpa using q2⟩
        rw [CTall_len q1, hlen, hc2]; simp
      · cases h

theorem okWide_array {r : Reach} {n : Nat} {t e : TypeId} {v : Value} (ht : P.underlying t = some (.array n e)) (h : Value.okWide P w r base t v) : ∃ cs, v = .agg cs ∧ cs.size = P.cellsOf t := by
  simp only [Value.okWide, ht] at h
  obtain ⟨cs, h1, h2, _⟩ := h
  exact ⟨cs, h1, h2⟩
/-- A scalar argument. -/
theorem open_sc {t : TypeId} {v : Value} {d : DataW H} {ps : List MemPlace} {l : List CT} (hv : v.cells.toList = [v]) (hl : ctOf P 9 t = some l) (h : DataW.Trod enc P w base spare held t v d ps) :
    ∃ a, TyOK false l a ∧ FRep w noBad a v := by
  obtain ⟨fuel, h⟩ := h
  obtain ⟨avs, h1, h2, h3⟩ := open_cells 9 t l _ fuel _ hl h
  rw [hv] at h1 h3
  match avs, h1 with
  | [a], _ => exact ⟨a, ⟨_, rfl, h2⟩, h3 0 a v rfl rfl⟩
/-- A struct, or an array. -/
theorem open_ag {t : TypeId} {cs : Array Value} {d : DataW H} {ps : List MemPlace} {l : List CT} (hl : ctOf P 9 t = some l) (h : DataW.Trod enc P w base spare held t (.agg cs) d ps) :
    ∃ a, TyOK true l a ∧ FRep w noBad a (.agg cs) := by
  obtain ⟨fuel, h⟩ := h
  obtain ⟨avs, h1, h2, h3⟩ := open_cells 9 t l _ fuel _ hl h
  refine ⟨.agg avs, ⟨_, rfl, h2⟩, ?_⟩
  have := FRep.agg (w := w) (bad := noBad) avs cs.toList h1 h3
  simpa using this
end
end Go.Proofs.Ytkfppigcjdapnaa.AE

namespace Go.Proofs.Ytkfppigcjdapnaa.AE
set_option linter.unusedVariables false
set_option linter.unusedSimpArgs false
set_option linter.constructorNameAsVariable false
open Go Go.Proofs.Ytkfppigcjdapnaa.Geo
theorem wf64 {n : Int} (h : (Lit.int .i64 n).wf = true) : In64 n := by have := bounds_i64 h; unfold In64; omega
end Go.Proofs.Ytkfppigcjdapnaa.AE

namespace Go.Proofs.Ytkfppigcjdapnaa.AE
set_option linter.unusedVariables false
set_option linter.unusedSimpArgs false
set_option linter.constructorNameAsVariable false
open Go Go.Proofs.Ytkfppigcjdapnaa.Geo
set_option maxRecDepth 100000
set_option linter.unusedSectionVars false
attribute [local irreducible] pcall C0
theorem mk_o {Z G S : Heap} {z s n : Nat} {e : ETy} {parts : List (Nat × Opd)} {els : List AV} {K : AV → Heap → Ans} (hz : Z.length = z) (hs : S.length = s) (hf : fillR e (List.replicate n e.zero) (parts.map fun p => (p.1, evO [] p.2)) = some els) :
    C0.hop (Z ++ (G ++ S)) (.mkrow e n parts) K = K (.slc (z + (G.length + s)) 0 n) (Z ++ (G ++ (S ++ [some ⟨e, els⟩]))) := by
  subst hz hs
  refine (hop_eq (v := .slc (Z ++ (G ++ S)).length 0 n) (H' := (Z ++ (G ++ S)) ++ [some ⟨e, els⟩]) (by simp only [aop, hf])).trans ?_
  simp only [List.length_append, List.append_assoc]
theorem snp_2 {H : Heap} {v w lv : AV} {K : List AV → Bool → Ans} (hv : snap 12 H v = lv) (hw : snap 12 H w = w) (hn : [v, w].all (noId DEPTH) = false) : C0.snp H [v, w] K = K [lv, w] false := by
  rw [snp_id hn]; simp only [List.map_cons, List.map_nil, show DEPTH = 12 from rfl, hv, hw]
theorem snp_1 {H : Heap} {v lv : AV} {K : List AV → Bool → Ans} (hv : snap 12 H v = lv) (hn : [v].all (noId DEPTH) = false) : C0.snp H [v] K = K [lv] false := by
  rw [snp_id hn]; simp only [List.map_cons, List.map_nil, show DEPTH = 12 from rfl, hv]
theorem near_code {q : Pt} (h1 : In64 q.1) (h2 : In64 q.2) (A B : Int) (hA : A = (if ((IntKind.wrap .i64 (0 - q.2)) > (if (q.2 > (if ((IntKind.wrap .i64 (0 - q.1)) > q.1) then (IntKind.wrap .i64 (0 - q.1)) else q.1)) then q.2 else (if ((IntKind.wrap .i64 (0 - q.1)) > q.1) then (IntKind.wrap .i64 (0 - q.1)) else q.1))) then (IntKind.wrap .i64 (0 - q.2)) else (if (q.2 > (if ((IntKind.wrap .i64 (0 - q.1)) > q.1) then (IntKind.wrap .i64 (0 - q.1)) else q.1)) then q.2 else (if ((IntKind.wrap .i64 (0 - q.1)) > q.1) then (IntKind.wrap .i64 (0 - q.1)) else q.1))))
    (hB : B = (if (q.2 < q.1) then q.2 else q.1)) : (decide (A ≤ 1073741824) && decide (B ≥ -1073741824)) = nearB q := by
  rw [Bool.eq_iff_iff, Bool.and_eq_true, decide_eq_true_iff, decide_eq_true_iff, nearB_t]
  unfold nearP
  unfold In64 at h1 h2
  rw [i64w, i64w] at hA
  subst hA hB
  constructor
  · intro h; omega
  · intro h; omega
section
variable (a b c p : Pt) (ha : In64 a.1 ∧ In64 a.2) (hb : In64 b.1 ∧ In64 b.2) (hc : In64 c.1 ∧ In64 c.2) (hp : okb p = true)
abbrev Z5 (a b c p : Pt) : Heap := [some ⟨E24, [pt a]⟩, some ⟨E24, [pt b]⟩, some ⟨E24, [pt c]⟩, some ⟨E24, [pt p]⟩, some ⟨E24, [pt a, pt b, pt c]⟩]
theorem snapZ (G : Heap) : snap 12 (Z5 a b c p ++ G) (.slc 4 0 3) = .lst ([a, b, c].map pt) := snap_pts (l := [a, b, c]) (.inr ⟨4, rfl, hg_z rfl⟩)
include hp
theorem triX (G : Heap) : X7_1_0 40 (.ptr 0 0 0) (.ptr 1 0 0) (.ptr 2 0 0) (.ptr 3 0 0) (.slc 4 0 3) 3 (nearB a && (nearB b && nearB c)) (Z5 a b c p ++ G) = some (.bool true) := by
  rw [X7_1_0]
  repeat with_reducible first | refine tt sh_ptr ?_ | refine tt sh_fptr ?_ | refine tt w2 ?_ | refine tt w3 ?_ | refine tt w8 ?_ | refine tt w9 ?_ | refine tt wf ?_ | refine tt wg ?_ | refine tt wh ?_ | refine tt wi ?_ | refine tt wj ?_ | refine tt wk ?_ | refine tt wl ?_ | refine tt wn ?_ | refine tt c_ort ?_ | refine tt c_nt ?_ | refine tt c_nf ?_ | refine tt (cnd_t _ _) ?_ | refine tt (cnd_f _ _) ?_ | refine tt w6 ?_ | refine tt w4 ?_ | refine tt w5 ?_ | refine tt w7 ?_ | refine tt wm ?_ | refine tt wo ?_ | refine tt wx ?_ | refine tt nil_ptr ?_ | refine tt len_lst ?_ | refine tt len_zsl ?_
  refine Eq.trans (pl_int (s29 33 a b c)) ?_
  rw [L7_4]
  refine Eq.trans (snp_1 (snapZ a b c p G) (by rfl)) ?_
  refine Eq.trans (pl_bool (s15 28 [a, b, c] (by simp))) ?_
  repeat with_reducible first | refine tt sh_ptr ?_ | refine tt sh_fptr ?_ | refine tt w2 ?_ | refine tt w3 ?_ | refine tt w8 ?_ | refine tt w9 ?_ | refine tt wf ?_ | refine tt wg ?_ | refine tt wh ?_ | refine tt wi ?_ | refine tt wj ?_ | refine tt wk ?_ | refine tt wl ?_ | refine tt wn ?_ | refine tt c_ort ?_ | refine tt c_nt ?_ | refine tt c_nf ?_ | refine tt (cnd_t _ _) ?_ | refine tt (cnd_f _ _) ?_ | refine tt w6 ?_ | refine tt w4 ?_ | refine tt w5 ?_ | refine tt w7 ?_ | refine tt wm ?_ | refine tt wo ?_ | refine tt wx ?_ | refine tt nil_ptr ?_ | refine tt len_lst ?_ | refine tt len_zsl ?_
  have wsg : ∀ u v : Int, IntKind.wrap .i64 (sg u * sg v) = sg u * sg v := by
    intro u v
    rcases sg_cases u with ⟨h1, h2⟩ | ⟨h1, h2⟩ | ⟨h1, h2⟩ <;> rcases sg_cases v with ⟨h3, h4⟩ | ⟨h3, h4⟩ | ⟨h3, h4⟩ <;> rw [h2, h4] <;> rfl
  cases hn : (nearB a && (nearB b && nearB c))
  · have hr : rightB [a, b, c] = false := by
      rw [tri_right]
      cases h1 : nearB a <;> cases h2 : nearB b <;> cases h3 : nearB c <;> rw [h1, h2, h3] at hn <;> first | rfl | (cases hn)
    rw [hr]
    repeat with_reducible first | refine tt sh_ptr ?_ | refine tt sh_fptr ?_ | refine tt w2 ?_ | refine tt w3 ?_ | refine tt w8 ?_ | refine tt w9 ?_ | refine tt wf ?_ | refine tt wg ?_ | refine tt wh ?_ | refine tt wi ?_ | refine tt wj ?_ | refine tt wk ?_ | refine tt wl ?_ | refine tt wn ?_ | refine tt c_ort ?_ | refine tt c_nt ?_ | refine tt c_nf ?_ | refine tt (cnd_t _ _) ?_ | refine tt (cnd_f _ _) ?_ | refine tt w6 ?_ | refine tt w4 ?_ | refine tt w5 ?_ | refine tt w7 ?_ | refine tt wm ?_ | refine tt wo ?_ | refine tt wx ?_ | refine tt nil_ptr ?_ | refine tt len_lst ?_ | refine tt len_zsl ?_
    rw [X7_4_0, show (xor true (false == false)) = false from rfl, cnd_f, L7_5, c_nf, X7_5_0]
    repeat with_reducible first | refine tt sh_ptr ?_ | refine tt sh_fptr ?_ | refine tt w2 ?_ | refine tt w3 ?_ | refine tt w8 ?_ | refine tt w9 ?_ | refine tt wf ?_ | refine tt wg ?_ | refine tt wh ?_ | refine tt wi ?_ | refine tt wj ?_ | refine tt wk ?_ | refine tt wl ?_ | refine tt wn ?_ | refine tt c_ort ?_ | refine tt c_nt ?_ | refine tt c_nf ?_ | refine tt (cnd_t _ _) ?_ | refine tt (cnd_f _ _) ?_ | refine tt w6 ?_ | refine tt w4 ?_ | refine tt w5 ?_ | refine tt w7 ?_ | refine tt wm ?_ | refine tt wo ?_ | refine tt wx ?_ | refine tt nil_ptr ?_ | refine tt len_lst ?_ | refine tt len_zsl ?_
    refine Eq.trans (snp_2 (snapZ a b c p G) (by rfl) (by rfl)) ?_
    refine Eq.trans (pl_int (s16 27 [a, b, c] p (by simp))) ?_
    repeat with_reducible first | refine tt sh_ptr ?_ | refine tt sh_fptr ?_ | refine tt w2 ?_ | refine tt w3 ?_ | refine tt w8 ?_ | refine tt w9 ?_ | refine tt wf ?_ | refine tt wg ?_ | refine tt wh ?_ | refine tt wi ?_ | refine tt wj ?_ | refine tt wk ?_ | refine tt wl ?_ | refine tt wn ?_ | refine tt c_ort ?_ | refine tt c_nt ?_ | refine tt c_nf ?_ | refine tt (cnd_t _ _) ?_ | refine tt (cnd_f _ _) ?_ | refine tt w6 ?_ | refine tt w4 ?_ | refine tt w5 ?_ | refine tt w7 ?_ | refine tt wm ?_ | refine tt wo ?_ | refine tt wx ?_ | refine tt nil_ptr ?_ | refine tt len_lst ?_ | refine tt len_zsl ?_
    rw [show sideB [a, b, c] p = -1 by unfold sideB; rw [hr]; rfl]
    exact f_free (by rfl)
  · have hn' := hn
    simp only [Bool.and_eq_true] at hn'
    obtain ⟨na, nb, nc⟩ := hn'
    have oa := near_ok na
    have ob := near_ok nb
    have oc := near_ok nc
    have op := okb_t.mp hp
    have hr : rightB [a, b, c] = decide (TN a b c ≠ 0) := by rw [tri_right, na, nb, nc]; rfl
    have ht3 : tn3 a b c = sg (TN a b c) := tn3_sg ⟨oa, ob, oc⟩
    have hz : (sg (TN a b c) != 0) = decide (TN a b c ≠ 0) := by
      rw [Bool.eq_iff_iff, bne_iff_ne, decide_eq_true_iff]; exact ⟨fun h e => h (sg_0 e), fun h e => h (sg_zero.mp e)⟩
    rw [hr, ht3, hz]
    repeat with_reducible first | refine tt sh_ptr ?_ | refine tt sh_fptr ?_ | refine tt w2 ?_ | refine tt w3 ?_ | refine tt w8 ?_ | refine tt w9 ?_ | refine tt wf ?_ | refine tt wg ?_ | refine tt wh ?_ | refine tt wi ?_ | refine tt wj ?_ | refine tt wk ?_ | refine tt wl ?_ | refine tt wn ?_ | refine tt c_ort ?_ | refine tt c_nt ?_ | refine tt c_nf ?_ | refine tt (cnd_t _ _) ?_ | refine tt (cnd_f _ _) ?_ | refine tt w6 ?_ | refine tt w4 ?_ | refine tt w5 ?_ | refine tt w7 ?_ | refine tt wm ?_ | refine tt wo ?_ | refine tt wx ?_ | refine tt nil_ptr ?_ | refine tt len_lst ?_ | refine tt len_zsl ?_
    rw [X7_4_0, show (xor true (decide (TN a b c ≠ 0) == decide (TN a b c ≠ 0))) = false by cases decide (TN a b c ≠ 0) <;> rfl, cnd_f, L7_5, c_nt, X7_5_0]
    by_cases ht : TN a b c = 0
    · rw [sg_0 ht, show ((0 : Int) == 0) = true from rfl, cnd_t]
      repeat with_reducible first | refine tt sh_ptr ?_ | refine tt sh_fptr ?_ | refine tt w2 ?_ | refine tt w3 ?_ | refine tt w8 ?_ | refine tt w9 ?_ | refine tt wf ?_ | refine tt wg ?_ | refine tt wh ?_ | refine tt wi ?_ | refine tt wj ?_ | refine tt wk ?_ | refine tt wl ?_ | refine tt wn ?_ | refine tt c_ort ?_ | refine tt c_nt ?_ | refine tt c_nf ?_ | refine tt (cnd_t _ _) ?_ | refine tt (cnd_f _ _) ?_ | refine tt w6 ?_ | refine tt w4 ?_ | refine tt w5 ?_ | refine tt w7 ?_ | refine tt wm ?_ | refine tt wo ?_ | refine tt wx ?_ | refine tt nil_ptr ?_ | refine tt len_lst ?_ | refine tt len_zsl ?_
      refine Eq.trans (snp_2 (snapZ a b c p G) (by rfl) (by rfl)) ?_
      refine Eq.trans (pl_int (s16 27 [a, b, c] p (by simp))) ?_
      repeat with_reducible first | refine tt sh_ptr ?_ | refine tt sh_fptr ?_ | refine tt w2 ?_ | refine tt w3 ?_ | refine tt w8 ?_ | refine tt w9 ?_ | refine tt wf ?_ | refine tt wg ?_ | refine tt wh ?_ | refine tt wi ?_ | refine tt wj ?_ | refine tt wk ?_ | refine tt wl ?_ | refine tt wn ?_ | refine tt c_ort ?_ | refine tt c_nt ?_ | refine tt c_nf ?_ | refine tt (cnd_t _ _) ?_ | refine tt (cnd_f _ _) ?_ | refine tt w6 ?_ | refine tt w4 ?_ | refine tt w5 ?_ | refine tt w7 ?_ | refine tt wm ?_ | refine tt wo ?_ | refine tt wx ?_ | refine tt nil_ptr ?_ | refine tt len_lst ?_ | refine tt len_zsl ?_
      rw [show sideB [a, b, c] p = -1 by unfold sideB; rw [hr, decide_eq_false (by simpa using ht)]; rfl]
      exact f_free (by rfl)
    · have hr1 : rightB [a, b, c] = true := hr.trans (decide_eq_true ht)
      rw [show (sg (TN a b c) == 0) = false from beq_eq_false_iff_ne.mpr fun e => ht (sg_zero.mp e), cnd_f]
      repeat with_reducible first | refine tt sh_ptr ?_ | refine tt sh_fptr ?_ | refine tt w2 ?_ | refine tt w3 ?_ | refine tt w8 ?_ | refine tt w9 ?_ | refine tt wf ?_ | refine tt wg ?_ | refine tt wh ?_ | refine tt wi ?_ | refine tt wj ?_ | refine tt wk ?_ | refine tt wl ?_ | refine tt wn ?_ | refine tt c_ort ?_ | refine tt c_nt ?_ | refine tt c_nf ?_ | refine tt (cnd_t _ _) ?_ | refine tt (cnd_f _ _) ?_ | refine tt w6 ?_ | refine tt w4 ?_ | refine tt w5 ?_ | refine tt w7 ?_ | refine tt wm ?_ | refine tt wo ?_ | refine tt wx ?_ | refine tt nil_ptr ?_ | refine tt len_lst ?_ | refine tt len_zsl ?_
      refine Eq.trans (pl_int (s29 33 a b p)) ?_
      repeat with_reducible first | refine tt sh_ptr ?_ | refine tt sh_fptr ?_ | refine tt w2 ?_ | refine tt w3 ?_ | refine tt w8 ?_ | refine tt w9 ?_ | refine tt wf ?_ | refine tt wg ?_ | refine tt wh ?_ | refine tt wi ?_ | refine tt wj ?_ | refine tt wk ?_ | refine tt wl ?_ | refine tt wn ?_ | refine tt c_ort ?_ | refine tt c_nt ?_ | refine tt c_nf ?_ | refine tt (cnd_t _ _) ?_ | refine tt (cnd_f _ _) ?_ | refine tt w6 ?_ | refine tt w4 ?_ | refine tt w5 ?_ | refine tt w7 ?_ | refine tt wm ?_ | refine tt wo ?_ | refine tt wx ?_ | refine tt nil_ptr ?_ | refine tt len_lst ?_ | refine tt len_zsl ?_
      refine Eq.trans (pl_int (s29 33 b c p)) ?_
      repeat with_reducible first | refine tt sh_ptr ?_ | refine tt sh_fptr ?_ | refine tt w2 ?_ | refine tt w3 ?_ | refine tt w8 ?_ | refine tt w9 ?_ | refine tt wf ?_ | refine tt wg ?_ | refine tt wh ?_ | refine tt wi ?_ | refine tt wj ?_ | refine tt wk ?_ | refine tt wl ?_ | refine tt wn ?_ | refine tt c_ort ?_ | refine tt c_nt ?_ | refine tt c_nf ?_ | refine tt (cnd_t _ _) ?_ | refine tt (cnd_f _ _) ?_ | refine tt w6 ?_ | refine tt w4 ?_ | refine tt w5 ?_ | refine tt w7 ?_ | refine tt wm ?_ | refine tt wo ?_ | refine tt wx ?_ | refine tt nil_ptr ?_ | refine tt len_lst ?_ | refine tt len_zsl ?_
      refine Eq.trans (pl_int (s29 33 c a p)) ?_
      rw [tn3_sg ⟨oa, ob, op⟩, tn3_sg ⟨ob, oc, op⟩, tn3_sg ⟨oc, oa, op⟩, L7_6]
      have hs := tri_side (p := p) hr1 hp
      have last : ∀ w, w = sideB [a, b, c] p → X7_6_0 40 (.ptr 3 0 0) (.slc 4 0 3) (sg (TN a b c)) (sg (TN a b p)) (sg (TN b c p)) (sg (TN c a p)) w (Z5 a b c p ++ G) = some (.bool true) := by
        intro w hw
        subst hw
        rw [X7_6_0, L7_7]
        repeat with_reducible first | refine tt sh_ptr ?_ | refine tt sh_fptr ?_ | refine tt w2 ?_ | refine tt w3 ?_ | refine tt w8 ?_ | refine tt w9 ?_ | refine tt wf ?_ | refine tt wg ?_ | refine tt wh ?_ | refine tt wi ?_ | refine tt wj ?_ | refine tt wk ?_ | refine tt wl ?_ | refine tt wn ?_ | refine tt c_ort ?_ | refine tt c_nt ?_ | refine tt c_nf ?_ | refine tt (cnd_t _ _) ?_ | refine tt (cnd_f _ _) ?_ | refine tt w6 ?_ | refine tt w4 ?_ | refine tt w5 ?_ | refine tt w7 ?_ | refine tt wm ?_ | refine tt wo ?_ | refine tt wx ?_ | refine tt nil_ptr ?_ | refine tt len_lst ?_ | refine tt len_zsl ?_
        refine Eq.trans (snp_2 (snapZ a b c p G) (by rfl) (by rfl)) ?_
        refine Eq.trans (pl_int (s16 27 [a, b, c] p (by simp))) ?_
        repeat with_reducible first | refine tt sh_ptr ?_ | refine tt sh_fptr ?_ | refine tt w2 ?_ | refine tt w3 ?_ | refine tt w8 ?_ | refine tt w9 ?_ | refine tt wf ?_ | refine tt wg ?_ | refine tt wh ?_ | refine tt wi ?_ | refine tt wj ?_ | refine tt wk ?_ | refine tt wl ?_ | refine tt wn ?_ | refine tt c_ort ?_ | refine tt c_nt ?_ | refine tt c_nf ?_ | refine tt (cnd_t _ _) ?_ | refine tt (cnd_f _ _) ?_ | refine tt w6 ?_ | refine tt w4 ?_ | refine tt w5 ?_ | refine tt w7 ?_ | refine tt wm ?_ | refine tt wo ?_ | refine tt wx ?_ | refine tt nil_ptr ?_ | refine tt len_lst ?_ | refine tt len_zsl ?_
        rw [beq_self_eq_true]
        repeat with_reducible first | refine tt sh_ptr ?_ | refine tt sh_fptr ?_ | refine tt w2 ?_ | refine tt w3 ?_ | refine tt w8 ?_ | refine tt w9 ?_ | refine tt wf ?_ | refine tt wg ?_ | refine tt wh ?_ | refine tt wi ?_ | refine tt wj ?_ | refine tt wk ?_ | refine tt wl ?_ | refine tt wn ?_ | refine tt c_ort ?_ | refine tt c_nt ?_ | refine tt c_nf ?_ | refine tt (cnd_t _ _) ?_ | refine tt (cnd_f _ _) ?_ | refine tt w6 ?_ | refine tt w4 ?_ | refine tt w5 ?_ | refine tt w7 ?_ | refine tt wm ?_ | refine tt wo ?_ | refine tt wx ?_ | refine tt nil_ptr ?_ | refine tt len_lst ?_ | refine tt len_zsl ?_
        refine Eq.trans (snp_1 (snapZ a b c p G) (by rfl)) ?_
        refine Eq.trans (pl_bool (s18 27 [a, b, c] (by simp))) ?_
        repeat with_reducible first | refine tt sh_ptr ?_ | refine tt sh_fptr ?_ | refine tt w2 ?_ | refine tt w3 ?_ | refine tt w8 ?_ | refine tt w9 ?_ | refine tt wf ?_ | refine tt wg ?_ | refine tt wh ?_ | refine tt wi ?_ | refine tt wj ?_ | refine tt wk ?_ | refine tt wl ?_ | refine tt wn ?_ | refine tt c_ort ?_ | refine tt c_nt ?_ | refine tt c_nf ?_ | refine tt (cnd_t _ _) ?_ | refine tt (cnd_f _ _) ?_ | refine tt w6 ?_ | refine tt w4 ?_ | refine tt w5 ?_ | refine tt w7 ?_ | refine tt wm ?_ | refine tt wo ?_ | refine tt wx ?_ | refine tt nil_ptr ?_ | refine tt len_lst ?_ | refine tt len_zsl ?_
        rw [X7_7_0, tri_left hr1]
        rw [show (xor false (decide (sg (TN a b c) > 0) == decide (sg (TN a b c) > 0))) = true by cases decide (sg (TN a b c) > 0) <;> rfl]
        exact f_free (by rfl)
      rw [wsg, wsg, wsg]
      unfold wantI at hs
      generalize sg (TN a b p) * sg (TN a b c) = x at *
      generalize sg (TN b c p) * sg (TN a b c) = y at *
      generalize sg (TN c a p) * sg (TN a b c) = z at *
      have hm : (if (z < (if (y < x) then y else x)) then z else (if (y < x) then y else x)) = min x (min y z) := by omega
      rw [hm]
      by_cases c1 : min x (min y z) > 0
      · rw [decide_eq_true c1, cnd_t]
        rw [if_pos c1] at hs
        exact last 1 hs.symm
      · rw [decide_eq_false c1, cnd_f]
        rw [if_neg c1] at hs
        by_cases c2 : min x (min y z) = 0
        · rw [show (min x (min y z) == 0) = true from beq_iff_eq.mpr c2, cnd_t]
          rw [if_pos c2] at hs
          exact last 0 hs.symm
        · rw [show (min x (min y z) == 0) = false from beq_eq_false_iff_ne.mpr c2, cnd_f]
          rw [if_neg c2] at hs
          exact last (-1) hs.symm
include ha hb hc
theorem tri2 (i : Nat) (q : Pt) (hi : i < 3) (hv : vv [a, b, c] i = q) (hq : In64 q.1 ∧ In64 q.2) (t : Bool) (G : Heap) (kN : Bool → Int → Heap → Ans) (r : Ans) (hk : ∀ G', kN (t && nearB q) ((i + 1 : Nat) : Int) (Z5 a b c p ++ G') = r) :
    L7_2 40 (.slc 4 0 3) (i : Nat) kN 1 t (Z5 a b c p ++ G) = r := by
  have ix : C0.hop (Z5 a b c p ++ (G ++ [])) (.ixAS .any 2 (.v (.slc 4 0 3)) (.v (.int .i64 (i : Nat)))) = fun K => K (.ptr 4 i 0) (Z5 a b c p ++ (G ++ [])) := by
    funext K
    refine Eq.trans (ix_slc (es := 2) (b := ⟨E24, [pt a, pt b, pt c]⟩) (q := ((i : Nat) : Int)) (hg_z rfl) (by omega) (by omega) rfl) ?_
    rw [show 0 + (((i : Nat) : Int)).toNat = i by omega]
  have ld : ∀ {K : AV → Heap → Ans}, C0.hop (Z5 a b c p ++ (G ++ [])) (.load true 2 (.v (.ptr 4 i 0))) K = K (pt q) (Z5 a b c p ++ (G ++ [])) := by
    intro K
    refine ld_z (b := ⟨E24, [pt a, pt b, pt c]⟩) (el := pt q) rfl ?_ rfl
    rcases (show i = 0 ∨ i = 1 ∨ i = 2 by omega) with e | e | e <;> subst e <;> subst hv <;> rfl
  rw [L7_2]
  refine Eq.trans h_more ?_
  rw [ix]
  refine Eq.trans ld ?_
  repeat with_reducible first | refine tt sh_ptr ?_ | refine tt sh_fptr ?_ | refine tt w2 ?_ | refine tt w3 ?_ | refine tt w8 ?_ | refine tt w9 ?_ | refine tt wf ?_ | refine tt wg ?_ | refine tt wh ?_ | refine tt wi ?_ | refine tt wj ?_ | refine tt wk ?_ | refine tt wl ?_ | refine tt wn ?_ | refine tt c_ort ?_ | refine tt c_nt ?_ | refine tt c_nf ?_ | refine tt (cnd_t _ _) ?_ | refine tt (cnd_f _ _) ?_ | refine tt w6 ?_ | refine tt w4 ?_ | refine tt w5 ?_ | refine tt w7 ?_ | refine tt wm ?_ | refine tt wo ?_ | refine tt wx ?_ | refine tt nil_ptr ?_ | refine tt len_lst ?_ | refine tt len_zsl ?_
  cases t
  · repeat with_reducible first | refine tt sh_ptr ?_ | refine tt sh_fptr ?_ | refine tt w2 ?_ | refine tt w3 ?_ | refine tt w8 ?_ | refine tt w9 ?_ | refine tt wf ?_ | refine tt wg ?_ | refine tt wh ?_ | refine tt wi ?_ | refine tt wj ?_ | refine tt wk ?_ | refine tt wl ?_ | refine tt wn ?_ | refine tt c_ort ?_ | refine tt c_nt ?_ | refine tt c_nf ?_ | refine tt (cnd_t _ _) ?_ | refine tt (cnd_f _ _) ?_ | refine tt w6 ?_ | refine tt w4 ?_ | refine tt w5 ?_ | refine tt w7 ?_ | refine tt wm ?_ | refine tt wo ?_ | refine tt wx ?_ | refine tt nil_ptr ?_ | refine tt len_lst ?_ | refine tt len_zsl ?_
    rw [X7_2_0, wsuc (by omega)]
    exact hk _
  · repeat with_reducible first | refine tt sh_ptr ?_ | refine tt sh_fptr ?_ | refine tt w2 ?_ | refine tt w3 ?_ | refine tt w8 ?_ | refine tt w9 ?_ | refine tt wf ?_ | refine tt wg ?_ | refine tt wh ?_ | refine tt wi ?_ | refine tt wj ?_ | refine tt wk ?_ | refine tt wl ?_ | refine tt wn ?_ | refine tt c_ort ?_ | refine tt c_nt ?_ | refine tt c_nf ?_ | refine tt (cnd_t _ _) ?_ | refine tt (cnd_f _ _) ?_ | refine tt w6 ?_ | refine tt w4 ?_ | refine tt w5 ?_ | refine tt w7 ?_ | refine tt wm ?_ | refine tt wo ?_ | refine tt wx ?_ | refine tt nil_ptr ?_ | refine tt len_lst ?_ | refine tt len_zsl ?_
    have nc := near_code hq.1 hq.2 _ _ rfl rfl
    rw [Bool.true_and] at hk
    cases hd : decide ((if ((IntKind.wrap .i64 (0 - q.2)) > (if (q.2 > (if ((IntKind.wrap .i64 (0 - q.1)) > q.1) then (IntKind.wrap .i64 (0 - q.1)) else q.1)) then q.2 else (if ((IntKind.wrap .i64 (0 - q.1)) > q.1) then (IntKind.wrap .i64 (0 - q.1)) else q.1))) then (IntKind.wrap .i64 (0 - q.2)) else (if (q.2 > (if ((IntKind.wrap .i64 (0 - q.1)) > q.1) then (IntKind.wrap .i64 (0 - q.1)) else q.1)) then q.2 else (if ((IntKind.wrap .i64 (0 - q.1)) > q.1) then (IntKind.wrap .i64 (0 - q.1)) else q.1))) ≤ 1073741824)
    · rw [hd, Bool.false_and] at nc
      repeat with_reducible first | refine tt sh_ptr ?_ | refine tt sh_fptr ?_ | refine tt w2 ?_ | refine tt w3 ?_ | refine tt w8 ?_ | refine tt w9 ?_ | refine tt wf ?_ | refine tt wg ?_ | refine tt wh ?_ | refine tt wi ?_ | refine tt wj ?_ | refine tt wk ?_ | refine tt wl ?_ | refine tt wn ?_ | refine tt c_ort ?_ | refine tt c_nt ?_ | refine tt c_nf ?_ | refine tt (cnd_t _ _) ?_ | refine tt (cnd_f _ _) ?_ | refine tt w6 ?_ | refine tt w4 ?_ | refine tt w5 ?_ | refine tt w7 ?_ | refine tt wm ?_ | refine tt wo ?_ | refine tt wx ?_ | refine tt nil_ptr ?_ | refine tt len_lst ?_ | refine tt len_zsl ?_
      rw [X7_2_0, wsuc (by omega), nc]
      exact hk _
    · rw [hd, Bool.true_and] at nc
      repeat with_reducible first | refine tt sh_ptr ?_ | refine tt sh_fptr ?_ | refine tt w2 ?_ | refine tt w3 ?_ | refine tt w8 ?_ | refine tt w9 ?_ | refine tt wf ?_ | refine tt wg ?_ | refine tt wh ?_ | refine tt wi ?_ | refine tt wj ?_ | refine tt wk ?_ | refine tt wl ?_ | refine tt wn ?_ | refine tt c_ort ?_ | refine tt c_nt ?_ | refine tt c_nf ?_ | refine tt (cnd_t _ _) ?_ | refine tt (cnd_f _ _) ?_ | refine tt w6 ?_ | refine tt w4 ?_ | refine tt w5 ?_ | refine tt w7 ?_ | refine tt wm ?_ | refine tt wo ?_ | refine tt wx ?_ | refine tt nil_ptr ?_ | refine tt len_lst ?_ | refine tt len_zsl ?_
      rw [X7_2_0, wsuc (by omega), nc]
      exact hk _
theorem tri1 (f : Nat) : L7_1 40 (.ptr 0 0 0) (.ptr 1 0 0) (.ptr 2 0 0) (.ptr 3 0 0) (.slc 4 0 3) 3 (f + 4) true ((0 : Nat) : Int) (Z5 a b c p ++ []) = some (.bool true) := by
  rw [L7_1, decide_eq_true (by decide), cnd_t]
  refine tri2 a b c p ha hb hc hp 0 a (by omega) rfl ha true [] _ _ fun G1 => ?_
  rw [show f + 3 = f + 2 + 1 from rfl, L7_1, decide_eq_true (by decide), cnd_t]
  refine tri2 a b c p ha hb hc hp 1 b (by omega) rfl hb _ G1 _ _ fun G2 => ?_
  rw [show f + 2 = f + 1 + 1 from rfl, L7_1, decide_eq_true (by decide), cnd_t]
  refine tri2 a b c p ha hb hc hp 2 c (by omega) rfl hc _ G2 _ _ fun G3 => ?_
  rw [L7_1, decide_eq_false (by decide), cnd_f, Bool.true_and, Bool.and_assoc]
  exact triX a b c p hp G3
end
theorem tri_core (a b c p : Pt) (ha : In64 a.1 ∧ In64 a.2) (hb : In64 b.1 ∧ In64 b.2) (hc : In64 c.1 ∧ In64 c.2) : pcall M 41 7 [pt a, pt b, pt c, pt p] = some (.bool true) := told (q7 40 _ _ _ _ _ _ _ _) (by
  refine Eq.trans h_start ?_
  repeat with_reducible first | refine tt sh_ptr ?_ | refine tt sh_fptr ?_ | refine tt w2 ?_ | refine tt w3 ?_ | refine tt w8 ?_ | refine tt w9 ?_ | refine tt wf ?_ | refine tt wg ?_ | refine tt wh ?_ | refine tt wi ?_ | refine tt wj ?_ | refine tt wk ?_ | refine tt wl ?_ | refine tt wn ?_ | refine tt c_ort ?_ | refine tt c_nt ?_ | refine tt c_nf ?_ | refine tt (cnd_t _ _) ?_ | refine tt (cnd_f _ _) ?_ | refine tt w6 ?_ | refine tt w4 ?_ | refine tt w5 ?_ | refine tt w7 ?_ | refine tt wm ?_ | refine tt wo ?_ | refine tt wx ?_ | refine tt nil_ptr ?_ | refine tt len_lst ?_ | refine tt len_zsl ?_ | refine tt (mk_o (by with_unfolding_all rfl) (by with_unfolding_all rfl) (by with_unfolding_all rfl)) ?_
  have key : L7_0 40 (.ptr 0 0 0) (.ptr 1 0 0) (.ptr 2 0 0) (.ptr 3 0 0) (.slc 4 0 3) 1 (Z5 a b c p ++ []) = some (.bool true) := by
    rw [L7_0]
    refine Eq.trans (pl_bool awake) ?_
    repeat with_reducible first | refine tt sh_ptr ?_ | refine tt sh_fptr ?_ | refine tt w2 ?_ | refine tt w3 ?_ | refine tt w8 ?_ | refine tt w9 ?_ | refine tt wf ?_ | refine tt wg ?_ | refine tt wh ?_ | refine tt wi ?_ | refine tt wj ?_ | refine tt wk ?_ | refine tt wl ?_ | refine tt wn ?_ | refine tt c_ort ?_ | refine tt c_nt ?_ | refine tt c_nf ?_ | refine tt (cnd_t _ _) ?_ | refine tt (cnd_f _ _) ?_ | refine tt w6 ?_ | refine tt w4 ?_ | refine tt w5 ?_ | refine tt w7 ?_ | refine tt wm ?_ | refine tt wo ?_ | refine tt wx ?_ | refine tt nil_ptr ?_ | refine tt len_lst ?_ | refine tt len_zsl ?_
    refine Eq.trans (pl_bool (s26 39 p)) ?_
    change X7_0_0 40 _ _ _ _ _ (!okb p) _ = _
    cases hp : okb p
    · rw [X7_0_0]
      repeat with_reducible first | refine tt sh_ptr ?_ | refine tt sh_fptr ?_ | refine tt w2 ?_ | refine tt w3 ?_ | refine tt w8 ?_ | refine tt w9 ?_ | refine tt wf ?_ | refine tt wg ?_ | refine tt wh ?_ | refine tt wi ?_ | refine tt wj ?_ | refine tt wk ?_ | refine tt wl ?_ | refine tt wn ?_ | refine tt c_ort ?_ | refine tt c_nt ?_ | refine tt c_nf ?_ | refine tt (cnd_t _ _) ?_ | refine tt (cnd_f _ _) ?_ | refine tt w6 ?_ | refine tt w4 ?_ | refine tt w5 ?_ | refine tt w7 ?_ | refine tt wm ?_ | refine tt wo ?_ | refine tt wx ?_ | refine tt nil_ptr ?_ | refine tt len_lst ?_ | refine tt len_zsl ?_
      refine Eq.trans (pl_bool awake) ?_
      exact f_free (by rfl)
    · rw [X7_0_0]
      repeat with_reducible first | refine tt sh_ptr ?_ | refine tt sh_fptr ?_ | refine tt w2 ?_ | refine tt w3 ?_ | refine tt w8 ?_ | refine tt w9 ?_ | refine tt wf ?_ | refine tt wg ?_ | refine tt wh ?_ | refine tt wi ?_ | refine tt wj ?_ | refine tt wk ?_ | refine tt wl ?_ | refine tt wn ?_ | refine tt c_ort ?_ | refine tt c_nt ?_ | refine tt c_nf ?_ | refine tt (cnd_t _ _) ?_ | refine tt (cnd_f _ _) ?_ | refine tt w6 ?_ | refine tt w4 ?_ | refine tt w5 ?_ | refine tt w7 ?_ | refine tt wm ?_ | refine tt wo ?_ | refine tt wx ?_ | refine tt nil_ptr ?_ | refine tt len_lst ?_ | refine tt len_zsl ?_
      refine Eq.trans (hop_eq (v := .int .i64 3) (H' := Z5 a b c p ++ []) (by rfl)) ?_
      repeat with_reducible first | refine tt sh_ptr ?_ | refine tt sh_fptr ?_ | refine tt w2 ?_ | refine tt w3 ?_ | refine tt w8 ?_ | refine tt w9 ?_ | refine tt wf ?_ | refine tt wg ?_ | refine tt wh ?_ | refine tt wi ?_ | refine tt wj ?_ | refine tt wk ?_ | refine tt wl ?_ | refine tt wn ?_ | refine tt c_ort ?_ | refine tt c_nt ?_ | refine tt c_nf ?_ | refine tt (cnd_t _ _) ?_ | refine tt (cnd_f _ _) ?_ | refine tt w6 ?_ | refine tt w4 ?_ | refine tt w5 ?_ | refine tt w7 ?_ | refine tt wm ?_ | refine tt wo ?_ | refine tt wx ?_ | refine tt nil_ptr ?_ | refine tt len_lst ?_ | refine tt len_zsl ?_
      obtain ⟨f, hf⟩ : ∃ f : Nat, f + 4 = 1000000000000000000 := ⟨999999999999999996, rfl⟩
      rw [← hf]
      exact tri1 a b c p ha hb hc hp f
  exact key)
theorem law_PolyTriangle (a0_0 : Int) (a0_1 : Int) (a1_0 : Int) (a1_1 : Int) (a2_0 : Int) (a2_1 : Int) (a3_0 : Int) (a3_1 : Int) (w0_0 : (Lit.int .i64 a0_0).wf = true) (w0_1 : (Lit.int .i64 a0_1).wf = true) (w1_0 : (Lit.int .i64 a1_0).wf = true) (w1_1 : (Lit.int .i64 a1_1).wf = true) (w2_0 : (Lit.int .i64 a2_0).wf = true) (w2_1 : (Lit.int .i64 a2_1).wf = true) (w3_0 : (Lit.int .i64 a3_0).wf = true) (w3_1 : (Lit.int .i64 a3_1).wf = true) :
    pcall M 41 7 [.agg [.int .i64 a0_0, .int .i64 a0_1], .agg [.int .i64 a1_0, .int .i64 a1_1], .agg [.int .i64 a2_0, .int .i64 a2_1], .agg [.int .i64 a3_0, .int .i64 a3_1]] = some (.bool true) := tri_core (a0_0, a0_1) (a1_0, a1_1) (a2_0, a2_1) (a3_0, a3_1) ⟨wf64 w0_0, wf64 w0_1⟩ ⟨wf64 w1_0, wf64 w1_1⟩ ⟨wf64 w2_0, wf64 w2_1⟩
end Go.Proofs.Ytkfppigcjdapnaa.AE

namespace Go.Proofs.Ytkfppigcjdapnaa.AE
set_option linter.unusedVariables false
set_option linter.unusedSimpArgs false
set_option linter.constructorNameAsVariable false
open Go Go.RowKit

theorem frl_nil {w : World} {bad : Nat → Prop} : ∀ (i : Nat) (c : AV) (u : Value), ([] : List AV)[i]? = some c → ([] : List Value)[i]? = some u → FRep w bad c u := fun _ _ _ h => by cases h
theorem frl_cons {w : World} {bad : Nat → Prop} {c0 : AV} {u0 : Value} {cs : List AV} {us : List Value} (h0 : FRep w bad c0 u0) (h : ∀ (i : Nat) (c : AV) (u : Value), cs[i]? = some c → us[i]? = some u → FRep w bad c u) :
    ∀ (i : Nat) (c : AV) (u : Value), (c0 :: cs)[i]? = some c → (u0 :: us)[i]? = some u → FRep w bad c u
  | 0, c, u, hc, hu => by cases hc; cases hu; exact h0
  | i + 1, c, u, hc, hu => h i c u hc hu
theorem law_calls {d : Nat} {g : FuncId} {args : List AV} {vs : List Value} (h : pcall M d g args = some (.bool true)) (W : World) (hl : args.length = vs.length)
    (hr : ∀ (i : Nat) (c : AV) (u : Value), args[i]? = some c → vs[i]? = some u → FRep W (fun _ => False) c u) : Calls Try.prog g vs.toArray W fun e W' => e = .returned (.bool true) ∧ Below W.heap.size W W' := by
  refine (pcall_law modOK d g args _ h W (fun _ => False) vs (fun _ h => h.elim) hl hr).mono ?_
  rintro e W' ⟨cv, rfl, hf, hb⟩
  cases hf
  exact ⟨rfl, hb⟩
end Go.Proofs.Ytkfppigcjdapnaa.AE
