/- The texts that the law BoxPoint needs, part 5: AElpP, AEhp2, AEpoly1, AEpoly2, AEpoly3, GParity, GRound, AEpoly4, AEpoly5. No conditions. -/
import Derived.Test.YtjblhppbjebagaaMBoxPoint4
namespace Go.Proofs.Ytjblhppbjebagaa.AE
set_option linter.unusedVariables false
set_option linter.unusedSimpArgs false
set_option linter.constructorNameAsVariable false
open Go
set_option maxRecDepth 100000
noncomputable def X29_0_0 (d : Nat) (a0 : List AV)  : Ans :=
  C0.bool (pcall M d 45 [(.lst a0)]) fun b102 =>
   some (.bool b102)
theorem X29_0_0_ok (d : Nat) (a0 : List AV)   (b59 : Bool) (x60 : Int) (x61 : Int) (v62 : AV) (x63 : Int) (b64 : Bool) (b65 : Bool) (v66 : AV) (v67 : AV) (v68 : AV) (b69 : Bool) (v70 : AV) (v71 : AV) (v72 : AV) (v73 : AV) (v74 : AV) (v75 : AV) (v76 : AV) (v77 : AV) (v78 : AV) (v79 : AV) (v80 : AV) (v81 : AV) (v82 : AV) (v83 : AV) (v84 : AV) (v85 : AV) (v86 : AV) (v87 : AV) (v88 : AV) (v89 : AV) (v90 : AV) (v91 : AV) (v92 : AV) (v93 : AV) (v94 : AV) (v95 : AV) (v96 : AV) (v97 : AV) (v98 : AV) (v99 : AV) (v100 : AV) (v101 : AV) : r29X0_0 C0 d a0 ⟨[(.lst a0), (.tup []), (.bool b59), (.int .i64 x60), (.int .i64 x61), v62, (.int .i64 x63), (.bool b64), (.bool b65), v66, v67, v68, (.bool b69), v70, v71, v72, v73, v74, v75, v76, v77, v78, v79, v80, v81, v82, v83, v84, v85, v86, v87, v88, v89, v90, v91, v92, v93, v94, v95, v96, v97, v98, v99, v100, v101, (.tup []), (.tup [])], []⟩ = X29_0_0 d a0  := by
  unfold r29X0_0; refine Eq.trans (pl_len (by rfl)) ?_; (iterate 2 (refine Eq.trans (pl_same (by rfl)) ?_)); refine Eq.trans (pl_bool (by rfl)) ?_; (iterate 2 (refine Eq.trans (pl_int (by rfl)) ?_)); refine Eq.trans (pl_any (by rfl)) ?_; refine Eq.trans (pl_int (by rfl)) ?_; (iterate 2 (refine Eq.trans (pl_bool (by rfl)) ?_)); (iterate 3 (refine Eq.trans (pl_any (by rfl)) ?_)); refine Eq.trans (pl_bool (by rfl)) ?_; (iterate 32 (refine Eq.trans (pl_any (by rfl)) ?_)); (iterate 2 (refine Eq.trans (pl_same (by rfl)) ?_)); refine Eq.trans (pl_sameH) ?_
  rfl
noncomputable def E29_0 (d : Nat) (a0 : List AV) (b103 : Bool) : Ans :=
  some (.bool b103)
theorem E29_0_ok (d : Nat) (a0 : List AV)   (b103 : Bool) (x104 : Int) (x105 : Int) (v106 : AV) (x107 : Int) (b108 : Bool) (b109 : Bool) (v110 : AV) (v111 : AV) (v112 : AV) (b113 : Bool) (v114 : AV) (v115 : AV) (v116 : AV) (x117 : Int) (v118 : AV) (v119 : AV) (x120 : Int) (b121 : Bool) (b122 : Bool) (v123 : AV) (v124 : AV) (v125 : AV) (v126 : AV) (v127 : AV) (v128 : AV) (b129 : Bool) (b130 : Bool) (v131 : AV) (v132 : AV) (v133 : AV) (v134 : AV) (v135 : AV) (v136 : AV) (b137 : Bool) (b138 : Bool) (v139 : AV) (v140 : AV) (v141 : AV) (v142 : AV) (v143 : AV) (v144 : AV) (b145 : Bool) : r29E0 C0 d a0 ⟨[(.lst a0), (.tup []), (.bool b103), (.int .i64 x104), (.int .i64 x105), v106, (.int .i64 x107), (.bool b108), (.bool b109), v110, v111, v112, (.bool b113), v114, v115, v116, (.int .i64 x117), v118, v119, (.int .i64 x120), (.bool b121), (.bool b122), v123, v124, v125, v126, v127, v128, (.bool b129), (.bool b130), v131, v132, v133, v134, v135, v136, (.bool b137), (.bool b138), v139, v140, v141, v142, v143, v144, (.bool b145), (.tup []), (.tup [])], []⟩ = E29_0 d a0 b103 := by
  unfold r29E0; refine Eq.trans (pl_len (by rfl)) ?_; (iterate 2 (refine Eq.trans (pl_same (by rfl)) ?_)); refine Eq.trans (pl_bool (by rfl)) ?_; (iterate 2 (refine Eq.trans (pl_int (by rfl)) ?_)); refine Eq.trans (pl_any (by rfl)) ?_; refine Eq.trans (pl_int (by rfl)) ?_; (iterate 2 (refine Eq.trans (pl_bool (by rfl)) ?_)); (iterate 3 (refine Eq.trans (pl_any (by rfl)) ?_)); refine Eq.trans (pl_bool (by rfl)) ?_; (iterate 3 (refine Eq.trans (pl_any (by rfl)) ?_)); refine Eq.trans (pl_int (by rfl)) ?_; (iterate 2 (refine Eq.trans (pl_any (by rfl)) ?_)); refine Eq.trans (pl_int (by rfl)) ?_; (iterate 2 (refine Eq.trans (pl_bool (by rfl)) ?_)); (iterate 6 (refine Eq.trans (pl_any (by rfl)) ?_)); (iterate 2 (refine Eq.trans (pl_bool (by rfl)) ?_)); (iterate 6 (refine Eq.trans (pl_any (by rfl)) ?_)); (iterate 2 (refine Eq.trans (pl_bool (by rfl)) ?_)); (iterate 6 (refine Eq.trans (pl_any (by rfl)) ?_)); refine Eq.trans (pl_bool (by rfl)) ?_; (iterate 2 (refine Eq.trans (pl_same (by rfl)) ?_)); refine Eq.trans (pl_sameH) ?_
  rfl
noncomputable def L29_0 (d : Nat) (a0 : List AV) : Nat → Int → Ans
  | 0, _ => none
  | n + 1, x4 =>
  cnd (decide (x4 < (((List.length a0) : Nat) : Int)))
   (cnd (decide ((((List.length a0) : Nat) : Int) ≤ 8))
   (cnd (decide (0 ≤ x4))
   (C0.agg 2 a0[(Int.toNat x4)]? fun l46 =>
   C0.int .i64 l46[0]? fun x47 =>
   C0.int .i64 l46[1]? fun x48 =>
   cnd (decide (x47 < (-1073741824)))
   (E29_0 d a0 false)
   (cnd (decide (0 ≤ x4))
   (C0.agg 2 a0[(Int.toNat x4)]? fun l49 =>
   C0.int .i64 l49[0]? fun x50 =>
   C0.int .i64 l49[1]? fun x51 =>
   cnd (decide (x50 > 1073741824))
   (E29_0 d a0 false)
   (cnd (decide (0 ≤ x4))
   (C0.agg 2 a0[(Int.toNat x4)]? fun l52 =>
   C0.int .i64 l52[0]? fun x53 =>
   C0.int .i64 l52[1]? fun x54 =>
   cnd (decide (x54 < (-1073741824)))
   (E29_0 d a0 false)
   (cnd (decide (0 ≤ x4))
   (C0.agg 2 a0[(Int.toNat x4)]? fun l55 =>
   C0.int .i64 l55[0]? fun x56 =>
   C0.int .i64 l55[1]? fun x57 =>
   cnd (decide (x57 > 1073741824))
   (E29_0 d a0 false)
   (L29_0 d a0 n (IntKind.wrap .i64 (x4 + 1))))
   (none)))
   (none)))
   (none)))
   (none))
   (X29_0_0 d a0))
   (X29_0_0 d a0)
theorem it29_0 (d : Nat) (a0 : List AV)   : ∀ (n : Nat) (b3 : Bool) (x4 : Int) (v5 : AV) (v6 : AV) (v7 : AV) (v8 : AV) (v9 : AV) (v10 : AV) (v11 : AV) (v12 : AV) (v13 : AV) (v14 : AV) (v15 : AV) (v16 : AV) (v17 : AV) (v18 : AV) (v19 : AV) (v20 : AV) (v21 : AV) (v22 : AV) (v23 : AV) (v24 : AV) (v25 : AV) (v26 : AV) (v27 : AV) (v28 : AV) (v29 : AV) (v30 : AV) (v31 : AV) (v32 : AV) (v33 : AV) (v34 : AV) (v35 : AV) (v36 : AV) (v37 : AV) (v38 : AV) (v39 : AV) (v40 : AV) (v41 : AV) (v42 : AV) (v43 : AV) (v44 : AV) (v45 : AV), C0.iter (r29R0 C0 d a0) n ⟨[(.lst a0), (.tup []), (.bool b3), (.int .i64 x4), v5, v6, v7, v8, v9, v10, v11, v12, v13, v14, v15, v16, v17, v18, v19, v20, v21, v22, v23, v24, v25, v26, v27, v28, v29, v30, v31, v32, v33, v34, v35, v36, v37, v38, v39, v40, v41, v42, v43, v44, v45, (.tup []), (.tup [])], []⟩ [0] [r29X0_0 C0 d a0] (r29E0 C0 d a0) = L29_0 d a0 n x4 := by
  generalize hR : r29R0 C0 d a0 = R
  intro n
  induction n with
  | zero => intros; rfl
  | succ n ih =>
    intro b3 x4 v5 v6 v7 v8 v9 v10 v11 v12 v13 v14 v15 v16 v17 v18 v19 v20 v21 v22 v23 v24 v25 v26 v27 v28 v29 v30 v31 v32 v33 v34 v35 v36 v37 v38 v39 v40 v41 v42 v43 v44 v45
    simp only [it_ret] at ih
    rw [it_ret, xiter_s]
    refine Eq.trans (congrFun (congrFun hR.symm _) _) ?_
    unfold r29R0
    refine Eq.trans (pl_len (by rfl)) ?_; (iterate 2 (refine Eq.trans (pl_same (by rfl)) ?_)); refine Eq.trans (pl_bool (by rfl)) ?_; refine Eq.trans (pl_int (by rfl)) ?_; (iterate 41 (refine Eq.trans (pl_any (by rfl)) ?_)); (iterate 2 (refine Eq.trans (pl_same (by rfl)) ?_)); refine Eq.trans (pl_sameH) ?_
    simp only [L29_0, kIter_n, kIter_x, kIter_r, kOut_x, kOut_r, xgo_hit, xgo_miss, ih, X29_0_0_ok d a0  , E29_0_ok d a0  ]
/-- apogee/apogeeref11.Right -/
theorem q29 (d : Nat) (a0 : List AV) : xcall C0 M unr d 29 [(.lst a0)] =
  L29_0 d a0 1000000000000000000 0 := (r29 C0 d a0).trans (by simp only [it29_0])
noncomputable def X31_0_0 (d : Nat) (a0 : List AV) (v0 : AV) (x13 : Int) (x195 : Int) (H : Heap) : Ans :=
  C0.fin H (.int .i64 x195)
theorem X31_0_0_ok (d : Nat) (a0 : List AV) (a1 : Int) (a2 : Int) (v0 : AV) (b4 : Bool) (x8 : Int) (x9 : Int) (b10 : Bool) (x13 : Int)   (x194 : Int) (x195 : Int) (v196 : AV) (v197 : AV) (v198 : AV) (x199 : Int) (v200 : AV) (v201 : AV) (v202 : AV) (v203 : AV) (v204 : AV) (v205 : AV) (v206 : AV) (v207 : AV) (v208 : AV) (v209 : AV) (v210 : AV) (v211 : AV) (v212 : AV) (v213 : AV) (v214 : AV) (v215 : AV) (v216 : AV) (v217 : AV) (v218 : AV) (v219 : AV) (v220 : AV) (v221 : AV) (v222 : AV) (v223 : AV) (v224 : AV) (v225 : AV) (v226 : AV) (v227 : AV) (v228 : AV) (v229 : AV) (v230 : AV) (v231 : AV) (v232 : AV) (v233 : AV) (v234 : AV) (v235 : AV) (v236 : AV) (v237 : AV) (v238 : AV) (v239 : AV) (v240 : AV) (H : Heap) : r31X0_0 C0 d a0 a1 a2 v0 b4 x8 x9 b10 x13 ⟨[(.lst a0), (.agg [(.int .i64 a1), (.int .i64 a2)]), (.tup []), v0, (.int .i64 x194), (.int .i64 x195), v196, v197, v198, (.lst a0), (.bool b4), (.bool (!b4)), (.bool false), (.agg [(.int .i64 x8), (.int .i64 x9)]), (.bool b10), (.bool (!b10)), (.bool false), (.lst a0), (.int .i64 x13), (.int .i64 x199), v200, v201, v202, v203, v204, v205, v206, v207, v208, v209, v210, v211, v212, v213, v214, v215, v216, v217, v218, v219, v220, v221, v222, v223, v224, v225, v226, v227, v228, v229, v230, v231, v232, v233, v234, v235, v236, v237, v238, v239, v240, (.tup [])], H⟩ = X31_0_0 d a0 v0 x13 x195 H := by
  unfold r31X0_0; refine Eq.trans (pl_len (by rfl)) ?_; (iterate 4 (refine Eq.trans (pl_same (by rfl)) ?_)); (iterate 2 (refine Eq.trans (pl_int (by rfl)) ?_)); (iterate 3 (refine Eq.trans (pl_any (by rfl)) ?_)); (iterate 10 (refine Eq.trans (pl_same (by rfl)) ?_)); refine Eq.trans (pl_int (by rfl)) ?_; (iterate 41 (refine Eq.trans (pl_any (by rfl)) ?_)); refine Eq.trans (pl_same (by rfl)) ?_
  rfl
noncomputable def E31_0 (d : Nat) (a0 : List AV) (v0 : AV) (x13 : Int) (x241 : Int) (H : Heap) : Ans :=
  C0.fin H (.int .i64 x241)
theorem E31_0_ok (d : Nat) (a0 : List AV) (a1 : Int) (a2 : Int) (v0 : AV) (b4 : Bool) (x8 : Int) (x9 : Int) (b10 : Bool) (x13 : Int)   (x241 : Int) (x242 : Int) (x243 : Int) (v244 : AV) (v245 : AV) (x246 : Int) (v247 : AV) (x248 : Int) (x251 : Int) (x252 : Int) (x254 : Int) (x255 : Int) (v256 : AV) (x257 : Int) (x260 : Int) (x261 : Int) (x263 : Int) (x264 : Int) (x266 : Int) (x267 : Int) (x269 : Int) (x270 : Int) (x272 : Int) (x273 : Int) (x275 : Int) (x276 : Int) (x278 : Int) (x279 : Int) (b280 : Bool) (v281 : AV) (v282 : AV) (v283 : AV) (v284 : AV) (v285 : AV) (v286 : AV) (v287 : AV) (v288 : AV) (v289 : AV) (v290 : AV) (v291 : AV) (v292 : AV) (v293 : AV) (v294 : AV) (v295 : AV) (v296 : AV) (v297 : AV) (v298 : AV) (v299 : AV) (v300 : AV) (v301 : AV) (v302 : AV) (v303 : AV) (v304 : AV) (v305 : AV) (v306 : AV) (v307 : AV) (v308 : AV) (v309 : AV) (H : Heap) : r31E0 C0 d a0 a1 a2 v0 b4 x8 x9 b10 x13 ⟨[(.lst a0), (.agg [(.int .i64 a1), (.int .i64 a2)]), (.tup []), v0, (.int .i64 x241), (.int .i64 x242), (.int .i64 x243), v244, v245, (.lst a0), (.bool b4), (.bool (!b4)), (.bool false), (.agg [(.int .i64 x8), (.int .i64 x9)]), (.bool b10), (.bool (!b10)), (.bool false), (.lst a0), (.int .i64 x13), (.int .i64 x246), v247, (.int .i64 x248), (.tup [(.agg [(.int .i64 x251), (.int .i64 x252)]), (.agg [(.int .i64 x254), (.int .i64 x255)])]), v256, (.int .i64 x257), (.tup [(.agg [(.int .i64 x260), (.int .i64 x261)]), (.agg [(.int .i64 x263), (.int .i64 x264)])]), (.agg [(.int .i64 x266), (.int .i64 x267)]), (.agg [(.int .i64 x269), (.int .i64 x270)]), (.agg [(.int .i64 x272), (.int .i64 x273)]), (.agg [(.int .i64 x275), (.int .i64 x276)]), (.agg [(.int .i64 x278), (.int .i64 x279)]), (.bool b280), v281, v282, v283, v284, v285, v286, v287, v288, v289, v290, v291, v292, v293, v294, v295, v296, v297, v298, v299, v300, v301, v302, v303, v304, v305, v306, v307, v308, v309, (.tup [])], H⟩ = E31_0 d a0 v0 x13 x241 H := by
  unfold r31E0; refine Eq.trans (pl_len (by rfl)) ?_; (iterate 4 (refine Eq.trans (pl_same (by rfl)) ?_)); (iterate 3 (refine Eq.trans (pl_int (by rfl)) ?_)); (iterate 2 (refine Eq.trans (pl_any (by rfl)) ?_)); (iterate 10 (refine Eq.trans (pl_same (by rfl)) ?_)); refine Eq.trans (pl_int (by rfl)) ?_; refine Eq.trans (pl_any (by rfl)) ?_; refine Eq.trans (pl_int (by rfl)) ?_; refine Eq.trans (pl_tup (by rfl) (by rfl)) ?_; refine Eq.trans (pl_agg (by rfl) (by rfl)) ?_; (iterate 2 (refine Eq.trans (pl_int (by rfl)) ?_)); refine Eq.trans (pl_agg (by rfl) (by rfl)) ?_; (iterate 2 (refine Eq.trans (pl_int (by rfl)) ?_)); refine Eq.trans (pl_any (by rfl)) ?_; refine Eq.trans (pl_int (by rfl)) ?_; refine Eq.trans (pl_tup (by rfl) (by rfl)) ?_; refine Eq.trans (pl_agg (by rfl) (by rfl)) ?_; (iterate 2 (refine Eq.trans (pl_int (by rfl)) ?_)); refine Eq.trans (pl_agg (by rfl) (by rfl)) ?_; (iterate 2 (refine Eq.trans (pl_int (by rfl)) ?_)); refine Eq.trans (pl_agg (by rfl) (by rfl)) ?_; (iterate 2 (refine Eq.trans (pl_int (by rfl)) ?_)); refine Eq.trans (pl_agg (by rfl) (by rfl)) ?_; (iterate 2 (refine Eq.trans (pl_int (by rfl)) ?_)); refine Eq.trans (pl_agg (by rfl) (by rfl)) ?_; (iterate 2 (refine Eq.trans (pl_int (by rfl)) ?_)); refine Eq.trans (pl_agg (by rfl) (by rfl)) ?_; (iterate 2 (refine Eq.trans (pl_int (by rfl)) ?_)); refine Eq.trans (pl_agg (by rfl) (by rfl)) ?_; (iterate 2 (refine Eq.trans (pl_int (by rfl)) ?_)); refine Eq.trans (pl_bool (by rfl)) ?_; (iterate 29 (refine Eq.trans (pl_any (by rfl)) ?_)); refine Eq.trans (pl_same (by rfl)) ?_
  rfl
noncomputable def L31_0 (d : Nat) (a0 : List AV) (v0 : AV) (x13 : Int) : Nat → Int → Int → Heap → Ans
  | 0, _, _, _ => none
  | n + 1, x18, x22, H =>
  cnd (decide (x22 < x13))
   (C0.snp H [(.lst a0), (.int .i64 x22)] fun l64 b65 =>
   C0.tup 2 (pcall M d 46 l64) fun l66 =>
   C0.agg 2 l66[0]? fun l67 =>
   C0.int .i64 l67[0]? fun x68 =>
   C0.int .i64 l67[1]? fun x69 =>
   C0.agg 2 l66[1]? fun l70 =>
   C0.int .i64 l70[0]? fun x71 =>
   C0.int .i64 l70[1]? fun x72 =>
   cnd (b65 || true)
   (C0.hop H (.alloc E23) fun v73 h74 =>
   C0.hop h74 (.alloc E23) fun v75 h76 =>
   C0.hop h76 (.store 2 (.v v73) (.v (.agg [(.int .i64 x68), (.int .i64 x69)]))) fun v77 h78 =>
   C0.hop h78 (.store 2 (.v v75) (.v (.agg [(.int .i64 x71), (.int .i64 x72)]))) fun v79 h80 =>
   C0.hop h80 (.load true 2 (.v v0)) fun v81 h82 =>
   C0.agg 2 (some v81) fun l83 =>
   C0.int .i64 l83[0]? fun x84 =>
   C0.int .i64 l83[1]? fun x85 =>
   C0.hop h82 (.load true 2 (.v v73)) fun v86 h87 =>
   C0.agg 2 (some v86) fun l88 =>
   C0.int .i64 l88[0]? fun x89 =>
   C0.int .i64 l88[1]? fun x90 =>
   C0.hop h87 (.load true 2 (.v v75)) fun v91 h92 =>
   C0.agg 2 (some v91) fun l93 =>
   C0.int .i64 l93[0]? fun x94 =>
   C0.int .i64 l93[1]? fun x95 =>
   C0.bool (pcall M d 47 [(.agg [(.int .i64 x84), (.int .i64 x85)]), (.agg [(.int .i64 x89), (.int .i64 x90)]), (.agg [(.int .i64 x94), (.int .i64 x95)])]) fun b96 =>
   cnd b96
   (E31_0 d a0 v0 x13 0 h92)
   (C0.hop h92 (.fldA 1 (.v v73)) fun v97 h98 =>
   C0.hop h98 (.load false 1 (.v v97)) fun v99 h100 =>
   C0.int .i64 (some v99) fun x101 =>
   C0.hop h100 (.fldA 1 (.v v75)) fun v102 h103 =>
   C0.hop h103 (.load false 1 (.v v102)) fun v104 h105 =>
   C0.int .i64 (some v104) fun x106 =>
   cnd (decide (x101 > x106))
   (C0.hop h105 (.load true 2 (.v v75)) fun v107 h108 =>
   C0.agg 2 (some v107) fun l109 =>
   C0.int .i64 l109[0]? fun x110 =>
   C0.int .i64 l109[1]? fun x111 =>
   C0.hop h108 (.load true 2 (.v v73)) fun v112 h113 =>
   C0.agg 2 (some v112) fun l114 =>
   C0.int .i64 l114[0]? fun x115 =>
   C0.int .i64 l114[1]? fun x116 =>
   C0.hop h113 (.store 2 (.v v73) (.v (.agg [(.int .i64 x110), (.int .i64 x111)]))) fun v117 h118 =>
   C0.hop h118 (.store 2 (.v v75) (.v (.agg [(.int .i64 x115), (.int .i64 x116)]))) fun v119 h120 =>
   C0.hop h120 (.fldA 1 (.v v73)) fun v121 h122 =>
   C0.hop h122 (.load false 1 (.v v121)) fun v123 h124 =>
   C0.int .i64 (some v123) fun x125 =>
   C0.hop h124 (.fldA 1 (.v v0)) fun v126 h127 =>
   C0.hop h127 (.load false 1 (.v v126)) fun v128 h129 =>
   C0.int .i64 (some v128) fun x130 =>
   cnd (decide (x125 ≤ x130))
   (C0.hop h129 (.fldA 1 (.v v0)) fun v131 h132 =>
   C0.hop h132 (.load false 1 (.v v131)) fun v133 h134 =>
   C0.int .i64 (some v133) fun x135 =>
   C0.hop h134 (.fldA 1 (.v v75)) fun v136 h137 =>
   C0.hop h137 (.load false 1 (.v v136)) fun v138 h139 =>
   C0.int .i64 (some v138) fun x140 =>
   cnd (decide (x135 < x140))
   (C0.hop h139 (.load true 2 (.v v73)) fun v141 h142 =>
   C0.agg 2 (some v141) fun l143 =>
   C0.int .i64 l143[0]? fun x144 =>
   C0.int .i64 l143[1]? fun x145 =>
   C0.hop h142 (.load true 2 (.v v75)) fun v146 h147 =>
   C0.agg 2 (some v146) fun l148 =>
   C0.int .i64 l148[0]? fun x149 =>
   C0.int .i64 l148[1]? fun x150 =>
   C0.hop h147 (.load true 2 (.v v0)) fun v151 h152 =>
   C0.agg 2 (some v151) fun l153 =>
   C0.int .i64 l153[0]? fun x154 =>
   C0.int .i64 l153[1]? fun x155 =>
   C0.int .i64 (pcall M d 39 [(.agg [(.int .i64 x144), (.int .i64 x145)]), (.agg [(.int .i64 x149), (.int .i64 x150)]), (.agg [(.int .i64 x154), (.int .i64 x155)])]) fun x156 =>
   cnd (decide (x156 > 0))
   (L31_0 d a0 v0 x13 n (IntKind.wrap .i64 (0 - x18)) (IntKind.wrap .i64 (x22 + 1)) h152)
   (L31_0 d a0 v0 x13 n x18 (IntKind.wrap .i64 (x22 + 1)) h152))
   (L31_0 d a0 v0 x13 n x18 (IntKind.wrap .i64 (x22 + 1)) h139))
   (L31_0 d a0 v0 x13 n x18 (IntKind.wrap .i64 (x22 + 1)) h129))
   (C0.hop h105 (.fldA 1 (.v v73)) fun v157 h158 =>
   C0.hop h158 (.load false 1 (.v v157)) fun v159 h160 =>
   C0.int .i64 (some v159) fun x161 =>
   C0.hop h160 (.fldA 1 (.v v0)) fun v162 h163 =>
   C0.hop h163 (.load false 1 (.v v162)) fun v164 h165 =>
   C0.int .i64 (some v164) fun x166 =>
   cnd (decide (x161 ≤ x166))
   (C0.hop h165 (.fldA 1 (.v v0)) fun v167 h168 =>
   C0.hop h168 (.load false 1 (.v v167)) fun v169 h170 =>
   C0.int .i64 (some v169) fun x171 =>
   C0.hop h170 (.fldA 1 (.v v75)) fun v172 h173 =>
   C0.hop h173 (.load false 1 (.v v172)) fun v174 h175 =>
   C0.int .i64 (some v174) fun x176 =>
   cnd (decide (x171 < x176))
   (C0.hop h175 (.load true 2 (.v v73)) fun v177 h178 =>
   C0.agg 2 (some v177) fun l179 =>
   C0.int .i64 l179[0]? fun x180 =>
   C0.int .i64 l179[1]? fun x181 =>
   C0.hop h178 (.load true 2 (.v v75)) fun v182 h183 =>
   C0.agg 2 (some v182) fun l184 =>
   C0.int .i64 l184[0]? fun x185 =>
   C0.int .i64 l184[1]? fun x186 =>
   C0.hop h183 (.load true 2 (.v v0)) fun v187 h188 =>
   C0.agg 2 (some v187) fun l189 =>
   C0.int .i64 l189[0]? fun x190 =>
   C0.int .i64 l189[1]? fun x191 =>
   C0.int .i64 (pcall M d 39 [(.agg [(.int .i64 x180), (.int .i64 x181)]), (.agg [(.int .i64 x185), (.int .i64 x186)]), (.agg [(.int .i64 x190), (.int .i64 x191)])]) fun x192 =>
   cnd (decide (x192 > 0))
   (L31_0 d a0 v0 x13 n (IntKind.wrap .i64 (0 - x18)) (IntKind.wrap .i64 (x22 + 1)) h188)
   (L31_0 d a0 v0 x13 n x18 (IntKind.wrap .i64 (x22 + 1)) h188))
   (L31_0 d a0 v0 x13 n x18 (IntKind.wrap .i64 (x22 + 1)) h175))
   (L31_0 d a0 v0 x13 n x18 (IntKind.wrap .i64 (x22 + 1)) h165))))
   (none))
   (X31_0_0 d a0 v0 x13 x18 H)
theorem it31_0 (d : Nat) (a0 : List AV) (a1 : Int) (a2 : Int) (v0 : AV) (b4 : Bool) (x8 : Int) (x9 : Int) (b10 : Bool) (x13 : Int)   : ∀ (n : Nat) (x17 : Int) (x18 : Int) (v19 : AV) (v20 : AV) (v21 : AV) (x22 : Int) (v23 : AV) (v24 : AV) (v25 : AV) (v26 : AV) (v27 : AV) (v28 : AV) (v29 : AV) (v30 : AV) (v31 : AV) (v32 : AV) (v33 : AV) (v34 : AV) (v35 : AV) (v36 : AV) (v37 : AV) (v38 : AV) (v39 : AV) (v40 : AV) (v41 : AV) (v42 : AV) (v43 : AV) (v44 : AV) (v45 : AV) (v46 : AV) (v47 : AV) (v48 : AV) (v49 : AV) (v50 : AV) (v51 : AV) (v52 : AV) (v53 : AV) (v54 : AV) (v55 : AV) (v56 : AV) (v57 : AV) (v58 : AV) (v59 : AV) (v60 : AV) (v61 : AV) (v62 : AV) (v63 : AV) (H : Heap), C0.iter (r31R0 C0 d a0 a1 a2 v0 b4 x8 x9 b10 x13) n ⟨[(.lst a0), (.agg [(.int .i64 a1), (.int .i64 a2)]), (.tup []), v0, (.int .i64 x17), (.int .i64 x18), v19, v20, v21, (.lst a0), (.bool b4), (.bool (!b4)), (.bool false), (.agg [(.int .i64 x8), (.int .i64 x9)]), (.bool b10), (.bool (!b10)), (.bool false), (.lst a0), (.int .i64 x13), (.int .i64 x22), v23, v24, v25, v26, v27, v28, v29, v30, v31, v32, v33, v34, v35, v36, v37, v38, v39, v40, v41, v42, v43, v44, v45, v46, v47, v48, v49, v50, v51, v52, v53, v54, v55, v56, v57, v58, v59, v60, v61, v62, v63, (.tup [])], H⟩ [0] [r31X0_0 C0 d a0 a1 a2 v0 b4 x8 x9 b10 x13] (r31E0 C0 d a0 a1 a2 v0 b4 x8 x9 b10 x13) = L31_0 d a0 v0 x13 n x18 x22 H := by
  generalize hR : r31R0 C0 d a0 a1 a2 v0 b4 x8 x9 b10 x13 = R
  intro n
  induction n with
  | zero => intros; rfl
  | succ n ih =>
    intro x17 x18 v19 v20 v21 x22 v23 v24 v25 v26 v27 v28 v29 v30 v31 v32 v33 v34 v35 v36 v37 v38 v39 v40 v41 v42 v43 v44 v45 v46 v47 v48 v49 v50 v51 v52 v53 v54 v55 v56 v57 v58 v59 v60 v61 v62 v63 H
    simp only [it_ret] at ih
    rw [it_ret, xiter_s]
    refine Eq.trans (congrFun (congrFun hR.symm _) _) ?_
    unfold r31R0
    refine Eq.trans (pl_len (by rfl)) ?_; (iterate 4 (refine Eq.trans (pl_same (by rfl)) ?_)); (iterate 2 (refine Eq.trans (pl_int (by rfl)) ?_)); (iterate 3 (refine Eq.trans (pl_any (by rfl)) ?_)); (iterate 10 (refine Eq.trans (pl_same (by rfl)) ?_)); refine Eq.trans (pl_int (by rfl)) ?_; (iterate 41 (refine Eq.trans (pl_any (by rfl)) ?_)); refine Eq.trans (pl_same (by rfl)) ?_
    simp only [L31_0, kIter_n, kIter_x, kIter_r, kOut_x, kOut_r, xgo_hit, xgo_miss, ih, X31_0_0_ok d a0 a1 a2 v0 b4 x8 x9 b10 x13  , E31_0_ok d a0 a1 a2 v0 b4 x8 x9 b10 x13  ]
/-- apogee/poly.Side -/
theorem q31 (d : Nat) (a0 : List AV) (a1 : Int) (a2 : Int) : xcall C0 M unr d 31 [(.lst a0), (.agg [(.int .i64 a1), (.int .i64 a2)])] =
  C0.hop [] (.box E23 (.v (.agg [(.int .i64 a1), (.int .i64 a2)]))) fun v0 h1 =>
  C0.snp h1 [(.lst a0)] fun l2 b3 =>
  C0.bool (pcall M d 43 l2) fun b4 =>
  cnd (b3 || true)
   (cnd (!b4)
   (C0.fin h1 (.int .i64 (-1)))
   (C0.hop h1 (.load true 2 (.v v0)) fun v5 h6 =>
   C0.agg 2 (some v5) fun l7 =>
   C0.int .i64 l7[0]? fun x8 =>
   C0.int .i64 l7[1]? fun x9 =>
   C0.bool (pcall M d 35 [(.agg [(.int .i64 x8), (.int .i64 x9)])]) fun b10 =>
   cnd (!b10)
   (C0.fin h6 (.int .i64 (-1)))
   (C0.hop h6 (.bk .lenV [(.v (.lst a0))]) fun v11 h12 =>
   C0.int .i64 (some v11) fun x13 =>
   L31_0 d a0 v0 x13 1000000000000000000 (-1) 0 h12)))
   (none) := (r31 C0 d a0 a1 a2).trans (by simp only [it31_0])
noncomputable def X44_0_0 (d : Nat) (a0 : List AV) (v0 : AV) (b201 : Bool) (H : Heap) : Ans :=
  cnd b201
   (C0.fin H (.int .i64 1))
   (C0.fin H (.int .i64 (-1)))
theorem X44_0_0_ok (d : Nat) (a0 : List AV) (a1 : Int) (a2 : Int) (v0 : AV) (b4 : Bool) (x8 : Int) (x9 : Int) (b10 : Bool)   (x200 : Int) (b201 : Bool) (x202 : Int) (v203 : AV) (v204 : AV) (x205 : Int) (v206 : AV) (x207 : Int) (b208 : Bool) (v209 : AV) (v210 : AV) (v211 : AV) (v212 : AV) (v213 : AV) (v214 : AV) (v215 : AV) (v216 : AV) (v217 : AV) (v218 : AV) (v219 : AV) (v220 : AV) (v221 : AV) (v222 : AV) (v223 : AV) (v224 : AV) (v225 : AV) (v226 : AV) (v227 : AV) (v228 : AV) (v229 : AV) (v230 : AV) (v231 : AV) (v232 : AV) (v233 : AV) (v234 : AV) (v235 : AV) (v236 : AV) (v237 : AV) (v238 : AV) (v239 : AV) (v240 : AV) (v241 : AV) (v242 : AV) (v243 : AV) (v244 : AV) (v245 : AV) (v246 : AV) (v247 : AV) (v248 : AV) (v249 : AV) (H : Heap) : r44X0_0 C0 d a0 a1 a2 v0 b4 x8 x9 b10 ⟨[(.lst a0), (.agg [(.int .i64 a1), (.int .i64 a2)]), (.tup []), v0, (.int .i64 x200), (.bool b201), (.int .i64 x202), v203, v204, (.lst a0), (.bool b4), (.bool (!b4)), (.bool false), (.agg [(.int .i64 x8), (.int .i64 x9)]), (.bool b10), (.bool (!b10)), (.bool false), (.int .i64 x205), v206, (.int .i64 x207), (.bool b208), v209, v210, v211, v212, v213, v214, v215, v216, v217, v218, v219, v220, v221, v222, v223, v224, v225, v226, v227, v228, v229, v230, v231, v232, v233, v234, v235, v236, v237, v238, v239, v240, v241, v242, v243, v244, v245, v246, v247, v248, v249, (.tup [])], H⟩ = X44_0_0 d a0 v0 b201 H := by
  unfold r44X0_0; refine Eq.trans (pl_len (by rfl)) ?_; (iterate 4 (refine Eq.trans (pl_same (by rfl)) ?_)); refine Eq.trans (pl_int (by rfl)) ?_; refine Eq.trans (pl_bool (by rfl)) ?_; refine Eq.trans (pl_int (by rfl)) ?_; (iterate 2 (refine Eq.trans (pl_any (by rfl)) ?_)); (iterate 8 (refine Eq.trans (pl_same (by rfl)) ?_)); refine Eq.trans (pl_int (by rfl)) ?_; refine Eq.trans (pl_any (by rfl)) ?_; refine Eq.trans (pl_int (by rfl)) ?_; refine Eq.trans (pl_bool (by rfl)) ?_; (iterate 41 (refine Eq.trans (pl_any (by rfl)) ?_)); refine Eq.trans (pl_same (by rfl)) ?_
  rfl
noncomputable def E44_0 (d : Nat) (a0 : List AV) (v0 : AV) (x250 : Int) (H : Heap) : Ans :=
  C0.fin H (.int .i64 x250)
theorem E44_0_ok (d : Nat) (a0 : List AV) (a1 : Int) (a2 : Int) (v0 : AV) (b4 : Bool) (x8 : Int) (x9 : Int) (b10 : Bool)   (x250 : Int) (b251 : Bool) (x252 : Int) (v253 : AV) (v254 : AV) (x255 : Int) (v256 : AV) (x257 : Int) (b258 : Bool) (v259 : AV) (v260 : AV) (v261 : AV) (x262 : Int) (v263 : AV) (x265 : Int) (x266 : Int) (v267 : AV) (x268 : Int) (x270 : Int) (x271 : Int) (x273 : Int) (x274 : Int) (x276 : Int) (x277 : Int) (x279 : Int) (x280 : Int) (b281 : Bool) (v282 : AV) (v283 : AV) (v284 : AV) (v285 : AV) (v286 : AV) (v287 : AV) (v288 : AV) (v289 : AV) (v290 : AV) (v291 : AV) (v292 : AV) (v293 : AV) (v294 : AV) (v295 : AV) (v296 : AV) (v297 : AV) (v298 : AV) (v299 : AV) (v300 : AV) (v301 : AV) (v302 : AV) (v303 : AV) (v304 : AV) (v305 : AV) (v306 : AV) (v307 : AV) (v308 : AV) (v309 : AV) (H : Heap) : r44E0 C0 d a0 a1 a2 v0 b4 x8 x9 b10 ⟨[(.lst a0), (.agg [(.int .i64 a1), (.int .i64 a2)]), (.tup []), v0, (.int .i64 x250), (.bool b251), (.int .i64 x252), v253, v254, (.lst a0), (.bool b4), (.bool (!b4)), (.bool false), (.agg [(.int .i64 x8), (.int .i64 x9)]), (.bool b10), (.bool (!b10)), (.bool false), (.int .i64 x255), v256, (.int .i64 x257), (.bool b258), v259, v260, v261, (.int .i64 x262), v263, (.agg [(.int .i64 x265), (.int .i64 x266)]), v267, (.int .i64 x268), (.agg [(.int .i64 x270), (.int .i64 x271)]), (.agg [(.int .i64 x273), (.int .i64 x274)]), (.agg [(.int .i64 x276), (.int .i64 x277)]), (.agg [(.int .i64 x279), (.int .i64 x280)]), (.bool b281), v282, v283, v284, v285, v286, v287, v288, v289, v290, v291, v292, v293, v294, v295, v296, v297, v298, v299, v300, v301, v302, v303, v304, v305, v306, v307, v308, v309, (.tup [])], H⟩ = E44_0 d a0 v0 x250 H := by
  unfold r44E0; refine Eq.trans (pl_len (by rfl)) ?_; (iterate 4 (refine Eq.trans (pl_same (by rfl)) ?_)); refine Eq.trans (pl_int (by rfl)) ?_; refine Eq.trans (pl_bool (by rfl)) ?_; refine Eq.trans (pl_int (by rfl)) ?_; (iterate 2 (refine Eq.trans (pl_any (by rfl)) ?_)); (iterate 8 (refine Eq.trans (pl_same (by rfl)) ?_)); refine Eq.trans (pl_int (by rfl)) ?_; refine Eq.trans (pl_any (by rfl)) ?_; refine Eq.trans (pl_int (by rfl)) ?_; refine Eq.trans (pl_bool (by rfl)) ?_; (iterate 3 (refine Eq.trans (pl_any (by rfl)) ?_)); refine Eq.trans (pl_int (by rfl)) ?_; refine Eq.trans (pl_any (by rfl)) ?_; refine Eq.trans (pl_agg (by rfl) (by rfl)) ?_; (iterate 2 (refine Eq.trans (pl_int (by rfl)) ?_)); refine Eq.trans (pl_any (by rfl)) ?_; refine Eq.trans (pl_int (by rfl)) ?_; refine Eq.trans (pl_agg (by rfl) (by rfl)) ?_; (iterate 2 (refine Eq.trans (pl_int (by rfl)) ?_)); refine Eq.trans (pl_agg (by rfl) (by rfl)) ?_; (iterate 2 (refine Eq.trans (pl_int (by rfl)) ?_)); refine Eq.trans (pl_agg (by rfl) (by rfl)) ?_; (iterate 2 (refine Eq.trans (pl_int (by rfl)) ?_)); refine Eq.trans (pl_agg (by rfl) (by rfl)) ?_; (iterate 2 (refine Eq.trans (pl_int (by rfl)) ?_)); refine Eq.trans (pl_bool (by rfl)) ?_; (iterate 28 (refine Eq.trans (pl_any (by rfl)) ?_)); refine Eq.trans (pl_same (by rfl)) ?_
  rfl
noncomputable def L44_0 (d : Nat) (a0 : List AV) (v0 : AV) : Nat → Bool → Int → Heap → Ans
  | 0, _, _, _ => none
  | n + 1, b15, x16, H =>
  C0.hop H (.bk .lenV [(.v (.lst a0))]) fun v64 h65 =>
   C0.int .i64 (some v64) fun x66 =>
   cnd (decide (x16 < x66))
   (C0.hop h65 (.ixAS .any 2 (.v (.lst a0)) (.v (.int .i64 x16))) fun v67 h68 =>
   C0.hop h68 (.load true 2 (.v v67)) fun v69 h70 =>
   C0.agg 2 (some v69) fun l71 =>
   C0.int .i64 l71[0]? fun x72 =>
   C0.int .i64 l71[1]? fun x73 =>
   C0.snp h70 [(.lst a0), (.int .i64 x16)] fun l74 b75 =>
   C0.agg 2 (pcall M d 58 l74) fun l76 =>
   C0.int .i64 l76[0]? fun x77 =>
   C0.int .i64 l76[1]? fun x78 =>
   cnd (b75 || true)
   (C0.hop h70 (.alloc E23) fun v79 h80 =>
   C0.hop h80 (.alloc E23) fun v81 h82 =>
   C0.hop h82 (.store 2 (.v v79) (.v (.agg [(.int .i64 x72), (.int .i64 x73)]))) fun v83 h84 =>
   C0.hop h84 (.store 2 (.v v81) (.v (.agg [(.int .i64 x77), (.int .i64 x78)]))) fun v85 h86 =>
   C0.hop h86 (.load true 2 (.v v0)) fun v87 h88 =>
   C0.agg 2 (some v87) fun l89 =>
   C0.int .i64 l89[0]? fun x90 =>
   C0.int .i64 l89[1]? fun x91 =>
   C0.hop h88 (.load true 2 (.v v79)) fun v92 h93 =>
   C0.agg 2 (some v92) fun l94 =>
   C0.int .i64 l94[0]? fun x95 =>
   C0.int .i64 l94[1]? fun x96 =>
   C0.hop h93 (.load true 2 (.v v81)) fun v97 h98 =>
   C0.agg 2 (some v97) fun l99 =>
   C0.int .i64 l99[0]? fun x100 =>
   C0.int .i64 l99[1]? fun x101 =>
   C0.bool (pcall M d 54 [(.agg [(.int .i64 x90), (.int .i64 x91)]), (.agg [(.int .i64 x95), (.int .i64 x96)]), (.agg [(.int .i64 x100), (.int .i64 x101)])]) fun b102 =>
   cnd b102
   (E44_0 d a0 v0 0 h98)
   (C0.hop h98 (.fldA 1 (.v v79)) fun v103 h104 =>
   C0.hop h104 (.load false 1 (.v v103)) fun v105 h106 =>
   C0.int .i64 (some v105) fun x107 =>
   C0.hop h106 (.fldA 1 (.v v81)) fun v108 h109 =>
   C0.hop h109 (.load false 1 (.v v108)) fun v110 h111 =>
   C0.int .i64 (some v110) fun x112 =>
   cnd (decide (x107 > x112))
   (C0.hop h111 (.load true 2 (.v v81)) fun v113 h114 =>
   C0.agg 2 (some v113) fun l115 =>
   C0.int .i64 l115[0]? fun x116 =>
   C0.int .i64 l115[1]? fun x117 =>
   C0.hop h114 (.load true 2 (.v v79)) fun v118 h119 =>
   C0.agg 2 (some v118) fun l120 =>
   C0.int .i64 l120[0]? fun x121 =>
   C0.int .i64 l120[1]? fun x122 =>
   C0.hop h119 (.store 2 (.v v79) (.v (.agg [(.int .i64 x116), (.int .i64 x117)]))) fun v123 h124 =>
   C0.hop h124 (.store 2 (.v v81) (.v (.agg [(.int .i64 x121), (.int .i64 x122)]))) fun v125 h126 =>
   C0.hop h126 (.fldA 1 (.v v79)) fun v127 h128 =>
   C0.hop h128 (.load false 1 (.v v127)) fun v129 h130 =>
   C0.int .i64 (some v129) fun x131 =>
   C0.hop h130 (.fldA 1 (.v v0)) fun v132 h133 =>
   C0.hop h133 (.load false 1 (.v v132)) fun v134 h135 =>
   C0.int .i64 (some v134) fun x136 =>
   cnd (decide (x131 ≤ x136))
   (C0.hop h135 (.fldA 1 (.v v81)) fun v137 h138 =>
   C0.hop h138 (.load false 1 (.v v137)) fun v139 h140 =>
   C0.int .i64 (some v139) fun x141 =>
   C0.hop h140 (.fldA 1 (.v v0)) fun v142 h143 =>
   C0.hop h143 (.load false 1 (.v v142)) fun v144 h145 =>
   C0.int .i64 (some v144) fun x146 =>
   cnd (decide (x141 > x146))
   (C0.hop h145 (.load true 2 (.v v79)) fun v147 h148 =>
   C0.agg 2 (some v147) fun l149 =>
   C0.int .i64 l149[0]? fun x150 =>
   C0.int .i64 l149[1]? fun x151 =>
   C0.hop h148 (.load true 2 (.v v81)) fun v152 h153 =>
   C0.agg 2 (some v152) fun l154 =>
   C0.int .i64 l154[0]? fun x155 =>
   C0.int .i64 l154[1]? fun x156 =>
   C0.hop h153 (.load true 2 (.v v0)) fun v157 h158 =>
   C0.agg 2 (some v157) fun l159 =>
   C0.int .i64 l159[0]? fun x160 =>
   C0.int .i64 l159[1]? fun x161 =>
   C0.int .i64 (pcall M d 55 [(.agg [(.int .i64 x150), (.int .i64 x151)]), (.agg [(.int .i64 x155), (.int .i64 x156)]), (.agg [(.int .i64 x160), (.int .i64 x161)])]) fun x162 =>
   cnd (decide (x162 > 0))
   (L44_0 d a0 v0 n (!b15) (IntKind.wrap .i64 (x16 + 1)) h158)
   (L44_0 d a0 v0 n b15 (IntKind.wrap .i64 (x16 + 1)) h158))
   (L44_0 d a0 v0 n b15 (IntKind.wrap .i64 (x16 + 1)) h145))
   (L44_0 d a0 v0 n b15 (IntKind.wrap .i64 (x16 + 1)) h135))
   (C0.hop h111 (.fldA 1 (.v v79)) fun v163 h164 =>
   C0.hop h164 (.load false 1 (.v v163)) fun v165 h166 =>
   C0.int .i64 (some v165) fun x167 =>
   C0.hop h166 (.fldA 1 (.v v0)) fun v168 h169 =>
   C0.hop h169 (.load false 1 (.v v168)) fun v170 h171 =>
   C0.int .i64 (some v170) fun x172 =>
   cnd (decide (x167 ≤ x172))
   (C0.hop h171 (.fldA 1 (.v v81)) fun v173 h174 =>
   C0.hop h174 (.load false 1 (.v v173)) fun v175 h176 =>
   C0.int .i64 (some v175) fun x177 =>
   C0.hop h176 (.fldA 1 (.v v0)) fun v178 h179 =>
   C0.hop h179 (.load false 1 (.v v178)) fun v180 h181 =>
   C0.int .i64 (some v180) fun x182 =>
   cnd (decide (x177 > x182))
   (C0.hop h181 (.load true 2 (.v v79)) fun v183 h184 =>
   C0.agg 2 (some v183) fun l185 =>
   C0.int .i64 l185[0]? fun x186 =>
   C0.int .i64 l185[1]? fun x187 =>
   C0.hop h184 (.load true 2 (.v v81)) fun v188 h189 =>
   C0.agg 2 (some v188) fun l190 =>
   C0.int .i64 l190[0]? fun x191 =>
   C0.int .i64 l190[1]? fun x192 =>
   C0.hop h189 (.load true 2 (.v v0)) fun v193 h194 =>
   C0.agg 2 (some v193) fun l195 =>
   C0.int .i64 l195[0]? fun x196 =>
   C0.int .i64 l195[1]? fun x197 =>
   C0.int .i64 (pcall M d 55 [(.agg [(.int .i64 x186), (.int .i64 x187)]), (.agg [(.int .i64 x191), (.int .i64 x192)]), (.agg [(.int .i64 x196), (.int .i64 x197)])]) fun x198 =>
   cnd (decide (x198 > 0))
   (L44_0 d a0 v0 n (!b15) (IntKind.wrap .i64 (x16 + 1)) h194)
   (L44_0 d a0 v0 n b15 (IntKind.wrap .i64 (x16 + 1)) h194))
   (L44_0 d a0 v0 n b15 (IntKind.wrap .i64 (x16 + 1)) h181))
   (L44_0 d a0 v0 n b15 (IntKind.wrap .i64 (x16 + 1)) h171))))
   (none))
   (X44_0_0 d a0 v0 b15 h65)
theorem it44_0 (d : Nat) (a0 : List AV) (a1 : Int) (a2 : Int) (v0 : AV) (b4 : Bool) (x8 : Int) (x9 : Int) (b10 : Bool)   : ∀ (n : Nat) (x14 : Int) (b15 : Bool) (x16 : Int) (v17 : AV) (v18 : AV) (v19 : AV) (v20 : AV) (v21 : AV) (v22 : AV) (v23 : AV) (v24 : AV) (v25 : AV) (v26 : AV) (v27 : AV) (v28 : AV) (v29 : AV) (v30 : AV) (v31 : AV) (v32 : AV) (v33 : AV) (v34 : AV) (v35 : AV) (v36 : AV) (v37 : AV) (v38 : AV) (v39 : AV) (v40 : AV) (v41 : AV) (v42 : AV) (v43 : AV) (v44 : AV) (v45 : AV) (v46 : AV) (v47 : AV) (v48 : AV) (v49 : AV) (v50 : AV) (v51 : AV) (v52 : AV) (v53 : AV) (v54 : AV) (v55 : AV) (v56 : AV) (v57 : AV) (v58 : AV) (v59 : AV) (v60 : AV) (v61 : AV) (v62 : AV) (v63 : AV) (H : Heap), C0.iter (r44R0 C0 d a0 a1 a2 v0 b4 x8 x9 b10) n ⟨[(.lst a0), (.agg [(.int .i64 a1), (.int .i64 a2)]), (.tup []), v0, (.int .i64 x14), (.bool b15), (.int .i64 x16), v17, v18, (.lst a0), (.bool b4), (.bool (!b4)), (.bool false), (.agg [(.int .i64 x8), (.int .i64 x9)]), (.bool b10), (.bool (!b10)), (.bool false), v19, v20, v21, v22, v23, v24, v25, v26, v27, v28, v29, v30, v31, v32, v33, v34, v35, v36, v37, v38, v39, v40, v41, v42, v43, v44, v45, v46, v47, v48, v49, v50, v51, v52, v53, v54, v55, v56, v57, v58, v59, v60, v61, v62, v63, (.tup [])], H⟩ [0] [r44X0_0 C0 d a0 a1 a2 v0 b4 x8 x9 b10] (r44E0 C0 d a0 a1 a2 v0 b4 x8 x9 b10) = L44_0 d a0 v0 n b15 x16 H := by
  generalize hR : r44R0 C0 d a0 a1 a2 v0 b4 x8 x9 b10 = R
  intro n
  induction n with
  | zero => intros; rfl
  | succ n ih =>
    intro x14 b15 x16 v17 v18 v19 v20 v21 v22 v23 v24 v25 v26 v27 v28 v29 v30 v31 v32 v33 v34 v35 v36 v37 v38 v39 v40 v41 v42 v43 v44 v45 v46 v47 v48 v49 v50 v51 v52 v53 v54 v55 v56 v57 v58 v59 v60 v61 v62 v63 H
    simp only [it_ret] at ih
    rw [it_ret, xiter_s]
    refine Eq.trans (congrFun (congrFun hR.symm _) _) ?_
    unfold r44R0
    refine Eq.trans (pl_len (by rfl)) ?_; (iterate 4 (refine Eq.trans (pl_same (by rfl)) ?_)); refine Eq.trans (pl_int (by rfl)) ?_; refine Eq.trans (pl_bool (by rfl)) ?_; refine Eq.trans (pl_int (by rfl)) ?_; (iterate 2 (refine Eq.trans (pl_any (by rfl)) ?_)); (iterate 8 (refine Eq.trans (pl_same (by rfl)) ?_)); (iterate 45 (refine Eq.trans (pl_any (by rfl)) ?_)); refine Eq.trans (pl_same (by rfl)) ?_
    simp only [L44_0, kIter_n, kIter_x, kIter_r, kOut_x, kOut_r, xgo_hit, xgo_miss, ih, X44_0_0_ok d a0 a1 a2 v0 b4 x8 x9 b10  , E44_0_ok d a0 a1 a2 v0 b4 x8 x9 b10  ]
/-- apogee/apogeeref11.Side -/
theorem q44 (d : Nat) (a0 : List AV) (a1 : Int) (a2 : Int) : xcall C0 M unr d 44 [(.lst a0), (.agg [(.int .i64 a1), (.int .i64 a2)])] =
  C0.hop [] (.box E23 (.v (.agg [(.int .i64 a1), (.int .i64 a2)]))) fun v0 h1 =>
  C0.snp h1 [(.lst a0)] fun l2 b3 =>
  C0.bool (pcall M d 29 l2) fun b4 =>
  cnd (b3 || true)
   (cnd (!b4)
   (C0.fin h1 (.int .i64 (-1)))
   (C0.hop h1 (.load true 2 (.v v0)) fun v5 h6 =>
   C0.agg 2 (some v5) fun l7 =>
   C0.int .i64 l7[0]? fun x8 =>
   C0.int .i64 l7[1]? fun x9 =>
   C0.bool (pcall M d 26 [(.agg [(.int .i64 x8), (.int .i64 x9)])]) fun b10 =>
   cnd (!b10)
   (C0.fin h6 (.int .i64 (-1)))
   (L44_0 d a0 v0 1000000000000000000 false 0 h6)))
   (none) := (r44 C0 d a0 a1 a2).trans (by simp only [it44_0])
noncomputable def X45_2_0 (d : Nat) (a0 : List AV) (x2 : Int) (x45 : Int) (k42N : Int → Heap → Ans) (k42R : Bool → Heap → Ans) (H : Heap) : Ans :=
  k42N (IntKind.wrap .i64 (x45 + 1)) H
theorem X45_2_0_ok (d : Nat) (a0 : List AV) (x2 : Int) (x29 : Int) (x30 : Int) (x31 : Int) (b32 : Bool) (v33 : AV) (v34 : AV) (v35 : AV) (v36 : AV) (v37 : AV) (v38 : AV) (v39 : AV) (v40 : AV) (k42 : Ex → St → Ans) (x45 : Int) (v54 : AV) (v55 : AV) (k42N : Int → Heap → Ans) (k42R : Bool → Heap → Ans) (hk42N : ∀ (b44 : Bool) (x45 : Int) (v46 : AV) (v47 : AV) (v48 : AV) (v49 : AV) (v50 : AV) (v51 : AV) (v52 : AV) (v53 : AV) (v54 : AV) (v55 : AV) (v56 : AV) (v57 : AV) (v58 : AV) (v59 : AV) (v60 : AV) (v61 : AV) (v62 : AV) (v63 : AV) (v64 : AV) (v65 : AV) (v66 : AV) (v67 : AV) (v68 : AV) (v69 : AV) (v70 : AV) (v71 : AV) (v72 : AV) (v73 : AV) (v74 : AV) (v75 : AV) (v76 : AV) (v77 : AV) (v78 : AV) (v79 : AV) (v80 : AV) (v81 : AV) (v82 : AV) (v83 : AV) (v84 : AV) (v85 : AV) (v86 : AV) (v87 : AV) (v88 : AV) (v89 : AV) (v90 : AV) (v91 : AV) (v92 : AV) (v93 : AV) (v94 : AV) (v95 : AV) (v96 : AV) (v97 : AV) (v98 : AV) (v99 : AV) (v100 : AV) (v101 : AV) (v102 : AV) (v103 : AV) (v104 : AV) (v105 : AV) (v106 : AV) (v107 : AV) (v108 : AV) (v109 : AV) (v110 : AV) (v111 : AV) (v112 : AV) (v113 : AV) (v114 : AV) (v115 : AV) (v116 : AV) (v117 : AV) (v118 : AV) (v119 : AV) (v120 : AV) (H : Heap), k42 .normal ⟨[(.lst a0), (.tup []), (.bool b44), (.int .i64 x2), (.int .i64 x29), (.int .i64 x45), v46, v47, v48, v49, v50, (.lst a0), (.int .i64 x2), (.int .i64 x2), (.bool (decide (x2 < 3))), (.bool false), (.int .i64 x2), (.bool (decide (x2 > 8))), (.bool false), (.int .i64 x30), (.int .i64 x31), (.bool b32), v33, v34, v35, v36, v37, v38, v39, v40, v51, v52, v53, v54, v55, v56, v57, v58, v59, v60, v61, v62, v63, v64, v65, v66, v67, v68, v69, v70, v71, v72, v73, v74, v75, v76, v77, v78, v79, v80, v81, v82, v83, v84, v85, v86, v87, v88, v89, v90, v91, v92, v93, v94, v95, v96, v97, v98, v99, v100, v101, v102, v103, v104, v105, v106, v107, v108, v109, v110, v111, v112, v113, v114, v115, v116, v117, v118, v119, v120], H⟩ = k42N x45 H) (hk42R : ∀ (b578 : Bool) (x579 : Int) (x580 : Int) (v581 : AV) (v582 : AV) (v583 : AV) (v584 : AV) (x585 : Int) (x586 : Int) (b587 : Bool) (v588 : AV) (v589 : AV) (x590 : Int) (x591 : Int) (x592 : Int) (x593 : Int) (b594 : Bool) (v595 : AV) (v596 : AV) (v597 : AV) (x598 : Int) (v599 : AV) (x601 : Int) (x602 : Int) (v603 : AV) (x604 : Int) (x606 : Int) (x607 : Int) (v608 : AV) (x609 : Int) (v610 : AV) (x612 : Int) (x613 : Int) (v614 : AV) (x615 : Int) (x617 : Int) (x618 : Int) (b619 : Bool) (x621 : Int) (x622 : Int) (x624 : Int) (x625 : Int) (b626 : Bool) (v627 : AV) (v628 : AV) (v629 : AV) (v630 : AV) (v631 : AV) (v632 : AV) (v633 : AV) (v634 : AV) (v635 : AV) (v636 : AV) (v637 : AV) (v638 : AV) (v639 : AV) (v640 : AV) (v641 : AV) (v642 : AV) (v643 : AV) (v644 : AV) (v645 : AV) (v646 : AV) (v647 : AV) (v648 : AV) (v649 : AV) (v650 : AV) (v651 : AV) (v652 : AV) (v653 : AV) (v654 : AV) (v655 : AV) (v656 : AV) (v657 : AV) (v658 : AV) (v659 : AV) (v660 : AV) (v661 : AV) (v662 : AV) (v663 : AV) (v664 : AV) (v665 : AV) (v666 : AV) (H : Heap), k42 .ret ⟨[(.lst a0), (.tup []), (.bool b578), (.int .i64 x2), (.int .i64 x29), (.int .i64 x579), (.int .i64 x580), v581, v582, v583, v584, (.lst a0), (.int .i64 x2), (.int .i64 x2), (.bool (decide (x2 < 3))), (.bool false), (.int .i64 x2), (.bool (decide (x2 > 8))), (.bool false), (.int .i64 x30), (.int .i64 x31), (.bool b32), v33, v34, v35, v36, v37, v38, v39, v40, (.int .i64 x585), (.int .i64 x586), (.bool b587), v588, v589, (.int .i64 x590), (.int .i64 x591), (.int .i64 x592), (.int .i64 x593), (.bool b594), v595, v596, v597, (.int .i64 x598), v599, (.agg [(.int .i64 x601), (.int .i64 x602)]), v603, (.int .i64 x604), (.agg [(.int .i64 x606), (.int .i64 x607)]), v608, (.int .i64 x609), v610, (.agg [(.int .i64 x612), (.int .i64 x613)]), v614, (.int .i64 x615), (.agg [(.int .i64 x617), (.int .i64 x618)]), (.bool b619), (.agg [(.int .i64 x621), (.int .i64 x622)]), (.agg [(.int .i64 x624), (.int .i64 x625)]), (.bool b626), v627, v628, v629, v630, v631, v632, v633, v634, v635, v636, v637, v638, v639, v640, v641, v642, v643, v644, v645, v646, v647, v648, v649, v650, v651, v652, v653, v654, v655, v656, v657, v658, v659, v660, v661, v662, v663, v664, v665, v666], H⟩ = k42R b578 H) (b350 : Bool) (x351 : Int) (v352 : AV) (v353 : AV) (v354 : AV) (v355 : AV) (x356 : Int) (x357 : Int) (b358 : Bool) (v359 : AV) (v360 : AV) (v361 : AV) (v362 : AV) (v363 : AV) (v364 : AV) (v365 : AV) (v366 : AV) (v367 : AV) (v368 : AV) (v369 : AV) (v370 : AV) (v371 : AV) (v372 : AV) (v373 : AV) (v374 : AV) (v375 : AV) (v376 : AV) (v377 : AV) (v378 : AV) (v379 : AV) (v380 : AV) (v381 : AV) (v382 : AV) (v383 : AV) (v384 : AV) (v385 : AV) (v386 : AV) (v387 : AV) (v388 : AV) (v389 : AV) (v390 : AV) (v391 : AV) (v392 : AV) (v393 : AV) (v394 : AV) (v395 : AV) (v396 : AV) (v397 : AV) (v398 : AV) (v399 : AV) (v400 : AV) (v401 : AV) (v402 : AV) (v403 : AV) (v404 : AV) (v405 : AV) (v406 : AV) (v407 : AV) (v408 : AV) (v409 : AV) (v410 : AV) (v411 : AV) (v412 : AV) (v413 : AV) (v414 : AV) (v415 : AV) (v416 : AV) (v417 : AV) (v418 : AV) (H : Heap) : r45X2_0 C0 d a0 x2 x29 x30 x31 b32 v33 v34 v35 v36 v37 v38 v39 v40 k42 x45 v54 v55 ⟨[(.lst a0), (.tup []), (.bool b350), (.int .i64 x2), (.int .i64 x29), (.int .i64 x45), (.int .i64 x351), v352, v353, v354, v355, (.lst a0), (.int .i64 x2), (.int .i64 x2), (.bool (decide (x2 < 3))), (.bool false), (.int .i64 x2), (.bool (decide (x2 > 8))), (.bool false), (.int .i64 x30), (.int .i64 x31), (.bool b32), v33, v34, v35, v36, v37, v38, v39, v40, (.int .i64 x45), (.int .i64 x2), (.bool true), v54, v55, (.int .i64 x45), (.int .i64 (IntKind.wrap .i64 (x45 + 1))), (.int .i64 x356), (.int .i64 x357), (.bool b358), v359, v360, v361, v362, v363, v364, v365, v366, v367, v368, v369, v370, v371, v372, v373, v374, v375, v376, v377, v378, v379, v380, v381, v382, v383, v384, v385, v386, v387, v388, v389, v390, v391, v392, v393, v394, v395, v396, v397, v398, v399, v400, v401, v402, v403, v404, v405, v406, v407, v408, v409, v410, v411, v412, v413, v414, v415, v416, v417, v418], H⟩ = X45_2_0 d a0 x2 x45 k42N k42R H := by
  try dsimp only at hk42N
  try dsimp only at hk42R
  unfold r45X2_0; refine Eq.trans (pl_len (by rfl)) ?_; (iterate 2 (refine Eq.trans (pl_same (by rfl)) ?_)); refine Eq.trans (pl_bool (by rfl)) ?_; (iterate 3 (refine Eq.trans (pl_same (by rfl)) ?_)); refine Eq.trans (pl_int (by rfl)) ?_; (iterate 4 (refine Eq.trans (pl_any (by rfl)) ?_)); (iterate 26 (refine Eq.trans (pl_same (by rfl)) ?_)); (iterate 2 (refine Eq.trans (pl_int (by rfl)) ?_)); refine Eq.trans (pl_bool (by rfl)) ?_; (iterate 60 (refine Eq.trans (pl_any (by rfl)) ?_))
  first | rfl | (simp only [hk42N, hk42R] <;> rfl)
noncomputable def E45_2 (d : Nat) (a0 : List AV) (x2 : Int) (x45 : Int) (k42N : Int → Heap → Ans) (k42R : Bool → Heap → Ans) (b419 : Bool) (H : Heap) : Ans :=
  k42R b419 H
theorem E45_2_ok (d : Nat) (a0 : List AV) (x2 : Int) (x29 : Int) (x30 : Int) (x31 : Int) (b32 : Bool) (v33 : AV) (v34 : AV) (v35 : AV) (v36 : AV) (v37 : AV) (v38 : AV) (v39 : AV) (v40 : AV) (k42 : Ex → St → Ans) (x45 : Int) (v54 : AV) (v55 : AV) (k42N : Int → Heap → Ans) (k42R : Bool → Heap → Ans) (hk42N : ∀ (b44 : Bool) (x45 : Int) (v46 : AV) (v47 : AV) (v48 : AV) (v49 : AV) (v50 : AV) (v51 : AV) (v52 : AV) (v53 : AV) (v54 : AV) (v55 : AV) (v56 : AV) (v57 : AV) (v58 : AV) (v59 : AV) (v60 : AV) (v61 : AV) (v62 : AV) (v63 : AV) (v64 : AV) (v65 : AV) (v66 : AV) (v67 : AV) (v68 : AV) (v69 : AV) (v70 : AV) (v71 : AV) (v72 : AV) (v73 : AV) (v74 : AV) (v75 : AV) (v76 : AV) (v77 : AV) (v78 : AV) (v79 : AV) (v80 : AV) (v81 : AV) (v82 : AV) (v83 : AV) (v84 : AV) (v85 : AV) (v86 : AV) (v87 : AV) (v88 : AV) (v89 : AV) (v90 : AV) (v91 : AV) (v92 : AV) (v93 : AV) (v94 : AV) (v95 : AV) (v96 : AV) (v97 : AV) (v98 : AV) (v99 : AV) (v100 : AV) (v101 : AV) (v102 : AV) (v103 : AV) (v104 : AV) (v105 : AV) (v106 : AV) (v107 : AV) (v108 : AV) (v109 : AV) (v110 : AV) (v111 : AV) (v112 : AV) (v113 : AV) (v114 : AV) (v115 : AV) (v116 : AV) (v117 : AV) (v118 : AV) (v119 : AV) (v120 : AV) (H : Heap), k42 .normal ⟨[(.lst a0), (.tup []), (.bool b44), (.int .i64 x2), (.int .i64 x29), (.int .i64 x45), v46, v47, v48, v49, v50, (.lst a0), (.int .i64 x2), (.int .i64 x2), (.bool (decide (x2 < 3))), (.bool false), (.int .i64 x2), (.bool (decide (x2 > 8))), (.bool false), (.int .i64 x30), (.int .i64 x31), (.bool b32), v33, v34, v35, v36, v37, v38, v39, v40, v51, v52, v53, v54, v55, v56, v57, v58, v59, v60, v61, v62, v63, v64, v65, v66, v67, v68, v69, v70, v71, v72, v73, v74, v75, v76, v77, v78, v79, v80, v81, v82, v83, v84, v85, v86, v87, v88, v89, v90, v91, v92, v93, v94, v95, v96, v97, v98, v99, v100, v101, v102, v103, v104, v105, v106, v107, v108, v109, v110, v111, v112, v113, v114, v115, v116, v117, v118, v119, v120], H⟩ = k42N x45 H) (hk42R : ∀ (b578 : Bool) (x579 : Int) (x580 : Int) (v581 : AV) (v582 : AV) (v583 : AV) (v584 : AV) (x585 : Int) (x586 : Int) (b587 : Bool) (v588 : AV) (v589 : AV) (x590 : Int) (x591 : Int) (x592 : Int) (x593 : Int) (b594 : Bool) (v595 : AV) (v596 : AV) (v597 : AV) (x598 : Int) (v599 : AV) (x601 : Int) (x602 : Int) (v603 : AV) (x604 : Int) (x606 : Int) (x607 : Int) (v608 : AV) (x609 : Int) (v610 : AV) (x612 : Int) (x613 : Int) (v614 : AV) (x615 : Int) (x617 : Int) (x618 : Int) (b619 : Bool) (x621 : Int) (x622 : Int) (x624 : Int) (x625 : Int) (b626 : Bool) (v627 : AV) (v628 : AV) (v629 : AV) (v630 : AV) (v631 : AV) (v632 : AV) (v633 : AV) (v634 : AV) (v635 : AV) (v636 : AV) (v637 : AV) (v638 : AV) (v639 : AV) (v640 : AV) (v641 : AV) (v642 : AV) (v643 : AV) (v644 : AV) (v645 : AV) (v646 : AV) (v647 : AV) (v648 : AV) (v649 : AV) (v650 : AV) (v651 : AV) (v652 : AV) (v653 : AV) (v654 : AV) (v655 : AV) (v656 : AV) (v657 : AV) (v658 : AV) (v659 : AV) (v660 : AV) (v661 : AV) (v662 : AV) (v663 : AV) (v664 : AV) (v665 : AV) (v666 : AV) (H : Heap), k42 .ret ⟨[(.lst a0), (.tup []), (.bool b578), (.int .i64 x2), (.int .i64 x29), (.int .i64 x579), (.int .i64 x580), v581, v582, v583, v584, (.lst a0), (.int .i64 x2), (.int .i64 x2), (.bool (decide (x2 < 3))), (.bool false), (.int .i64 x2), (.bool (decide (x2 > 8))), (.bool false), (.int .i64 x30), (.int .i64 x31), (.bool b32), v33, v34, v35, v36, v37, v38, v39, v40, (.int .i64 x585), (.int .i64 x586), (.bool b587), v588, v589, (.int .i64 x590), (.int .i64 x591), (.int .i64 x592), (.int .i64 x593), (.bool b594), v595, v596, v597, (.int .i64 x598), v599, (.agg [(.int .i64 x601), (.int .i64 x602)]), v603, (.int .i64 x604), (.agg [(.int .i64 x606), (.int .i64 x607)]), v608, (.int .i64 x609), v610, (.agg [(.int .i64 x612), (.int .i64 x613)]), v614, (.int .i64 x615), (.agg [(.int .i64 x617), (.int .i64 x618)]), (.bool b619), (.agg [(.int .i64 x621), (.int .i64 x622)]), (.agg [(.int .i64 x624), (.int .i64 x625)]), (.bool b626), v627, v628, v629, v630, v631, v632, v633, v634, v635, v636, v637, v638, v639, v640, v641, v642, v643, v644, v645, v646, v647, v648, v649, v650, v651, v652, v653, v654, v655, v656, v657, v658, v659, v660, v661, v662, v663, v664, v665, v666], H⟩ = k42R b578 H) (b419 : Bool) (x420 : Int) (v421 : AV) (v422 : AV) (v423 : AV) (v424 : AV) (x425 : Int) (x426 : Int) (b427 : Bool) (v428 : AV) (v429 : AV) (v430 : AV) (x431 : Int) (v432 : AV) (x434 : Int) (x435 : Int) (v436 : AV) (x437 : Int) (x439 : Int) (x440 : Int) (v441 : AV) (x442 : Int) (v443 : AV) (x445 : Int) (x446 : Int) (v447 : AV) (x448 : Int) (x450 : Int) (x451 : Int) (b452 : Bool) (x454 : Int) (x455 : Int) (x457 : Int) (x458 : Int) (b459 : Bool) (v460 : AV) (v461 : AV) (v462 : AV) (v463 : AV) (v464 : AV) (v465 : AV) (v466 : AV) (v467 : AV) (v468 : AV) (v469 : AV) (v470 : AV) (v471 : AV) (v472 : AV) (v473 : AV) (v474 : AV) (v475 : AV) (v476 : AV) (v477 : AV) (v478 : AV) (v479 : AV) (v480 : AV) (v481 : AV) (v482 : AV) (v483 : AV) (v484 : AV) (v485 : AV) (v486 : AV) (v487 : AV) (v488 : AV) (v489 : AV) (v490 : AV) (v491 : AV) (v492 : AV) (v493 : AV) (v494 : AV) (v495 : AV) (v496 : AV) (v497 : AV) (v498 : AV) (v499 : AV) (H : Heap) : r45E2 C0 d a0 x2 x29 x30 x31 b32 v33 v34 v35 v36 v37 v38 v39 v40 k42 x45 v54 v55 ⟨[(.lst a0), (.tup []), (.bool b419), (.int .i64 x2), (.int .i64 x29), (.int .i64 x45), (.int .i64 x420), v421, v422, v423, v424, (.lst a0), (.int .i64 x2), (.int .i64 x2), (.bool (decide (x2 < 3))), (.bool false), (.int .i64 x2), (.bool (decide (x2 > 8))), (.bool false), (.int .i64 x30), (.int .i64 x31), (.bool b32), v33, v34, v35, v36, v37, v38, v39, v40, (.int .i64 x45), (.int .i64 x2), (.bool true), v54, v55, (.int .i64 x45), (.int .i64 (IntKind.wrap .i64 (x45 + 1))), (.int .i64 x425), (.int .i64 x426), (.bool b427), v428, v429, v430, (.int .i64 x431), v432, (.agg [(.int .i64 x434), (.int .i64 x435)]), v436, (.int .i64 x437), (.agg [(.int .i64 x439), (.int .i64 x440)]), v441, (.int .i64 x442), v443, (.agg [(.int .i64 x445), (.int .i64 x446)]), v447, (.int .i64 x448), (.agg [(.int .i64 x450), (.int .i64 x451)]), (.bool b452), (.agg [(.int .i64 x454), (.int .i64 x455)]), (.agg [(.int .i64 x457), (.int .i64 x458)]), (.bool b459), v460, v461, v462, v463, v464, v465, v466, v467, v468, v469, v470, v471, v472, v473, v474, v475, v476, v477, v478, v479, v480, v481, v482, v483, v484, v485, v486, v487, v488, v489, v490, v491, v492, v493, v494, v495, v496, v497, v498, v499], H⟩ = E45_2 d a0 x2 x45 k42N k42R b419 H := by
  try dsimp only at hk42N
  try dsimp only at hk42R
  unfold r45E2; refine Eq.trans (pl_len (by rfl)) ?_; (iterate 2 (refine Eq.trans (pl_same (by rfl)) ?_)); refine Eq.trans (pl_bool (by rfl)) ?_; (iterate 3 (refine Eq.trans (pl_same (by rfl)) ?_)); refine Eq.trans (pl_int (by rfl)) ?_; (iterate 4 (refine Eq.trans (pl_any (by rfl)) ?_)); (iterate 26 (refine Eq.trans (pl_same (by rfl)) ?_)); (iterate 2 (refine Eq.trans (pl_int (by rfl)) ?_)); refine Eq.trans (pl_bool (by rfl)) ?_; (iterate 3 (refine Eq.trans (pl_any (by rfl)) ?_)); refine Eq.trans (pl_int (by rfl)) ?_; refine Eq.trans (pl_any (by rfl)) ?_; refine Eq.trans (pl_agg (by rfl) (by rfl)) ?_; (iterate 2 (refine Eq.trans (pl_int (by rfl)) ?_)); refine Eq.trans (pl_any (by rfl)) ?_; refine Eq.trans (pl_int (by rfl)) ?_; refine Eq.trans (pl_agg (by rfl) (by rfl)) ?_; (iterate 2 (refine Eq.trans (pl_int (by rfl)) ?_)); refine Eq.trans (pl_any (by rfl)) ?_; refine Eq.trans (pl_int (by rfl)) ?_; refine Eq.trans (pl_any (by rfl)) ?_; refine Eq.trans (pl_agg (by rfl) (by rfl)) ?_; (iterate 2 (refine Eq.trans (pl_int (by rfl)) ?_)); refine Eq.trans (pl_any (by rfl)) ?_; refine Eq.trans (pl_int (by rfl)) ?_; refine Eq.trans (pl_agg (by rfl) (by rfl)) ?_; (iterate 2 (refine Eq.trans (pl_int (by rfl)) ?_)); refine Eq.trans (pl_bool (by rfl)) ?_; refine Eq.trans (pl_agg (by rfl) (by rfl)) ?_; (iterate 2 (refine Eq.trans (pl_int (by rfl)) ?_)); refine Eq.trans (pl_agg (by rfl) (by rfl)) ?_; (iterate 2 (refine Eq.trans (pl_int (by rfl)) ?_)); refine Eq.trans (pl_bool (by rfl)) ?_; (iterate 40 (refine Eq.trans (pl_any (by rfl)) ?_))
  first | rfl | (simp only [hk42N, hk42R] <;> rfl)
noncomputable def L45_2 (d : Nat) (a0 : List AV) (x2 : Int) (x45 : Int) (k42N : Int → Heap → Ans) (k42R : Bool → Heap → Ans) : Nat → Int → Heap → Ans
  | 0, _, _ => none
  | n + 1, x125, H =>
  cnd (decide (x125 < x2))
   (C0.hop H (.ixAS .any 2 (.v (.lst a0)) (.v (.int .i64 x45))) fun v193 h194 =>
   C0.hop h194 (.load true 2 (.v v193)) fun v195 h196 =>
   C0.agg 2 (some v195) fun l197 =>
   C0.int .i64 l197[0]? fun x198 =>
   C0.int .i64 l197[1]? fun x199 =>
   C0.snp h196 [(.lst a0), (.int .i64 x45)] fun l200 b201 =>
   C0.agg 2 (pcall M d 58 l200) fun l202 =>
   C0.int .i64 l202[0]? fun x203 =>
   C0.int .i64 l202[1]? fun x204 =>
   cnd (b201 || true)
   (C0.hop h196 (.ixAS .any 2 (.v (.lst a0)) (.v (.int .i64 x125))) fun v205 h206 =>
   C0.hop h206 (.load true 2 (.v v205)) fun v207 h208 =>
   C0.agg 2 (some v207) fun l209 =>
   C0.int .i64 l209[0]? fun x210 =>
   C0.int .i64 l209[1]? fun x211 =>
   C0.snp h208 [(.lst a0), (.int .i64 x125)] fun l212 b213 =>
   C0.agg 2 (pcall M d 58 l212) fun l214 =>
   C0.int .i64 l214[0]? fun x215 =>
   C0.int .i64 l214[1]? fun x216 =>
   cnd (b213 || true)
   (C0.hop h208 (.alloc E23) fun v217 h218 =>
   C0.hop h218 (.alloc E23) fun v219 h220 =>
   C0.hop h220 (.alloc E23) fun v221 h222 =>
   C0.hop h222 (.alloc E23) fun v223 h224 =>
   C0.disj (.addr v205) (.addr v217) <|
   C0.hop h224 (.store 2 (.v v217) (.v (.agg [(.int .i64 x198), (.int .i64 x199)]))) fun v225 h226 =>
   C0.disj (.addr v205) (.addr v219) <|
   C0.hop h226 (.store 2 (.v v219) (.v (.agg [(.int .i64 x203), (.int .i64 x204)]))) fun v227 h228 =>
   C0.hop h228 (.store 2 (.v v221) (.v (.agg [(.int .i64 x210), (.int .i64 x211)]))) fun v229 h230 =>
   C0.hop h230 (.store 2 (.v v223) (.v (.agg [(.int .i64 x215), (.int .i64 x216)]))) fun v231 h232 =>
   C0.hop h232 (.load true 2 (.v v217)) fun v233 h234 =>
   C0.agg 2 (some v233) fun l235 =>
   C0.int .i64 l235[0]? fun x236 =>
   C0.int .i64 l235[1]? fun x237 =>
   C0.hop h234 (.load true 2 (.v v221)) fun v238 h239 =>
   C0.agg 2 (some v238) fun l240 =>
   C0.int .i64 l240[0]? fun x241 =>
   C0.int .i64 l240[1]? fun x242 =>
   cnd (xor false ((x236 == x241) && ((x237 == x242) && true)))
   (E45_2 d a0 x2 x45 k42N k42R false h239)
   (cnd (x125 == (IntKind.wrap .i64 (x45 + 1)))
   (C0.hop h239 (.load true 2 (.v v223)) fun v243 h244 =>
   C0.agg 2 (some v243) fun l245 =>
   C0.int .i64 l245[0]? fun x246 =>
   C0.int .i64 l245[1]? fun x247 =>
   C0.hop h244 (.load true 2 (.v v217)) fun v248 h249 =>
   C0.agg 2 (some v248) fun l250 =>
   C0.int .i64 l250[0]? fun x251 =>
   C0.int .i64 l250[1]? fun x252 =>
   C0.hop h249 (.load true 2 (.v v219)) fun v253 h254 =>
   C0.agg 2 (some v253) fun l255 =>
   C0.int .i64 l255[0]? fun x256 =>
   C0.int .i64 l255[1]? fun x257 =>
   C0.bool (pcall M d 54 [(.agg [(.int .i64 x246), (.int .i64 x247)]), (.agg [(.int .i64 x251), (.int .i64 x252)]), (.agg [(.int .i64 x256), (.int .i64 x257)])]) fun b258 =>
   cnd b258
   (E45_2 d a0 x2 x45 k42N k42R false h254)
   (C0.hop h254 (.load true 2 (.v v217)) fun v259 h260 =>
   C0.agg 2 (some v259) fun l261 =>
   C0.int .i64 l261[0]? fun x262 =>
   C0.int .i64 l261[1]? fun x263 =>
   C0.hop h260 (.load true 2 (.v v221)) fun v264 h265 =>
   C0.agg 2 (some v264) fun l266 =>
   C0.int .i64 l266[0]? fun x267 =>
   C0.int .i64 l266[1]? fun x268 =>
   C0.hop h265 (.load true 2 (.v v223)) fun v269 h270 =>
   C0.agg 2 (some v269) fun l271 =>
   C0.int .i64 l271[0]? fun x272 =>
   C0.int .i64 l271[1]? fun x273 =>
   C0.bool (pcall M d 54 [(.agg [(.int .i64 x262), (.int .i64 x263)]), (.agg [(.int .i64 x267), (.int .i64 x268)]), (.agg [(.int .i64 x272), (.int .i64 x273)])]) fun b274 =>
   cnd b274
   (E45_2 d a0 x2 x45 k42N k42R false h270)
   (L45_2 d a0 x2 x45 k42N k42R n (IntKind.wrap .i64 (x125 + 1)) h270)))
   (cnd (x45 == 0)
   (cnd (x125 == (IntKind.wrap .i64 (x2 - 1)))
   (C0.hop h239 (.load true 2 (.v v221)) fun v275 h276 =>
   C0.agg 2 (some v275) fun l277 =>
   C0.int .i64 l277[0]? fun x278 =>
   C0.int .i64 l277[1]? fun x279 =>
   C0.hop h276 (.load true 2 (.v v217)) fun v280 h281 =>
   C0.agg 2 (some v280) fun l282 =>
   C0.int .i64 l282[0]? fun x283 =>
   C0.int .i64 l282[1]? fun x284 =>
   C0.hop h281 (.load true 2 (.v v219)) fun v285 h286 =>
   C0.agg 2 (some v285) fun l287 =>
   C0.int .i64 l287[0]? fun x288 =>
   C0.int .i64 l287[1]? fun x289 =>
   C0.bool (pcall M d 54 [(.agg [(.int .i64 x278), (.int .i64 x279)]), (.agg [(.int .i64 x283), (.int .i64 x284)]), (.agg [(.int .i64 x288), (.int .i64 x289)])]) fun b290 =>
   cnd b290
   (E45_2 d a0 x2 x45 k42N k42R false h286)
   (C0.hop h286 (.load true 2 (.v v219)) fun v291 h292 =>
   C0.agg 2 (some v291) fun l293 =>
   C0.int .i64 l293[0]? fun x294 =>
   C0.int .i64 l293[1]? fun x295 =>
   C0.hop h292 (.load true 2 (.v v221)) fun v296 h297 =>
   C0.agg 2 (some v296) fun l298 =>
   C0.int .i64 l298[0]? fun x299 =>
   C0.int .i64 l298[1]? fun x300 =>
   C0.hop h297 (.load true 2 (.v v223)) fun v301 h302 =>
   C0.agg 2 (some v301) fun l303 =>
   C0.int .i64 l303[0]? fun x304 =>
   C0.int .i64 l303[1]? fun x305 =>
   C0.bool (pcall M d 54 [(.agg [(.int .i64 x294), (.int .i64 x295)]), (.agg [(.int .i64 x299), (.int .i64 x300)]), (.agg [(.int .i64 x304), (.int .i64 x305)])]) fun b306 =>
   cnd b306
   (E45_2 d a0 x2 x45 k42N k42R false h302)
   (L45_2 d a0 x2 x45 k42N k42R n (IntKind.wrap .i64 (x125 + 1)) h302)))
   (C0.hop h239 (.load true 2 (.v v217)) fun v307 h308 =>
   C0.agg 2 (some v307) fun l309 =>
   C0.int .i64 l309[0]? fun x310 =>
   C0.int .i64 l309[1]? fun x311 =>
   C0.hop h308 (.load true 2 (.v v219)) fun v312 h313 =>
   C0.agg 2 (some v312) fun l314 =>
   C0.int .i64 l314[0]? fun x315 =>
   C0.int .i64 l314[1]? fun x316 =>
   C0.hop h313 (.load true 2 (.v v221)) fun v317 h318 =>
   C0.agg 2 (some v317) fun l319 =>
   C0.int .i64 l319[0]? fun x320 =>
   C0.int .i64 l319[1]? fun x321 =>
   C0.hop h318 (.load true 2 (.v v223)) fun v322 h323 =>
   C0.agg 2 (some v322) fun l324 =>
   C0.int .i64 l324[0]? fun x325 =>
   C0.int .i64 l324[1]? fun x326 =>
   C0.bool (pcall M d 42 [(.agg [(.int .i64 x310), (.int .i64 x311)]), (.agg [(.int .i64 x315), (.int .i64 x316)]), (.agg [(.int .i64 x320), (.int .i64 x321)]), (.agg [(.int .i64 x325), (.int .i64 x326)])]) fun b327 =>
   cnd b327
   (E45_2 d a0 x2 x45 k42N k42R false h323)
   (L45_2 d a0 x2 x45 k42N k42R n (IntKind.wrap .i64 (x125 + 1)) h323)))
   (C0.hop h239 (.load true 2 (.v v217)) fun v328 h329 =>
   C0.agg 2 (some v328) fun l330 =>
   C0.int .i64 l330[0]? fun x331 =>
   C0.int .i64 l330[1]? fun x332 =>
   C0.hop h329 (.load true 2 (.v v219)) fun v333 h334 =>
   C0.agg 2 (some v333) fun l335 =>
   C0.int .i64 l335[0]? fun x336 =>
   C0.int .i64 l335[1]? fun x337 =>
   C0.hop h334 (.load true 2 (.v v221)) fun v338 h339 =>
   C0.agg 2 (some v338) fun l340 =>
   C0.int .i64 l340[0]? fun x341 =>
   C0.int .i64 l340[1]? fun x342 =>
   C0.hop h339 (.load true 2 (.v v223)) fun v343 h344 =>
   C0.agg 2 (some v343) fun l345 =>
   C0.int .i64 l345[0]? fun x346 =>
   C0.int .i64 l345[1]? fun x347 =>
   C0.bool (pcall M d 42 [(.agg [(.int .i64 x331), (.int .i64 x332)]), (.agg [(.int .i64 x336), (.int .i64 x337)]), (.agg [(.int .i64 x341), (.int .i64 x342)]), (.agg [(.int .i64 x346), (.int .i64 x347)])]) fun b348 =>
   cnd b348
   (E45_2 d a0 x2 x45 k42N k42R false h344)
   (L45_2 d a0 x2 x45 k42N k42R n (IntKind.wrap .i64 (x125 + 1)) h344)))))
   (none))
   (none))
   (X45_2_0 d a0 x2 x45 k42N k42R H)
theorem it45_2 (d : Nat) (a0 : List AV) (x2 : Int) (x29 : Int) (x30 : Int) (x31 : Int) (b32 : Bool) (v33 : AV) (v34 : AV) (v35 : AV) (v36 : AV) (v37 : AV) (v38 : AV) (v39 : AV) (v40 : AV) (k42 : Ex → St → Ans) (x45 : Int) (v54 : AV) (v55 : AV) (k42N : Int → Heap → Ans) (k42R : Bool → Heap → Ans) (hk42N : ∀ (b44 : Bool) (x45 : Int) (v46 : AV) (v47 : AV) (v48 : AV) (v49 : AV) (v50 : AV) (v51 : AV) (v52 : AV) (v53 : AV) (v54 : AV) (v55 : AV) (v56 : AV) (v57 : AV) (v58 : AV) (v59 : AV) (v60 : AV) (v61 : AV) (v62 : AV) (v63 : AV) (v64 : AV) (v65 : AV) (v66 : AV) (v67 : AV) (v68 : AV) (v69 : AV) (v70 : AV) (v71 : AV) (v72 : AV) (v73 : AV) (v74 : AV) (v75 : AV) (v76 : AV) (v77 : AV) (v78 : AV) (v79 : AV) (v80 : AV) (v81 : AV) (v82 : AV) (v83 : AV) (v84 : AV) (v85 : AV) (v86 : AV) (v87 : AV) (v88 : AV) (v89 : AV) (v90 : AV) (v91 : AV) (v92 : AV) (v93 : AV) (v94 : AV) (v95 : AV) (v96 : AV) (v97 : AV) (v98 : AV) (v99 : AV) (v100 : AV) (v101 : AV) (v102 : AV) (v103 : AV) (v104 : AV) (v105 : AV) (v106 : AV) (v107 : AV) (v108 : AV) (v109 : AV) (v110 : AV) (v111 : AV) (v112 : AV) (v113 : AV) (v114 : AV) (v115 : AV) (v116 : AV) (v117 : AV) (v118 : AV) (v119 : AV) (v120 : AV) (H : Heap), k42 .normal ⟨[(.lst a0), (.tup []), (.bool b44), (.int .i64 x2), (.int .i64 x29), (.int .i64 x45), v46, v47, v48, v49, v50, (.lst a0), (.int .i64 x2), (.int .i64 x2), (.bool (decide (x2 < 3))), (.bool false), (.int .i64 x2), (.bool (decide (x2 > 8))), (.bool false), (.int .i64 x30), (.int .i64 x31), (.bool b32), v33, v34, v35, v36, v37, v38, v39, v40, v51, v52, v53, v54, v55, v56, v57, v58, v59, v60, v61, v62, v63, v64, v65, v66, v67, v68, v69, v70, v71, v72, v73, v74, v75, v76, v77, v78, v79, v80, v81, v82, v83, v84, v85, v86, v87, v88, v89, v90, v91, v92, v93, v94, v95, v96, v97, v98, v99, v100, v101, v102, v103, v104, v105, v106, v107, v108, v109, v110, v111, v112, v113, v114, v115, v116, v117, v118, v119, v120], H⟩ = k42N x45 H) (hk42R : ∀ (b578 : Bool) (x579 : Int) (x580 : Int) (v581 : AV) (v582 : AV) (v583 : AV) (v584 : AV) (x585 : Int) (x586 : Int) (b587 : Bool) (v588 : AV) (v589 : AV) (x590 : Int) (x591 : Int) (x592 : Int) (x593 : Int) (b594 : Bool) (v595 : AV) (v596 : AV) (v597 : AV) (x598 : Int) (v599 : AV) (x601 : Int) (x602 : Int) (v603 : AV) (x604 : Int) (x606 : Int) (x607 : Int) (v608 : AV) (x609 : Int) (v610 : AV) (x612 : Int) (x613 : Int) (v614 : AV) (x615 : Int) (x617 : Int) (x618 : Int) (b619 : Bool) (x621 : Int) (x622 : Int) (x624 : Int) (x625 : Int) (b626 : Bool) (v627 : AV) (v628 : AV) (v629 : AV) (v630 : AV) (v631 : AV) (v632 : AV) (v633 : AV) (v634 : AV) (v635 : AV) (v636 : AV) (v637 : AV) (v638 : AV) (v639 : AV) (v640 : AV) (v641 : AV) (v642 : AV) (v643 : AV) (v644 : AV) (v645 : AV) (v646 : AV) (v647 : AV) (v648 : AV) (v649 : AV) (v650 : AV) (v651 : AV) (v652 : AV) (v653 : AV) (v654 : AV) (v655 : AV) (v656 : AV) (v657 : AV) (v658 : AV) (v659 : AV) (v660 : AV) (v661 : AV) (v662 : AV) (v663 : AV) (v664 : AV) (v665 : AV) (v666 : AV) (H : Heap), k42 .ret ⟨[(.lst a0), (.tup []), (.bool b578), (.int .i64 x2), (.int .i64 x29), (.int .i64 x579), (.int .i64 x580), v581, v582, v583, v584, (.lst a0), (.int .i64 x2), (.int .i64 x2), (.bool (decide (x2 < 3))), (.bool false), (.int .i64 x2), (.bool (decide (x2 > 8))), (.bool false), (.int .i64 x30), (.int .i64 x31), (.bool b32), v33, v34, v35, v36, v37, v38, v39, v40, (.int .i64 x585), (.int .i64 x586), (.bool b587), v588, v589, (.int .i64 x590), (.int .i64 x591), (.int .i64 x592), (.int .i64 x593), (.bool b594), v595, v596, v597, (.int .i64 x598), v599, (.agg [(.int .i64 x601), (.int .i64 x602)]), v603, (.int .i64 x604), (.agg [(.int .i64 x606), (.int .i64 x607)]), v608, (.int .i64 x609), v610, (.agg [(.int .i64 x612), (.int .i64 x613)]), v614, (.int .i64 x615), (.agg [(.int .i64 x617), (.int .i64 x618)]), (.bool b619), (.agg [(.int .i64 x621), (.int .i64 x622)]), (.agg [(.int .i64 x624), (.int .i64 x625)]), (.bool b626), v627, v628, v629, v630, v631, v632, v633, v634, v635, v636, v637, v638, v639, v640, v641, v642, v643, v644, v645, v646, v647, v648, v649, v650, v651, v652, v653, v654, v655, v656, v657, v658, v659, v660, v661, v662, v663, v664, v665, v666], H⟩ = k42R b578 H) : ∀ (n : Nat) (b124 : Bool) (x125 : Int) (v126 : AV) (v127 : AV) (v128 : AV) (v129 : AV) (v130 : AV) (v131 : AV) (v132 : AV) (v133 : AV) (v134 : AV) (v135 : AV) (v136 : AV) (v137 : AV) (v138 : AV) (v139 : AV) (v140 : AV) (v141 : AV) (v142 : AV) (v143 : AV) (v144 : AV) (v145 : AV) (v146 : AV) (v147 : AV) (v148 : AV) (v149 : AV) (v150 : AV) (v151 : AV) (v152 : AV) (v153 : AV) (v154 : AV) (v155 : AV) (v156 : AV) (v157 : AV) (v158 : AV) (v159 : AV) (v160 : AV) (v161 : AV) (v162 : AV) (v163 : AV) (v164 : AV) (v165 : AV) (v166 : AV) (v167 : AV) (v168 : AV) (v169 : AV) (v170 : AV) (v171 : AV) (v172 : AV) (v173 : AV) (v174 : AV) (v175 : AV) (v176 : AV) (v177 : AV) (v178 : AV) (v179 : AV) (v180 : AV) (v181 : AV) (v182 : AV) (v183 : AV) (v184 : AV) (v185 : AV) (v186 : AV) (v187 : AV) (v188 : AV) (v189 : AV) (v190 : AV) (v191 : AV) (v192 : AV) (H : Heap), C0.iter (r45R2 C0 d a0 x2 x29 x30 x31 b32 v33 v34 v35 v36 v37 v38 v39 v40 k42 x45 v54 v55) n ⟨[(.lst a0), (.tup []), (.bool b124), (.int .i64 x2), (.int .i64 x29), (.int .i64 x45), (.int .i64 x125), v126, v127, v128, v129, (.lst a0), (.int .i64 x2), (.int .i64 x2), (.bool (decide (x2 < 3))), (.bool false), (.int .i64 x2), (.bool (decide (x2 > 8))), (.bool false), (.int .i64 x30), (.int .i64 x31), (.bool b32), v33, v34, v35, v36, v37, v38, v39, v40, (.int .i64 x45), (.int .i64 x2), (.bool true), v54, v55, (.int .i64 x45), (.int .i64 (IntKind.wrap .i64 (x45 + 1))), v130, v131, v132, v133, v134, v135, v136, v137, v138, v139, v140, v141, v142, v143, v144, v145, v146, v147, v148, v149, v150, v151, v152, v153, v154, v155, v156, v157, v158, v159, v160, v161, v162, v163, v164, v165, v166, v167, v168, v169, v170, v171, v172, v173, v174, v175, v176, v177, v178, v179, v180, v181, v182, v183, v184, v185, v186, v187, v188, v189, v190, v191, v192], H⟩ [4] [r45X2_0 C0 d a0 x2 x29 x30 x31 b32 v33 v34 v35 v36 v37 v38 v39 v40 k42 x45 v54 v55] (r45E2 C0 d a0 x2 x29 x30 x31 b32 v33 v34 v35 v36 v37 v38 v39 v40 k42 x45 v54 v55) = L45_2 d a0 x2 x45 k42N k42R n x125 H := by
  generalize hR : r45R2 C0 d a0 x2 x29 x30 x31 b32 v33 v34 v35 v36 v37 v38 v39 v40 k42 x45 v54 v55 = R
  intro n
  induction n with
  | zero => intros; rfl
  | succ n ih =>
    intro b124 x125 v126 v127 v128 v129 v130 v131 v132 v133 v134 v135 v136 v137 v138 v139 v140 v141 v142 v143 v144 v145 v146 v147 v148 v149 v150 v151 v152 v153 v154 v155 v156 v157 v158 v159 v160 v161 v162 v163 v164 v165 v166 v167 v168 v169 v170 v171 v172 v173 v174 v175 v176 v177 v178 v179 v180 v181 v182 v183 v184 v185 v186 v187 v188 v189 v190 v191 v192 H
    simp only [it_ret] at ih
    rw [it_ret, xiter_s]
    refine Eq.trans (congrFun (congrFun hR.symm _) _) ?_
    unfold r45R2
    refine Eq.trans (pl_len (by rfl)) ?_; (iterate 2 (refine Eq.trans (pl_same (by rfl)) ?_)); refine Eq.trans (pl_bool (by rfl)) ?_; (iterate 3 (refine Eq.trans (pl_same (by rfl)) ?_)); refine Eq.trans (pl_int (by rfl)) ?_; (iterate 4 (refine Eq.trans (pl_any (by rfl)) ?_)); (iterate 26 (refine Eq.trans (pl_same (by rfl)) ?_)); (iterate 63 (refine Eq.trans (pl_any (by rfl)) ?_))
    simp only [L45_2, kIter_n, kIter_x, kIter_r, kOut_x, kOut_r, xgo_hit, xgo_miss, ih, X45_2_0_ok d a0 x2 x29 x30 x31 b32 v33 v34 v35 v36 v37 v38 v39 v40 k42 x45 v54 v55 k42N k42R hk42N hk42R, E45_2_ok d a0 x2 x29 x30 x31 b32 v33 v34 v35 v36 v37 v38 v39 v40 k42 x45 v54 v55 k42N k42R hk42N hk42R]
noncomputable def X45_1_0 (d : Nat) (a0 : List AV) (x2 : Int) (H : Heap) : Ans :=
  C0.fin H (.bool true)
theorem X45_1_0_ok (d : Nat) (a0 : List AV) (x2 : Int) (x29 : Int) (x30 : Int) (x31 : Int) (b32 : Bool) (v33 : AV) (v34 : AV) (v35 : AV) (v36 : AV) (v37 : AV) (v38 : AV) (v39 : AV) (v40 : AV)   (b501 : Bool) (x502 : Int) (v503 : AV) (v504 : AV) (v505 : AV) (v506 : AV) (v507 : AV) (x508 : Int) (x509 : Int) (b510 : Bool) (v511 : AV) (v512 : AV) (v513 : AV) (v514 : AV) (v515 : AV) (v516 : AV) (v517 : AV) (v518 : AV) (v519 : AV) (v520 : AV) (v521 : AV) (v522 : AV) (v523 : AV) (v524 : AV) (v525 : AV) (v526 : AV) (v527 : AV) (v528 : AV) (v529 : AV) (v530 : AV) (v531 : AV) (v532 : AV) (v533 : AV) (v534 : AV) (v535 : AV) (v536 : AV) (v537 : AV) (v538 : AV) (v539 : AV) (v540 : AV) (v541 : AV) (v542 : AV) (v543 : AV) (v544 : AV) (v545 : AV) (v546 : AV) (v547 : AV) (v548 : AV) (v549 : AV) (v550 : AV) (v551 : AV) (v552 : AV) (v553 : AV) (v554 : AV) (v555 : AV) (v556 : AV) (v557 : AV) (v558 : AV) (v559 : AV) (v560 : AV) (v561 : AV) (v562 : AV) (v563 : AV) (v564 : AV) (v565 : AV) (v566 : AV) (v567 : AV) (v568 : AV) (v569 : AV) (v570 : AV) (v571 : AV) (v572 : AV) (v573 : AV) (v574 : AV) (v575 : AV) (v576 : AV) (v577 : AV) (H : Heap) : r45X1_0 C0 d a0 x2 x29 x30 x31 b32 v33 v34 v35 v36 v37 v38 v39 v40 ⟨[(.lst a0), (.tup []), (.bool b501), (.int .i64 x2), (.int .i64 x29), (.int .i64 x502), v503, v504, v505, v506, v507, (.lst a0), (.int .i64 x2), (.int .i64 x2), (.bool (decide (x2 < 3))), (.bool false), (.int .i64 x2), (.bool (decide (x2 > 8))), (.bool false), (.int .i64 x30), (.int .i64 x31), (.bool b32), v33, v34, v35, v36, v37, v38, v39, v40, (.int .i64 x508), (.int .i64 x509), (.bool b510), v511, v512, v513, v514, v515, v516, v517, v518, v519, v520, v521, v522, v523, v524, v525, v526, v527, v528, v529, v530, v531, v532, v533, v534, v535, v536, v537, v538, v539, v540, v541, v542, v543, v544, v545, v546, v547, v548, v549, v550, v551, v552, v553, v554, v555, v556, v557, v558, v559, v560, v561, v562, v563, v564, v565, v566, v567, v568, v569, v570, v571, v572, v573, v574, v575, v576, v577], H⟩ = X45_1_0 d a0 x2 H := by
  unfold r45X1_0; refine Eq.trans (pl_len (by rfl)) ?_; (iterate 2 (refine Eq.trans (pl_same (by rfl)) ?_)); refine Eq.trans (pl_bool (by rfl)) ?_; (iterate 2 (refine Eq.trans (pl_same (by rfl)) ?_)); refine Eq.trans (pl_int (by rfl)) ?_; (iterate 5 (refine Eq.trans (pl_any (by rfl)) ?_)); (iterate 19 (refine Eq.trans (pl_same (by rfl)) ?_)); (iterate 2 (refine Eq.trans (pl_int (by rfl)) ?_)); refine Eq.trans (pl_bool (by rfl)) ?_; (iterate 67 (refine Eq.trans (pl_any (by rfl)) ?_))
  rfl
noncomputable def E45_1 (d : Nat) (a0 : List AV) (x2 : Int) (b578 : Bool) (H : Heap) : Ans :=
  C0.fin H (.bool b578)
theorem E45_1_ok (d : Nat) (a0 : List AV) (x2 : Int) (x29 : Int) (x30 : Int) (x31 : Int) (b32 : Bool) (v33 : AV) (v34 : AV) (v35 : AV) (v36 : AV) (v37 : AV) (v38 : AV) (v39 : AV) (v40 : AV)   (b578 : Bool) (x579 : Int) (x580 : Int) (v581 : AV) (v582 : AV) (v583 : AV) (v584 : AV) (x585 : Int) (x586 : Int) (b587 : Bool) (v588 : AV) (v589 : AV) (x590 : Int) (x591 : Int) (x592 : Int) (x593 : Int) (b594 : Bool) (v595 : AV) (v596 : AV) (v597 : AV) (x598 : Int) (v599 : AV) (x601 : Int) (x602 : Int) (v603 : AV) (x604 : Int) (x606 : Int) (x607 : Int) (v608 : AV) (x609 : Int) (v610 : AV) (x612 : Int) (x613 : Int) (v614 : AV) (x615 : Int) (x617 : Int) (x618 : Int) (b619 : Bool) (x621 : Int) (x622 : Int) (x624 : Int) (x625 : Int) (b626 : Bool) (v627 : AV) (v628 : AV) (v629 : AV) (v630 : AV) (v631 : AV) (v632 : AV) (v633 : AV) (v634 : AV) (v635 : AV) (v636 : AV) (v637 : AV) (v638 : AV) (v639 : AV) (v640 : AV) (v641 : AV) (v642 : AV) (v643 : AV) (v644 : AV) (v645 : AV) (v646 : AV) (v647 : AV) (v648 : AV) (v649 : AV) (v650 : AV) (v651 : AV) (v652 : AV) (v653 : AV) (v654 : AV) (v655 : AV) (v656 : AV) (v657 : AV) (v658 : AV) (v659 : AV) (v660 : AV) (v661 : AV) (v662 : AV) (v663 : AV) (v664 : AV) (v665 : AV) (v666 : AV) (H : Heap) : r45E1 C0 d a0 x2 x29 x30 x31 b32 v33 v34 v35 v36 v37 v38 v39 v40 ⟨[(.lst a0), (.tup []), (.bool b578), (.int .i64 x2), (.int .i64 x29), (.int .i64 x579), (.int .i64 x580), v581, v582, v583, v584, (.lst a0), (.int .i64 x2), (.int .i64 x2), (.bool (decide (x2 < 3))), (.bool false), (.int .i64 x2), (.bool (decide (x2 > 8))), (.bool false), (.int .i64 x30), (.int .i64 x31), (.bool b32), v33, v34, v35, v36, v37, v38, v39, v40, (.int .i64 x585), (.int .i64 x586), (.bool b587), v588, v589, (.int .i64 x590), (.int .i64 x591), (.int .i64 x592), (.int .i64 x593), (.bool b594), v595, v596, v597, (.int .i64 x598), v599, (.agg [(.int .i64 x601), (.int .i64 x602)]), v603, (.int .i64 x604), (.agg [(.int .i64 x606), (.int .i64 x607)]), v608, (.int .i64 x609), v610, (.agg [(.int .i64 x612), (.int .i64 x613)]), v614, (.int .i64 x615), (.agg [(.int .i64 x617), (.int .i64 x618)]), (.bool b619), (.agg [(.int .i64 x621), (.int .i64 x622)]), (.agg [(.int .i64 x624), (.int .i64 x625)]), (.bool b626), v627, v628, v629, v630, v631, v632, v633, v634, v635, v636, v637, v638, v639, v640, v641, v642, v643, v644, v645, v646, v647, v648, v649, v650, v651, v652, v653, v654, v655, v656, v657, v658, v659, v660, v661, v662, v663, v664, v665, v666], H⟩ = E45_1 d a0 x2 b578 H := by
  unfold r45E1; refine Eq.trans (pl_len (by rfl)) ?_; (iterate 2 (refine Eq.trans (pl_same (by rfl)) ?_)); refine Eq.trans (pl_bool (by rfl)) ?_; (iterate 2 (refine Eq.trans (pl_same (by rfl)) ?_)); (iterate 2 (refine Eq.trans (pl_int (by rfl)) ?_)); (iterate 4 (refine Eq.trans (pl_any (by rfl)) ?_)); (iterate 19 (refine Eq.trans (pl_same (by rfl)) ?_)); (iterate 2 (refine Eq.trans (pl_int (by rfl)) ?_)); refine Eq.trans (pl_bool (by rfl)) ?_; (iterate 2 (refine Eq.trans (pl_any (by rfl)) ?_)); (iterate 4 (refine Eq.trans (pl_int (by rfl)) ?_)); refine Eq.trans (pl_bool (by rfl)) ?_; (iterate 3 (refine Eq.trans (pl_any (by rfl)) ?_)); refine Eq.trans (pl_int (by rfl)) ?_; refine Eq.trans (pl_any (by rfl)) ?_; refine Eq.trans (pl_agg (by rfl) (by rfl)) ?_; (iterate 2 (refine Eq.trans (pl_int (by rfl)) ?_)); refine Eq.trans (pl_any (by rfl)) ?_; refine Eq.trans (pl_int (by rfl)) ?_; refine Eq.trans (pl_agg (by rfl) (by rfl)) ?_; (iterate 2 (refine Eq.trans (pl_int (by rfl)) ?_)); refine Eq.trans (pl_any (by rfl)) ?_; refine Eq.trans (pl_int (by rfl)) ?_; refine Eq.trans (pl_any (by rfl)) ?_; refine Eq.trans (pl_agg (by rfl) (by rfl)) ?_; (iterate 2 (refine Eq.trans (pl_int (by rfl)) ?_)); refine Eq.trans (pl_any (by rfl)) ?_; refine Eq.trans (pl_int (by rfl)) ?_; refine Eq.trans (pl_agg (by rfl) (by rfl)) ?_; (iterate 2 (refine Eq.trans (pl_int (by rfl)) ?_)); refine Eq.trans (pl_bool (by rfl)) ?_; refine Eq.trans (pl_agg (by rfl) (by rfl)) ?_; (iterate 2 (refine Eq.trans (pl_int (by rfl)) ?_)); refine Eq.trans (pl_agg (by rfl) (by rfl)) ?_; (iterate 2 (refine Eq.trans (pl_int (by rfl)) ?_)); refine Eq.trans (pl_bool (by rfl)) ?_; (iterate 40 (refine Eq.trans (pl_any (by rfl)) ?_))
  rfl
noncomputable def L45_1 (d : Nat) (a0 : List AV) (x2 : Int) : Nat → Int → Heap → Ans
  | 0, _, _ => none
  | n + 1, x45, H =>
  cnd (decide (x45 < x2))
   (L45_2 d a0 x2 x45 (fun x45 H => L45_1 d a0 x2 n x45 H) (fun b578 H => E45_1 d a0 x2 b578 H) 1000000000000000000 (IntKind.wrap .i64 (x45 + 1)) H)
   (X45_1_0 d a0 x2 H)
theorem it45_1 (d : Nat) (a0 : List AV) (x2 : Int) (x29 : Int) (x30 : Int) (x31 : Int) (b32 : Bool) (v33 : AV) (v34 : AV) (v35 : AV) (v36 : AV) (v37 : AV) (v38 : AV) (v39 : AV) (v40 : AV)   : ∀ (n : Nat) (b44 : Bool) (x45 : Int) (v46 : AV) (v47 : AV) (v48 : AV) (v49 : AV) (v50 : AV) (v51 : AV) (v52 : AV) (v53 : AV) (v54 : AV) (v55 : AV) (v56 : AV) (v57 : AV) (v58 : AV) (v59 : AV) (v60 : AV) (v61 : AV) (v62 : AV) (v63 : AV) (v64 : AV) (v65 : AV) (v66 : AV) (v67 : AV) (v68 : AV) (v69 : AV) (v70 : AV) (v71 : AV) (v72 : AV) (v73 : AV) (v74 : AV) (v75 : AV) (v76 : AV) (v77 : AV) (v78 : AV) (v79 : AV) (v80 : AV) (v81 : AV) (v82 : AV) (v83 : AV) (v84 : AV) (v85 : AV) (v86 : AV) (v87 : AV) (v88 : AV) (v89 : AV) (v90 : AV) (v91 : AV) (v92 : AV) (v93 : AV) (v94 : AV) (v95 : AV) (v96 : AV) (v97 : AV) (v98 : AV) (v99 : AV) (v100 : AV) (v101 : AV) (v102 : AV) (v103 : AV) (v104 : AV) (v105 : AV) (v106 : AV) (v107 : AV) (v108 : AV) (v109 : AV) (v110 : AV) (v111 : AV) (v112 : AV) (v113 : AV) (v114 : AV) (v115 : AV) (v116 : AV) (v117 : AV) (v118 : AV) (v119 : AV) (v120 : AV) (H : Heap), C0.iter (r45R1 C0 d a0 x2 x29 x30 x31 b32 v33 v34 v35 v36 v37 v38 v39 v40) n ⟨[(.lst a0), (.tup []), (.bool b44), (.int .i64 x2), (.int .i64 x29), (.int .i64 x45), v46, v47, v48, v49, v50, (.lst a0), (.int .i64 x2), (.int .i64 x2), (.bool (decide (x2 < 3))), (.bool false), (.int .i64 x2), (.bool (decide (x2 > 8))), (.bool false), (.int .i64 x30), (.int .i64 x31), (.bool b32), v33, v34, v35, v36, v37, v38, v39, v40, v51, v52, v53, v54, v55, v56, v57, v58, v59, v60, v61, v62, v63, v64, v65, v66, v67, v68, v69, v70, v71, v72, v73, v74, v75, v76, v77, v78, v79, v80, v81, v82, v83, v84, v85, v86, v87, v88, v89, v90, v91, v92, v93, v94, v95, v96, v97, v98, v99, v100, v101, v102, v103, v104, v105, v106, v107, v108, v109, v110, v111, v112, v113, v114, v115, v116, v117, v118, v119, v120], H⟩ [2] [r45X1_0 C0 d a0 x2 x29 x30 x31 b32 v33 v34 v35 v36 v37 v38 v39 v40] (r45E1 C0 d a0 x2 x29 x30 x31 b32 v33 v34 v35 v36 v37 v38 v39 v40) = L45_1 d a0 x2 n x45 H := by
  generalize hR : r45R1 C0 d a0 x2 x29 x30 x31 b32 v33 v34 v35 v36 v37 v38 v39 v40 = R
  intro n
  induction n with
  | zero => intros; rfl
  | succ n ih =>
    intro b44 x45 v46 v47 v48 v49 v50 v51 v52 v53 v54 v55 v56 v57 v58 v59 v60 v61 v62 v63 v64 v65 v66 v67 v68 v69 v70 v71 v72 v73 v74 v75 v76 v77 v78 v79 v80 v81 v82 v83 v84 v85 v86 v87 v88 v89 v90 v91 v92 v93 v94 v95 v96 v97 v98 v99 v100 v101 v102 v103 v104 v105 v106 v107 v108 v109 v110 v111 v112 v113 v114 v115 v116 v117 v118 v119 v120 H
    simp only [it_ret] at ih
    rw [it_ret, xiter_s]
    refine Eq.trans (congrFun (congrFun hR.symm _) _) ?_
    unfold r45R1
    refine Eq.trans (pl_len (by rfl)) ?_; (iterate 2 (refine Eq.trans (pl_same (by rfl)) ?_)); refine Eq.trans (pl_bool (by rfl)) ?_; (iterate 2 (refine Eq.trans (pl_same (by rfl)) ?_)); refine Eq.trans (pl_int (by rfl)) ?_; (iterate 5 (refine Eq.trans (pl_any (by rfl)) ?_)); (iterate 19 (refine Eq.trans (pl_same (by rfl)) ?_)); (iterate 70 (refine Eq.trans (pl_any (by rfl)) ?_))
    have I0 := it45_2 d a0 x2 x29 x30 x31 b32 v33 v34 v35 v36 v37 v38 v39 v40 (kIter R n (kOut [2] [r45X1_0 C0 d a0 x2 x29 x30 x31 b32 v33 v34 v35 v36 v37 v38 v39 v40] (r45E1 C0 d a0 x2 x29 x30 x31 b32 v33 v34 v35 v36 v37 v38 v39 v40))) x45 v54 v55 (fun x45 H => L45_1 d a0 x2 n x45 H) (fun b578 H => E45_1 d a0 x2 b578 H) (fun b44 x45 v46 v47 v48 v49 v50 v51 v52 v53 v54 v55 v56 v57 v58 v59 v60 v61 v62 v63 v64 v65 v66 v67 v68 v69 v70 v71 v72 v73 v74 v75 v76 v77 v78 v79 v80 v81 v82 v83 v84 v85 v86 v87 v88 v89 v90 v91 v92 v93 v94 v95 v96 v97 v98 v99 v100 v101 v102 v103 v104 v105 v106 v107 v108 v109 v110 v111 v112 v113 v114 v115 v116 v117 v118 v119 v120 H => ih b44 x45 v46 v47 v48 v49 v50 v51 v52 v53 v54 v55 v56 v57 v58 v59 v60 v61 v62 v63 v64 v65 v66 v67 v68 v69 v70 v71 v72 v73 v74 v75 v76 v77 v78 v79 v80 v81 v82 v83 v84 v85 v86 v87 v88 v89 v90 v91 v92 v93 v94 v95 v96 v97 v98 v99 v100 v101 v102 v103 v104 v105 v106 v107 v108 v109 v110 v111 v112 v113 v114 v115 v116 v117 v118 v119 v120 H) (fun b578 x579 x580 v581 v582 v583 v584 x585 x586 b587 v588 v589 x590 x591 x592 x593 b594 v595 v596 v597 x598 v599 x601 x602 v603 x604 x606 x607 v608 x609 v610 x612 x613 v614 x615 x617 x618 b619 x621 x622 x624 x625 b626 v627 v628 v629 v630 v631 v632 v633 v634 v635 v636 v637 v638 v639 v640 v641 v642 v643 v644 v645 v646 v647 v648 v649 v650 v651 v652 v653 v654 v655 v656 v657 v658 v659 v660 v661 v662 v663 v664 v665 v666 H => E45_1_ok d a0 x2 x29 x30 x31 b32 v33 v34 v35 v36 v37 v38 v39 v40   b578 x579 x580 v581 v582 v583 v584 x585 x586 b587 v588 v589 x590 x591 x592 x593 b594 v595 v596 v597 x598 v599 x601 x602 v603 x604 x606 x607 v608 x609 v610 x612 x613 v614 x615 x617 x618 b619 x621 x622 x624 x625 b626 v627 v628 v629 v630 v631 v632 v633 v634 v635 v636 v637 v638 v639 v640 v641 v642 v643 v644 v645 v646 v647 v648 v649 v650 v651 v652 v653 v654 v655 v656 v657 v658 v659 v660 v661 v662 v663 v664 v665 v666 H)
    try dsimp only at I0
    simp only [L45_1, kIter_n, kIter_x, kIter_r, kOut_x, kOut_r, xgo_hit, xgo_miss, ih, I0, X45_1_0_ok d a0 x2 x29 x30 x31 b32 v33 v34 v35 v36 v37 v38 v39 v40  , E45_1_ok d a0 x2 x29 x30 x31 b32 v33 v34 v35 v36 v37 v38 v39 v40  ]
noncomputable def X45_0_0 (d : Nat) (a0 : List AV) (x2 : Int) (H : Heap) : Ans :=
  L45_1 d a0 x2 1000000000000000000 0 H
theorem X45_0_0_ok (d : Nat) (a0 : List AV) (x2 : Int)   (b28 : Bool) (x29 : Int) (x30 : Int) (x31 : Int) (b32 : Bool) (v33 : AV) (v34 : AV) (v35 : AV) (v36 : AV) (v37 : AV) (v38 : AV) (v39 : AV) (v40 : AV) (H : Heap) : r45X0_0 C0 d a0 x2 ⟨[(.lst a0), (.tup []), (.bool b28), (.int .i64 x2), (.int .i64 x29), (.tup []), (.tup []), (.tup []), (.tup []), (.tup []), (.tup []), (.lst a0), (.int .i64 x2), (.int .i64 x2), (.bool (decide (x2 < 3))), (.bool false), (.int .i64 x2), (.bool (decide (x2 > 8))), (.bool false), (.int .i64 x30), (.int .i64 x31), (.bool b32), v33, v34, v35, v36, v37, v38, v39, v40, (.tup []), (.tup []), (.tup []), (.tup []), (.tup []), (.tup []), (.tup []), (.tup []), (.tup []), (.tup []), (.tup []), (.tup []), (.tup []), (.tup []), (.tup []), (.tup []), (.tup []), (.tup []), (.tup []), (.tup []), (.tup []), (.tup []), (.tup []), (.tup []), (.tup []), (.tup []), (.tup []), (.tup []), (.tup []), (.tup []), (.tup []), (.tup []), (.tup []), (.tup []), (.tup []), (.tup []), (.tup []), (.tup []), (.tup []), (.tup []), (.tup []), (.tup []), (.tup []), (.tup []), (.tup []), (.tup []), (.tup []), (.tup []), (.tup []), (.tup []), (.tup []), (.tup []), (.tup []), (.tup []), (.tup []), (.tup []), (.tup []), (.tup []), (.tup []), (.tup []), (.tup []), (.tup []), (.tup []), (.tup []), (.tup []), (.tup []), (.tup []), (.tup []), (.tup []), (.tup [])], H⟩ = X45_0_0 d a0 x2 H := by
  unfold r45X0_0; refine Eq.trans (pl_len (by rfl)) ?_; (iterate 2 (refine Eq.trans (pl_same (by rfl)) ?_)); refine Eq.trans (pl_bool (by rfl)) ?_; refine Eq.trans (pl_same (by rfl)) ?_; refine Eq.trans (pl_int (by rfl)) ?_; (iterate 14 (refine Eq.trans (pl_same (by rfl)) ?_)); (iterate 2 (refine Eq.trans (pl_int (by rfl)) ?_)); refine Eq.trans (pl_bool (by rfl)) ?_; (iterate 8 (refine Eq.trans (pl_any (by rfl)) ?_)); (iterate 70 (refine Eq.trans (pl_same (by rfl)) ?_))
  first | rfl | (simp only [it45_1] <;> rfl)
noncomputable def E45_0 (d : Nat) (a0 : List AV) (x2 : Int) (b667 : Bool) (H : Heap) : Ans :=
  C0.fin H (.bool b667)
theorem E45_0_ok (d : Nat) (a0 : List AV) (x2 : Int)   (b667 : Bool) (x668 : Int) (x669 : Int) (x670 : Int) (b671 : Bool) (v672 : AV) (v673 : AV) (v674 : AV) (x675 : Int) (v676 : AV) (x678 : Int) (x679 : Int) (b680 : Bool) (b681 : Bool) (H : Heap) : r45E0 C0 d a0 x2 ⟨[(.lst a0), (.tup []), (.bool b667), (.int .i64 x2), (.int .i64 x668), (.tup []), (.tup []), (.tup []), (.tup []), (.tup []), (.tup []), (.lst a0), (.int .i64 x2), (.int .i64 x2), (.bool (decide (x2 < 3))), (.bool false), (.int .i64 x2), (.bool (decide (x2 > 8))), (.bool false), (.int .i64 x669), (.int .i64 x670), (.bool b671), v672, v673, v674, (.int .i64 x675), v676, (.agg [(.int .i64 x678), (.int .i64 x679)]), (.bool b680), (.bool b681), (.tup []), (.tup []), (.tup []), (.tup []), (.tup []), (.tup []), (.tup []), (.tup []), (.tup []), (.tup []), (.tup []), (.tup []), (.tup []), (.tup []), (.tup []), (.tup []), (.tup []), (.tup []), (.tup []), (.tup []), (.tup []), (.tup []), (.tup []), (.tup []), (.tup []), (.tup []), (.tup []), (.tup []), (.tup []), (.tup []), (.tup []), (.tup []), (.tup []), (.tup []), (.tup []), (.tup []), (.tup []), (.tup []), (.tup []), (.tup []), (.tup []), (.tup []), (.tup []), (.tup []), (.tup []), (.tup []), (.tup []), (.tup []), (.tup []), (.tup []), (.tup []), (.tup []), (.tup []), (.tup []), (.tup []), (.tup []), (.tup []), (.tup []), (.tup []), (.tup []), (.tup []), (.tup []), (.tup []), (.tup []), (.tup []), (.tup []), (.tup []), (.tup []), (.tup []), (.tup [])], H⟩ = E45_0 d a0 x2 b667 H := by
  unfold r45E0; refine Eq.trans (pl_len (by rfl)) ?_; (iterate 2 (refine Eq.trans (pl_same (by rfl)) ?_)); refine Eq.trans (pl_bool (by rfl)) ?_; refine Eq.trans (pl_same (by rfl)) ?_; refine Eq.trans (pl_int (by rfl)) ?_; (iterate 14 (refine Eq.trans (pl_same (by rfl)) ?_)); (iterate 2 (refine Eq.trans (pl_int (by rfl)) ?_)); refine Eq.trans (pl_bool (by rfl)) ?_; (iterate 3 (refine Eq.trans (pl_any (by rfl)) ?_)); refine Eq.trans (pl_int (by rfl)) ?_; refine Eq.trans (pl_any (by rfl)) ?_; refine Eq.trans (pl_agg (by rfl) (by rfl)) ?_; (iterate 2 (refine Eq.trans (pl_int (by rfl)) ?_)); (iterate 2 (refine Eq.trans (pl_bool (by rfl)) ?_)); (iterate 70 (refine Eq.trans (pl_same (by rfl)) ?_))
  rfl
noncomputable def L45_0 (d : Nat) (a0 : List AV) (x2 : Int) : Nat → Int → Heap → Ans
  | 0, _, _ => none
  | n + 1, x7, H =>
  cnd (decide (x7 < x2))
   (C0.hop H (.ixAS .any 2 (.v (.lst a0)) (.v (.int .i64 x7))) fun v19 h20 =>
   C0.hop h20 (.load true 2 (.v v19)) fun v21 h22 =>
   C0.agg 2 (some v21) fun l23 =>
   C0.int .i64 l23[0]? fun x24 =>
   C0.int .i64 l23[1]? fun x25 =>
   C0.bool (pcall M d 26 [(.agg [(.int .i64 x24), (.int .i64 x25)])]) fun b26 =>
   cnd (!b26)
   (E45_0 d a0 x2 false h22)
   (L45_0 d a0 x2 n (IntKind.wrap .i64 (x7 + 1)) h22))
   (X45_0_0 d a0 x2 H)
theorem it45_0 (d : Nat) (a0 : List AV) (x2 : Int)   : ∀ (n : Nat) (b6 : Bool) (x7 : Int) (v8 : AV) (v9 : AV) (v10 : AV) (v11 : AV) (v12 : AV) (v13 : AV) (v14 : AV) (v15 : AV) (v16 : AV) (v17 : AV) (v18 : AV) (H : Heap), C0.iter (r45R0 C0 d a0 x2) n ⟨[(.lst a0), (.tup []), (.bool b6), (.int .i64 x2), (.int .i64 x7), (.tup []), (.tup []), (.tup []), (.tup []), (.tup []), (.tup []), (.lst a0), (.int .i64 x2), (.int .i64 x2), (.bool (decide (x2 < 3))), (.bool false), (.int .i64 x2), (.bool (decide (x2 > 8))), (.bool false), v8, v9, v10, v11, v12, v13, v14, v15, v16, v17, v18, (.tup []), (.tup []), (.tup []), (.tup []), (.tup []), (.tup []), (.tup []), (.tup []), (.tup []), (.tup []), (.tup []), (.tup []), (.tup []), (.tup []), (.tup []), (.tup []), (.tup []), (.tup []), (.tup []), (.tup []), (.tup []), (.tup []), (.tup []), (.tup []), (.tup []), (.tup []), (.tup []), (.tup []), (.tup []), (.tup []), (.tup []), (.tup []), (.tup []), (.tup []), (.tup []), (.tup []), (.tup []), (.tup []), (.tup []), (.tup []), (.tup []), (.tup []), (.tup []), (.tup []), (.tup []), (.tup []), (.tup []), (.tup []), (.tup []), (.tup []), (.tup []), (.tup []), (.tup []), (.tup []), (.tup []), (.tup []), (.tup []), (.tup []), (.tup []), (.tup []), (.tup []), (.tup []), (.tup []), (.tup []), (.tup []), (.tup []), (.tup []), (.tup []), (.tup []), (.tup [])], H⟩ [0] [r45X0_0 C0 d a0 x2] (r45E0 C0 d a0 x2) = L45_0 d a0 x2 n x7 H := by
  generalize hR : r45R0 C0 d a0 x2 = R
  intro n
  induction n with
  | zero => intros; rfl
  | succ n ih =>
    intro b6 x7 v8 v9 v10 v11 v12 v13 v14 v15 v16 v17 v18 H
    simp only [it_ret] at ih
    rw [it_ret, xiter_s]
    refine Eq.trans (congrFun (congrFun hR.symm _) _) ?_
    unfold r45R0
    refine Eq.trans (pl_len (by rfl)) ?_; (iterate 2 (refine Eq.trans (pl_same (by rfl)) ?_)); refine Eq.trans (pl_bool (by rfl)) ?_; refine Eq.trans (pl_same (by rfl)) ?_; refine Eq.trans (pl_int (by rfl)) ?_; (iterate 14 (refine Eq.trans (pl_same (by rfl)) ?_)); (iterate 11 (refine Eq.trans (pl_any (by rfl)) ?_)); (iterate 70 (refine Eq.trans (pl_same (by rfl)) ?_))
    simp only [L45_0, kIter_n, kIter_x, kIter_r, kOut_x, kOut_r, xgo_hit, xgo_miss, ih, X45_0_0_ok d a0 x2  , E45_0_ok d a0 x2  ]
/-- apogee/apogeeref11.Simple -/
theorem q45 (d : Nat) (a0 : List AV) : xcall C0 M unr d 45 [(.lst a0)] =
  C0.hop [] (.bk .lenV [(.v (.lst a0))]) fun v0 h1 =>
  C0.int .i64 (some v0) fun x2 =>
  cnd (decide (x2 < 3))
   (C0.fin h1 (.bool false))
   (cnd (decide (x2 > 8))
   (C0.fin h1 (.bool false))
   (L45_0 d a0 x2 1000000000000000000 0 h1)) := (r45 C0 d a0).trans (by simp only [it45_0])
noncomputable def X53f70_0_0 (d : Nat) (a0 : List AV)  : Ans :=
  some (.int .i64 (-1))
theorem X53f70_0_0_ok (d : Nat) (a0 : List AV)   (x21 : Int) (v22 : AV) (x23 : Int) (v24 : AV) (v25 : AV) (v26 : AV) (v27 : AV) (v28 : AV) (v29 : AV) (v30 : AV) (v31 : AV) (v32 : AV) (v33 : AV) : r53f70X0_0 C0 d a0 ⟨[(.lst a0), (.fn 70 [] []), (.tup []), (.tup []), (.int .i64 x21), v22, (.lst a0), (.int .i64 (((List.length a0) : Nat) : Int)), (.int .i64 x23), v24, v25, v26, v27, v28, v29, v30, v31, v32, v33], []⟩ = X53f70_0_0 d a0  := by
  unfold r53f70X0_0; refine Eq.trans (pl_len (by rfl)) ?_; (iterate 4 (refine Eq.trans (pl_same (by rfl)) ?_)); refine Eq.trans (pl_int (by rfl)) ?_; refine Eq.trans (pl_any (by rfl)) ?_; (iterate 2 (refine Eq.trans (pl_same (by rfl)) ?_)); refine Eq.trans (pl_int (by rfl)) ?_; (iterate 10 (refine Eq.trans (pl_any (by rfl)) ?_)); refine Eq.trans (pl_sameH) ?_
  rfl
noncomputable def E53f70_0 (d : Nat) (a0 : List AV) (x34 : Int) : Ans :=
  some (.int .i64 x34)
theorem E53f70_0_ok (d : Nat) (a0 : List AV)   (x34 : Int) (x35 : Int) (x36 : Int) (v37 : AV) (x38 : Int) (v39 : AV) (v40 : AV) (x41 : Int) (v42 : AV) (x44 : Int) (x45 : Int) (b46 : Bool) (x47 : Int) (v48 : AV) : r53f70E0 C0 d a0 ⟨[(.lst a0), (.fn 70 [] []), (.tup []), (.tup []), (.int .i64 x34), (.int .i64 x35), (.lst a0), (.int .i64 (((List.length a0) : Nat) : Int)), (.int .i64 x36), v37, (.int .i64 x38), v39, v40, (.int .i64 x41), v42, (.agg [(.int .i64 x44), (.int .i64 x45)]), (.bool b46), (.int .i64 x47), v48], []⟩ = E53f70_0 d a0 x34 := by
  unfold r53f70E0; refine Eq.trans (pl_len (by rfl)) ?_; (iterate 4 (refine Eq.trans (pl_same (by rfl)) ?_)); (iterate 2 (refine Eq.trans (pl_int (by rfl)) ?_)); (iterate 2 (refine Eq.trans (pl_same (by rfl)) ?_)); refine Eq.trans (pl_int (by rfl)) ?_; refine Eq.trans (pl_any (by rfl)) ?_; refine Eq.trans (pl_int (by rfl)) ?_; (iterate 2 (refine Eq.trans (pl_any (by rfl)) ?_)); refine Eq.trans (pl_int (by rfl)) ?_; refine Eq.trans (pl_any (by rfl)) ?_; refine Eq.trans (pl_agg (by rfl) (by rfl)) ?_; (iterate 2 (refine Eq.trans (pl_int (by rfl)) ?_)); refine Eq.trans (pl_bool (by rfl)) ?_; refine Eq.trans (pl_int (by rfl)) ?_; refine Eq.trans (pl_any (by rfl)) ?_; refine Eq.trans (pl_sameH) ?_
  rfl
noncomputable def L53f70_0 (d : Nat) (a0 : List AV) : Nat → Int → Ans
  | 0, _ => none
  | n + 1, x5 =>
  cnd (decide (x5 < (((List.length a0) : Nat) : Int)))
   (cnd (decide (0 ≤ x5))
   (C0.agg 2 a0[(Int.toNat x5)]? fun l16 =>
   C0.int .i64 l16[0]? fun x17 =>
   C0.int .i64 l16[1]? fun x18 =>
   C0.bool (pcall M d 70 [(.agg [(.int .i64 x17), (.int .i64 x18)])]) fun b19 =>
   cnd b19
   (E53f70_0 d a0 x5)
   (L53f70_0 d a0 n (IntKind.wrap .i64 (x5 + 1))))
   (none))
   (X53f70_0_0 d a0)
theorem it53f70_0 (d : Nat) (a0 : List AV)   : ∀ (n : Nat) (x3 : Int) (v4 : AV) (x5 : Int) (v6 : AV) (v7 : AV) (v8 : AV) (v9 : AV) (v10 : AV) (v11 : AV) (v12 : AV) (v13 : AV) (v14 : AV) (v15 : AV), C0.iter (r53f70R0 C0 d a0) n ⟨[(.lst a0), (.fn 70 [] []), (.tup []), (.tup []), (.int .i64 x3), v4, (.lst a0), (.int .i64 (((List.length a0) : Nat) : Int)), (.int .i64 x5), v6, v7, v8, v9, v10, v11, v12, v13, v14, v15], []⟩ [0] [r53f70X0_0 C0 d a0] (r53f70E0 C0 d a0) = L53f70_0 d a0 n x5 := by
  generalize hR : r53f70R0 C0 d a0 = R
  intro n
  induction n with
  | zero => intros; rfl
  | succ n ih =>
    intro x3 v4 x5 v6 v7 v8 v9 v10 v11 v12 v13 v14 v15
    simp only [it_ret] at ih
    rw [it_ret, xiter_s]
    refine Eq.trans (congrFun (congrFun hR.symm _) _) ?_
    unfold r53f70R0
    refine Eq.trans (pl_len (by rfl)) ?_; (iterate 4 (refine Eq.trans (pl_same (by rfl)) ?_)); refine Eq.trans (pl_int (by rfl)) ?_; refine Eq.trans (pl_any (by rfl)) ?_; (iterate 2 (refine Eq.trans (pl_same (by rfl)) ?_)); refine Eq.trans (pl_int (by rfl)) ?_; (iterate 10 (refine Eq.trans (pl_any (by rfl)) ?_)); refine Eq.trans (pl_sameH) ?_
    simp only [L53f70_0, kIter_n, kIter_x, kIter_r, kOut_x, kOut_r, xgo_hit, xgo_miss, ih, X53f70_0_0_ok d a0  , E53f70_0_ok d a0  ]
/-- slices.IndexFunc[[]apogee/api.Point,apogee/api.Point] -/
theorem q53f70 (d : Nat) (a0 : List AV) (a1 : AV) : xcall C0 M unr d 53 [(.lst a0), (.fn 70 [] [])] =
  L53f70_0 d a0 1000000000000000000 0 := (r53f70 C0 d a0 a1).trans (by simp only [it53f70_0])
noncomputable def X53f57_0_0 (d : Nat) (a0 : List AV)  : Ans :=
  some (.int .i64 (-1))
theorem X53f57_0_0_ok (d : Nat) (a0 : List AV)   (x21 : Int) (v22 : AV) (x23 : Int) (v24 : AV) (v25 : AV) (v26 : AV) (v27 : AV) (v28 : AV) (v29 : AV) (v30 : AV) (v31 : AV) (v32 : AV) (v33 : AV) : r53f57X0_0 C0 d a0 ⟨[(.lst a0), (.fn 57 [] []), (.tup []), (.tup []), (.int .i64 x21), v22, (.lst a0), (.int .i64 (((List.length a0) : Nat) : Int)), (.int .i64 x23), v24, v25, v26, v27, v28, v29, v30, v31, v32, v33], []⟩ = X53f57_0_0 d a0  := by
  unfold r53f57X0_0; refine Eq.trans (pl_len (by rfl)) ?_; (iterate 4 (refine Eq.trans (pl_same (by rfl)) ?_)); refine Eq.trans (pl_int (by rfl)) ?_; refine Eq.trans (pl_any (by rfl)) ?_; (iterate 2 (refine Eq.trans (pl_same (by rfl)) ?_)); refine Eq.trans (pl_int (by rfl)) ?_; (iterate 10 (refine Eq.trans (pl_any (by rfl)) ?_)); refine Eq.trans (pl_sameH) ?_
  rfl
noncomputable def E53f57_0 (d : Nat) (a0 : List AV) (x34 : Int) : Ans :=
  some (.int .i64 x34)
theorem E53f57_0_ok (d : Nat) (a0 : List AV)   (x34 : Int) (x35 : Int) (x36 : Int) (v37 : AV) (x38 : Int) (v39 : AV) (v40 : AV) (x41 : Int) (v42 : AV) (x44 : Int) (x45 : Int) (b46 : Bool) (x47 : Int) (v48 : AV) : r53f57E0 C0 d a0 ⟨[(.lst a0), (.fn 57 [] []), (.tup []), (.tup []), (.int .i64 x34), (.int .i64 x35), (.lst a0), (.int .i64 (((List.length a0) : Nat) : Int)), (.int .i64 x36), v37, (.int .i64 x38), v39, v40, (.int .i64 x41), v42, (.agg [(.int .i64 x44), (.int .i64 x45)]), (.bool b46), (.int .i64 x47), v48], []⟩ = E53f57_0 d a0 x34 := by
  unfold r53f57E0; refine Eq.trans (pl_len (by rfl)) ?_; (iterate 4 (refine Eq.trans (pl_same (by rfl)) ?_)); (iterate 2 (refine Eq.trans (pl_int (by rfl)) ?_)); (iterate 2 (refine Eq.trans (pl_same (by rfl)) ?_)); refine Eq.trans (pl_int (by rfl)) ?_; refine Eq.trans (pl_any (by rfl)) ?_; refine Eq.trans (pl_int (by rfl)) ?_; (iterate 2 (refine Eq.trans (pl_any (by rfl)) ?_)); refine Eq.trans (pl_int (by rfl)) ?_; refine Eq.trans (pl_any (by rfl)) ?_; refine Eq.trans (pl_agg (by rfl) (by rfl)) ?_; (iterate 2 (refine Eq.trans (pl_int (by rfl)) ?_)); refine Eq.trans (pl_bool (by rfl)) ?_; refine Eq.trans (pl_int (by rfl)) ?_; refine Eq.trans (pl_any (by rfl)) ?_; refine Eq.trans (pl_sameH) ?_
  rfl
noncomputable def L53f57_0 (d : Nat) (a0 : List AV) : Nat → Int → Ans
  | 0, _ => none
  | n + 1, x5 =>
  cnd (decide (x5 < (((List.length a0) : Nat) : Int)))
   (cnd (decide (0 ≤ x5))
   (C0.agg 2 a0[(Int.toNat x5)]? fun l16 =>
   C0.int .i64 l16[0]? fun x17 =>
   C0.int .i64 l16[1]? fun x18 =>
   C0.bool (pcall M d 57 [(.agg [(.int .i64 x17), (.int .i64 x18)])]) fun b19 =>
   cnd b19
   (E53f57_0 d a0 x5)
   (L53f57_0 d a0 n (IntKind.wrap .i64 (x5 + 1))))
   (none))
   (X53f57_0_0 d a0)
theorem it53f57_0 (d : Nat) (a0 : List AV)   : ∀ (n : Nat) (x3 : Int) (v4 : AV) (x5 : Int) (v6 : AV) (v7 : AV) (v8 : AV) (v9 : AV) (v10 : AV) (v11 : AV) (v12 : AV) (v13 : AV) (v14 : AV) (v15 : AV), C0.iter (r53f57R0 C0 d a0) n ⟨[(.lst a0), (.fn 57 [] []), (.tup []), (.tup []), (.int .i64 x3), v4, (.lst a0), (.int .i64 (((List.length a0) : Nat) : Int)), (.int .i64 x5), v6, v7, v8, v9, v10, v11, v12, v13, v14, v15], []⟩ [0] [r53f57X0_0 C0 d a0] (r53f57E0 C0 d a0) = L53f57_0 d a0 n x5 := by
  generalize hR : r53f57R0 C0 d a0 = R
  intro n
  induction n with
  | zero => intros; rfl
  | succ n ih =>
    intro x3 v4 x5 v6 v7 v8 v9 v10 v11 v12 v13 v14 v15
    simp only [it_ret] at ih
    rw [it_ret, xiter_s]
    refine Eq.trans (congrFun (congrFun hR.symm _) _) ?_
    unfold r53f57R0
    refine Eq.trans (pl_len (by rfl)) ?_; (iterate 4 (refine Eq.trans (pl_same (by rfl)) ?_)); refine Eq.trans (pl_int (by rfl)) ?_; refine Eq.trans (pl_any (by rfl)) ?_; (iterate 2 (refine Eq.trans (pl_same (by rfl)) ?_)); refine Eq.trans (pl_int (by rfl)) ?_; (iterate 10 (refine Eq.trans (pl_any (by rfl)) ?_)); refine Eq.trans (pl_sameH) ?_
    simp only [L53f57_0, kIter_n, kIter_x, kIter_r, kOut_x, kOut_r, xgo_hit, xgo_miss, ih, X53f57_0_0_ok d a0  , E53f57_0_ok d a0  ]
/-- slices.IndexFunc[[]apogee/api.Point,apogee/api.Point] -/
theorem q53f57 (d : Nat) (a0 : List AV) (a1 : AV) : xcall C0 M unr d 53 [(.lst a0), (.fn 57 [] [])] =
  L53f57_0 d a0 1000000000000000000 0 := (r53f57 C0 d a0 a1).trans (by simp only [it53f57_0])
noncomputable def X56_1_0 (d : Nat) (a0 : List AV) (x7 : Int) (k2N : Int → Ans) (k2R : Bool → Ans)  : Ans :=
  k2N (IntKind.wrap .i64 (x7 + 1))
theorem X56_1_0_ok (d : Nat) (a0 : List AV) (b0 : Bool) (k2 : Ex → St → Ans) (x7 : Int) (v31 : AV) (k2N : Int → Ans) (k2R : Bool → Ans) (hk2N : ∀ (b4 : Bool) (v5 : AV) (v6 : AV) (x7 : Int) (v8 : AV) (v9 : AV) (v10 : AV) (v11 : AV) (v12 : AV) (v13 : AV) (v14 : AV) (v15 : AV) (v16 : AV) (v17 : AV) (v18 : AV) (v19 : AV) (v20 : AV) (v21 : AV) (v22 : AV) (v23 : AV) (v24 : AV) (v25 : AV) (v26 : AV) (v27 : AV) (v28 : AV) (v29 : AV) (v30 : AV) (v31 : AV), k2 .normal ⟨[(.lst a0), (.tup []), (.bool b4), (.int .i64 (((List.length a0) : Nat) : Int)), v5, v6, (.lst a0), (.int .i64 (((List.length a0) : Nat) : Int)), (.int .i64 (((List.length a0) : Nat) : Int)), (.bool (decide ((((List.length a0) : Nat) : Int) < 3))), (.bool false), (.int .i64 (((List.length a0) : Nat) : Int)), (.bool (decide ((((List.length a0) : Nat) : Int) > 8))), (.bool (decide ((((List.length a0) : Nat) : Int) > 8))), (.bool false), (.lst a0), (.bool b0), (.bool false), (.int .i64 (((List.length a0) : Nat) : Int)), (.int .i64 x7), v8, v9, v10, v11, v12, v13, v14, v15, v16, v17, v18, v19, v20, v21, v22, v23, v24, v25, v26, v27, v28, v29, v30, v31], []⟩ = k2N x7) (hk2R : ∀ (b142 : Bool) (x143 : Int) (x144 : Int) (x145 : Int) (b146 : Bool) (x147 : Int) (x148 : Int) (x149 : Int) (b150 : Bool) (x151 : Int) (v152 : AV) (x153 : Int) (v154 : AV) (x156 : Int) (x157 : Int) (v158 : AV) (x159 : Int) (v160 : AV) (x162 : Int) (x163 : Int) (b164 : Bool) (b165 : Bool) (v166 : AV) (v167 : AV) (v168 : AV) (v169 : AV) (v170 : AV) (b171 : Bool) (v172 : AV) (v173 : AV), k2 .ret ⟨[(.lst a0), (.tup []), (.bool b142), (.int .i64 (((List.length a0) : Nat) : Int)), (.int .i64 x143), (.int .i64 x144), (.lst a0), (.int .i64 (((List.length a0) : Nat) : Int)), (.int .i64 (((List.length a0) : Nat) : Int)), (.bool (decide ((((List.length a0) : Nat) : Int) < 3))), (.bool false), (.int .i64 (((List.length a0) : Nat) : Int)), (.bool (decide ((((List.length a0) : Nat) : Int) > 8))), (.bool (decide ((((List.length a0) : Nat) : Int) > 8))), (.bool false), (.lst a0), (.bool b0), (.bool false), (.int .i64 (((List.length a0) : Nat) : Int)), (.int .i64 x145), (.bool b146), (.int .i64 x147), (.int .i64 x148), (.int .i64 x149), (.bool b150), (.int .i64 x151), v152, (.int .i64 x153), v154, (.agg [(.int .i64 x156), (.int .i64 x157)]), v158, (.int .i64 x159), v160, (.agg [(.int .i64 x162), (.int .i64 x163)]), (.bool b164), (.bool b165), v166, v167, v168, v169, v170, (.bool b171), v172, v173], []⟩ = k2R b142) (b65 : Bool) (v66 : AV) (x67 : Int) (b68 : Bool) (v69 : AV) (v70 : AV) (v71 : AV) (v72 : AV) (v73 : AV) (v74 : AV) (v75 : AV) (v76 : AV) (v77 : AV) (v78 : AV) (v79 : AV) (v80 : AV) (v81 : AV) (v82 : AV) (v83 : AV) (v84 : AV) (v85 : AV) (v86 : AV) : r56X1_0 C0 d a0 b0 k2 x7 v31 ⟨[(.lst a0), (.tup []), (.bool b65), (.int .i64 (((List.length a0) : Nat) : Int)), (.int .i64 x7), v66, (.lst a0), (.int .i64 (((List.length a0) : Nat) : Int)), (.int .i64 (((List.length a0) : Nat) : Int)), (.bool (decide ((((List.length a0) : Nat) : Int) < 3))), (.bool false), (.int .i64 (((List.length a0) : Nat) : Int)), (.bool (decide ((((List.length a0) : Nat) : Int) > 8))), (.bool (decide ((((List.length a0) : Nat) : Int) > 8))), (.bool false), (.lst a0), (.bool b0), (.bool false), (.int .i64 (((List.length a0) : Nat) : Int)), (.int .i64 x7), (.bool true), (.int .i64 x7), (.int .i64 x7), (.int .i64 x67), (.bool b68), v69, v70, v71, v72, v73, v74, v75, v76, v77, v78, v79, v80, v81, v82, v83, v84, v85, v86, v31], []⟩ = X56_1_0 d a0 x7 k2N k2R  := by
  try dsimp only at hk2N
  try dsimp only at hk2R
  unfold r56X1_0; refine Eq.trans (pl_len (by rfl)) ?_; (iterate 2 (refine Eq.trans (pl_same (by rfl)) ?_)); refine Eq.trans (pl_bool (by rfl)) ?_; (iterate 2 (refine Eq.trans (pl_same (by rfl)) ?_)); refine Eq.trans (pl_any (by rfl)) ?_; (iterate 17 (refine Eq.trans (pl_same (by rfl)) ?_)); refine Eq.trans (pl_int (by rfl)) ?_; refine Eq.trans (pl_bool (by rfl)) ?_; (iterate 18 (refine Eq.trans (pl_any (by rfl)) ?_)); refine Eq.trans (pl_same (by rfl)) ?_; refine Eq.trans (pl_sameH) ?_
  first | rfl | (simp only [hk2N, hk2R] <;> rfl)
noncomputable def E56_1 (d : Nat) (a0 : List AV) (x7 : Int) (k2N : Int → Ans) (k2R : Bool → Ans) (b87 : Bool) : Ans :=
  k2R b87
theorem E56_1_ok (d : Nat) (a0 : List AV) (b0 : Bool) (k2 : Ex → St → Ans) (x7 : Int) (v31 : AV) (k2N : Int → Ans) (k2R : Bool → Ans) (hk2N : ∀ (b4 : Bool) (v5 : AV) (v6 : AV) (x7 : Int) (v8 : AV) (v9 : AV) (v10 : AV) (v11 : AV) (v12 : AV) (v13 : AV) (v14 : AV) (v15 : AV) (v16 : AV) (v17 : AV) (v18 : AV) (v19 : AV) (v20 : AV) (v21 : AV) (v22 : AV) (v23 : AV) (v24 : AV) (v25 : AV) (v26 : AV) (v27 : AV) (v28 : AV) (v29 : AV) (v30 : AV) (v31 : AV), k2 .normal ⟨[(.lst a0), (.tup []), (.bool b4), (.int .i64 (((List.length a0) : Nat) : Int)), v5, v6, (.lst a0), (.int .i64 (((List.length a0) : Nat) : Int)), (.int .i64 (((List.length a0) : Nat) : Int)), (.bool (decide ((((List.length a0) : Nat) : Int) < 3))), (.bool false), (.int .i64 (((List.length a0) : Nat) : Int)), (.bool (decide ((((List.length a0) : Nat) : Int) > 8))), (.bool (decide ((((List.length a0) : Nat) : Int) > 8))), (.bool false), (.lst a0), (.bool b0), (.bool false), (.int .i64 (((List.length a0) : Nat) : Int)), (.int .i64 x7), v8, v9, v10, v11, v12, v13, v14, v15, v16, v17, v18, v19, v20, v21, v22, v23, v24, v25, v26, v27, v28, v29, v30, v31], []⟩ = k2N x7) (hk2R : ∀ (b142 : Bool) (x143 : Int) (x144 : Int) (x145 : Int) (b146 : Bool) (x147 : Int) (x148 : Int) (x149 : Int) (b150 : Bool) (x151 : Int) (v152 : AV) (x153 : Int) (v154 : AV) (x156 : Int) (x157 : Int) (v158 : AV) (x159 : Int) (v160 : AV) (x162 : Int) (x163 : Int) (b164 : Bool) (b165 : Bool) (v166 : AV) (v167 : AV) (v168 : AV) (v169 : AV) (v170 : AV) (b171 : Bool) (v172 : AV) (v173 : AV), k2 .ret ⟨[(.lst a0), (.tup []), (.bool b142), (.int .i64 (((List.length a0) : Nat) : Int)), (.int .i64 x143), (.int .i64 x144), (.lst a0), (.int .i64 (((List.length a0) : Nat) : Int)), (.int .i64 (((List.length a0) : Nat) : Int)), (.bool (decide ((((List.length a0) : Nat) : Int) < 3))), (.bool false), (.int .i64 (((List.length a0) : Nat) : Int)), (.bool (decide ((((List.length a0) : Nat) : Int) > 8))), (.bool (decide ((((List.length a0) : Nat) : Int) > 8))), (.bool false), (.lst a0), (.bool b0), (.bool false), (.int .i64 (((List.length a0) : Nat) : Int)), (.int .i64 x145), (.bool b146), (.int .i64 x147), (.int .i64 x148), (.int .i64 x149), (.bool b150), (.int .i64 x151), v152, (.int .i64 x153), v154, (.agg [(.int .i64 x156), (.int .i64 x157)]), v158, (.int .i64 x159), v160, (.agg [(.int .i64 x162), (.int .i64 x163)]), (.bool b164), (.bool b165), v166, v167, v168, v169, v170, (.bool b171), v172, v173], []⟩ = k2R b142) (b87 : Bool) (x88 : Int) (x89 : Int) (b90 : Bool) (x91 : Int) (v92 : AV) (x93 : Int) (v94 : AV) (x96 : Int) (x97 : Int) (v98 : AV) (x99 : Int) (v100 : AV) (x102 : Int) (x103 : Int) (b104 : Bool) (b105 : Bool) (v106 : AV) (v107 : AV) (v108 : AV) (v109 : AV) (v110 : AV) (b111 : Bool) (v112 : AV) : r56E1 C0 d a0 b0 k2 x7 v31 ⟨[(.lst a0), (.tup []), (.bool b87), (.int .i64 (((List.length a0) : Nat) : Int)), (.int .i64 x7), (.int .i64 x88), (.lst a0), (.int .i64 (((List.length a0) : Nat) : Int)), (.int .i64 (((List.length a0) : Nat) : Int)), (.bool (decide ((((List.length a0) : Nat) : Int) < 3))), (.bool false), (.int .i64 (((List.length a0) : Nat) : Int)), (.bool (decide ((((List.length a0) : Nat) : Int) > 8))), (.bool (decide ((((List.length a0) : Nat) : Int) > 8))), (.bool false), (.lst a0), (.bool b0), (.bool false), (.int .i64 (((List.length a0) : Nat) : Int)), (.int .i64 x7), (.bool true), (.int .i64 x7), (.int .i64 x7), (.int .i64 x89), (.bool b90), (.int .i64 x91), v92, (.int .i64 x93), v94, (.agg [(.int .i64 x96), (.int .i64 x97)]), v98, (.int .i64 x99), v100, (.agg [(.int .i64 x102), (.int .i64 x103)]), (.bool b104), (.bool b105), v106, v107, v108, v109, v110, (.bool b111), v112, v31], []⟩ = E56_1 d a0 x7 k2N k2R b87 := by
  try dsimp only at hk2N
  try dsimp only at hk2R
  unfold r56E1; refine Eq.trans (pl_len (by rfl)) ?_; (iterate 2 (refine Eq.trans (pl_same (by rfl)) ?_)); refine Eq.trans (pl_bool (by rfl)) ?_; (iterate 2 (refine Eq.trans (pl_same (by rfl)) ?_)); refine Eq.trans (pl_int (by rfl)) ?_; (iterate 17 (refine Eq.trans (pl_same (by rfl)) ?_)); refine Eq.trans (pl_int (by rfl)) ?_; refine Eq.trans (pl_bool (by rfl)) ?_; refine Eq.trans (pl_int (by rfl)) ?_; refine Eq.trans (pl_any (by rfl)) ?_; refine Eq.trans (pl_int (by rfl)) ?_; refine Eq.trans (pl_any (by rfl)) ?_; refine Eq.trans (pl_agg (by rfl) (by rfl)) ?_; (iterate 2 (refine Eq.trans (pl_int (by rfl)) ?_)); refine Eq.trans (pl_any (by rfl)) ?_; refine Eq.trans (pl_int (by rfl)) ?_; refine Eq.trans (pl_any (by rfl)) ?_; refine Eq.trans (pl_agg (by rfl) (by rfl)) ?_; (iterate 2 (refine Eq.trans (pl_int (by rfl)) ?_)); (iterate 2 (refine Eq.trans (pl_bool (by rfl)) ?_)); (iterate 5 (refine Eq.trans (pl_any (by rfl)) ?_)); refine Eq.trans (pl_bool (by rfl)) ?_; refine Eq.trans (pl_any (by rfl)) ?_; refine Eq.trans (pl_same (by rfl)) ?_; refine Eq.trans (pl_sameH) ?_
  first | rfl | (simp only [hk2N, hk2R] <;> rfl)
noncomputable def L56_1 (d : Nat) (a0 : List AV) (x7 : Int) (k2N : Int → Ans) (k2R : Bool → Ans) : Nat → Int → Ans
  | 0, _ => none
  | n + 1, x37 =>
  cnd (decide (x37 < x7))
   (cnd (decide (0 ≤ x7))
   (C0.agg 2 a0[(Int.toNat x7)]? fun l57 =>
   C0.int .i64 l57[0]? fun x58 =>
   C0.int .i64 l57[1]? fun x59 =>
   cnd (decide (0 ≤ x37))
   (C0.agg 2 a0[(Int.toNat x37)]? fun l60 =>
   C0.int .i64 l60[0]? fun x61 =>
   C0.int .i64 l60[1]? fun x62 =>
   cnd (xor false ((x58 == x61) && ((x59 == x62) && true)))
   (E56_1 d a0 x7 k2N k2R false)
   (C0.bool (pcall M d 71 [(.lst a0), (.int .i64 x37), (.int .i64 x7)]) fun b63 =>
   cnd (!b63)
   (E56_1 d a0 x7 k2N k2R false)
   (L56_1 d a0 x7 k2N k2R n (IntKind.wrap .i64 (x37 + 1)))))
   (none))
   (none))
   (X56_1_0 d a0 x7 k2N k2R)
theorem it56_1 (d : Nat) (a0 : List AV) (b0 : Bool) (k2 : Ex → St → Ans) (x7 : Int) (v31 : AV) (k2N : Int → Ans) (k2R : Bool → Ans) (hk2N : ∀ (b4 : Bool) (v5 : AV) (v6 : AV) (x7 : Int) (v8 : AV) (v9 : AV) (v10 : AV) (v11 : AV) (v12 : AV) (v13 : AV) (v14 : AV) (v15 : AV) (v16 : AV) (v17 : AV) (v18 : AV) (v19 : AV) (v20 : AV) (v21 : AV) (v22 : AV) (v23 : AV) (v24 : AV) (v25 : AV) (v26 : AV) (v27 : AV) (v28 : AV) (v29 : AV) (v30 : AV) (v31 : AV), k2 .normal ⟨[(.lst a0), (.tup []), (.bool b4), (.int .i64 (((List.length a0) : Nat) : Int)), v5, v6, (.lst a0), (.int .i64 (((List.length a0) : Nat) : Int)), (.int .i64 (((List.length a0) : Nat) : Int)), (.bool (decide ((((List.length a0) : Nat) : Int) < 3))), (.bool false), (.int .i64 (((List.length a0) : Nat) : Int)), (.bool (decide ((((List.length a0) : Nat) : Int) > 8))), (.bool (decide ((((List.length a0) : Nat) : Int) > 8))), (.bool false), (.lst a0), (.bool b0), (.bool false), (.int .i64 (((List.length a0) : Nat) : Int)), (.int .i64 x7), v8, v9, v10, v11, v12, v13, v14, v15, v16, v17, v18, v19, v20, v21, v22, v23, v24, v25, v26, v27, v28, v29, v30, v31], []⟩ = k2N x7) (hk2R : ∀ (b142 : Bool) (x143 : Int) (x144 : Int) (x145 : Int) (b146 : Bool) (x147 : Int) (x148 : Int) (x149 : Int) (b150 : Bool) (x151 : Int) (v152 : AV) (x153 : Int) (v154 : AV) (x156 : Int) (x157 : Int) (v158 : AV) (x159 : Int) (v160 : AV) (x162 : Int) (x163 : Int) (b164 : Bool) (b165 : Bool) (v166 : AV) (v167 : AV) (v168 : AV) (v169 : AV) (v170 : AV) (b171 : Bool) (v172 : AV) (v173 : AV), k2 .ret ⟨[(.lst a0), (.tup []), (.bool b142), (.int .i64 (((List.length a0) : Nat) : Int)), (.int .i64 x143), (.int .i64 x144), (.lst a0), (.int .i64 (((List.length a0) : Nat) : Int)), (.int .i64 (((List.length a0) : Nat) : Int)), (.bool (decide ((((List.length a0) : Nat) : Int) < 3))), (.bool false), (.int .i64 (((List.length a0) : Nat) : Int)), (.bool (decide ((((List.length a0) : Nat) : Int) > 8))), (.bool (decide ((((List.length a0) : Nat) : Int) > 8))), (.bool false), (.lst a0), (.bool b0), (.bool false), (.int .i64 (((List.length a0) : Nat) : Int)), (.int .i64 x145), (.bool b146), (.int .i64 x147), (.int .i64 x148), (.int .i64 x149), (.bool b150), (.int .i64 x151), v152, (.int .i64 x153), v154, (.agg [(.int .i64 x156), (.int .i64 x157)]), v158, (.int .i64 x159), v160, (.agg [(.int .i64 x162), (.int .i64 x163)]), (.bool b164), (.bool b165), v166, v167, v168, v169, v170, (.bool b171), v172, v173], []⟩ = k2R b142) : ∀ (n : Nat) (b35 : Bool) (v36 : AV) (x37 : Int) (v38 : AV) (v39 : AV) (v40 : AV) (v41 : AV) (v42 : AV) (v43 : AV) (v44 : AV) (v45 : AV) (v46 : AV) (v47 : AV) (v48 : AV) (v49 : AV) (v50 : AV) (v51 : AV) (v52 : AV) (v53 : AV) (v54 : AV) (v55 : AV) (v56 : AV), C0.iter (r56R1 C0 d a0 b0 k2 x7 v31) n ⟨[(.lst a0), (.tup []), (.bool b35), (.int .i64 (((List.length a0) : Nat) : Int)), (.int .i64 x7), v36, (.lst a0), (.int .i64 (((List.length a0) : Nat) : Int)), (.int .i64 (((List.length a0) : Nat) : Int)), (.bool (decide ((((List.length a0) : Nat) : Int) < 3))), (.bool false), (.int .i64 (((List.length a0) : Nat) : Int)), (.bool (decide ((((List.length a0) : Nat) : Int) > 8))), (.bool (decide ((((List.length a0) : Nat) : Int) > 8))), (.bool false), (.lst a0), (.bool b0), (.bool false), (.int .i64 (((List.length a0) : Nat) : Int)), (.int .i64 x7), (.bool true), (.int .i64 x7), (.int .i64 x7), (.int .i64 x37), v38, v39, v40, v41, v42, v43, v44, v45, v46, v47, v48, v49, v50, v51, v52, v53, v54, v55, v56, v31], []⟩ [2] [r56X1_0 C0 d a0 b0 k2 x7 v31] (r56E1 C0 d a0 b0 k2 x7 v31) = L56_1 d a0 x7 k2N k2R n x37 := by
  generalize hR : r56R1 C0 d a0 b0 k2 x7 v31 = R
  intro n
  induction n with
  | zero => intros; rfl
  | succ n ih =>
    intro b35 v36 x37 v38 v39 v40 v41 v42 v43 v44 v45 v46 v47 v48 v49 v50 v51 v52 v53 v54 v55 v56
    simp only [it_ret] at ih
    rw [it_ret, xiter_s]
    refine Eq.trans (congrFun (congrFun hR.symm _) _) ?_
    unfold r56R1
    refine Eq.trans (pl_len (by rfl)) ?_; (iterate 2 (refine Eq.trans (pl_same (by rfl)) ?_)); refine Eq.trans (pl_bool (by rfl)) ?_; (iterate 2 (refine Eq.trans (pl_same (by rfl)) ?_)); refine Eq.trans (pl_any (by rfl)) ?_; (iterate 17 (refine Eq.trans (pl_same (by rfl)) ?_)); refine Eq.trans (pl_int (by rfl)) ?_; (iterate 19 (refine Eq.trans (pl_any (by rfl)) ?_)); refine Eq.trans (pl_same (by rfl)) ?_; refine Eq.trans (pl_sameH) ?_
    simp only [L56_1, kIter_n, kIter_x, kIter_r, kOut_x, kOut_r, xgo_hit, xgo_miss, ih, X56_1_0_ok d a0 b0 k2 x7 v31 k2N k2R hk2N hk2R, E56_1_ok d a0 b0 k2 x7 v31 k2N k2R hk2N hk2R]
noncomputable def X56_0_0 (d : Nat) (a0 : List AV)  : Ans :=
  some (.bool true)
theorem X56_0_0_ok (d : Nat) (a0 : List AV) (b0 : Bool)   (b114 : Bool) (v115 : AV) (v116 : AV) (x117 : Int) (b118 : Bool) (v119 : AV) (v120 : AV) (v121 : AV) (v122 : AV) (v123 : AV) (v124 : AV) (v125 : AV) (v126 : AV) (v127 : AV) (v128 : AV) (v129 : AV) (v130 : AV) (v131 : AV) (v132 : AV) (v133 : AV) (v134 : AV) (v135 : AV) (v136 : AV) (v137 : AV) (v138 : AV) (v139 : AV) (v140 : AV) (v141 : AV) : r56X0_0 C0 d a0 b0 ⟨[(.lst a0), (.tup []), (.bool b114), (.int .i64 (((List.length a0) : Nat) : Int)), v115, v116, (.lst a0), (.int .i64 (((List.length a0) : Nat) : Int)), (.int .i64 (((List.length a0) : Nat) : Int)), (.bool (decide ((((List.length a0) : Nat) : Int) < 3))), (.bool false), (.int .i64 (((List.length a0) : Nat) : Int)), (.bool (decide ((((List.length a0) : Nat) : Int) > 8))), (.bool (decide ((((List.length a0) : Nat) : Int) > 8))), (.bool false), (.lst a0), (.bool b0), (.bool false), (.int .i64 (((List.length a0) : Nat) : Int)), (.int .i64 x117), (.bool b118), v119, v120, v121, v122, v123, v124, v125, v126, v127, v128, v129, v130, v131, v132, v133, v134, v135, v136, v137, v138, v139, v140, v141], []⟩ = X56_0_0 d a0  := by
  unfold r56X0_0; refine Eq.trans (pl_len (by rfl)) ?_; (iterate 2 (refine Eq.trans (pl_same (by rfl)) ?_)); refine Eq.trans (pl_bool (by rfl)) ?_; refine Eq.trans (pl_same (by rfl)) ?_; (iterate 2 (refine Eq.trans (pl_any (by rfl)) ?_)); (iterate 13 (refine Eq.trans (pl_same (by rfl)) ?_)); refine Eq.trans (pl_int (by rfl)) ?_; refine Eq.trans (pl_bool (by rfl)) ?_; (iterate 23 (refine Eq.trans (pl_any (by rfl)) ?_)); refine Eq.trans (pl_sameH) ?_
  rfl
noncomputable def E56_0 (d : Nat) (a0 : List AV) (b142 : Bool) : Ans :=
  some (.bool b142)
theorem E56_0_ok (d : Nat) (a0 : List AV) (b0 : Bool)   (b142 : Bool) (x143 : Int) (x144 : Int) (x145 : Int) (b146 : Bool) (x147 : Int) (x148 : Int) (x149 : Int) (b150 : Bool) (x151 : Int) (v152 : AV) (x153 : Int) (v154 : AV) (x156 : Int) (x157 : Int) (v158 : AV) (x159 : Int) (v160 : AV) (x162 : Int) (x163 : Int) (b164 : Bool) (b165 : Bool) (v166 : AV) (v167 : AV) (v168 : AV) (v169 : AV) (v170 : AV) (b171 : Bool) (v172 : AV) (v173 : AV) : r56E0 C0 d a0 b0 ⟨[(.lst a0), (.tup []), (.bool b142), (.int .i64 (((List.length a0) : Nat) : Int)), (.int .i64 x143), (.int .i64 x144), (.lst a0), (.int .i64 (((List.length a0) : Nat) : Int)), (.int .i64 (((List.length a0) : Nat) : Int)), (.bool (decide ((((List.length a0) : Nat) : Int) < 3))), (.bool false), (.int .i64 (((List.length a0) : Nat) : Int)), (.bool (decide ((((List.length a0) : Nat) : Int) > 8))), (.bool (decide ((((List.length a0) : Nat) : Int) > 8))), (.bool false), (.lst a0), (.bool b0), (.bool false), (.int .i64 (((List.length a0) : Nat) : Int)), (.int .i64 x145), (.bool b146), (.int .i64 x147), (.int .i64 x148), (.int .i64 x149), (.bool b150), (.int .i64 x151), v152, (.int .i64 x153), v154, (.agg [(.int .i64 x156), (.int .i64 x157)]), v158, (.int .i64 x159), v160, (.agg [(.int .i64 x162), (.int .i64 x163)]), (.bool b164), (.bool b165), v166, v167, v168, v169, v170, (.bool b171), v172, v173], []⟩ = E56_0 d a0 b142 := by
  unfold r56E0; refine Eq.trans (pl_len (by rfl)) ?_; (iterate 2 (refine Eq.trans (pl_same (by rfl)) ?_)); refine Eq.trans (pl_bool (by rfl)) ?_; refine Eq.trans (pl_same (by rfl)) ?_; (iterate 2 (refine Eq.trans (pl_int (by rfl)) ?_)); (iterate 13 (refine Eq.trans (pl_same (by rfl)) ?_)); refine Eq.trans (pl_int (by rfl)) ?_; refine Eq.trans (pl_bool (by rfl)) ?_; (iterate 3 (refine Eq.trans (pl_int (by rfl)) ?_)); refine Eq.trans (pl_bool (by rfl)) ?_; refine Eq.trans (pl_int (by rfl)) ?_; refine Eq.trans (pl_any (by rfl)) ?_; refine Eq.trans (pl_int (by rfl)) ?_; refine Eq.trans (pl_any (by rfl)) ?_; refine Eq.trans (pl_agg (by rfl) (by rfl)) ?_; (iterate 2 (refine Eq.trans (pl_int (by rfl)) ?_)); refine Eq.trans (pl_any (by rfl)) ?_; refine Eq.trans (pl_int (by rfl)) ?_; refine Eq.trans (pl_any (by rfl)) ?_; refine Eq.trans (pl_agg (by rfl) (by rfl)) ?_; (iterate 2 (refine Eq.trans (pl_int (by rfl)) ?_)); (iterate 2 (refine Eq.trans (pl_bool (by rfl)) ?_)); (iterate 5 (refine Eq.trans (pl_any (by rfl)) ?_)); refine Eq.trans (pl_bool (by rfl)) ?_; (iterate 2 (refine Eq.trans (pl_any (by rfl)) ?_)); refine Eq.trans (pl_sameH) ?_
  rfl
noncomputable def L56_0 (d : Nat) (a0 : List AV) : Nat → Int → Ans
  | 0, _ => none
  | n + 1, x7 =>
  cnd (decide (x7 < (((List.length a0) : Nat) : Int)))
   (L56_1 d a0 x7 (fun x7 => L56_0 d a0 n x7) (fun b142 => E56_0 d a0 b142) 1000000000000000000 0)
   (X56_0_0 d a0)
theorem it56_0 (d : Nat) (a0 : List AV) (b0 : Bool)   : ∀ (n : Nat) (b4 : Bool) (v5 : AV) (v6 : AV) (x7 : Int) (v8 : AV) (v9 : AV) (v10 : AV) (v11 : AV) (v12 : AV) (v13 : AV) (v14 : AV) (v15 : AV) (v16 : AV) (v17 : AV) (v18 : AV) (v19 : AV) (v20 : AV) (v21 : AV) (v22 : AV) (v23 : AV) (v24 : AV) (v25 : AV) (v26 : AV) (v27 : AV) (v28 : AV) (v29 : AV) (v30 : AV) (v31 : AV), C0.iter (r56R0 C0 d a0 b0) n ⟨[(.lst a0), (.tup []), (.bool b4), (.int .i64 (((List.length a0) : Nat) : Int)), v5, v6, (.lst a0), (.int .i64 (((List.length a0) : Nat) : Int)), (.int .i64 (((List.length a0) : Nat) : Int)), (.bool (decide ((((List.length a0) : Nat) : Int) < 3))), (.bool false), (.int .i64 (((List.length a0) : Nat) : Int)), (.bool (decide ((((List.length a0) : Nat) : Int) > 8))), (.bool (decide ((((List.length a0) : Nat) : Int) > 8))), (.bool false), (.lst a0), (.bool b0), (.bool false), (.int .i64 (((List.length a0) : Nat) : Int)), (.int .i64 x7), v8, v9, v10, v11, v12, v13, v14, v15, v16, v17, v18, v19, v20, v21, v22, v23, v24, v25, v26, v27, v28, v29, v30, v31], []⟩ [0] [r56X0_0 C0 d a0 b0] (r56E0 C0 d a0 b0) = L56_0 d a0 n x7 := by
  generalize hR : r56R0 C0 d a0 b0 = R
  intro n
  induction n with
  | zero => intros; rfl
  | succ n ih =>
    intro b4 v5 v6 x7 v8 v9 v10 v11 v12 v13 v14 v15 v16 v17 v18 v19 v20 v21 v22 v23 v24 v25 v26 v27 v28 v29 v30 v31
    simp only [it_ret] at ih
    rw [it_ret, xiter_s]
    refine Eq.trans (congrFun (congrFun hR.symm _) _) ?_
    unfold r56R0
    refine Eq.trans (pl_len (by rfl)) ?_; (iterate 2 (refine Eq.trans (pl_same (by rfl)) ?_)); refine Eq.trans (pl_bool (by rfl)) ?_; refine Eq.trans (pl_same (by rfl)) ?_; (iterate 2 (refine Eq.trans (pl_any (by rfl)) ?_)); (iterate 13 (refine Eq.trans (pl_same (by rfl)) ?_)); refine Eq.trans (pl_int (by rfl)) ?_; (iterate 24 (refine Eq.trans (pl_any (by rfl)) ?_)); refine Eq.trans (pl_sameH) ?_
    have I0 := it56_1 d a0 b0 (kIter R n (kOut [0] [r56X0_0 C0 d a0 b0] (r56E0 C0 d a0 b0))) x7 v31 (fun x7 => L56_0 d a0 n x7) (fun b142 => E56_0 d a0 b142) (fun b4 v5 v6 x7 v8 v9 v10 v11 v12 v13 v14 v15 v16 v17 v18 v19 v20 v21 v22 v23 v24 v25 v26 v27 v28 v29 v30 v31 => ih b4 v5 v6 x7 v8 v9 v10 v11 v12 v13 v14 v15 v16 v17 v18 v19 v20 v21 v22 v23 v24 v25 v26 v27 v28 v29 v30 v31) (fun b142 x143 x144 x145 b146 x147 x148 x149 b150 x151 v152 x153 v154 x156 x157 v158 x159 v160 x162 x163 b164 b165 v166 v167 v168 v169 v170 b171 v172 v173 => E56_0_ok d a0 b0   b142 x143 x144 x145 b146 x147 x148 x149 b150 x151 v152 x153 v154 x156 x157 v158 x159 v160 x162 x163 b164 b165 v166 v167 v168 v169 v170 b171 v172 v173)
    try dsimp only at I0
    simp only [L56_0, kIter_n, kIter_x, kIter_r, kOut_x, kOut_r, xgo_hit, xgo_miss, ih, I0, X56_0_0_ok d a0 b0  , E56_0_ok d a0 b0  ]
/-- apogee/poly.Simple -/
theorem q56 (d : Nat) (a0 : List AV) : xcall C0 M unr d 56 [(.lst a0)] =
  cnd (decide ((((List.length a0) : Nat) : Int) < 3))
   (some (.bool false))
   (cnd (decide ((((List.length a0) : Nat) : Int) > 8))
   (some (.bool false))
   (C0.bool (pcall M d 40 [(.lst a0), (.fn 70 [] [])]) fun b0 =>
   cnd b0
   (some (.bool false))
   (L56_0 d a0 1000000000000000000 0))) := (r56 C0 d a0).trans (by simp only [it56_0])
end Go.Proofs.Ytjblhppbjebagaa.AE

namespace Go.Proofs.Ytjblhppbjebagaa.AE
set_option linter.unusedVariables false
set_option linter.unusedSimpArgs false
set_option linter.constructorNameAsVariable false
open Go

theorem hget_s {H S : Heap} {k : Nat} {b : Blk} (h : S[k]? = some (some b)) : hget (H ++ S) (H.length + k) = some b := by
  unfold hget; rw [List.getElem?_append_right (by omega), show H.length + k - H.length = k by omega, h]
theorem set_s {H S : Heap} {k : Nat} {x : Option Blk} : (H ++ S).set (H.length + k) x = H ++ S.set k x := by
  rw [List.set_append_right _ _ (by omega), show H.length + k - H.length = k by omega]
theorem al_n {H : Heap} {e : ETy} {K : AV → Heap → Ans} : C0.hop H (.alloc e) K = K (.ptr (H.length + 0) 0 0) (H ++ [some ⟨e, [e.zero]⟩]) := rfl
theorem al_s {H S : Heap} {e : ETy} {K : AV → Heap → Ans} : C0.hop (H ++ S) (.alloc e) K = K (.ptr (H.length + S.length) 0 0) (H ++ (S ++ [some ⟨e, [e.zero]⟩])) := by
  refine (hop_eq rfl).trans ?_
  simp only [evO, List.length_append, List.append_assoc]
theorem bx_n {H : Heap} {e : ETy} {x : AV} {K : AV → Heap → Ans} (h : elOk e x = true) : C0.hop H (.box e (.v x)) K = K (.ptr (H.length + 0) 0 0) (H ++ [some ⟨e, [x]⟩]) := hop_eq (by simp [aop, evO, h])
theorem bx_s {H S : Heap} {e : ETy} {x : AV} {K : AV → Heap → Ans} (h : elOk e x = true) : C0.hop (H ++ S) (.box e (.v x)) K = K (.ptr (H.length + S.length) 0 0) (H ++ (S ++ [some ⟨e, [x]⟩])) := by
  refine (hop_eq (v := .ptr (H ++ S).length 0 0) (H' := (H ++ S) ++ [some ⟨e, [x]⟩]) (by simp [aop, evO, h])).trans ?_
  simp only [List.length_append, List.append_assoc]
theorem ld_s {H S : Heap} {k i j n : Nat} {ag : Bool} {b : Blk} {el v : AV} {K : AV → Heap → Ans} (h : S[k]? = some (some b)) (hi : b.els[i]? = some el) (hs : sub ag n j el = some v) :
    C0.hop (H ++ S) (.load ag n (.v (.ptr (H.length + k) i j))) K = K v (H ++ S) := ld_ptr (hget_s h) hi hs
theorem st_s {H S : Heap} {k i j n : Nat} {b : Blk} {el el' x : AV} {K : AV → Heap → Ans} (h : S[k]? = some (some b)) (hi : b.els[i]? = some el) (hs : putSub n j x el = some el') :
    C0.hop (H ++ S) (.store n (.v (.ptr (H.length + k) i j)) (.v x)) K = K .undef (H ++ S.set k (some { b with els := b.els.set i el' })) := by
  rw [st_ptr (hget_s h) hi hs, set_s]
theorem dj_s {a k k' i j i' j' : Nat} {K : Ans} (h : (k == k') = false) : C0.disj (.addr (.ptr (a + k) i j)) (.addr (.ptr (a + k') i' j')) K = K := C0_disj (by
  have : k ≠ k' := by simpa using h
  simp [disjB, idsOf]; omega)
end Go.Proofs.Ytjblhppbjebagaa.AE

namespace Go.Proofs.Ytjblhppbjebagaa.AE
set_option linter.unusedVariables false
set_option linter.unusedSimpArgs false
set_option linter.constructorNameAsVariable false
open Go Go.Proofs.Ytjblhppbjebagaa.Geo

/-- The i-th corner. -/
def vv (ps : List Pt) (i : Nat) : Pt := ps.getD i (0, 0)
theorem vv_at {ps : List Pt} {i : Nat} (h : i < ps.length) : (ps.map pt)[((i : Nat) : Int).toNat]? = some (pt (vv ps i)) := by
  simp [vv, List.getD_eq_getElem?_getD, h]
theorem pmap_len (ps : List Pt) : ((ps.map pt).length : Nat) = ps.length := by simp
def nx (ps : List Pt) (i : Nat) : Nat := (i + 1) % ps.length
theorem nx_lt {ps : List Pt} {i : Nat} (h : i < ps.length) : nx ps i < ps.length := Nat.mod_lt _ (by omega)
theorem nx_int {ps : List Pt} {i : Nat} (h : i < ps.length) (hl : ps.length ≤ 140737488355328) : Int.tmod (IntKind.wrap .i64 ((i : Int) + 1)) (((ps.map pt).length : Nat) : Int) = ((nx ps i : Nat) : Int) := by
  rw [pmap_len, i64_small (by omega) (by omega), Int.tmod_eq_emod_of_nonneg (by omega)]
  simp [nx]
theorem s46 (d : Nat) (ps : List Pt) (i : Nat) (h : i < ps.length) (hl : ps.length ≤ 140737488355328) : pcall M (d + 1) 46 [.lst (ps.map pt), .int .i64 i] = some (.tup [pt (vv ps i), pt (vv ps (nx ps i))]) := told (r46 C0 d _ _) (by
  rw [decide_eq_true (by omega), cnd_t, vv_at h]
  refine Eq.trans (pl_agg (by rfl) (by rfl)) ?_; refine Eq.trans (pl_int (by rfl)) ?_; refine Eq.trans (pl_int (by rfl)) ?_
  rw [decide_eq_false (by rw [pmap_len]; omega), cnd_f, nx_int h hl, decide_eq_true (by omega), cnd_t, vv_at (nx_lt h)]
  refine Eq.trans (pl_agg (by rfl) (by rfl)) ?_; refine Eq.trans (pl_int (by rfl)) ?_; refine Eq.trans (pl_int (by rfl)) ?_
  rfl)
theorem s58 (d : Nat) (ps : List Pt) (i : Nat) (h : i < ps.length) (hl : ps.length ≤ 140737488355328) : pcall M (d + 1) 58 [.lst (ps.map pt), .int .i64 i] = some (pt (vv ps (nx ps i))) := told (r58 C0 d _ _) (by
  rw [decide_eq_false (by rw [pmap_len]; omega), cnd_f, nx_int h hl, decide_eq_true (by omega), cnd_t, vv_at (nx_lt h)]
  refine Eq.trans (pl_agg (by rfl) (by rfl)) ?_; refine Eq.trans (pl_int (by rfl)) ?_; refine Eq.trans (pl_int (by rfl)) ?_
  rfl)
/-- May two edges be, of those that begin at k and i? -/
def apartB (ps : List Pt) (k i : Nat) : Bool :=
  if nx ps k = i then !onB (vv ps (nx ps i)) (vv ps k) (vv ps (nx ps k)) && !onB (vv ps k) (vv ps i) (vv ps (nx ps i))
  else if nx ps i = k then !onB (vv ps i) (vv ps k) (vv ps (nx ps k)) && !onB (vv ps (nx ps k)) (vv ps i) (vv ps (nx ps i))
  else !meetB (vv ps k) (vv ps (nx ps k)) (vv ps i) (vv ps (nx ps i))
theorem cast_beq (a b : Nat) : (((a : Nat) : Int) == ((b : Nat) : Int)) = decide (a = b) := by
  by_cases h : a = b
  · subst h; simp
  · rw [decide_eq_false h]; simp; omega
theorem s71 (d : Nat) (ps : List Pt) (k i : Nat) (hk : k < ps.length) (hi : i < ps.length) (hl : ps.length ≤ 140737488355328) :
    pcall M (d + 10) 71 [.lst (ps.map pt), .int .i64 k, .int .i64 i] = some (.bool (apartB ps k i)) := told (r71 C0 (d + 9) _ _ _) (by
  refine Eq.trans (pl_tup (s46 (d + 8) ps k hk hl) (by rfl)) ?_
  refine Eq.trans (pl_agg (by rfl) (by rfl)) ?_; refine Eq.trans (pl_int (by rfl)) ?_; refine Eq.trans (pl_int (by rfl)) ?_; refine Eq.trans (pl_agg (by rfl) (by rfl)) ?_; refine Eq.trans (pl_int (by rfl)) ?_; refine Eq.trans (pl_int (by rfl)) ?_
  refine Eq.trans (pl_tup (s46 (d + 8) ps i hi hl) (by rfl)) ?_
  refine Eq.trans (pl_agg (by rfl) (by rfl)) ?_; refine Eq.trans (pl_int (by rfl)) ?_; refine Eq.trans (pl_int (by rfl)) ?_; refine Eq.trans (pl_agg (by rfl) (by rfl)) ?_; refine Eq.trans (pl_int (by rfl)) ?_; refine Eq.trans (pl_int (by rfl)) ?_
  rw [decide_eq_false (by rw [pmap_len]; omega), cnd_f, cnd_f, nx_int hk hl, nx_int hi hl, cast_beq, cast_beq]
  have o := fun p q r => s47 (d + 1) p q r
  have m := s79 d (vv ps k) (vv ps (nx ps k)) (vv ps i) (vv ps (nx ps i))
  simp only [pt] at o m
  unfold apartB
  by_cases h1 : nx ps k = i
  · rw [decide_eq_true h1, cnd_t, if_pos h1, o, o, C0_bool, C0_bool]
    cases onB (vv ps (nx ps i)) (vv ps k) (vv ps (nx ps k)) <;> rfl
  · rw [decide_eq_false h1, cnd_f, if_neg h1]
    by_cases h2 : nx ps i = k
    · rw [decide_eq_true h2, cnd_t, if_pos h2, o, o, C0_bool, C0_bool]
      cases onB (vv ps i) (vv ps k) (vv ps (nx ps k)) <;> rfl
    · rw [decide_eq_false h2, cnd_f, if_neg h2, m, C0_bool])
def pairB (ps : List Pt) (k i : Nat) : Bool := !decide (vv ps i = vv ps k) && apartB ps k i
/-- Does it hold of i, and of the next ones? -/
def upAll (f : Nat → Bool) : Nat → Nat → Bool
  | 0, _ => true
  | m + 1, i => f i && upAll f m (i + 1)
theorem upAll_iff (f : Nat → Bool) : ∀ (m i : Nat), upAll f m i = true ↔ ∀ j, i ≤ j → j < i + m → f j = true
  | 0, i => by simp only [upAll]; exact ⟨fun _ j h1 h2 => by omega, fun _ => trivial⟩
  | m + 1, i => by
    simp only [upAll, Bool.and_eq_true, upAll_iff f m (i + 1)]
    constructor
    · rintro ⟨h, h'⟩ j h1 h2
      by_cases hj : j = i
      · subst hj; exact h
      · exact h' j (by omega) (by omega)
    · intro h
      exact ⟨h i (Nat.le_refl _) (by omega), fun j h1 h2 => h j (by omega) (by omega)⟩
theorem pt_beq (p q : Pt) : (xor false ((p.1 == q.1) && ((p.2 == q.2) && true))) = decide (p = q) := by
  rw [Bool.false_xor, Bool.and_true, Bool.eq_iff_iff, Bool.and_eq_true, beq_iff_eq, beq_iff_eq, decide_eq_true_iff]
  exact ⟨fun h => Prod.ext h.1 h.2, fun h => by rw [h]; exact ⟨rfl, rfl⟩⟩
theorem simple1 (d : Nat) (ps : List Pt) (i : Nat) (hi : i < ps.length) (hl : ps.length ≤ 140737488355328) (kN : Int → Ans) (kR : Bool → Ans) : ∀ (m k f : Nat), k + m = i → m < f →
    L56_1 (d + 10) (ps.map pt) (i : Nat) kN kR f (k : Nat) = bif upAll (fun k => pairB ps k i) m k then kN ((i + 1 : Nat) : Int) else kR false := by
  intro m
  induction m with
  | zero =>
    intro k f hk hf
    obtain ⟨f, rfl⟩ : ∃ g, f = g + 1 := ⟨f - 1, by omega⟩
    rw [L56_1, decide_eq_false (by omega), cnd_f, X56_1_0, i64_small (by omega) (by omega)]; rfl
  | succ m ih =>
    intro k f hk hf
    obtain ⟨f, rfl⟩ : ∃ g, f = g + 1 := ⟨f - 1, by omega⟩
    rw [L56_1, decide_eq_true (by omega), cnd_t, decide_eq_true (by omega), cnd_t, vv_at hi]
    refine Eq.trans (pl_agg (by rfl) (by rfl)) ?_; refine Eq.trans (pl_int (by rfl)) ?_; refine Eq.trans (pl_int (by rfl)) ?_
    rw [decide_eq_true (by omega), cnd_t, vv_at (show k < ps.length by omega)]
    refine Eq.trans (pl_agg (by rfl) (by rfl)) ?_; refine Eq.trans (pl_int (by rfl)) ?_; refine Eq.trans (pl_int (by rfl)) ?_
    rw [pt_beq, s71 d ps k i (by omega) hi hl]
    simp only [upAll, pairB]
    by_cases he : vv ps i = vv ps k
    · rw [decide_eq_true he, cnd_t]; rfl
    · rw [decide_eq_false he, cnd_f, C0_bool]
      cases apartB ps k i
      · rfl
      · refine Eq.trans (pl_f (by rfl)) ?_
        rw [show IntKind.wrap .i64 ((k : Int) + 1) = ((k + 1 : Nat) : Int) by rw [i64_small (by omega) (by omega)]; rfl, ih (k + 1) f (by omega) (by omega)]
        simp only [Bool.not_false, Bool.true_and]
        rfl
theorem simple0 (d : Nat) (ps : List Pt) (hl : ps.length ≤ 140737488355328) : ∀ (m i f : Nat), i + m = ps.length → m < f →
    L56_0 (d + 10) (ps.map pt) f (i : Nat) = some (.bool (upAll (fun i => upAll (fun k => pairB ps k i) i 0) m i)) := by
  intro m
  induction m with
  | zero =>
    intro i f hk hf
    obtain ⟨f, rfl⟩ : ∃ g, f = g + 1 := ⟨f - 1, by omega⟩
    rw [L56_0, decide_eq_false (by rw [pmap_len]; omega), cnd_f]; rfl
  | succ m ih =>
    intro i f hk hf
    obtain ⟨f, rfl⟩ : ∃ g, f = g + 1 := ⟨f - 1, by omega⟩
    rw [L56_0, decide_eq_true (by rw [pmap_len]; omega), cnd_t]
    refine (simple1 d ps i (by omega) hl _ _ i 0 _ (by omega) (by omega)).trans ?_
    rw [ih (i + 1) f (by omega) (by omega)]
    simp only [upAll]
    cases upAll (fun k => pairB ps k i) i 0 <;> rfl
/-- Two rows of pairs are one. -/
theorem pairs_two (g : Nat → Nat → Bool) (n : Nat) : upAll (fun i => upAll (fun k => g k i) i 0) n 0 = upAll (fun k => upAll (fun i => g k i) (n - k - 1) (k + 1)) n 0 := by
  rw [Bool.eq_iff_iff]
  simp only [upAll_iff]
  constructor
  · intro h k _ h2 i h3 h4; exact h i (by omega) (by omega) k (by omega) (by omega)
  · intro h i _ h2 k h3 h4; exact h k (by omega) (by omega) i (by omega) (by omega)
end Go.Proofs.Ytjblhppbjebagaa.AE

namespace Go.Proofs.Ytjblhppbjebagaa.AE
set_option linter.unusedVariables false
set_option linter.unusedSimpArgs false
set_option linter.constructorNameAsVariable false
open Go Go.Proofs.Ytjblhppbjebagaa.Geo

def fiG (g : Pt → Bool) : List Pt → Int → Int
  | [], _ => -1
  | p :: l, i => bif g p then i else fiG g l (i + 1)
theorem fiG_any (g : Pt → Bool) (ps : List Pt) : ∀ i : Int, 0 ≤ i → decide (fiG g ps i ≥ 0) = ps.any g := by
  induction ps with
  | nil => intro i hi; simp [fiG]
  | cons p l ih =>
    intro i hi
    have h := ih (i + 1) (by omega)
    have e : ∀ b : Bool, decide ((bif b then i else fiG g l (i + 1)) ≥ 0) = (b || l.any g) := fun b => by
      match b with
      | false => exact h
      | true => exact decide_eq_true hi
    exact e (g p)
theorem s53f70 (d : Nat) (g : Pt → Bool) (ps : List Pt) (hl : ps.length ≤ 140737488355328) (hg : ∀ p ∈ ps, pcall M d 70 [pt p] = some (.bool (g p))) : ∀ (l2 : List Pt) (i f : Nat), ps.drop i = l2 → l2.length < f →
    L53f70_0 d (ps.map pt) f (i : Nat) = some (.int .i64 (fiG g l2 (i : Nat))) := by
  intro l2
  induction l2 with
  | nil =>
    intro i f hd hf
    obtain ⟨f, rfl⟩ : ∃ m, f = m + 1 := ⟨f - 1, by omega⟩
    have : ps.length ≤ i := List.drop_eq_nil_iff.mp hd
    rw [L53f70_0, decide_eq_false (by rw [pmap_len]; omega), cnd_f]; rfl
  | cons p l2 ih =>
    intro i f hd hf
    obtain ⟨f, rfl⟩ : ∃ m, f = m + 1 := ⟨f - 1, by simp at hf; omega⟩
    have hi : i < ps.length := by
      rcases Nat.lt_or_ge i ps.length with h | h
      · exact h
      · rw [List.drop_eq_nil_of_le h] at hd; cases hd
    have hp : ps[i] = p := by have := List.drop_eq_getElem_cons hi; rw [hd] at this; exact (List.cons.inj this).1.symm
    have hd2 : ps.drop (i + 1) = l2 := by have := List.drop_eq_getElem_cons hi; rw [hd] at this; exact (List.cons.inj this).2.symm
    have hg' := hg ps[i] (List.getElem_mem _)
    simp only [pt] at hg'
    rw [L53f70_0, decide_eq_true (by rw [pmap_len]; omega), cnd_t, decide_eq_true (by omega), cnd_t, pts_at hi]
    refine Eq.trans (pl_agg (by rfl) (by rfl)) ?_; refine Eq.trans (pl_int (by rfl)) ?_; refine Eq.trans (pl_int (by rfl)) ?_
    rw [hg', C0_bool, hp]
    simp only [fiG]
    cases g p
    · refine Eq.trans (pl_f (by rfl)) ?_
      rw [show IntKind.wrap .i64 ((i : Int) + 1) = ((i + 1 : Nat) : Int) by rw [IntKind.wrap_i64]; omega]
      exact (ih (i + 1) f hd2 (by simp at hf; omega)).trans (by simp)
    · rfl
theorem s40f70 (d : Nat) (g : Pt → Bool) (ps : List Pt) (hl : ps.length ≤ 140737488355328) (hg : ∀ p ∈ ps, pcall M d 70 [pt p] = some (.bool (g p))) :
    pcall M (d + 2) 40 [.lst (ps.map pt), .fn 70 [] []] = some (.bool (ps.any g)) := told (r40f70 C0 (d + 1) _ .nilp) (by
  have h : pcall M (d + 1) 53 [.lst (ps.map pt), .fn 70 [] []] = some (.int .i64 (fiG g ps 0)) :=
    told (q53f70 d (ps.map pt) .nilp) (s53f70 d g ps hl hg ps 0 _ rfl (by omega))
  rw [h, C0_int, fiG_any g ps 0 (by decide)])
theorem s53f57 (d : Nat) (g : Pt → Bool) (ps : List Pt) (hl : ps.length ≤ 140737488355328) (hg : ∀ p ∈ ps, pcall M d 57 [pt p] = some (.bool (g p))) : ∀ (l2 : List Pt) (i f : Nat), ps.drop i = l2 → l2.length < f →
    L53f57_0 d (ps.map pt) f (i : Nat) = some (.int .i64 (fiG g l2 (i : Nat))) := by
  intro l2
  induction l2 with
  | nil =>
    intro i f hd hf
    obtain ⟨f, rfl⟩ : ∃ m, f = m + 1 := ⟨f - 1, by omega⟩
    have : ps.length ≤ i := List.drop_eq_nil_iff.mp hd
    rw [L53f57_0, decide_eq_false (by rw [pmap_len]; omega), cnd_f]; rfl
  | cons p l2 ih =>
    intro i f hd hf
    obtain ⟨f, rfl⟩ : ∃ m, f = m + 1 := ⟨f - 1, by simp at hf; omega⟩
    have hi : i < ps.length := by
      rcases Nat.lt_or_ge i ps.length with h | h
      · exact h
      · rw [List.drop_eq_nil_of_le h] at hd; cases hd
    have hp : ps[i] = p := by have := List.drop_eq_getElem_cons hi; rw [hd] at this; exact (List.cons.inj this).1.symm
    have hd2 : ps.drop (i + 1) = l2 := by have := List.drop_eq_getElem_cons hi; rw [hd] at this; exact (List.cons.inj this).2.symm
    have hg' := hg ps[i] (List.getElem_mem _)
    simp only [pt] at hg'
    rw [L53f57_0, decide_eq_true (by rw [pmap_len]; omega), cnd_t, decide_eq_true (by omega), cnd_t, pts_at hi]
    refine Eq.trans (pl_agg (by rfl) (by rfl)) ?_; refine Eq.trans (pl_int (by rfl)) ?_; refine Eq.trans (pl_int (by rfl)) ?_
    rw [hg', C0_bool, hp]
    simp only [fiG]
    cases g p
    · refine Eq.trans (pl_f (by rfl)) ?_
      rw [show IntKind.wrap .i64 ((i : Int) + 1) = ((i + 1 : Nat) : Int) by rw [IntKind.wrap_i64]; omega]
      exact (ih (i + 1) f hd2 (by simp at hf; omega)).trans (by simp)
    · rfl
theorem s40f57 (d : Nat) (g : Pt → Bool) (ps : List Pt) (hl : ps.length ≤ 140737488355328) (hg : ∀ p ∈ ps, pcall M d 57 [pt p] = some (.bool (g p))) :
    pcall M (d + 2) 40 [.lst (ps.map pt), .fn 57 [] []] = some (.bool (ps.any g)) := told (r40f57 C0 (d + 1) _ .nilp) (by
  have h : pcall M (d + 1) 53 [.lst (ps.map pt), .fn 57 [] []] = some (.int .i64 (fiG g ps 0)) :=
    told (q53f57 d (ps.map pt) .nilp) (s53f57 d g ps hl hg ps 0 _ rfl (by omega))
  rw [h, C0_int, fiG_any g ps 0 (by decide)])
theorem s70 (d : Nat) (p : Pt) : pcall M (d + 3) 70 [pt p] = some (.bool (!okb p)) := told (r70 C0 (d + 2) _ _) (by
  have := s35 d p
  simp only [pt] at this
  rw [this, C0_bool]; rfl)
/-- Is a corner too far? -/
def farB (p : Pt) : Bool := !decide (-1073741824 ≤ p.1 ∧ p.1 ≤ 1073741824 ∧ -1073741824 ≤ p.2 ∧ p.2 ≤ 1073741824)
theorem s57 (d : Nat) (p : Pt) (h : OkP p) : pcall M (d + 1) 57 [pt p] = some (.bool (farB p)) := told (r57 C0 d _ _) (by
  obtain ⟨⟨h1, h2⟩, h3, h4⟩ := h
  rw [i64_small (n := 0 - p.1) (by omega) (by omega), i64_small (n := 0 - p.2) (by omega) (by omega)]
  congr 2
  rw [Bool.eq_iff_iff]
  unfold farB
  simp only [decide_eq_true_iff, Bool.not_eq_true', decide_eq_false_iff_not]
  split <;> split <;> split <;> omega)
def allPairs (ps : List Pt) : Bool := upAll (fun i => upAll (fun k => pairB ps k i) i 0) ps.length 0
def simpleB (ps : List Pt) : Bool := decide (3 ≤ ps.length) && (decide (ps.length ≤ 8) && (ps.all okb && allPairs ps))
def rightB (ps : List Pt) : Bool := simpleB ps && !ps.any farB
theorem any_not (ps : List Pt) : (ps.any fun p => !okb p) = !ps.all okb := by
  induction ps with
  | nil => rfl
  | cons p l ih => simp only [List.any_cons, List.all_cons, ih, Bool.not_and]
theorem s56 (d : Nat) (ps : List Pt) (hl : ps.length ≤ 140737488355328) : pcall M (d + 11) 56 [.lst (ps.map pt)] = some (.bool (simpleB ps)) := told (q56 (d + 10) _) (by
  have hc := s40f70 (d + 8) (fun p => !okb p) ps hl (fun p _ => s70 (d + 5) p)
  have h0 := simple0 d ps hl ps.length 0 1000000000000000000 (by omega) (by omega)
  rw [hc, C0_bool, any_not, pmap_len, show (0 : Int) = ((0 : Nat) : Int) from rfl, h0]
  unfold simpleB
  by_cases h1 : 3 ≤ ps.length
  · rw [decide_eq_false (by omega), cnd_f, decide_eq_true h1]
    by_cases h2 : ps.length ≤ 8
    · rw [decide_eq_false (by omega), cnd_f, decide_eq_true h2]
      cases ps.all okb <;> rfl
    · rw [decide_eq_true (by omega), cnd_t, decide_eq_false h2]; rfl
  · rw [decide_eq_true (by omega), cnd_t, decide_eq_false h1]; rfl)
theorem simple_ok {ps : List Pt} (h : simpleB ps = true) : 3 ≤ ps.length ∧ ps.length ≤ 8 ∧ ∀ p ∈ ps, OkP p := by
  unfold simpleB at h
  simp only [Bool.and_eq_true, decide_eq_true_iff, List.all_eq_true, okb_t] at h
  exact ⟨h.1, h.2.1, h.2.2.1⟩
theorem s43 (d : Nat) (ps : List Pt) (hl : ps.length ≤ 140737488355328) : pcall M (d + 12) 43 [.lst (ps.map pt)] = some (.bool (rightB ps)) := told (r43 C0 (d + 11) _) (by
  rw [s56 d ps hl, C0_bool]
  unfold rightB
  cases hs : simpleB ps
  · rfl
  · have hc := s40f57 (d + 9) farB ps hl (fun p hp => s57 (d + 8) p ((simple_ok hs).2.2 p hp))
    rw [hc, cnd_t, C0_bool]; rfl)
end Go.Proofs.Ytjblhppbjebagaa.AE

namespace Go.Proofs.Ytjblhppbjebagaa.AE
set_option linter.unusedVariables false
set_option linter.unusedSimpArgs false
set_option linter.constructorNameAsVariable false
open Go Go.Proofs.Ytjblhppbjebagaa.Geo

theorem nx_up {ps : List Pt} {k i : Nat} (hk : k < i) (hi : i < ps.length) : nx ps k = k + 1 := Nat.mod_eq_of_lt (by omega)
theorem nx_back {ps : List Pt} {k i : Nat} (hk : k < i) (hi : i < ps.length) : nx ps i = k ↔ k = 0 ∧ i = ps.length - 1 := by
  unfold nx
  by_cases h : i + 1 = ps.length
  · rw [h, Nat.mod_self]; omega
  · rw [Nat.mod_eq_of_lt (by omega)]; omega
theorem rsimple2 (d : Nat) (ps : List Pt) (k : Nat) (hl : ps.length ≤ 140737488355328) (kN : Int → Heap → Ans) (kR : Bool → Heap → Ans) (rN rR : Ans) (hN : ∀ H, kN ((k + 1 : Nat) : Int) H = rN) (hR : ∀ H, kR false H = rR) :
    ∀ (m i f : Nat) (H : Heap), i + m = ps.length → m < f → k < i →
    L45_2 (d + 7) (ps.map pt) (ps.length : Nat) (k : Nat) kN kR f (i : Nat) H = bif upAll (fun i => pairB ps k i) m i then rN else rR := by
  intro m
  induction m with
  | zero =>
    intro i f H hi hf hk
    obtain ⟨f, rfl⟩ : ∃ g, f = g + 1 := ⟨f - 1, by omega⟩
    rw [L45_2, decide_eq_false (by omega), cnd_f, X45_2_0, i64_small (by omega) (by omega)]
    exact hN H
  | succ m ih =>
    intro i f H hi hf hk
    obtain ⟨f, rfl⟩ : ∃ g, f = g + 1 := ⟨f - 1, by omega⟩
    have hkl : k < ps.length := by omega
    have hil : i < ps.length := by omega
    have o := fun p q r => s54 (d + 1) p q r
    have mt := s42 d (vv ps k) (vv ps (nx ps k)) (vv ps i) (vv ps (nx ps i))
    simp only [pt] at o mt
    have w1 : IntKind.wrap .i64 ((i : Int) + 1) = ((i + 1 : Nat) : Int) := by rw [i64_small (by omega) (by omega)]; rfl
    have w2 : IntKind.wrap .i64 ((k : Int) + 1) = ((k + 1 : Nat) : Int) := by rw [i64_small (by omega) (by omega)]; rfl
    have w3 : IntKind.wrap .i64 ((ps.length : Int) - 1) = ((ps.length - 1 : Nat) : Int) := by rw [i64_small (by omega) (by omega)]; omega
    rw [L45_2, decide_eq_true (by omega), cnd_t]
    refine Eq.trans (ix_lst (by omega) (vv_at hkl) (by rfl)) ?_
    refine Eq.trans (hop_eq (by rfl)) ?_; refine Eq.trans (pl_agg (by rfl) (by rfl)) ?_; refine Eq.trans (pl_int (by rfl)) ?_; refine Eq.trans (pl_int (by rfl)) ?_
    refine Eq.trans (snp_free (by rfl)) ?_
    refine Eq.trans (pl_agg (s58 (d + 6) ps k hkl hl) (by rfl)) ?_
    refine Eq.trans (pl_int (by rfl)) ?_; refine Eq.trans (pl_int (by rfl)) ?_; refine Eq.trans (pl_len (by rfl)) ?_
    refine Eq.trans (ix_lst (by omega) (vv_at hil) (by rfl)) ?_
    refine Eq.trans (hop_eq (by rfl)) ?_; refine Eq.trans (pl_agg (by rfl) (by rfl)) ?_; refine Eq.trans (pl_int (by rfl)) ?_; refine Eq.trans (pl_int (by rfl)) ?_
    refine Eq.trans (snp_free (by rfl)) ?_
    refine Eq.trans (pl_agg (s58 (d + 6) ps i hil hl) (by rfl)) ?_
    refine Eq.trans (pl_int (by rfl)) ?_; refine Eq.trans (pl_int (by rfl)) ?_; refine Eq.trans (pl_len (by rfl)) ?_
    refine Eq.trans al_n ?_; refine Eq.trans al_s ?_; refine Eq.trans al_s ?_; refine Eq.trans al_s ?_
    refine Eq.trans (C0_disj (by rfl)) ?_
    refine Eq.trans (st_s (by rfl) (by rfl) (by rfl)) ?_
    refine Eq.trans (C0_disj (by rfl)) ?_
    refine Eq.trans (st_s (by rfl) (by rfl) (by rfl)) ?_; refine Eq.trans (st_s (by rfl) (by rfl) (by rfl)) ?_; refine Eq.trans (st_s (by rfl) (by rfl) (by rfl)) ?_; refine Eq.trans (ld_s (by rfl) (by rfl) (by rfl)) ?_; refine Eq.trans (pl_agg (by rfl) (by rfl)) ?_; refine Eq.trans (pl_int (by rfl)) ?_; refine Eq.trans (pl_int (by rfl)) ?_; refine Eq.trans (ld_s (by rfl) (by rfl) (by rfl)) ?_; refine Eq.trans (pl_agg (by rfl) (by rfl)) ?_; refine Eq.trans (pl_int (by rfl)) ?_; refine Eq.trans (pl_int (by rfl)) ?_
    rw [pt_beq, w1, w2, w3, cast_beq, cast_beq, show ((k : Int) == 0) = decide (k = 0) from cast_beq k 0]
    simp only [upAll, pairB, apartB]
    by_cases he : vv ps i = vv ps k
    · rw [decide_eq_true he.symm, cnd_t, decide_eq_true he]; exact hR _
    · rw [decide_eq_false (fun h => he h.symm), cnd_f, decide_eq_false he]
      by_cases h1 : i = k + 1
      · rw [decide_eq_true h1, cnd_t, if_pos (by rw [nx_up hk hil, h1])]
        refine Eq.trans (ld_s (by rfl) (by rfl) (by rfl)) ?_; refine Eq.trans (pl_agg (by rfl) (by rfl)) ?_; refine Eq.trans (pl_int (by rfl)) ?_; refine Eq.trans (pl_int (by rfl)) ?_; refine Eq.trans (ld_s (by rfl) (by rfl) (by rfl)) ?_; refine Eq.trans (pl_agg (by rfl) (by rfl)) ?_; refine Eq.trans (pl_int (by rfl)) ?_; refine Eq.trans (pl_int (by rfl)) ?_; refine Eq.trans (ld_s (by rfl) (by rfl) (by rfl)) ?_; refine Eq.trans (pl_agg (by rfl) (by rfl)) ?_; refine Eq.trans (pl_int (by rfl)) ?_; refine Eq.trans (pl_int (by rfl)) ?_
        refine Eq.trans (pl_bool (o (vv ps (nx ps i)) (vv ps k) (vv ps (nx ps k)))) ?_
        cases onB (vv ps (nx ps i)) (vv ps k) (vv ps (nx ps k))
        · refine Eq.trans (pl_f (by rfl)) ?_; refine Eq.trans (ld_s (by rfl) (by rfl) (by rfl)) ?_; refine Eq.trans (pl_agg (by rfl) (by rfl)) ?_; refine Eq.trans (pl_int (by rfl)) ?_; refine Eq.trans (pl_int (by rfl)) ?_; refine Eq.trans (ld_s (by rfl) (by rfl) (by rfl)) ?_; refine Eq.trans (pl_agg (by rfl) (by rfl)) ?_; refine Eq.trans (pl_int (by rfl)) ?_; refine Eq.trans (pl_int (by rfl)) ?_; refine Eq.trans (ld_s (by rfl) (by rfl) (by rfl)) ?_; refine Eq.trans (pl_agg (by rfl) (by rfl)) ?_; refine Eq.trans (pl_int (by rfl)) ?_; refine Eq.trans (pl_int (by rfl)) ?_
          refine Eq.trans (pl_bool (o (vv ps k) (vv ps i) (vv ps (nx ps i)))) ?_
          cases onB (vv ps k) (vv ps i) (vv ps (nx ps i))
          · refine Eq.trans (pl_f (by rfl)) ?_
            exact ih (i + 1) f _ (by omega) (by omega) (by omega)
          · exact hR _
        · exact hR _
      · rw [decide_eq_false h1, cnd_f, if_neg (by rw [nx_up hk hil]; omega)]
        by_cases h2 : k = 0
        · rw [decide_eq_true h2, cnd_t]
          by_cases h3 : i = ps.length - 1
          · rw [decide_eq_true h3, cnd_t, if_pos ((nx_back hk hil).mpr ⟨h2, h3⟩)]
            refine Eq.trans (ld_s (by rfl) (by rfl) (by rfl)) ?_; refine Eq.trans (pl_agg (by rfl) (by rfl)) ?_; refine Eq.trans (pl_int (by rfl)) ?_; refine Eq.trans (pl_int (by rfl)) ?_; refine Eq.trans (ld_s (by rfl) (by rfl) (by rfl)) ?_; refine Eq.trans (pl_agg (by rfl) (by rfl)) ?_; refine Eq.trans (pl_int (by rfl)) ?_; refine Eq.trans (pl_int (by rfl)) ?_; refine Eq.trans (ld_s (by rfl) (by rfl) (by rfl)) ?_; refine Eq.trans (pl_agg (by rfl) (by rfl)) ?_; refine Eq.trans (pl_int (by rfl)) ?_; refine Eq.trans (pl_int (by rfl)) ?_
            refine Eq.trans (pl_bool (o (vv ps i) (vv ps k) (vv ps (nx ps k)))) ?_
            cases onB (vv ps i) (vv ps k) (vv ps (nx ps k))
            · refine Eq.trans (pl_f (by rfl)) ?_; refine Eq.trans (ld_s (by rfl) (by rfl) (by rfl)) ?_; refine Eq.trans (pl_agg (by rfl) (by rfl)) ?_; refine Eq.trans (pl_int (by rfl)) ?_; refine Eq.trans (pl_int (by rfl)) ?_; refine Eq.trans (ld_s (by rfl) (by rfl) (by rfl)) ?_; refine Eq.trans (pl_agg (by rfl) (by rfl)) ?_; refine Eq.trans (pl_int (by rfl)) ?_; refine Eq.trans (pl_int (by rfl)) ?_; refine Eq.trans (ld_s (by rfl) (by rfl) (by rfl)) ?_; refine Eq.trans (pl_agg (by rfl) (by rfl)) ?_; refine Eq.trans (pl_int (by rfl)) ?_; refine Eq.trans (pl_int (by rfl)) ?_
              refine Eq.trans (pl_bool (o (vv ps (nx ps k)) (vv ps i) (vv ps (nx ps i)))) ?_
              cases onB (vv ps (nx ps k)) (vv ps i) (vv ps (nx ps i))
              · refine Eq.trans (pl_f (by rfl)) ?_
                exact ih (i + 1) f _ (by omega) (by omega) (by omega)
              · exact hR _
            · exact hR _
          · rw [decide_eq_false h3, cnd_f, if_neg (fun h => h3 ((nx_back hk hil).mp h).2)]
            refine Eq.trans (ld_s (by rfl) (by rfl) (by rfl)) ?_; refine Eq.trans (pl_agg (by rfl) (by rfl)) ?_; refine Eq.trans (pl_int (by rfl)) ?_; refine Eq.trans (pl_int (by rfl)) ?_; refine Eq.trans (ld_s (by rfl) (by rfl) (by rfl)) ?_; refine Eq.trans (pl_agg (by rfl) (by rfl)) ?_; refine Eq.trans (pl_int (by rfl)) ?_; refine Eq.trans (pl_int (by rfl)) ?_; refine Eq.trans (ld_s (by rfl) (by rfl) (by rfl)) ?_; refine Eq.trans (pl_agg (by rfl) (by rfl)) ?_; refine Eq.trans (pl_int (by rfl)) ?_; refine Eq.trans (pl_int (by rfl)) ?_; refine Eq.trans (ld_s (by rfl) (by rfl) (by rfl)) ?_; refine Eq.trans (pl_agg (by rfl) (by rfl)) ?_; refine Eq.trans (pl_int (by rfl)) ?_; refine Eq.trans (pl_int (by rfl)) ?_
            refine Eq.trans (pl_bool mt) ?_
            cases meetB (vv ps k) (vv ps (nx ps k)) (vv ps i) (vv ps (nx ps i))
            · refine Eq.trans (pl_f (by rfl)) ?_
              exact ih (i + 1) f _ (by omega) (by omega) (by omega)
            · exact hR _
        · rw [decide_eq_false h2, cnd_f, if_neg (fun h => h2 ((nx_back hk hil).mp h).1)]
          refine Eq.trans (ld_s (by rfl) (by rfl) (by rfl)) ?_; refine Eq.trans (pl_agg (by rfl) (by rfl)) ?_; refine Eq.trans (pl_int (by rfl)) ?_; refine Eq.trans (pl_int (by rfl)) ?_; refine Eq.trans (ld_s (by rfl) (by rfl) (by rfl)) ?_; refine Eq.trans (pl_agg (by rfl) (by rfl)) ?_; refine Eq.trans (pl_int (by rfl)) ?_; refine Eq.trans (pl_int (by rfl)) ?_; refine Eq.trans (ld_s (by rfl) (by rfl) (by rfl)) ?_; refine Eq.trans (pl_agg (by rfl) (by rfl)) ?_; refine Eq.trans (pl_int (by rfl)) ?_; refine Eq.trans (pl_int (by rfl)) ?_; refine Eq.trans (ld_s (by rfl) (by rfl) (by rfl)) ?_; refine Eq.trans (pl_agg (by rfl) (by rfl)) ?_; refine Eq.trans (pl_int (by rfl)) ?_; refine Eq.trans (pl_int (by rfl)) ?_
          refine Eq.trans (pl_bool mt) ?_
          cases meetB (vv ps k) (vv ps (nx ps k)) (vv ps i) (vv ps (nx ps i))
          · refine Eq.trans (pl_f (by rfl)) ?_
            exact ih (i + 1) f _ (by omega) (by omega) (by omega)
          · exact hR _
theorem rsimple1 (d : Nat) (ps : List Pt) (hl : ps.length ≤ 140737488355328) : ∀ (m k f : Nat) (H : Heap), k + m = ps.length → m < f →
    L45_1 (d + 7) (ps.map pt) (ps.length : Nat) f (k : Nat) H = some (.bool (upAll (fun k => upAll (fun i => pairB ps k i) (ps.length - k - 1) (k + 1)) m k)) := by
  intro m
  induction m with
  | zero =>
    intro k f H hk hf
    obtain ⟨f, rfl⟩ : ∃ g, f = g + 1 := ⟨f - 1, by omega⟩
    rw [L45_1, decide_eq_false (by omega), cnd_f]; rfl
  | succ m ih =>
    intro k f H hk hf
    obtain ⟨f, rfl⟩ : ∃ g, f = g + 1 := ⟨f - 1, by omega⟩
    rw [L45_1, decide_eq_true (by omega), cnd_t, show IntKind.wrap .i64 ((k : Int) + 1) = ((k + 1 : Nat) : Int) by rw [i64_small (by omega) (by omega)]; rfl]
    refine (rsimple2 d ps k hl _ _ _ (some (.bool false)) (fun H => ih (k + 1) f H (by omega) (by omega)) (fun H => rfl) (ps.length - k - 1) (k + 1) _ H (by omega) (by omega) (by omega)).trans ?_
    simp only [upAll]
    cases upAll (fun i => pairB ps k i) (ps.length - k - 1) (k + 1) <;> rfl
theorem rsimple0 (d : Nat) (ps : List Pt) (hl : ps.length ≤ 140737488355328) : ∀ (l2 : List Pt) (i f : Nat) (H : Heap), ps.drop i = l2 → l2.length < f →
    L45_0 (d + 7) (ps.map pt) (ps.length : Nat) f (i : Nat) H = some (.bool (l2.all okb && allPairs ps)) := by
  intro l2
  induction l2 with
  | nil =>
    intro i f H hd hf
    obtain ⟨f, rfl⟩ : ∃ m, f = m + 1 := ⟨f - 1, by omega⟩
    have : ps.length ≤ i := List.drop_eq_nil_iff.mp hd
    rw [L45_0, decide_eq_false (by omega), cnd_f, X45_0_0]
    refine (rsimple1 d ps hl ps.length 0 1000000000000000000 H (by omega) (by omega)).trans ?_
    unfold allPairs
    rw [pairs_two]; rfl
  | cons p l2 ih =>
    intro i f H hd hf
    obtain ⟨f, rfl⟩ : ∃ m, f = m + 1 := ⟨f - 1, by simp at hf; omega⟩
    have hi : i < ps.length := by
      rcases Nat.lt_or_ge i ps.length with h | h
      · exact h
      · rw [List.drop_eq_nil_of_le h] at hd; cases hd
    have hp : ps[i] = p := by have := List.drop_eq_getElem_cons hi; rw [hd] at this; exact (List.cons.inj this).1.symm
    have hd2 : ps.drop (i + 1) = l2 := by have := List.drop_eq_getElem_cons hi; rw [hd] at this; exact (List.cons.inj this).2.symm
    have hr := s26 (d + 6) ps[i]
    simp only [pt] at hr
    rw [L45_0, decide_eq_true (by omega), cnd_t]
    refine Eq.trans (ix_lst (by omega) (pts_at hi) (by rfl)) ?_
    refine Eq.trans (hop_eq (by rfl)) ?_; refine Eq.trans (pl_agg (by rfl) (by rfl)) ?_; refine Eq.trans (pl_int (by rfl)) ?_; refine Eq.trans (pl_int (by rfl)) ?_
    rw [hr, C0_bool, hp, List.all_cons]
    change cnd (!okb p) _ _ = _
    cases okb p
    · rfl
    · refine Eq.trans (pl_f (by rfl)) ?_
      rw [show IntKind.wrap .i64 ((i : Int) + 1) = ((i + 1 : Nat) : Int) by rw [IntKind.wrap_i64]; omega, ih (i + 1) f _ hd2 (by simp at hf; omega), Bool.true_and]
theorem s45 (d : Nat) (ps : List Pt) (hl : ps.length ≤ 140737488355328) : pcall M (d + 8) 45 [.lst (ps.map pt)] = some (.bool (simpleB ps)) := told (q45 (d + 7) _) (by
  refine Eq.trans (hop_eq (by rfl)) ?_; refine Eq.trans (pl_int (by rfl)) ?_
  have h0 := rsimple0 d ps hl ps 0 1000000000000000000 [] rfl (by omega)
  rw [pmap_len]
  unfold simpleB
  by_cases h1 : 3 ≤ ps.length
  · rw [decide_eq_false (by omega), cnd_f, decide_eq_true h1]
    by_cases h2 : ps.length ≤ 8
    · rw [decide_eq_false (by omega), cnd_f, decide_eq_true h2]
      exact h0
    · rw [decide_eq_true (by omega), cnd_t, decide_eq_false h2]; rfl
  · rw [decide_eq_true (by omega), cnd_t, decide_eq_false h1]; rfl)
theorem rright0 (d : Nat) (ps : List Pt) (h8 : ps.length ≤ 8) : ∀ (l2 : List Pt) (i f : Nat), ps.drop i = l2 → l2.length < f →
    L29_0 (d + 8) (ps.map pt) f (i : Nat) = some (.bool (!l2.any farB && simpleB ps)) := by
  intro l2
  induction l2 with
  | nil =>
    intro i f hd hf
    obtain ⟨f, rfl⟩ : ∃ m, f = m + 1 := ⟨f - 1, by omega⟩
    have : ps.length ≤ i := List.drop_eq_nil_iff.mp hd
    rw [L29_0, pmap_len, decide_eq_false (by omega), cnd_f, X29_0_0, s45 d ps (by omega), C0_bool]; rfl
  | cons p l2 ih =>
    intro i f hd hf
    obtain ⟨f, rfl⟩ : ∃ m, f = m + 1 := ⟨f - 1, by simp at hf; omega⟩
    have hi : i < ps.length := by
      rcases Nat.lt_or_ge i ps.length with h | h
      · exact h
      · rw [List.drop_eq_nil_of_le h] at hd; cases hd
    have hp : ps[i] = p := by have := List.drop_eq_getElem_cons hi; rw [hd] at this; exact (List.cons.inj this).1.symm
    have hd2 : ps.drop (i + 1) = l2 := by have := List.drop_eq_getElem_cons hi; rw [hd] at this; exact (List.cons.inj this).2.symm
    rw [L29_0, pmap_len, decide_eq_true (by omega), cnd_t, decide_eq_true (by omega), cnd_t, decide_eq_true (by omega), cnd_t, pts_at hi, hp]
    refine Eq.trans (pl_agg (by rfl) (by rfl)) ?_; refine Eq.trans (pl_int (by rfl)) ?_; refine Eq.trans (pl_int (by rfl)) ?_
    rw [List.any_cons]
    by_cases c1 : p.1 < -1073741824
    · rw [decide_eq_true c1, cnd_t, show farB p = true by unfold farB; rw [decide_eq_false (by omega)]; rfl]; rfl
    · rw [decide_eq_false c1, cnd_f, cnd_t]
      refine Eq.trans (pl_agg (by rfl) (by rfl)) ?_; refine Eq.trans (pl_int (by rfl)) ?_; refine Eq.trans (pl_int (by rfl)) ?_
      by_cases c2 : p.1 > 1073741824
      · rw [decide_eq_true c2, cnd_t, show farB p = true by unfold farB; rw [decide_eq_false (by omega)]; rfl]; rfl
      · rw [decide_eq_false c2, cnd_f, cnd_t]
        refine Eq.trans (pl_agg (by rfl) (by rfl)) ?_; refine Eq.trans (pl_int (by rfl)) ?_; refine Eq.trans (pl_int (by rfl)) ?_
        by_cases c3 : p.2 < -1073741824
        · rw [decide_eq_true c3, cnd_t, show farB p = true by unfold farB; rw [decide_eq_false (by omega)]; rfl]; rfl
        · rw [decide_eq_false c3, cnd_f, cnd_t]
          refine Eq.trans (pl_agg (by rfl) (by rfl)) ?_; refine Eq.trans (pl_int (by rfl)) ?_; refine Eq.trans (pl_int (by rfl)) ?_
          by_cases c4 : p.2 > 1073741824
          · rw [decide_eq_true c4, cnd_t, show farB p = true by unfold farB; rw [decide_eq_false (by omega)]; rfl]; rfl
          · rw [decide_eq_false c4, cnd_f, show farB p = false by unfold farB; rw [decide_eq_true (by omega)]; rfl, show IntKind.wrap .i64 ((i : Int) + 1) = ((i + 1 : Nat) : Int) by rw [IntKind.wrap_i64]; omega,
              ih (i + 1) f hd2 (by simp at hf; omega), Bool.false_or]
theorem s29 (d : Nat) (ps : List Pt) (hl : ps.length ≤ 140737488355328) : pcall M (d + 9) 29 [.lst (ps.map pt)] = some (.bool (rightB ps)) := told (q29 (d + 8) _) (by
  by_cases h8 : ps.length ≤ 8
  · refine (rright0 d ps h8 ps 0 1000000000000000000 rfl (by omega)).trans ?_
    rw [Bool.and_comm]; rfl
  · have : rightB ps = false := by
      rw [← Bool.not_eq_true]; intro h
      unfold rightB at h
      exact h8 (simple_ok (Bool.and_eq_true_iff.mp h).1).2.1
    rw [this, show (1000000000000000000 : Nat) = 999999999999999999 + 1 from rfl, L29_0, pmap_len, decide_eq_true (by omega), cnd_t, decide_eq_false (by omega), cnd_f, X29_0_0, s45 d ps hl, C0_bool]
    congr 2
    rw [← Bool.not_eq_true]; intro h; exact h8 (simple_ok h).2.1)
end Go.Proofs.Ytjblhppbjebagaa.AE

namespace Go.Proofs.Ytjblhppbjebagaa.Geo

/-- The ray from p to greater X meets the edge, told from its lower end (that end counts, the higher one doesn't). -/
def CrsU (p a b : Pt) : Prop := a.2 ≤ p.2 ∧ p.2 < b.2 ∧ TN a b p > 0
instance (p a b : Pt) : Decidable (CrsU p a b) := by unfold CrsU; infer_instance
def Crs (p a b : Pt) : Prop := CrsU p a b ∨ CrsU p b a
instance (p a b : Pt) : Decidable (Crs p a b) := by unfold Crs; infer_instance
theorem Crs_swap {p a b : Pt} : Crs p b a ↔ Crs p a b := Or.comm
/-- Between both rays, to the right of the way from p up to q. -/
def Rgt (p q v : Pt) : Prop := p.2 < v.2 ∧ v.2 ≤ q.2 ∧ TN p q v < 0
instance (p q v : Pt) : Decidable (Rgt p q v) := by unfold Rgt; infer_instance

theorem id_ab (a b p q v : Pt) (h : v = a ∨ v = b) : (b.2 - a.2) * TN p q v = TN a b p * (v.2 - q.2) - TN a b q * (v.2 - p.2) := by
  rcases h with rfl | rfl <;> (unfold TN; grind)
theorem pos_of_mul {x y : Int} (hy : 0 < y) (h : 0 < x * y) : 0 < x := by
  refine Int.not_le.1 fun c => ?_
  have := Int.mul_nonneg (show 0 ≤ -x by omega) (show 0 ≤ y by omega)
  rw [Int.neg_mul] at this; omega
theorem neg_of_mul {x y : Int} (hy : 0 < y) (h : x * y < 0) : x < 0 := by
  refine Int.not_le.1 fun c => ?_
  have := Int.mul_nonneg c (show 0 ≤ y by omega)
  omega
theorem mul_nn {x y : Int} (hx : x ≤ 0) (hy : y ≤ 0) : 0 ≤ x * y := by
  have := Int.mul_nonneg (show 0 ≤ -x by omega) (show 0 ≤ -y by omega)
  rwa [Int.neg_mul_neg] at this
theorem mul_np {x y : Int} (hx : x ≤ 0) (hy : 0 ≤ y) : x * y ≤ 0 := by
  have := Int.mul_nonneg (show 0 ≤ -x by omega) hy
  rw [Int.neg_mul] at this; omega
theorem mul_nn_pos {x y : Int} (hx : x < 0) (hy : y < 0) : 0 < x * y := by
  have := Int.mul_pos (show 0 < -x by omega) (show 0 < -y by omega)
  rwa [Int.neg_mul_neg] at this
theorem mul_np_neg {x y : Int} (hx : x < 0) (hy : 0 < y) : x * y < 0 := by
  have := Int.mul_pos (show 0 < -x by omega) hy
  rw [Int.neg_mul] at this; omega
theorem mul_pn_neg {x y : Int} (hx : 0 < x) (hy : y < 0) : x * y < 0 := by rw [Int.mul_comm]; exact mul_np_neg hy hx
theorem mul_pn {x y : Int} (hx : 0 ≤ x) (hy : y ≤ 0) : x * y ≤ 0 := by rw [Int.mul_comm]; exact mul_np hy hx

/-- On the line, and between in height where that isn't one height: on the way. -/
theorem On_of_height {p a b : Pt} (h : TN a b p = 0) (h1 : a.2 ≤ p.2) (h2 : p.2 ≤ b.2) (h3 : a.2 < b.2) : On p a b := by
  refine ⟨h, ?_⟩
  unfold TN at h
  unfold Btw
  have hx : (a.1 ≤ p.1 ∧ p.1 ≤ b.1) ∨ (b.1 ≤ p.1 ∧ p.1 ≤ a.1) := by
    have e1 : (b.2 - a.2) * (p.1 - a.1) = (b.1 - a.1) * (p.2 - a.2) := by omega
    have e2 : (b.2 - a.2) * (b.1 - p.1) = (b.1 - a.1) * (b.2 - p.2) := by
      have : (b.2 - a.2) * (b.1 - p.1) = (b.2 - a.2) * (b.1 - a.1) - (b.2 - a.2) * (p.1 - a.1) := by grind
      rw [this, e1]; grind
    rcases Int.le_total a.1 b.1 with c | c
    · left
      have n1 := Int.mul_nonneg (show 0 ≤ b.1 - a.1 by omega) (show 0 ≤ p.2 - a.2 by omega)
      have n2 := Int.mul_nonneg (show 0 ≤ b.1 - a.1 by omega) (show 0 ≤ b.2 - p.2 by omega)
      constructor
      · refine Int.not_lt.1 fun d => ?_
        have := mul_pn_neg (show 0 < b.2 - a.2 by omega) (show p.1 - a.1 < 0 by omega); omega
      · refine Int.not_lt.1 fun d => ?_
        have := mul_pn_neg (show 0 < b.2 - a.2 by omega) (show b.1 - p.1 < 0 by omega); omega
    · right
      have n1 := mul_np (show b.1 - a.1 ≤ 0 by omega) (show 0 ≤ p.2 - a.2 by omega)
      have n2 := mul_np (show b.1 - a.1 ≤ 0 by omega) (show 0 ≤ b.2 - p.2 by omega)
      constructor
      · refine Int.not_lt.1 fun d => ?_
        have := Int.mul_pos (show 0 < b.2 - a.2 by omega) (show 0 < b.1 - p.1 by omega); omega
      · refine Int.not_lt.1 fun d => ?_
        have := Int.mul_pos (show 0 < b.2 - a.2 by omega) (show 0 < p.1 - a.1 by omega); omega
  exact ⟨hx, Or.inl ⟨h1, h2⟩⟩

theorem Cross_of {a b p q : Pt} (h1 : (TN a b p < 0 ∧ TN a b q > 0) ∨ (TN a b p > 0 ∧ TN a b q < 0)) (h2 : (TN p q a < 0 ∧ TN p q b > 0) ∨ (TN p q a > 0 ∧ TN p q b < 0)) : Meet p q a b :=
  Or.inr (Or.inr (Or.inr (Or.inr ⟨sg_mul_neg.2 h2, sg_mul_neg.2 h1⟩)))

/-- THE EDGE AND THE WAY, the edge told from its lower end, the way from its lower one. -/
theorem parity_up (p q a b : Pt) (hpq : p.2 ≤ q.2) (hab : a.2 ≤ b.2) (hm : ¬ Meet p q a b) :
    ((CrsU p a b ↔ CrsU q a b) ↔ (Rgt p q a ↔ Rgt p q b)) := by
  have np : ¬ On p a b := fun h => hm (Or.inl h)
  have nq : ¬ On q a b := fun h => hm (Or.inr (Or.inl h))
  have na : ¬ On a p q := fun h => hm (Or.inr (Or.inr (Or.inl h)))
  have nb : ¬ On b p q := fun h => hm (Or.inr (Or.inr (Or.inr (Or.inl h))))
  have nc : ∀ (_ : (TN a b p < 0 ∧ TN a b q > 0) ∨ (TN a b p > 0 ∧ TN a b q < 0)) (_ : (TN p q a < 0 ∧ TN p q b > 0) ∨ (TN p q a > 0 ∧ TN p q b < 0)), False := fun h1 h2 => hm (Cross_of h1 h2)
  have ia := id_ab a b p q a (Or.inl rfl)
  have ib := id_ab a b p q b (Or.inr rfl)
  have ip := id_ab p q a b p (Or.inl rfl)
  have iq := id_ab p q a b q (Or.inr rfl)
  generalize hP : TN a b p = P at *
  generalize hQ : TN a b q = Q at *
  generalize hA : TN p q a = A at *
  generalize hB : TN p q b = B at *
  unfold CrsU Rgt
  rw [hP, hQ, hA, hB]
  by_cases c1 : b.2 ≤ p.2
  · -- both below
    constructor <;> intro _ <;> constructor <;> intro h <;> omega
  · by_cases c2 : q.2 < a.2
    · constructor <;> intro _ <;> constructor <;> intro h <;> omega
    · by_cases c3 : a.2 ≤ p.2
      · by_cases c4 : q.2 < b.2
        · -- below, above: the edge spans both heights
          have key : P > 0 ↔ Q > 0 := by
            constructor
            · intro h
              refine Int.not_le.1 fun h' => ?_
              by_cases h0 : Q = 0
              · exact nq (On_of_height (by rw [hQ]; exact h0) (by omega) (by omega) (by omega))
              · have h5 : Q < 0 := by omega
                have d1 := mul_pn (show 0 ≤ P by omega) (show a.2 - q.2 ≤ 0 by omega)
                have d2 := mul_nn (show Q ≤ 0 by omega) (show a.2 - p.2 ≤ 0 by omega)
                have d3 := Int.mul_pos h (show 0 < b.2 - q.2 by omega)
                have d4 := mul_np (show Q ≤ 0 by omega) (show 0 ≤ b.2 - p.2 by omega)
                have hb1 : 0 < B := pos_of_mul (show 0 < b.2 - a.2 by omega) (by rw [Int.mul_comm]; omega)
                by_cases h1 : A < 0
                · exact nc (Or.inr ⟨h, h5⟩) (Or.inl ⟨h1, hb1⟩)
                · -- a is on the line, at the way's one height
                  have : (b.2 - a.2) * A ≤ 0 := by omega
                  have hA0 : A = 0 := by
                    refine Int.le_antisymm (Int.not_lt.1 fun c => ?_) (by omega)
                    have := Int.mul_pos (show 0 < b.2 - a.2 by omega) c; omega
                  rw [hA0, Int.mul_zero] at ia
                  have e1 : a.2 = q.2 := by
                    refine Int.le_antisymm (by omega) (Int.not_lt.1 fun c => ?_)
                    have := mul_pn_neg h (show a.2 - q.2 < 0 by omega); omega
                  have hpq2 : p.2 = q.2 := by omega
                  refine na ⟨by rw [hA]; exact hA0, ?_⟩
                  -- p.1 < a.1 < q.1
                  unfold TN at hP hQ
                  rw [show p.2 - a.2 = 0 by omega, Int.mul_zero] at hP
                  rw [show q.2 - a.2 = 0 by omega, Int.mul_zero] at hQ
                  have x1 : p.1 < a.1 := by
                    refine Int.not_le.1 fun c => ?_
                    have := Int.mul_nonneg (show 0 ≤ b.2 - a.2 by omega) (show 0 ≤ p.1 - a.1 by omega); omega
                  have x2 : a.1 < q.1 := by
                    refine Int.not_le.1 fun c => ?_
                    have := mul_pn (show 0 ≤ b.2 - a.2 by omega) (show q.1 - a.1 ≤ 0 by omega); omega
                  unfold Btw; omega
            · intro h
              refine Int.not_le.1 fun h' => ?_
              by_cases h0 : P = 0
              · exact np (On_of_height (by rw [hP]; exact h0) (by omega) (by omega) (by omega))
              · have h5 : P < 0 := by omega
                have d1 := mul_nn (show P ≤ 0 by omega) (show a.2 - q.2 ≤ 0 by omega)
                have d2 := mul_pn (show 0 ≤ Q by omega) (show a.2 - p.2 ≤ 0 by omega)
                have d3 := mul_np_neg h5 (show 0 < b.2 - q.2 by omega)
                have d4 := Int.mul_nonneg (show 0 ≤ Q by omega) (show 0 ≤ b.2 - p.2 by omega)
                have hb1 : B < 0 := neg_of_mul (show 0 < b.2 - a.2 by omega) (by rw [Int.mul_comm]; omega)
                by_cases h1 : A > 0
                · exact nc (Or.inl ⟨h5, h⟩) (Or.inr ⟨h1, hb1⟩)
                · have : 0 ≤ (b.2 - a.2) * A := by omega
                  have hA0 : A = 0 := by
                    refine Int.le_antisymm (by omega) (Int.not_lt.1 fun c => ?_)
                    have := mul_pn_neg (show 0 < b.2 - a.2 by omega) c; omega
                  rw [hA0, Int.mul_zero] at ia
                  have e1 : a.2 = q.2 := by
                    refine Int.le_antisymm (by omega) (Int.not_lt.1 fun c => ?_)
                    have := mul_nn_pos h5 (show a.2 - q.2 < 0 by omega); omega
                  refine na ⟨by rw [hA]; exact hA0, ?_⟩
                  unfold TN at hP hQ
                  rw [show p.2 - a.2 = 0 by omega, Int.mul_zero] at hP
                  rw [show q.2 - a.2 = 0 by omega, Int.mul_zero] at hQ
                  have x1 : a.1 < p.1 := by
                    refine Int.not_le.1 fun c => ?_
                    have := mul_pn (show 0 ≤ b.2 - a.2 by omega) (show p.1 - a.1 ≤ 0 by omega); omega
                  have x2 : q.1 < a.1 := by
                    refine Int.not_le.1 fun c => ?_
                    have := Int.mul_nonneg (show 0 ≤ b.2 - a.2 by omega) (show 0 ≤ q.1 - a.1 by omega); omega
                  unfold Btw; omega
          constructor
          · intro _; constructor <;> intro h <;> omega
          · intro _
            constructor
            · intro h; exact ⟨by omega, by omega, key.1 h.2.2⟩
            · intro h; exact ⟨by omega, by omega, key.2 h.2.2⟩
        · -- below, between
          have key : P > 0 ↔ B < 0 := by
            have e := ip
            constructor
            · intro h
              refine Int.not_le.1 fun h' => ?_
              by_cases h0 : B = 0
              · exact nb (On_of_height (by rw [hB]; exact h0) (by omega) (by omega) (by omega))
              · have h5 : B > 0 := by omega
                have d0 := Int.mul_pos (show 0 < q.2 - p.2 by omega) h
                have d1 := Int.mul_nonneg (show 0 ≤ B by omega) (show 0 ≤ p.2 - a.2 by omega)
                have hA1 : A < 0 := by
                  refine Int.not_le.1 fun c => ?_
                  have := mul_pn c (show p.2 - b.2 ≤ 0 by omega); omega
                have d2 := mul_np (show A ≤ 0 by omega) (show 0 ≤ q.2 - b.2 by omega)
                have d3 := Int.mul_pos h5 (show 0 < q.2 - a.2 by omega)
                have hQ1 : Q < 0 := neg_of_mul (show 0 < q.2 - p.2 by omega) (by rw [Int.mul_comm]; omega)
                exact nc (Or.inr ⟨h, hQ1⟩) (Or.inl ⟨hA1, h5⟩)
            · intro h
              refine Int.not_le.1 fun h' => ?_
              by_cases h0 : P = 0
              · exact np (On_of_height (by rw [hP]; exact h0) (by omega) (by omega) (by omega))
              · have h5 : P < 0 := by omega
                have d0 := mul_pn_neg (show 0 < q.2 - p.2 by omega) h5
                have d1 := mul_np (show B ≤ 0 by omega) (show 0 ≤ p.2 - a.2 by omega)
                have hA1 : A > 0 := by
                  refine Int.not_le.1 fun c => ?_
                  have := mul_nn c (show p.2 - b.2 ≤ 0 by omega); omega
                have d2 := Int.mul_nonneg (show 0 ≤ A by omega) (show 0 ≤ q.2 - b.2 by omega)
                have d3 := mul_np_neg h (show 0 < q.2 - a.2 by omega)
                have hQ1 : Q > 0 := pos_of_mul (show 0 < q.2 - p.2 by omega) (by rw [Int.mul_comm]; omega)
                exact nc (Or.inl ⟨h5, hQ1⟩) (Or.inr ⟨hA1, h⟩)
          constructor
          · intro h
            constructor
            · intro h'; omega
            · intro h'
              have := h.1 ⟨by omega, by omega, key.2 h'.2.2⟩; omega
          · intro h
            constructor
            · intro h'
              have := h.2 ⟨by omega, by omega, key.1 h'.2.2⟩; omega
            · intro h'; omega
      · by_cases c4 : q.2 < b.2
        · -- between, above
          have key : Q > 0 ↔ A < 0 := by
            constructor
            · intro h
              refine Int.not_le.1 fun h' => ?_
              by_cases h0 : A = 0
              · exact na (On_of_height (by rw [hA]; exact h0) (by omega) (by omega) (by omega))
              · have h5 : A > 0 := by omega
                have d0 := Int.mul_pos (show 0 < q.2 - p.2 by omega) h
                have d1 := mul_pn_neg h5 (show q.2 - b.2 < 0 by omega)
                have hB1 : B < 0 := by
                  refine Int.not_le.1 fun c => ?_
                  have := Int.mul_nonneg c (show 0 ≤ q.2 - a.2 by omega); omega
                have d2 := mul_pn_neg h5 (show p.2 - b.2 < 0 by omega)
                have d3 := mul_nn_pos hB1 (show p.2 - a.2 < 0 by omega)
                have hP1 : P < 0 := neg_of_mul (show 0 < q.2 - p.2 by omega) (by rw [Int.mul_comm]; omega)
                exact nc (Or.inl ⟨hP1, h⟩) (Or.inr ⟨h5, hB1⟩)
            · intro h
              refine Int.not_le.1 fun h' => ?_
              by_cases h0 : Q = 0
              · exact nq (On_of_height (by rw [hQ]; exact h0) (by omega) (by omega) (by omega))
              · have h5 : Q < 0 := by omega
                have d0 := mul_pn_neg (show 0 < q.2 - p.2 by omega) h5
                have d1 := mul_nn_pos h (show q.2 - b.2 < 0 by omega)
                have hB1 : B > 0 := by
                  refine Int.not_le.1 fun c => ?_
                  have := mul_np c (show 0 ≤ q.2 - a.2 by omega); omega
                have d2 := mul_nn_pos h (show p.2 - b.2 < 0 by omega)
                have d3 := mul_pn_neg hB1 (show p.2 - a.2 < 0 by omega)
                have hP1 : P > 0 := pos_of_mul (show 0 < q.2 - p.2 by omega) (by rw [Int.mul_comm]; omega)
                exact nc (Or.inr ⟨hP1, h5⟩) (Or.inl ⟨h, hB1⟩)
          constructor
          · intro h
            constructor
            · intro h'
              have := h.2 ⟨by omega, by omega, key.2 h'.2.2⟩; omega
            · intro h'; omega
          · intro h
            constructor
            · intro h'; omega
            · intro h'
              have := h.1 ⟨by omega, by omega, key.1 h'.2.2⟩; omega
        · -- both between
          have key : A < 0 ↔ B < 0 := by
            constructor
            · intro h
              refine Int.not_le.1 fun h' => ?_
              by_cases h0 : B = 0
              · exact nb (On_of_height (by rw [hB]; exact h0) (by omega) (by omega) (by omega))
              · have h5 : B > 0 := by omega
                have d1 := mul_nn_pos h (show p.2 - b.2 < 0 by omega)
                have d2 := mul_pn_neg h5 (show p.2 - a.2 < 0 by omega)
                have hP1 : P > 0 := pos_of_mul (show 0 < q.2 - p.2 by omega) (by rw [Int.mul_comm]; omega)
                have d3 := mul_np (show A ≤ 0 by omega) (show 0 ≤ q.2 - b.2 by omega)
                have d4 := Int.mul_nonneg (show 0 ≤ B by omega) (show 0 ≤ q.2 - a.2 by omega)
                by_cases h6 : Q < 0
                · exact nc (Or.inr ⟨hP1, h6⟩) (Or.inl ⟨h, h5⟩)
                · have h7 : (q.2 - p.2) * Q ≤ 0 := by omega
                  have hQ0 : Q = 0 := by
                    refine Int.le_antisymm (Int.not_lt.1 fun c => ?_) (by omega)
                    have := Int.mul_pos (show 0 < q.2 - p.2 by omega) c; omega
                  rw [hQ0, Int.mul_zero] at iq
                  have e1 : q.2 = a.2 := by
                    refine Int.le_antisymm (Int.not_lt.1 fun c => ?_) (by omega)
                    have := Int.mul_pos h5 (show 0 < q.2 - a.2 by omega); omega
                  refine nq ⟨by rw [hQ]; exact hQ0, ?_⟩
                  unfold TN at hA hB
                  have ea : A = (q.2 - p.2) * (q.1 - a.1) := by rw [← hA, ← e1]; grind
                  have eb : B = (q.2 - p.2) * (q.1 - b.1) := by rw [← hB, show b.2 = q.2 by omega]; grind
                  have x1 : q.1 < a.1 := by
                    refine Int.not_le.1 fun c => ?_
                    have := Int.mul_nonneg (show 0 ≤ q.2 - p.2 by omega) (show 0 ≤ q.1 - a.1 by omega); omega
                  have x2 : b.1 < q.1 := by
                    refine Int.not_le.1 fun c => ?_
                    have := mul_pn (show 0 ≤ q.2 - p.2 by omega) (show q.1 - b.1 ≤ 0 by omega); omega
                  unfold Btw; omega
            · intro h
              refine Int.not_le.1 fun h' => ?_
              by_cases h0 : A = 0
              · exact na (On_of_height (by rw [hA]; exact h0) (by omega) (by omega) (by omega))
              · have h5 : A > 0 := by omega
                have d1 := mul_pn_neg h5 (show p.2 - b.2 < 0 by omega)
                have d2 := mul_nn_pos h (show p.2 - a.2 < 0 by omega)
                have hP1 : P < 0 := neg_of_mul (show 0 < q.2 - p.2 by omega) (by rw [Int.mul_comm]; omega)
                have d3 := Int.mul_nonneg (show 0 ≤ A by omega) (show 0 ≤ q.2 - b.2 by omega)
                have d4 := mul_np (show B ≤ 0 by omega) (show 0 ≤ q.2 - a.2 by omega)
                by_cases h6 : Q > 0
                · exact nc (Or.inl ⟨hP1, h6⟩) (Or.inr ⟨h5, h⟩)
                · have h7 : 0 ≤ (q.2 - p.2) * Q := by omega
                  have hQ0 : Q = 0 := by
                    refine Int.le_antisymm (by omega) (Int.not_lt.1 fun c => ?_)
                    have := mul_pn_neg (show 0 < q.2 - p.2 by omega) c; omega
                  rw [hQ0, Int.mul_zero] at iq
                  have e1 : q.2 = a.2 := by
                    refine Int.le_antisymm (Int.not_lt.1 fun c => ?_) (by omega)
                    have := mul_np_neg h (show 0 < q.2 - a.2 by omega); omega
                  refine nq ⟨by rw [hQ]; exact hQ0, ?_⟩
                  unfold TN at hA hB
                  have ea : A = (q.2 - p.2) * (q.1 - a.1) := by rw [← hA, ← e1]; grind
                  have eb : B = (q.2 - p.2) * (q.1 - b.1) := by rw [← hB, show b.2 = q.2 by omega]; grind
                  have x1 : a.1 < q.1 := by
                    refine Int.not_le.1 fun c => ?_
                    have := mul_pn (show 0 ≤ q.2 - p.2 by omega) (show q.1 - a.1 ≤ 0 by omega); omega
                  have x2 : q.1 < b.1 := by
                    refine Int.not_le.1 fun c => ?_
                    have := Int.mul_nonneg (show 0 ≤ q.2 - p.2 by omega) (show 0 ≤ q.1 - b.1 by omega); omega
                  unfold Btw; omega
          constructor
          · intro _
            constructor
            · intro h; exact ⟨by omega, by omega, key.1 h.2.2⟩
            · intro h; exact ⟨by omega, by omega, key.2 h.2.2⟩
          · intro _; constructor <;> intro h <;> omega
end Go.Proofs.Ytjblhppbjebagaa.Geo

namespace Go.Proofs.Ytjblhppbjebagaa.Geo

/-- Is it said of an odd number of the first n? -/
def xr (f : Nat → Bool) : Nat → Bool
  | 0 => false
  | n + 1 => xor (xr f n) (f n)
theorem xr_xor (f g : Nat → Bool) : ∀ n, xr (fun i => xor (f i) (g i)) n = xor (xr f n) (xr g n)
  | 0 => rfl
  | n + 1 => by
    simp only [xr, xr_xor f g n]
    cases xr f n <;> cases xr g n <;> cases f n <;> cases g n <;> rfl
theorem xr_congr {f g : Nat → Bool} : ∀ {n : Nat}, (∀ i, i < n → f i = g i) → xr f n = xr g n
  | 0, _ => rfl
  | n + 1, h => by simp only [xr]; rw [xr_congr (fun i hi => h i (by omega)), h n (by omega)]
theorem xr_shift (f : Nat → Bool) : ∀ m, xr f (m + 1) = xor (f 0) (xr (fun i => f (i + 1)) m)
  | 0 => by simp [xr]
  | m + 1 => by
    rw [xr, xr_shift f m]
    simp only [xr]
    cases f 0 <;> cases xr (fun i => f (i + 1)) m <;> cases f (m + 1) <;> rfl
theorem xr_rot (f : Nat → Bool) (n : Nat) : xr (fun i => f ((i + 1) % n)) n = xr f n := by
  cases n with
  | zero => rfl
  | succ m =>
    rw [xr_shift f m]
    simp only [xr, Nat.mod_self]
    rw [xr_congr (g := fun i => f (i + 1)) (fun i hi => by rw [Nat.mod_eq_of_lt (by omega)])]
    cases f 0 <;> cases xr (fun i => f (i + 1)) m <;> rfl
theorem xr_false : ∀ n, xr (fun _ => false) n = false
  | 0 => rfl
  | n + 1 => by simp [xr, xr_false n]
/-- What is told of both ends comes to nothing, all the way round. -/
theorem xr_ends (r : Nat → Bool) (n : Nat) : xr (fun i => xor (r i) (r ((i + 1) % n))) n = false := by
  rw [xr_xor r (fun i => r ((i + 1) % n)), xr_rot]; cases xr r n <;> rfl

/-- The ray from p meets an odd number of edges of the polygon of n corners. -/
def odd (p : Pt) (v : Nat → Pt) (n : Nat) : Bool := xr (fun i => decide (Crs p (v i) (v ((i + 1) % n)))) n

theorem parity_dec (p q a b : Pt) (hpq : p.2 ≤ q.2) (hm : ¬ Meet p q a b) :
    xor (decide (Crs p a b)) (decide (Crs q a b)) = xor (decide (Rgt p q a)) (decide (Rgt p q b)) := by
  have none : ∀ x u w : Pt, u.2 ≤ w.2 → ¬ CrsU x w u := fun x u w h h' => by unfold CrsU at h'; omega
  rcases Int.le_total a.2 b.2 with h | h
  · have k := parity_up p q a b hpq h hm
    have e1 : Crs p a b ↔ CrsU p a b := ⟨fun x => x.elim id (fun y => absurd y (none p a b h)), Or.inl⟩
    have e2 : Crs q a b ↔ CrsU q a b := ⟨fun x => x.elim id (fun y => absurd y (none q a b h)), Or.inl⟩
    have d1 : decide (Crs p a b) = decide (CrsU p a b) := decide_eq_decide.2 e1
    have d2 : decide (Crs q a b) = decide (CrsU q a b) := decide_eq_decide.2 e2
    rw [d1, d2]
    by_cases x1 : CrsU p a b <;> by_cases x2 : CrsU q a b <;> by_cases x3 : Rgt p q a <;> by_cases x4 : Rgt p q b <;> simp_all
  · have k := parity_up p q b a hpq h (fun m => hm (Meet_cd.1 m))
    have e1 : Crs p a b ↔ CrsU p b a := ⟨fun x => x.elim (fun y => absurd y (none p b a h)) id, Or.inr⟩
    have e2 : Crs q a b ↔ CrsU q b a := ⟨fun x => x.elim (fun y => absurd y (none q b a h)) id, Or.inr⟩
    have d1 : decide (Crs p a b) = decide (CrsU p b a) := decide_eq_decide.2 e1
    have d2 : decide (Crs q a b) = decide (CrsU q b a) := decide_eq_decide.2 e2
    rw [d1, d2]
    by_cases x1 : CrsU p b a <;> by_cases x2 : CrsU q b a <;> by_cases x3 : Rgt p q a <;> by_cases x4 : Rgt p q b <;> simp_all

/-- THE THEOREM: of two places whose way meets no edge the rays meet as many, but for an even number. -/
theorem odd_same (p q : Pt) (v : Nat → Pt) (n : Nat) (hm : ∀ i, i < n → ¬ Meet p q (v i) (v ((i + 1) % n))) : odd p v n = odd q v n := by
  have one : ∀ p q : Pt, p.2 ≤ q.2 → (∀ i, i < n → ¬ Meet p q (v i) (v ((i + 1) % n))) → odd p v n = odd q v n := by
    intro p q hpq hm
    have h := xr_xor (fun i => decide (Crs p (v i) (v ((i + 1) % n)))) (fun i => decide (Crs q (v i) (v ((i + 1) % n)))) n
    rw [xr_congr (fun i hi => parity_dec p q (v i) (v ((i + 1) % n)) hpq (hm i hi)), xr_ends (fun i => decide (Rgt p q (v i))) n] at h
    unfold odd
    revert h
    cases xr (fun i => decide (Crs p (v i) (v ((i + 1) % n)))) n <;> cases xr (fun i => decide (Crs q (v i) (v ((i + 1) % n)))) n <;> simp
  rcases Int.le_total p.2 q.2 with h | h
  · exact one p q h hm
  · exact (one q p h (fun i hi m => hm i hi (Meet_ab.1 m))).symm

/-- Far to the left, or to the right, above, or below: the ray meets an even number. -/
theorem odd_out (p : Pt) (v : Nat → Pt) (n : Nat) (h : (∀ i, i < n → p.1 < (v i).1) ∨ (∀ i, i < n → (v i).1 < p.1) ∨ (∀ i, i < n → p.2 < (v i).2) ∨ (∀ i, i < n → (v i).2 < p.2)) : odd p v n = false := by
  have hmod : ∀ i, i < n → (i + 1) % n < n := fun i hi => Nat.mod_lt _ (by omega)
  rcases h with h | h | h | h
  · -- the ray meets each edge that spans its height
    have e : ∀ a b : Pt, p.1 < a.1 → p.1 < b.1 → decide (Crs p a b) = xor (decide (a.2 ≤ p.2)) (decide (b.2 ≤ p.2)) := by
      have up : ∀ a b : Pt, p.1 < a.1 → p.1 < b.1 → a.2 ≤ p.2 → p.2 < b.2 → TN a b p > 0 := by
        intro a b ha hb h1 h2
        have e : TN a b p = (b.2 - p.2) * (a.1 - p.1) + (p.2 - a.2) * (b.1 - p.1) := by unfold TN; grind
        have n1 := Int.mul_pos (show 0 < b.2 - p.2 by omega) (show 0 < a.1 - p.1 by omega)
        have n2 := Int.mul_nonneg (show 0 ≤ p.2 - a.2 by omega) (show 0 ≤ b.1 - p.1 by omega)
        omega
      intro a b ha hb
      unfold Crs CrsU
      by_cases c1 : a.2 ≤ p.2 <;> by_cases c2 : b.2 ≤ p.2
      · simp [c1, c2]; omega
      · simp [c1, c2]; exact ⟨by omega, up a b ha hb c1 (by omega)⟩
      · simp [c1, c2]; exact ⟨by omega, up b a hb ha c2 (by omega)⟩
      · simp [c1, c2]
    unfold odd
    rw [xr_congr (fun i hi => e (v i) (v ((i + 1) % n)) (h i hi) (h _ (hmod i hi))), xr_ends (fun i => decide ((v i).2 ≤ p.2)) n]
  all_goals
    unfold odd
    rw [xr_congr (g := fun _ => false), xr_false]
    intro i hi
    have h1 := h i hi
    have h2 := h _ (hmod i hi)
    generalize v i = a at *
    generalize v ((i + 1) % n) = b at *
    rw [decide_eq_false_iff_not]
    unfold Crs CrsU
  · have dn : ∀ a b : Pt, a.1 < p.1 → b.1 < p.1 → a.2 ≤ p.2 → p.2 < b.2 → ¬ TN a b p > 0 := by
      intro a b ha hb h1 h2
      have e : TN a b p = (b.2 - p.2) * (a.1 - p.1) + (p.2 - a.2) * (b.1 - p.1) := by unfold TN; grind
      have n1 := mul_pn (show 0 ≤ b.2 - p.2 by omega) (show a.1 - p.1 ≤ 0 by omega)
      have n2 := mul_pn (show 0 ≤ p.2 - a.2 by omega) (show b.1 - p.1 ≤ 0 by omega)
      omega
    rintro (⟨x1, x2, x3⟩ | ⟨x1, x2, x3⟩)
    · exact dn a b h1 h2 x1 x2 x3
    · exact dn b a h2 h1 x1 x2 x3
  · omega
  · omega
end Go.Proofs.Ytjblhppbjebagaa.Geo

namespace Go.Proofs.Ytjblhppbjebagaa.AE
set_option linter.unusedVariables false
set_option linter.unusedSimpArgs false
set_option linter.constructorNameAsVariable false
open Go Go.Proofs.Ytjblhppbjebagaa.Geo

/-- Is the place's way to the right over the edge? -/
def crsB (ps : List Pt) (p : Pt) (i : Nat) : Bool := decide (Crs p (vv ps i) (vv ps (nx ps i)))
def sideUp (ps : List Pt) (p : Pt) : Nat → Nat → Bool → Int
  | 0, _, o => bif o then 1 else -1
  | m + 1, i, o => bif onB p (vv ps i) (vv ps (nx ps i)) then 0 else sideUp ps p m (i + 1) (xor o (crsB ps p i))
def sideB (ps : List Pt) (p : Pt) : Int := bif rightB ps then bif okb p then sideUp ps p ps.length 0 false else -1 else -1
theorem right_ok {ps : List Pt} (h : rightB ps = true) : 3 ≤ ps.length ∧ ps.length ≤ 8 ∧ ∀ p ∈ ps, OkP p := by
  unfold rightB at h
  exact simple_ok (Bool.and_eq_true_iff.mp h).1
theorem vv_ok {ps : List Pt} (h : ∀ p ∈ ps, OkP p) {i : Nat} (hi : i < ps.length) : OkP (vv ps i) := by
  have : vv ps i = ps[i] := by simp [vv, List.getD_eq_getElem?_getD, hi]
  rw [this]; exact h _ (List.getElem_mem _)
theorem crs_hi {p a b : Pt} (h : a.2 > b.2) : decide (Crs p a b) = decide (CrsU p b a) := by
  rw [decide_eq_decide]; unfold Crs
  exact ⟨fun g => g.elim (fun g => by unfold CrsU at g; omega) id, .inr⟩
theorem crs_lo {p a b : Pt} (h : ¬ a.2 > b.2) : decide (Crs p a b) = decide (CrsU p a b) := by
  rw [decide_eq_decide]; unfold Crs
  exact ⟨fun g => g.elim id (fun g => by unfold CrsU at g; omega), .inl⟩
theorem crsU_f1 {p a b : Pt} (h : ¬ a.2 ≤ p.2) : decide (CrsU p a b) = false := decide_eq_false fun g => h g.1
theorem crsU_f2 {p a b : Pt} (h : ¬ p.2 < b.2) : decide (CrsU p a b) = false := decide_eq_false fun g => h g.2.1
theorem crsU_t {p a b : Pt} (h : a.2 ≤ p.2) (h2 : p.2 < b.2) (ha : OkP a) (hb : OkP b) (hp : OkP p) : decide (CrsU p a b) = decide (tn3 a b p > 0) := by
  rw [decide_eq_decide, tn3_sg ⟨ha, hb, hp⟩, sg_pos]
  exact ⟨fun g => g.2.2, fun g => ⟨h, h2, g⟩⟩
def sgn1 (o : Bool) : Int := bif o then 1 else -1
theorem sgn1_neg (o : Bool) : IntKind.wrap .i64 (0 - sgn1 o) = sgn1 (xor o true) := by cases o <;> simp [sgn1, i64w]
theorem sgn1_id (o : Bool) : sgn1 o = sgn1 (xor o false) := by cases o <;> rfl
theorem side0 (d : Nat) (ps : List Pt) (p : Pt) (hl : ps.length ≤ 140737488355328) (hok : ∀ q ∈ ps, OkP q) (hp : OkP p) : ∀ (m i f : Nat) (o : Bool) (H : Heap), i + m = ps.length → m < f → hget H 0 = some ⟨E23, [pt p]⟩ →
    L31_0 (d + 8) (ps.map pt) (.ptr 0 0 0) (ps.length : Nat) f (sgn1 o) (i : Nat) H = some (.int .i64 (sideUp ps p m i o)) := by
  intro m
  induction m with
  | zero =>
    intro i f o H hi hf h0
    obtain ⟨f, rfl⟩ : ∃ g, f = g + 1 := ⟨f - 1, by omega⟩
    rw [L31_0, decide_eq_false (by omega), cnd_f]; rfl
  | succ m ih =>
    intro i f o H hi hf h0
    obtain ⟨f, rfl⟩ : ∃ g, f = g + 1 := ⟨f - 1, by omega⟩
    have hil : i < ps.length := by omega
    have oa := vv_ok hok hil
    have ob := vv_ok hok (nx_lt hil)
    have w1 : IntKind.wrap .i64 ((i : Int) + 1) = ((i + 1 : Nat) : Int) := by rw [i64_small (by omega) (by omega)]; rfl
    rw [L31_0, decide_eq_true (by omega), cnd_t, w1, sgn1_neg]
    refine Eq.trans (snp_free (by rfl)) ?_
    refine Eq.trans (pl_tup (s46 (d + 7) ps i hil hl) (by rfl)) ?_
    refine Eq.trans (pl_agg (by rfl) (by rfl)) ?_; refine Eq.trans (pl_int (by rfl)) ?_; refine Eq.trans (pl_int (by rfl)) ?_; refine Eq.trans (pl_agg (by rfl) (by rfl)) ?_; refine Eq.trans (pl_int (by rfl)) ?_; refine Eq.trans (pl_int (by rfl)) ?_; refine Eq.trans (pl_len (by rfl)) ?_; refine Eq.trans al_n ?_; refine Eq.trans al_s ?_; refine Eq.trans (st_s (by rfl) (by rfl) (by rfl)) ?_; refine Eq.trans (st_s (by rfl) (by rfl) (by rfl)) ?_; refine Eq.trans (ld_ptr (hget_app h0) (by rfl) (by rfl)) ?_; refine Eq.trans (pl_agg (by rfl) (by rfl)) ?_; refine Eq.trans (pl_int (by rfl)) ?_; refine Eq.trans (pl_int (by rfl)) ?_; refine Eq.trans (ld_s (by rfl) (by rfl) (by rfl)) ?_; refine Eq.trans (pl_agg (by rfl) (by rfl)) ?_; refine Eq.trans (pl_int (by rfl)) ?_; refine Eq.trans (pl_int (by rfl)) ?_; refine Eq.trans (ld_s (by rfl) (by rfl) (by rfl)) ?_; refine Eq.trans (pl_agg (by rfl) (by rfl)) ?_; refine Eq.trans (pl_int (by rfl)) ?_; refine Eq.trans (pl_int (by rfl)) ?_
    refine Eq.trans (pl_bool (s47 d p (vv ps i) (vv ps (nx ps i)))) ?_
    simp only [sideUp]
    cases onB p (vv ps i) (vv ps (nx ps i))
    · refine Eq.trans (pl_f (by rfl)) ?_; refine Eq.trans sh_ptr ?_; refine Eq.trans (ld_s (by rfl) (by rfl) (by rfl)) ?_; refine Eq.trans (pl_int (by rfl)) ?_; refine Eq.trans sh_ptr ?_; refine Eq.trans (ld_s (by rfl) (by rfl) (by rfl)) ?_; refine Eq.trans (pl_int (by rfl)) ?_
      unfold crsB
      by_cases c1 : (vv ps i).2 > (vv ps (nx ps i)).2
      · rw [crs_hi c1, decide_eq_true c1, cnd_t]
        refine Eq.trans (ld_s (by rfl) (by rfl) (by rfl)) ?_; refine Eq.trans (pl_agg (by rfl) (by rfl)) ?_; refine Eq.trans (pl_int (by rfl)) ?_; refine Eq.trans (pl_int (by rfl)) ?_; refine Eq.trans (ld_s (by rfl) (by rfl) (by rfl)) ?_; refine Eq.trans (pl_agg (by rfl) (by rfl)) ?_; refine Eq.trans (pl_int (by rfl)) ?_; refine Eq.trans (pl_int (by rfl)) ?_; refine Eq.trans (st_s (by rfl) (by rfl) (by rfl)) ?_; refine Eq.trans (st_s (by rfl) (by rfl) (by rfl)) ?_; refine Eq.trans sh_ptr ?_; refine Eq.trans (ld_s (by rfl) (by rfl) (by rfl)) ?_; refine Eq.trans (pl_int (by rfl)) ?_; refine Eq.trans sh_ptr ?_; refine Eq.trans (ld_ptr (hget_app h0) (by rfl) (by rfl)) ?_; refine Eq.trans (pl_int (by rfl)) ?_
        by_cases c2 : (vv ps (nx ps i)).2 ≤ p.2
        · rw [decide_eq_true c2, cnd_t]
          refine Eq.trans sh_ptr ?_; refine Eq.trans (ld_ptr (hget_app h0) (by rfl) (by rfl)) ?_; refine Eq.trans (pl_int (by rfl)) ?_; refine Eq.trans sh_ptr ?_; refine Eq.trans (ld_s (by rfl) (by rfl) (by rfl)) ?_; refine Eq.trans (pl_int (by rfl)) ?_
          by_cases c3 : p.2 < (vv ps i).2
          · rw [decide_eq_true c3, cnd_t, crsU_t c2 c3 ob oa hp]
            refine Eq.trans (ld_s (by rfl) (by rfl) (by rfl)) ?_; refine Eq.trans (pl_agg (by rfl) (by rfl)) ?_; refine Eq.trans (pl_int (by rfl)) ?_; refine Eq.trans (pl_int (by rfl)) ?_; refine Eq.trans (ld_s (by rfl) (by rfl) (by rfl)) ?_; refine Eq.trans (pl_agg (by rfl) (by rfl)) ?_; refine Eq.trans (pl_int (by rfl)) ?_; refine Eq.trans (pl_int (by rfl)) ?_; refine Eq.trans (ld_ptr (hget_app h0) (by rfl) (by rfl)) ?_; refine Eq.trans (pl_agg (by rfl) (by rfl)) ?_; refine Eq.trans (pl_int (by rfl)) ?_; refine Eq.trans (pl_int (by rfl)) ?_
            refine Eq.trans (pl_int (s39 (d + 1) (vv ps (nx ps i)) (vv ps i) p)) ?_
            cases decide (tn3 (vv ps (nx ps i)) (vv ps i) p > 0)
            · refine Eq.trans (pl_f (by rfl)) ?_; rw [sgn1_id]; exact ih (i + 1) f _ _ (by omega) (by omega) (hget_app h0)
            · refine Eq.trans (pl_len (by rfl)) ?_; exact ih (i + 1) f _ _ (by omega) (by omega) (hget_app h0)
          · rw [decide_eq_false c3, cnd_f, crsU_f2 c3, sgn1_id]; exact ih (i + 1) f _ _ (by omega) (by omega) (hget_app h0)
        · rw [decide_eq_false c2, cnd_f, crsU_f1 c2, sgn1_id]; exact ih (i + 1) f _ _ (by omega) (by omega) (hget_app h0)
      · rw [crs_lo c1, decide_eq_false c1, cnd_f]
        refine Eq.trans sh_ptr ?_; refine Eq.trans (ld_s (by rfl) (by rfl) (by rfl)) ?_; refine Eq.trans (pl_int (by rfl)) ?_; refine Eq.trans sh_ptr ?_; refine Eq.trans (ld_ptr (hget_app h0) (by rfl) (by rfl)) ?_; refine Eq.trans (pl_int (by rfl)) ?_
        by_cases c2 : (vv ps i).2 ≤ p.2
        · rw [decide_eq_true c2, cnd_t]
          refine Eq.trans sh_ptr ?_; refine Eq.trans (ld_ptr (hget_app h0) (by rfl) (by rfl)) ?_; refine Eq.trans (pl_int (by rfl)) ?_; refine Eq.trans sh_ptr ?_; refine Eq.trans (ld_s (by rfl) (by rfl) (by rfl)) ?_; refine Eq.trans (pl_int (by rfl)) ?_
          by_cases c3 : p.2 < (vv ps (nx ps i)).2
          · rw [decide_eq_true c3, cnd_t, crsU_t c2 c3 oa ob hp]
            refine Eq.trans (ld_s (by rfl) (by rfl) (by rfl)) ?_; refine Eq.trans (pl_agg (by rfl) (by rfl)) ?_; refine Eq.trans (pl_int (by rfl)) ?_; refine Eq.trans (pl_int (by rfl)) ?_; refine Eq.trans (ld_s (by rfl) (by rfl) (by rfl)) ?_; refine Eq.trans (pl_agg (by rfl) (by rfl)) ?_; refine Eq.trans (pl_int (by rfl)) ?_; refine Eq.trans (pl_int (by rfl)) ?_; refine Eq.trans (ld_ptr (hget_app h0) (by rfl) (by rfl)) ?_; refine Eq.trans (pl_agg (by rfl) (by rfl)) ?_; refine Eq.trans (pl_int (by rfl)) ?_; refine Eq.trans (pl_int (by rfl)) ?_
            refine Eq.trans (pl_int (s39 (d + 1) (vv ps i) (vv ps (nx ps i)) p)) ?_
            cases decide (tn3 (vv ps i) (vv ps (nx ps i)) p > 0)
            · refine Eq.trans (pl_f (by rfl)) ?_; rw [sgn1_id]; exact ih (i + 1) f _ _ (by omega) (by omega) (hget_app h0)
            · refine Eq.trans (pl_len (by rfl)) ?_; exact ih (i + 1) f _ _ (by omega) (by omega) (hget_app h0)
          · rw [decide_eq_false c3, cnd_f, crsU_f2 c3, sgn1_id]; exact ih (i + 1) f _ _ (by omega) (by omega) (hget_app h0)
        · rw [decide_eq_false c2, cnd_f, crsU_f1 c2, sgn1_id]; exact ih (i + 1) f _ _ (by omega) (by omega) (hget_app h0)
    · rfl
theorem s31 (d : Nat) (ps : List Pt) (p : Pt) (hl : ps.length ≤ 140737488355328) : pcall M (d + 13) 31 [.lst (ps.map pt), pt p] = some (.int .i64 (sideB ps p)) := told (q31 (d + 12) _ _ _) (by
  refine Eq.trans (hop_eq (by rfl)) ?_; refine Eq.trans (snp_free (by rfl)) ?_
  refine Eq.trans (pl_bool (s43 d ps hl)) ?_
  refine Eq.trans (pl_len (by rfl)) ?_
  unfold sideB
  cases hr : rightB ps
  · rfl
  · refine Eq.trans (pl_f (by rfl)) ?_; refine Eq.trans (hop_eq (by rfl)) ?_; refine Eq.trans (pl_agg (by rfl) (by rfl)) ?_; refine Eq.trans (pl_int (by rfl)) ?_; refine Eq.trans (pl_int (by rfl)) ?_
    refine Eq.trans (pl_bool (s35 (d + 10) p)) ?_
    change cnd (!okb p) _ _ = _
    cases hp : okb p
    · rfl
    · refine Eq.trans (pl_f (by rfl)) ?_; refine Eq.trans (hop_eq (by rfl)) ?_; refine Eq.trans (pl_int (by rfl)) ?_
      rw [pmap_len]
      exact side0 (d + 4) ps p hl (right_ok hr).2.2 (okb_t.mp hp) ps.length 0 1000000000000000000 false _ (by omega) (by omega) rfl)
end Go.Proofs.Ytjblhppbjebagaa.AE

namespace Go.Proofs.Ytjblhppbjebagaa.AE
set_option linter.unusedVariables false
set_option linter.unusedSimpArgs false
set_option linter.constructorNameAsVariable false
open Go Go.Proofs.Ytjblhppbjebagaa.Geo

theorem not_xor (o : Bool) : (!o) = xor o true := by cases o <;> rfl
theorem rside0 (d : Nat) (ps : List Pt) (p : Pt) (hl : ps.length ≤ 140737488355328) (hok : ∀ q ∈ ps, OkP q) (hp : OkP p) : ∀ (m i f : Nat) (o : Bool) (H : Heap), i + m = ps.length → m < f → hget H 0 = some ⟨E23, [pt p]⟩ →
    L44_0 (d + 8) (ps.map pt) (.ptr 0 0 0) f o (i : Nat) H = some (.int .i64 (sideUp ps p m i o)) := by
  intro m
  induction m with
  | zero =>
    intro i f o H hi hf h0
    obtain ⟨f, rfl⟩ : ∃ g, f = g + 1 := ⟨f - 1, by omega⟩
    rw [L44_0]
    refine Eq.trans (hop_eq (by rfl)) ?_; refine Eq.trans (pl_int (by rfl)) ?_
    rw [pmap_len, decide_eq_false (by omega), cnd_f]
    cases o <;> rfl
  | succ m ih =>
    intro i f o H hi hf h0
    obtain ⟨f, rfl⟩ : ∃ g, f = g + 1 := ⟨f - 1, by omega⟩
    have hil : i < ps.length := by omega
    have oa := vv_ok hok hil
    have ob := vv_ok hok (nx_lt hil)
    have w1 : IntKind.wrap .i64 ((i : Int) + 1) = ((i + 1 : Nat) : Int) := by rw [i64_small (by omega) (by omega)]; rfl
    rw [L44_0]
    refine Eq.trans (hop_eq (by rfl)) ?_; refine Eq.trans (pl_int (by rfl)) ?_
    rw [pmap_len, decide_eq_true (by omega), cnd_t, w1, not_xor]
    refine Eq.trans (ix_lst (by omega) (vv_at hil) (by rfl)) ?_
    refine Eq.trans (hop_eq (by rfl)) ?_; refine Eq.trans (pl_agg (by rfl) (by rfl)) ?_; refine Eq.trans (pl_int (by rfl)) ?_; refine Eq.trans (pl_int (by rfl)) ?_; refine Eq.trans (snp_free (by rfl)) ?_
    refine Eq.trans (pl_agg (s58 (d + 7) ps i hil hl) (by rfl)) ?_
    refine Eq.trans (pl_int (by rfl)) ?_; refine Eq.trans (pl_int (by rfl)) ?_; refine Eq.trans (pl_len (by rfl)) ?_; refine Eq.trans al_n ?_; refine Eq.trans al_s ?_; refine Eq.trans (st_s (by rfl) (by rfl) (by rfl)) ?_; refine Eq.trans (st_s (by rfl) (by rfl) (by rfl)) ?_; refine Eq.trans (ld_ptr (hget_app h0) (by rfl) (by rfl)) ?_; refine Eq.trans (pl_agg (by rfl) (by rfl)) ?_; refine Eq.trans (pl_int (by rfl)) ?_; refine Eq.trans (pl_int (by rfl)) ?_; refine Eq.trans (ld_s (by rfl) (by rfl) (by rfl)) ?_; refine Eq.trans (pl_agg (by rfl) (by rfl)) ?_; refine Eq.trans (pl_int (by rfl)) ?_; refine Eq.trans (pl_int (by rfl)) ?_; refine Eq.trans (ld_s (by rfl) (by rfl) (by rfl)) ?_; refine Eq.trans (pl_agg (by rfl) (by rfl)) ?_; refine Eq.trans (pl_int (by rfl)) ?_; refine Eq.trans (pl_int (by rfl)) ?_
    refine Eq.trans (pl_bool (s54 (d + 2) p (vv ps i) (vv ps (nx ps i)))) ?_
    simp only [sideUp]
    cases onB p (vv ps i) (vv ps (nx ps i))
    · refine Eq.trans (pl_f (by rfl)) ?_; refine Eq.trans sh_ptr ?_; refine Eq.trans (ld_s (by rfl) (by rfl) (by rfl)) ?_; refine Eq.trans (pl_int (by rfl)) ?_; refine Eq.trans sh_ptr ?_; refine Eq.trans (ld_s (by rfl) (by rfl) (by rfl)) ?_; refine Eq.trans (pl_int (by rfl)) ?_
      unfold crsB
      by_cases c1 : (vv ps i).2 > (vv ps (nx ps i)).2
      · rw [crs_hi c1, decide_eq_true c1, cnd_t]
        refine Eq.trans (ld_s (by rfl) (by rfl) (by rfl)) ?_; refine Eq.trans (pl_agg (by rfl) (by rfl)) ?_; refine Eq.trans (pl_int (by rfl)) ?_; refine Eq.trans (pl_int (by rfl)) ?_; refine Eq.trans (ld_s (by rfl) (by rfl) (by rfl)) ?_; refine Eq.trans (pl_agg (by rfl) (by rfl)) ?_; refine Eq.trans (pl_int (by rfl)) ?_; refine Eq.trans (pl_int (by rfl)) ?_; refine Eq.trans (st_s (by rfl) (by rfl) (by rfl)) ?_; refine Eq.trans (st_s (by rfl) (by rfl) (by rfl)) ?_; refine Eq.trans sh_ptr ?_; refine Eq.trans (ld_s (by rfl) (by rfl) (by rfl)) ?_; refine Eq.trans (pl_int (by rfl)) ?_; refine Eq.trans sh_ptr ?_; refine Eq.trans (ld_ptr (hget_app h0) (by rfl) (by rfl)) ?_; refine Eq.trans (pl_int (by rfl)) ?_
        by_cases c2 : (vv ps (nx ps i)).2 ≤ p.2
        · rw [decide_eq_true c2, cnd_t]
          refine Eq.trans sh_ptr ?_; refine Eq.trans (ld_s (by rfl) (by rfl) (by rfl)) ?_; refine Eq.trans (pl_int (by rfl)) ?_; refine Eq.trans sh_ptr ?_; refine Eq.trans (ld_ptr (hget_app h0) (by rfl) (by rfl)) ?_; refine Eq.trans (pl_int (by rfl)) ?_
          by_cases c3 : (vv ps i).2 > p.2
          · rw [decide_eq_true c3, cnd_t, crsU_t c2 c3 ob oa hp]
            refine Eq.trans (ld_s (by rfl) (by rfl) (by rfl)) ?_; refine Eq.trans (pl_agg (by rfl) (by rfl)) ?_; refine Eq.trans (pl_int (by rfl)) ?_; refine Eq.trans (pl_int (by rfl)) ?_; refine Eq.trans (ld_s (by rfl) (by rfl) (by rfl)) ?_; refine Eq.trans (pl_agg (by rfl) (by rfl)) ?_; refine Eq.trans (pl_int (by rfl)) ?_; refine Eq.trans (pl_int (by rfl)) ?_; refine Eq.trans (ld_ptr (hget_app h0) (by rfl) (by rfl)) ?_; refine Eq.trans (pl_agg (by rfl) (by rfl)) ?_; refine Eq.trans (pl_int (by rfl)) ?_; refine Eq.trans (pl_int (by rfl)) ?_
            refine Eq.trans (pl_int (s55 (d + 3) (vv ps (nx ps i)) (vv ps i) p)) ?_
            cases decide (tn3 (vv ps (nx ps i)) (vv ps i) p > 0)
            · refine Eq.trans (pl_f (by rfl)) ?_; rw [Bool.xor_false]; exact ih (i + 1) f _ _ (by omega) (by omega) (hget_app h0)
            · refine Eq.trans (pl_len (by rfl)) ?_; exact ih (i + 1) f _ _ (by omega) (by omega) (hget_app h0)
          · rw [decide_eq_false c3, cnd_f, crsU_f2 c3, Bool.xor_false]; exact ih (i + 1) f _ _ (by omega) (by omega) (hget_app h0)
        · rw [decide_eq_false c2, cnd_f, crsU_f1 c2, Bool.xor_false]; exact ih (i + 1) f _ _ (by omega) (by omega) (hget_app h0)
      · rw [crs_lo c1, decide_eq_false c1, cnd_f]
        refine Eq.trans sh_ptr ?_; refine Eq.trans (ld_s (by rfl) (by rfl) (by rfl)) ?_; refine Eq.trans (pl_int (by rfl)) ?_; refine Eq.trans sh_ptr ?_; refine Eq.trans (ld_ptr (hget_app h0) (by rfl) (by rfl)) ?_; refine Eq.trans (pl_int (by rfl)) ?_
        by_cases c2 : (vv ps i).2 ≤ p.2
        · rw [decide_eq_true c2, cnd_t]
          refine Eq.trans sh_ptr ?_; refine Eq.trans (ld_s (by rfl) (by rfl) (by rfl)) ?_; refine Eq.trans (pl_int (by rfl)) ?_; refine Eq.trans sh_ptr ?_; refine Eq.trans (ld_ptr (hget_app h0) (by rfl) (by rfl)) ?_; refine Eq.trans (pl_int (by rfl)) ?_
          by_cases c3 : (vv ps (nx ps i)).2 > p.2
          · rw [decide_eq_true c3, cnd_t, crsU_t c2 c3 oa ob hp]
            refine Eq.trans (ld_s (by rfl) (by rfl) (by rfl)) ?_; refine Eq.trans (pl_agg (by rfl) (by rfl)) ?_; refine Eq.trans (pl_int (by rfl)) ?_; refine Eq.trans (pl_int (by rfl)) ?_; refine Eq.trans (ld_s (by rfl) (by rfl) (by rfl)) ?_; refine Eq.trans (pl_agg (by rfl) (by rfl)) ?_; refine Eq.trans (pl_int (by rfl)) ?_; refine Eq.trans (pl_int (by rfl)) ?_; refine Eq.trans (ld_ptr (hget_app h0) (by rfl) (by rfl)) ?_; refine Eq.trans (pl_agg (by rfl) (by rfl)) ?_; refine Eq.trans (pl_int (by rfl)) ?_; refine Eq.trans (pl_int (by rfl)) ?_
            refine Eq.trans (pl_int (s55 (d + 3) (vv ps i) (vv ps (nx ps i)) p)) ?_
            cases decide (tn3 (vv ps i) (vv ps (nx ps i)) p > 0)
            · refine Eq.trans (pl_f (by rfl)) ?_; rw [Bool.xor_false]; exact ih (i + 1) f _ _ (by omega) (by omega) (hget_app h0)
            · refine Eq.trans (pl_len (by rfl)) ?_; exact ih (i + 1) f _ _ (by omega) (by omega) (hget_app h0)
          · rw [decide_eq_false c3, cnd_f, crsU_f2 c3, Bool.xor_false]; exact ih (i + 1) f _ _ (by omega) (by omega) (hget_app h0)
        · rw [decide_eq_false c2, cnd_f, crsU_f1 c2, Bool.xor_false]; exact ih (i + 1) f _ _ (by omega) (by omega) (hget_app h0)
    · rfl
theorem s44 (d : Nat) (ps : List Pt) (p : Pt) (hl : ps.length ≤ 140737488355328) : pcall M (d + 10) 44 [.lst (ps.map pt), pt p] = some (.int .i64 (sideB ps p)) := told (q44 (d + 9) _ _ _) (by
  refine Eq.trans (hop_eq (by rfl)) ?_; refine Eq.trans (snp_free (by rfl)) ?_
  refine Eq.trans (pl_bool (s29 d ps hl)) ?_
  refine Eq.trans (pl_len (by rfl)) ?_
  unfold sideB
  cases hr : rightB ps
  · rfl
  · refine Eq.trans (pl_f (by rfl)) ?_; refine Eq.trans (hop_eq (by rfl)) ?_; refine Eq.trans (pl_agg (by rfl) (by rfl)) ?_; refine Eq.trans (pl_int (by rfl)) ?_; refine Eq.trans (pl_int (by rfl)) ?_
    refine Eq.trans (pl_bool (s26 (d + 8) p)) ?_
    change cnd (!okb p) _ _ = _
    cases hp : okb p
    · rfl
    · refine Eq.trans (pl_f (by rfl)) ?_
      exact rside0 (d + 1) ps p hl (right_ok hr).2.2 (okb_t.mp hp) ps.length 0 1000000000000000000 false _ (by omega) (by omega) rfl)
end Go.Proofs.Ytjblhppbjebagaa.AE
