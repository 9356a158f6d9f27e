/- The texts that the seat's laws need, part 3. No conditions. -/
import Derived.ChangeArms
import Derived.WideShapes
import Derived.OpenShut
import Derived.Deep.Slices
import Derived.Test.YtjblhppbjebagaaMc2
namespace Go.Proofs.Ytjblhppbjebagaa.AE
set_option linter.unusedVariables false
set_option linter.unusedSimpArgs false
set_option linter.constructorNameAsVariable false
open Go
set_option maxRecDepth 100000
noncomputable def X31_0_0 (d : Nat) (a0 : List AV) (v0 : AV) (x13 x195 : Int) (H : Heap) : Ans :=
  C0.fin H (.int .i64 x195)
theorem X31_0_0_ok (d : Nat) (a0 : List AV) (a1 a2 : Int) (v0 : AV) (b4 : Bool) (x8 x9 : Int) (b10 : Bool) (x13 x194 x195 : Int) (v196 v197 v198 : AV) (x199 : Int) (v200 v201 v202 v203 v204 v205 v206 v207 v208 v209 v210 v211 v212 v213 v214 v215 v216 v217 v218 v219 v220 v221 v222 v223 v224 v225 v226 v227 v228 v229 v230 v231 v232 v233 v234 v235 v236 v237 v238 v239 v240 : AV) (H : Heap) : r31X0_0 C0 d a0 a1 a2 v0 b4 x8 x9 b10 x13 ⟨[(.lst a0), (.agg [(.int .i64 a1), (.int .i64 a2)]), (.tup []), v0, (.int .i64 x194), (.int .i64 x195), v196, v197, v198, (.lst a0), (.bool b4), (.bool (!b4)), (.bool false), (.agg [(.int .i64 x8), (.int .i64 x9)]), (.bool b10), (.bool (!b10)), (.bool false), (.lst a0), (.int .i64 x13), (.int .i64 x199), v200, v201, v202, v203, v204, v205, v206, v207, v208, v209, v210, v211, v212, v213, v214, v215, v216, v217, v218, v219, v220, v221, v222, v223, v224, v225, v226, v227, v228, v229, v230, v231, v232, v233, v234, v235, v236, v237, v238, v239, v240, (.tup [])], H⟩ = X31_0_0 d a0 v0 x13 x195 H := by
  unfold r31X0_0; refine Eq.trans (pl_len (by rfl)) ?_; (iterate 4 (refine Eq.trans (pl_same (by rfl)) ?_)); (iterate 2 (refine Eq.trans (pl_int (by rfl)) ?_)); (iterate 3 (refine Eq.trans (pl_any (by rfl)) ?_)); (iterate 10 (refine Eq.trans (pl_same (by rfl)) ?_)); refine Eq.trans (pl_int (by rfl)) ?_; (iterate 41 (refine Eq.trans (pl_any (by rfl)) ?_)); refine Eq.trans (pl_same (by rfl)) ?_
  rfl
noncomputable def E31_0 (d : Nat) (a0 : List AV) (v0 : AV) (x13 x241 : Int) (H : Heap) : Ans :=
  C0.fin H (.int .i64 x241)
theorem E31_0_ok (d : Nat) (a0 : List AV) (a1 a2 : Int) (v0 : AV) (b4 : Bool) (x8 x9 : Int) (b10 : Bool) (x13 x241 x242 x243 : Int) (v244 v245 : AV) (x246 : Int) (v247 : AV) (x248 x251 x252 x254 x255 : Int) (v256 : AV) (x257 x260 x261 x263 x264 x266 x267 x269 x270 x272 x273 x275 x276 x278 x279 : Int) (b280 : Bool) (v281 v282 v283 v284 v285 v286 v287 v288 v289 v290 v291 v292 v293 v294 v295 v296 v297 v298 v299 v300 v301 v302 v303 v304 v305 v306 v307 v308 v309 : AV) (H : Heap) : r31E0 C0 d a0 a1 a2 v0 b4 x8 x9 b10 x13 ⟨[(.lst a0), (.agg [(.int .i64 a1), (.int .i64 a2)]), (.tup []), v0, (.int .i64 x241), (.int .i64 x242), (.int .i64 x243), v244, v245, (.lst a0), (.bool b4), (.bool (!b4)), (.bool false), (.agg [(.int .i64 x8), (.int .i64 x9)]), (.bool b10), (.bool (!b10)), (.bool false), (.lst a0), (.int .i64 x13), (.int .i64 x246), v247, (.int .i64 x248), (.tup [(.agg [(.int .i64 x251), (.int .i64 x252)]), (.agg [(.int .i64 x254), (.int .i64 x255)])]), v256, (.int .i64 x257), (.tup [(.agg [(.int .i64 x260), (.int .i64 x261)]), (.agg [(.int .i64 x263), (.int .i64 x264)])]), (.agg [(.int .i64 x266), (.int .i64 x267)]), (.agg [(.int .i64 x269), (.int .i64 x270)]), (.agg [(.int .i64 x272), (.int .i64 x273)]), (.agg [(.int .i64 x275), (.int .i64 x276)]), (.agg [(.int .i64 x278), (.int .i64 x279)]), (.bool b280), v281, v282, v283, v284, v285, v286, v287, v288, v289, v290, v291, v292, v293, v294, v295, v296, v297, v298, v299, v300, v301, v302, v303, v304, v305, v306, v307, v308, v309, (.tup [])], H⟩ = E31_0 d a0 v0 x13 x241 H := by
  unfold r31E0; refine Eq.trans (pl_len (by rfl)) ?_; (iterate 4 (refine Eq.trans (pl_same (by rfl)) ?_)); (iterate 3 (refine Eq.trans (pl_int (by rfl)) ?_)); (iterate 2 (refine Eq.trans (pl_any (by rfl)) ?_)); (iterate 10 (refine Eq.trans (pl_same (by rfl)) ?_)); refine Eq.trans (pl_int (by rfl)) ?_; refine Eq.trans (pl_any (by rfl)) ?_; refine Eq.trans (pl_int (by rfl)) ?_; refine Eq.trans (pl_tup (by rfl) (by rfl)) ?_; refine Eq.trans (pl_agg (by rfl) (by rfl)) ?_; (iterate 2 (refine Eq.trans (pl_int (by rfl)) ?_)); refine Eq.trans (pl_agg (by rfl) (by rfl)) ?_; (iterate 2 (refine Eq.trans (pl_int (by rfl)) ?_)); refine Eq.trans (pl_any (by rfl)) ?_; refine Eq.trans (pl_int (by rfl)) ?_; refine Eq.trans (pl_tup (by rfl) (by rfl)) ?_; refine Eq.trans (pl_agg (by rfl) (by rfl)) ?_; (iterate 2 (refine Eq.trans (pl_int (by rfl)) ?_)); refine Eq.trans (pl_agg (by rfl) (by rfl)) ?_; (iterate 2 (refine Eq.trans (pl_int (by rfl)) ?_)); refine Eq.trans (pl_agg (by rfl) (by rfl)) ?_; (iterate 2 (refine Eq.trans (pl_int (by rfl)) ?_)); refine Eq.trans (pl_agg (by rfl) (by rfl)) ?_; (iterate 2 (refine Eq.trans (pl_int (by rfl)) ?_)); refine Eq.trans (pl_agg (by rfl) (by rfl)) ?_; (iterate 2 (refine Eq.trans (pl_int (by rfl)) ?_)); refine Eq.trans (pl_agg (by rfl) (by rfl)) ?_; (iterate 2 (refine Eq.trans (pl_int (by rfl)) ?_)); refine Eq.trans (pl_agg (by rfl) (by rfl)) ?_; (iterate 2 (refine Eq.trans (pl_int (by rfl)) ?_)); refine Eq.trans (pl_bool (by rfl)) ?_; (iterate 29 (refine Eq.trans (pl_any (by rfl)) ?_)); refine Eq.trans (pl_same (by rfl)) ?_
  rfl
noncomputable def L31_0 (d : Nat) (a0 : List AV) (v0 : AV) (x13 : Int) : Nat → Int → Int → Heap → Ans
  | 0, _, _, _ => none
  | n + 1, x18, x22, H =>
  cnd (decide (x22 < x13))
   (C0.snp H [(.lst a0), (.int .i64 x22)] fun l64 b65 =>
   C0.tup 2 (pcall M d 46 l64) fun l66 =>
   C0.agg 2 l66[0]? fun l67 =>
   C0.int .i64 l67[0]? fun x68 =>
   C0.int .i64 l67[1]? fun x69 =>
   C0.agg 2 l66[1]? fun l70 =>
   C0.int .i64 l70[0]? fun x71 =>
   C0.int .i64 l70[1]? fun x72 =>
   cnd (b65 || true)
   (C0.hop H (.alloc E23) fun v73 h74 =>
   C0.hop h74 (.alloc E23) fun v75 h76 =>
   C0.hop h76 (.store 2 (.v v73) (.v (.agg [(.int .i64 x68), (.int .i64 x69)]))) fun v77 h78 =>
   C0.hop h78 (.store 2 (.v v75) (.v (.agg [(.int .i64 x71), (.int .i64 x72)]))) fun v79 h80 =>
   C0.hop h80 (.load true 2 (.v v0)) fun v81 h82 =>
   C0.agg 2 (some v81) fun l83 =>
   C0.int .i64 l83[0]? fun x84 =>
   C0.int .i64 l83[1]? fun x85 =>
   C0.hop h82 (.load true 2 (.v v73)) fun v86 h87 =>
   C0.agg 2 (some v86) fun l88 =>
   C0.int .i64 l88[0]? fun x89 =>
   C0.int .i64 l88[1]? fun x90 =>
   C0.hop h87 (.load true 2 (.v v75)) fun v91 h92 =>
   C0.agg 2 (some v91) fun l93 =>
   C0.int .i64 l93[0]? fun x94 =>
   C0.int .i64 l93[1]? fun x95 =>
   C0.bool (pcall M d 47 [(.agg [(.int .i64 x84), (.int .i64 x85)]), (.agg [(.int .i64 x89), (.int .i64 x90)]), (.agg [(.int .i64 x94), (.int .i64 x95)])]) fun b96 =>
   cnd b96
   (E31_0 d a0 v0 x13 0 h92)
   (C0.hop h92 (.fldA 1 (.v v73)) fun v97 h98 =>
   C0.hop h98 (.load false 1 (.v v97)) fun v99 h100 =>
   C0.int .i64 (some v99) fun x101 =>
   C0.hop h100 (.fldA 1 (.v v75)) fun v102 h103 =>
   C0.hop h103 (.load false 1 (.v v102)) fun v104 h105 =>
   C0.int .i64 (some v104) fun x106 =>
   cnd (decide (x101 > x106))
   (C0.hop h105 (.load true 2 (.v v75)) fun v107 h108 =>
   C0.agg 2 (some v107) fun l109 =>
   C0.int .i64 l109[0]? fun x110 =>
   C0.int .i64 l109[1]? fun x111 =>
   C0.hop h108 (.load true 2 (.v v73)) fun v112 h113 =>
   C0.agg 2 (some v112) fun l114 =>
   C0.int .i64 l114[0]? fun x115 =>
   C0.int .i64 l114[1]? fun x116 =>
   C0.hop h113 (.store 2 (.v v73) (.v (.agg [(.int .i64 x110), (.int .i64 x111)]))) fun v117 h118 =>
   C0.hop h118 (.store 2 (.v v75) (.v (.agg [(.int .i64 x115), (.int .i64 x116)]))) fun v119 h120 =>
   C0.hop h120 (.fldA 1 (.v v73)) fun v121 h122 =>
   C0.hop h122 (.load false 1 (.v v121)) fun v123 h124 =>
   C0.int .i64 (some v123) fun x125 =>
   C0.hop h124 (.fldA 1 (.v v0)) fun v126 h127 =>
   C0.hop h127 (.load false 1 (.v v126)) fun v128 h129 =>
   C0.int .i64 (some v128) fun x130 =>
   cnd (decide (x125 ≤ x130))
   (C0.hop h129 (.fldA 1 (.v v0)) fun v131 h132 =>
   C0.hop h132 (.load false 1 (.v v131)) fun v133 h134 =>
   C0.int .i64 (some v133) fun x135 =>
   C0.hop h134 (.fldA 1 (.v v75)) fun v136 h137 =>
   C0.hop h137 (.load false 1 (.v v136)) fun v138 h139 =>
   C0.int .i64 (some v138) fun x140 =>
   cnd (decide (x135 < x140))
   (C0.hop h139 (.load true 2 (.v v73)) fun v141 h142 =>
   C0.agg 2 (some v141) fun l143 =>
   C0.int .i64 l143[0]? fun x144 =>
   C0.int .i64 l143[1]? fun x145 =>
   C0.hop h142 (.load true 2 (.v v75)) fun v146 h147 =>
   C0.agg 2 (some v146) fun l148 =>
   C0.int .i64 l148[0]? fun x149 =>
   C0.int .i64 l148[1]? fun x150 =>
   C0.hop h147 (.load true 2 (.v v0)) fun v151 h152 =>
   C0.agg 2 (some v151) fun l153 =>
   C0.int .i64 l153[0]? fun x154 =>
   C0.int .i64 l153[1]? fun x155 =>
   C0.int .i64 (pcall M d 39 [(.agg [(.int .i64 x144), (.int .i64 x145)]), (.agg [(.int .i64 x149), (.int .i64 x150)]), (.agg [(.int .i64 x154), (.int .i64 x155)])]) fun x156 =>
   cnd (decide (x156 > 0))
   (L31_0 d a0 v0 x13 n (IntKind.wrap .i64 (0 - x18)) (IntKind.wrap .i64 (x22 + 1)) h152)
   (L31_0 d a0 v0 x13 n x18 (IntKind.wrap .i64 (x22 + 1)) h152))
   (L31_0 d a0 v0 x13 n x18 (IntKind.wrap .i64 (x22 + 1)) h139))
   (L31_0 d a0 v0 x13 n x18 (IntKind.wrap .i64 (x22 + 1)) h129))
   (C0.hop h105 (.fldA 1 (.v v73)) fun v157 h158 =>
   C0.hop h158 (.load false 1 (.v v157)) fun v159 h160 =>
   C0.int .i64 (some v159) fun x161 =>
   C0.hop h160 (.fldA 1 (.v v0)) fun v162 h163 =>
   C0.hop h163 (.load false 1 (.v v162)) fun v164 h165 =>
   C0.int .i64 (some v164) fun x166 =>
   cnd (decide (x161 ≤ x166))
   (C0.hop h165 (.fldA 1 (.v v0)) fun v167 h168 =>
   C0.hop h168 (.load false 1 (.v v167)) fun v169 h170 =>
   C0.int .i64 (some v169) fun x171 =>
   C0.hop h170 (.fldA 1 (.v v75)) fun v172 h173 =>
   C0.hop h173 (.load false 1 (.v v172)) fun v174 h175 =>
   C0.int .i64 (some v174) fun x176 =>
   cnd (decide (x171 < x176))
   (C0.hop h175 (.load true 2 (.v v73)) fun v177 h178 =>
   C0.agg 2 (some v177) fun l179 =>
   C0.int .i64 l179[0]? fun x180 =>
   C0.int .i64 l179[1]? fun x181 =>
   C0.hop h178 (.load true 2 (.v v75)) fun v182 h183 =>
   C0.agg 2 (some v182) fun l184 =>
   C0.int .i64 l184[0]? fun x185 =>
   C0.int .i64 l184[1]? fun x186 =>
   C0.hop h183 (.load true 2 (.v v0)) fun v187 h188 =>
   C0.agg 2 (some v187) fun l189 =>
   C0.int .i64 l189[0]? fun x190 =>
   C0.int .i64 l189[1]? fun x191 =>
   C0.int .i64 (pcall M d 39 [(.agg [(.int .i64 x180), (.int .i64 x181)]), (.agg [(.int .i64 x185), (.int .i64 x186)]), (.agg [(.int .i64 x190), (.int .i64 x191)])]) fun x192 =>
   cnd (decide (x192 > 0))
   (L31_0 d a0 v0 x13 n (IntKind.wrap .i64 (0 - x18)) (IntKind.wrap .i64 (x22 + 1)) h188)
   (L31_0 d a0 v0 x13 n x18 (IntKind.wrap .i64 (x22 + 1)) h188))
   (L31_0 d a0 v0 x13 n x18 (IntKind.wrap .i64 (x22 + 1)) h175))
   (L31_0 d a0 v0 x13 n x18 (IntKind.wrap .i64 (x22 + 1)) h165))))
   (none))
   (X31_0_0 d a0 v0 x13 x18 H)
theorem it31_0 (d : Nat) (a0 : List AV) (a1 a2 : Int) (v0 : AV) (b4 : Bool) (x8 x9 : Int) (b10 : Bool) (x13 : Int)   : ∀ (n : Nat) (x17 x18 : Int) (v19 v20 v21 : AV) (x22 : Int) (v23 v24 v25 v26 v27 v28 v29 v30 v31 v32 v33 v34 v35 v36 v37 v38 v39 v40 v41 v42 v43 v44 v45 v46 v47 v48 v49 v50 v51 v52 v53 v54 v55 v56 v57 v58 v59 v60 v61 v62 v63 : AV) (H : Heap), C0.iter (r31R0 C0 d a0 a1 a2 v0 b4 x8 x9 b10 x13) n ⟨[(.lst a0), (.agg [(.int .i64 a1), (.int .i64 a2)]), (.tup []), v0, (.int .i64 x17), (.int .i64 x18), v19, v20, v21, (.lst a0), (.bool b4), (.bool (!b4)), (.bool false), (.agg [(.int .i64 x8), (.int .i64 x9)]), (.bool b10), (.bool (!b10)), (.bool false), (.lst a0), (.int .i64 x13), (.int .i64 x22), v23, v24, v25, v26, v27, v28, v29, v30, v31, v32, v33, v34, v35, v36, v37, v38, v39, v40, v41, v42, v43, v44, v45, v46, v47, v48, v49, v50, v51, v52, v53, v54, v55, v56, v57, v58, v59, v60, v61, v62, v63, (.tup [])], H⟩ [0] [r31X0_0 C0 d a0 a1 a2 v0 b4 x8 x9 b10 x13] (r31E0 C0 d a0 a1 a2 v0 b4 x8 x9 b10 x13) = L31_0 d a0 v0 x13 n x18 x22 H := by
  generalize hR : r31R0 C0 d a0 a1 a2 v0 b4 x8 x9 b10 x13 = R
  intro n
  induction n with
  | zero => intros; rfl
  | succ n ih =>
    intro x17 x18 v19 v20 v21 x22 v23 v24 v25 v26 v27 v28 v29 v30 v31 v32 v33 v34 v35 v36 v37 v38 v39 v40 v41 v42 v43 v44 v45 v46 v47 v48 v49 v50 v51 v52 v53 v54 v55 v56 v57 v58 v59 v60 v61 v62 v63 H
    simp only [it_ret] at ih
    rw [it_ret, xiter_s]
    refine Eq.trans (congrFun (congrFun hR.symm _) _) ?_
    unfold r31R0
    refine Eq.trans (pl_len (by rfl)) ?_; (iterate 4 (refine Eq.trans (pl_same (by rfl)) ?_)); (iterate 2 (refine Eq.trans (pl_int (by rfl)) ?_)); (iterate 3 (refine Eq.trans (pl_any (by rfl)) ?_)); (iterate 10 (refine Eq.trans (pl_same (by rfl)) ?_)); refine Eq.trans (pl_int (by rfl)) ?_; (iterate 41 (refine Eq.trans (pl_any (by rfl)) ?_)); refine Eq.trans (pl_same (by rfl)) ?_
    simp only [L31_0, kIter_n, kIter_x, kIter_r, kOut_x, kOut_r, xgo_hit, xgo_miss, ih, X31_0_0_ok d a0 a1 a2 v0 b4 x8 x9 b10 x13  , E31_0_ok d a0 a1 a2 v0 b4 x8 x9 b10 x13  ]
/-- apogee/poly.Side -/
theorem q31 (d : Nat) (a0 : List AV) (a1 a2 : Int) : xcall C0 M unr d 31 [(.lst a0), (.agg [(.int .i64 a1), (.int .i64 a2)])] =
  C0.hop [] (.box E23 (.v (.agg [(.int .i64 a1), (.int .i64 a2)]))) fun v0 h1 =>
  C0.snp h1 [(.lst a0)] fun l2 b3 =>
  C0.bool (pcall M d 43 l2) fun b4 =>
  cnd (b3 || true)
   (cnd (!b4)
   (C0.fin h1 (.int .i64 (-1)))
   (C0.hop h1 (.load true 2 (.v v0)) fun v5 h6 =>
   C0.agg 2 (some v5) fun l7 =>
   C0.int .i64 l7[0]? fun x8 =>
   C0.int .i64 l7[1]? fun x9 =>
   C0.bool (pcall M d 35 [(.agg [(.int .i64 x8), (.int .i64 x9)])]) fun b10 =>
   cnd (!b10)
   (C0.fin h6 (.int .i64 (-1)))
   (C0.hop h6 (.bk .lenV [(.v (.lst a0))]) fun v11 h12 =>
   C0.int .i64 (some v11) fun x13 =>
   L31_0 d a0 v0 x13 1000000000000000000 (-1) 0 h12)))
   (none) := (r31 C0 d a0 a1 a2).trans (by simp only [it31_0])
noncomputable def X53f70_0_0 (d : Nat) (a0 : List AV)  : Ans :=
  some (.int .i64 (-1))
theorem X53f70_0_0_ok (d : Nat) (a0 : List AV) (x21 : Int) (v22 : AV) (x23 : Int) (v24 v25 v26 v27 v28 v29 v30 v31 v32 v33 : AV) : r53f70X0_0 C0 d a0 ⟨[(.lst a0), (.fn 70 [] []), (.tup []), (.tup []), (.int .i64 x21), v22, (.lst a0), (.int .i64 (((List.length a0) : Nat) : Int)), (.int .i64 x23), v24, v25, v26, v27, v28, v29, v30, v31, v32, v33], []⟩ = X53f70_0_0 d a0  := by
  unfold r53f70X0_0; refine Eq.trans (pl_len (by rfl)) ?_; (iterate 4 (refine Eq.trans (pl_same (by rfl)) ?_)); refine Eq.trans (pl_int (by rfl)) ?_; refine Eq.trans (pl_any (by rfl)) ?_; (iterate 2 (refine Eq.trans (pl_same (by rfl)) ?_)); refine Eq.trans (pl_int (by rfl)) ?_; (iterate 10 (refine Eq.trans (pl_any (by rfl)) ?_)); refine Eq.trans (pl_sameH) ?_
  rfl
noncomputable def E53f70_0 (d : Nat) (a0 : List AV) (x34 : Int) : Ans :=
  some (.int .i64 x34)
theorem E53f70_0_ok (d : Nat) (a0 : List AV) (x34 x35 x36 : Int) (v37 : AV) (x38 : Int) (v39 v40 : AV) (x41 : Int) (v42 : AV) (x44 x45 : Int) (b46 : Bool) (x47 : Int) (v48 : AV) : r53f70E0 C0 d a0 ⟨[(.lst a0), (.fn 70 [] []), (.tup []), (.tup []), (.int .i64 x34), (.int .i64 x35), (.lst a0), (.int .i64 (((List.length a0) : Nat) : Int)), (.int .i64 x36), v37, (.int .i64 x38), v39, v40, (.int .i64 x41), v42, (.agg [(.int .i64 x44), (.int .i64 x45)]), (.bool b46), (.int .i64 x47), v48], []⟩ = E53f70_0 d a0 x34 := by
  unfold r53f70E0; refine Eq.trans (pl_len (by rfl)) ?_; (iterate 4 (refine Eq.trans (pl_same (by rfl)) ?_)); (iterate 2 (refine Eq.trans (pl_int (by rfl)) ?_)); (iterate 2 (refine Eq.trans (pl_same (by rfl)) ?_)); refine Eq.trans (pl_int (by rfl)) ?_; refine Eq.trans (pl_any (by rfl)) ?_; refine Eq.trans (pl_int (by rfl)) ?_; (iterate 2 (refine Eq.trans (pl_any (by rfl)) ?_)); refine Eq.trans (pl_int (by rfl)) ?_; refine Eq.trans (pl_any (by rfl)) ?_; refine Eq.trans (pl_agg (by rfl) (by rfl)) ?_; (iterate 2 (refine Eq.trans (pl_int (by rfl)) ?_)); refine Eq.trans (pl_bool (by rfl)) ?_; refine Eq.trans (pl_int (by rfl)) ?_; refine Eq.trans (pl_any (by rfl)) ?_; refine Eq.trans (pl_sameH) ?_
  rfl
noncomputable def L53f70_0 (d : Nat) (a0 : List AV) : Nat → Int → Ans
  | 0, _ => none
  | n + 1, x5 =>
  cnd (decide (x5 < (((List.length a0) : Nat) : Int)))
   (cnd (decide (0 ≤ x5))
   (C0.agg 2 a0[(Int.toNat x5)]? fun l16 =>
   C0.int .i64 l16[0]? fun x17 =>
   C0.int .i64 l16[1]? fun x18 =>
   C0.bool (pcall M d 70 [(.agg [(.int .i64 x17), (.int .i64 x18)])]) fun b19 =>
   cnd b19
   (E53f70_0 d a0 x5)
   (L53f70_0 d a0 n (IntKind.wrap .i64 (x5 + 1))))
   (none))
   (X53f70_0_0 d a0)
theorem it53f70_0 (d : Nat) (a0 : List AV)   : ∀ (n : Nat) (x3 : Int) (v4 : AV) (x5 : Int) (v6 v7 v8 v9 v10 v11 v12 v13 v14 v15 : AV), C0.iter (r53f70R0 C0 d a0) n ⟨[(.lst a0), (.fn 70 [] []), (.tup []), (.tup []), (.int .i64 x3), v4, (.lst a0), (.int .i64 (((List.length a0) : Nat) : Int)), (.int .i64 x5), v6, v7, v8, v9, v10, v11, v12, v13, v14, v15], []⟩ [0] [r53f70X0_0 C0 d a0] (r53f70E0 C0 d a0) = L53f70_0 d a0 n x5 := by
  generalize hR : r53f70R0 C0 d a0 = R
  intro n
  induction n with
  | zero => intros; rfl
  | succ n ih =>
    intro x3 v4 x5 v6 v7 v8 v9 v10 v11 v12 v13 v14 v15
    simp only [it_ret] at ih
    rw [it_ret, xiter_s]
    refine Eq.trans (congrFun (congrFun hR.symm _) _) ?_
    unfold r53f70R0
    refine Eq.trans (pl_len (by rfl)) ?_; (iterate 4 (refine Eq.trans (pl_same (by rfl)) ?_)); refine Eq.trans (pl_int (by rfl)) ?_; refine Eq.trans (pl_any (by rfl)) ?_; (iterate 2 (refine Eq.trans (pl_same (by rfl)) ?_)); refine Eq.trans (pl_int (by rfl)) ?_; (iterate 10 (refine Eq.trans (pl_any (by rfl)) ?_)); refine Eq.trans (pl_sameH) ?_
    simp only [L53f70_0, kIter_n, kIter_x, kIter_r, kOut_x, kOut_r, xgo_hit, xgo_miss, ih, X53f70_0_0_ok d a0  , E53f70_0_ok d a0  ]
/-- slices.IndexFunc[[]apogee/api.Point,apogee/api.Point] -/
theorem q53f70 (d : Nat) (a0 : List AV) (a1 : AV) : xcall C0 M unr d 53 [(.lst a0), (.fn 70 [] [])] =
  L53f70_0 d a0 1000000000000000000 0 := (r53f70 C0 d a0 a1).trans (by simp only [it53f70_0])
noncomputable def X53f57_0_0 (d : Nat) (a0 : List AV)  : Ans :=
  some (.int .i64 (-1))
theorem X53f57_0_0_ok (d : Nat) (a0 : List AV) (x21 : Int) (v22 : AV) (x23 : Int) (v24 v25 v26 v27 v28 v29 v30 v31 v32 v33 : AV) : r53f57X0_0 C0 d a0 ⟨[(.lst a0), (.fn 57 [] []), (.tup []), (.tup []), (.int .i64 x21), v22, (.lst a0), (.int .i64 (((List.length a0) : Nat) : Int)), (.int .i64 x23), v24, v25, v26, v27, v28, v29, v30, v31, v32, v33], []⟩ = X53f57_0_0 d a0  := by
  unfold r53f57X0_0; refine Eq.trans (pl_len (by rfl)) ?_; (iterate 4 (refine Eq.trans (pl_same (by rfl)) ?_)); refine Eq.trans (pl_int (by rfl)) ?_; refine Eq.trans (pl_any (by rfl)) ?_; (iterate 2 (refine Eq.trans (pl_same (by rfl)) ?_)); refine Eq.trans (pl_int (by rfl)) ?_; (iterate 10 (refine Eq.trans (pl_any (by rfl)) ?_)); refine Eq.trans (pl_sameH) ?_
  rfl
noncomputable def E53f57_0 (d : Nat) (a0 : List AV) (x34 : Int) : Ans :=
  some (.int .i64 x34)
theorem E53f57_0_ok (d : Nat) (a0 : List AV) (x34 x35 x36 : Int) (v37 : AV) (x38 : Int) (v39 v40 : AV) (x41 : Int) (v42 : AV) (x44 x45 : Int) (b46 : Bool) (x47 : Int) (v48 : AV) : r53f57E0 C0 d a0 ⟨[(.lst a0), (.fn 57 [] []), (.tup []), (.tup []), (.int .i64 x34), (.int .i64 x35), (.lst a0), (.int .i64 (((List.length a0) : Nat) : Int)), (.int .i64 x36), v37, (.int .i64 x38), v39, v40, (.int .i64 x41), v42, (.agg [(.int .i64 x44), (.int .i64 x45)]), (.bool b46), (.int .i64 x47), v48], []⟩ = E53f57_0 d a0 x34 := by
  unfold r53f57E0; refine Eq.trans (pl_len (by rfl)) ?_; (iterate 4 (refine Eq.trans (pl_same (by rfl)) ?_)); (iterate 2 (refine Eq.trans (pl_int (by rfl)) ?_)); (iterate 2 (refine Eq.trans (pl_same (by rfl)) ?_)); refine Eq.trans (pl_int (by rfl)) ?_; refine Eq.trans (pl_any (by rfl)) ?_; refine Eq.trans (pl_int (by rfl)) ?_; (iterate 2 (refine Eq.trans (pl_any (by rfl)) ?_)); refine Eq.trans (pl_int (by rfl)) ?_; refine Eq.trans (pl_any (by rfl)) ?_; refine Eq.trans (pl_agg (by rfl) (by rfl)) ?_; (iterate 2 (refine Eq.trans (pl_int (by rfl)) ?_)); refine Eq.trans (pl_bool (by rfl)) ?_; refine Eq.trans (pl_int (by rfl)) ?_; refine Eq.trans (pl_any (by rfl)) ?_; refine Eq.trans (pl_sameH) ?_
  rfl
noncomputable def L53f57_0 (d : Nat) (a0 : List AV) : Nat → Int → Ans
  | 0, _ => none
  | n + 1, x5 =>
  cnd (decide (x5 < (((List.length a0) : Nat) : Int)))
   (cnd (decide (0 ≤ x5))
   (C0.agg 2 a0[(Int.toNat x5)]? fun l16 =>
   C0.int .i64 l16[0]? fun x17 =>
   C0.int .i64 l16[1]? fun x18 =>
   C0.bool (pcall M d 57 [(.agg [(.int .i64 x17), (.int .i64 x18)])]) fun b19 =>
   cnd b19
   (E53f57_0 d a0 x5)
   (L53f57_0 d a0 n (IntKind.wrap .i64 (x5 + 1))))
   (none))
   (X53f57_0_0 d a0)
theorem it53f57_0 (d : Nat) (a0 : List AV)   : ∀ (n : Nat) (x3 : Int) (v4 : AV) (x5 : Int) (v6 v7 v8 v9 v10 v11 v12 v13 v14 v15 : AV), C0.iter (r53f57R0 C0 d a0) n ⟨[(.lst a0), (.fn 57 [] []), (.tup []), (.tup []), (.int .i64 x3), v4, (.lst a0), (.int .i64 (((List.length a0) : Nat) : Int)), (.int .i64 x5), v6, v7, v8, v9, v10, v11, v12, v13, v14, v15], []⟩ [0] [r53f57X0_0 C0 d a0] (r53f57E0 C0 d a0) = L53f57_0 d a0 n x5 := by
  generalize hR : r53f57R0 C0 d a0 = R
  intro n
  induction n with
  | zero => intros; rfl
  | succ n ih =>
    intro x3 v4 x5 v6 v7 v8 v9 v10 v11 v12 v13 v14 v15
    simp only [it_ret] at ih
    rw [it_ret, xiter_s]
    refine Eq.trans (congrFun (congrFun hR.symm _) _) ?_
    unfold r53f57R0
    refine Eq.trans (pl_len (by rfl)) ?_; (iterate 4 (refine Eq.trans (pl_same (by rfl)) ?_)); refine Eq.trans (pl_int (by rfl)) ?_; refine Eq.trans (pl_any (by rfl)) ?_; (iterate 2 (refine Eq.trans (pl_same (by rfl)) ?_)); refine Eq.trans (pl_int (by rfl)) ?_; (iterate 10 (refine Eq.trans (pl_any (by rfl)) ?_)); refine Eq.trans (pl_sameH) ?_
    simp only [L53f57_0, kIter_n, kIter_x, kIter_r, kOut_x, kOut_r, xgo_hit, xgo_miss, ih, X53f57_0_0_ok d a0  , E53f57_0_ok d a0  ]
/-- slices.IndexFunc[[]apogee/api.Point,apogee/api.Point] -/
theorem q53f57 (d : Nat) (a0 : List AV) (a1 : AV) : xcall C0 M unr d 53 [(.lst a0), (.fn 57 [] [])] =
  L53f57_0 d a0 1000000000000000000 0 := (r53f57 C0 d a0 a1).trans (by simp only [it53f57_0])
noncomputable def X56_1_0 (d : Nat) (a0 : List AV) (x7 : Int) (k2N : Int → Ans) (k2R : Bool → Ans)  : Ans :=
  k2N (IntKind.wrap .i64 (x7 + 1))
theorem X56_1_0_ok (d : Nat) (a0 : List AV) (b0 : Bool) (k2 : Ex → St → Ans) (x7 : Int) (v31 : AV) (k2N : Int → Ans) (k2R : Bool → Ans) (hk2N : ∀ (b4 : Bool) (v5 v6 : AV) (x7 : Int) (v8 v9 v10 v11 v12 v13 v14 v15 v16 v17 v18 v19 v20 v21 v22 v23 v24 v25 v26 v27 v28 v29 v30 v31 : AV), k2 .normal ⟨[(.lst a0), (.tup []), (.bool b4), (.int .i64 (((List.length a0) : Nat) : Int)), v5, v6, (.lst a0), (.int .i64 (((List.length a0) : Nat) : Int)), (.int .i64 (((List.length a0) : Nat) : Int)), (.bool (decide ((((List.length a0) : Nat) : Int) < 3))), (.bool false), (.int .i64 (((List.length a0) : Nat) : Int)), (.bool (decide ((((List.length a0) : Nat) : Int) > 8))), (.bool (decide ((((List.length a0) : Nat) : Int) > 8))), (.bool false), (.lst a0), (.bool b0), (.bool false), (.int .i64 (((List.length a0) : Nat) : Int)), (.int .i64 x7), v8, v9, v10, v11, v12, v13, v14, v15, v16, v17, v18, v19, v20, v21, v22, v23, v24, v25, v26, v27, v28, v29, v30, v31], []⟩ = k2N x7) (hk2R : ∀ (b142 : Bool) (x143 x144 x145 : Int) (b146 : Bool) (x147 x148 x149 : Int) (b150 : Bool) (x151 : Int) (v152 : AV) (x153 : Int) (v154 : AV) (x156 x157 : Int) (v158 : AV) (x159 : Int) (v160 : AV) (x162 x163 : Int) (b164 b165 : Bool) (v166 v167 v168 v169 v170 : AV) (b171 : Bool) (v172 v173 : AV), k2 .ret ⟨[(.lst a0), (.tup []), (.bool b142), (.int .i64 (((List.length a0) : Nat) : Int)), (.int .i64 x143), (.int .i64 x144), (.lst a0), (.int .i64 (((List.length a0) : Nat) : Int)), (.int .i64 (((List.length a0) : Nat) : Int)), (.bool (decide ((((List.length a0) : Nat) : Int) < 3))), (.bool false), (.int .i64 (((List.length a0) : Nat) : Int)), (.bool (decide ((((List.length a0) : Nat) : Int) > 8))), (.bool (decide ((((List.length a0) : Nat) : Int) > 8))), (.bool false), (.lst a0), (.bool b0), (.bool false), (.int .i64 (((List.length a0) : Nat) : Int)), (.int .i64 x145), (.bool b146), (.int .i64 x147), (.int .i64 x148), (.int .i64 x149), (.bool b150), (.int .i64 x151), v152, (.int .i64 x153), v154, (.agg [(.int .i64 x156), (.int .i64 x157)]), v158, (.int .i64 x159), v160, (.agg [(.int .i64 x162), (.int .i64 x163)]), (.bool b164), (.bool b165), v166, v167, v168, v169, v170, (.bool b171), v172, v173], []⟩ = k2R b142) (b65 : Bool) (v66 : AV) (x67 : Int) (b68 : Bool) (v69 v70 v71 v72 v73 v74 v75 v76 v77 v78 v79 v80 v81 v82 v83 v84 v85 v86 : AV) : r56X1_0 C0 d a0 b0 k2 x7 v31 ⟨[(.lst a0), (.tup []), (.bool b65), (.int .i64 (((List.length a0) : Nat) : Int)), (.int .i64 x7), v66, (.lst a0), (.int .i64 (((List.length a0) : Nat) : Int)), (.int .i64 (((List.length a0) : Nat) : Int)), (.bool (decide ((((List.length a0) : Nat) : Int) < 3))), (.bool false), (.int .i64 (((List.length a0) : Nat) : Int)), (.bool (decide ((((List.length a0) : Nat) : Int) > 8))), (.bool (decide ((((List.length a0) : Nat) : Int) > 8))), (.bool false), (.lst a0), (.bool b0), (.bool false), (.int .i64 (((List.length a0) : Nat) : Int)), (.int .i64 x7), (.bool true), (.int .i64 x7), (.int .i64 x7), (.int .i64 x67), (.bool b68), v69, v70, v71, v72, v73, v74, v75, v76, v77, v78, v79, v80, v81, v82, v83, v84, v85, v86, v31], []⟩ = X56_1_0 d a0 x7 k2N k2R  := by
  try dsimp only at hk2N
  try dsimp only at hk2R
  unfold r56X1_0; refine Eq.trans (pl_len (by rfl)) ?_; (iterate 2 (refine Eq.trans (pl_same (by rfl)) ?_)); refine Eq.trans (pl_bool (by rfl)) ?_; (iterate 2 (refine Eq.trans (pl_same (by rfl)) ?_)); refine Eq.trans (pl_any (by rfl)) ?_; (iterate 17 (refine Eq.trans (pl_same (by rfl)) ?_)); refine Eq.trans (pl_int (by rfl)) ?_; refine Eq.trans (pl_bool (by rfl)) ?_; (iterate 18 (refine Eq.trans (pl_any (by rfl)) ?_)); refine Eq.trans (pl_same (by rfl)) ?_; refine Eq.trans (pl_sameH) ?_
  first | rfl | (simp only [hk2N, hk2R] <;> rfl)
noncomputable def E56_1 (d : Nat) (a0 : List AV) (x7 : Int) (k2N : Int → Ans) (k2R : Bool → Ans) (b87 : Bool) : Ans :=
  k2R b87
theorem E56_1_ok (d : Nat) (a0 : List AV) (b0 : Bool) (k2 : Ex → St → Ans) (x7 : Int) (v31 : AV) (k2N : Int → Ans) (k2R : Bool → Ans) (hk2N : ∀ (b4 : Bool) (v5 v6 : AV) (x7 : Int) (v8 v9 v10 v11 v12 v13 v14 v15 v16 v17 v18 v19 v20 v21 v22 v23 v24 v25 v26 v27 v28 v29 v30 v31 : AV), k2 .normal ⟨[(.lst a0), (.tup []), (.bool b4), (.int .i64 (((List.length a0) : Nat) : Int)), v5, v6, (.lst a0), (.int .i64 (((List.length a0) : Nat) : Int)), (.int .i64 (((List.length a0) : Nat) : Int)), (.bool (decide ((((List.length a0) : Nat) : Int) < 3))), (.bool false), (.int .i64 (((List.length a0) : Nat) : Int)), (.bool (decide ((((List.length a0) : Nat) : Int) > 8))), (.bool (decide ((((List.length a0) : Nat) : Int) > 8))), (.bool false), (.lst a0), (.bool b0), (.bool false), (.int .i64 (((List.length a0) : Nat) : Int)), (.int .i64 x7), v8, v9, v10, v11, v12, v13, v14, v15, v16, v17, v18, v19, v20, v21, v22, v23, v24, v25, v26, v27, v28, v29, v30, v31], []⟩ = k2N x7) (hk2R : ∀ (b142 : Bool) (x143 x144 x145 : Int) (b146 : Bool) (x147 x148 x149 : Int) (b150 : Bool) (x151 : Int) (v152 : AV) (x153 : Int) (v154 : AV) (x156 x157 : Int) (v158 : AV) (x159 : Int) (v160 : AV) (x162 x163 : Int) (b164 b165 : Bool) (v166 v167 v168 v169 v170 : AV) (b171 : Bool) (v172 v173 : AV), k2 .ret ⟨[(.lst a0), (.tup []), (.bool b142), (.int .i64 (((List.length a0) : Nat) : Int)), (.int .i64 x143), (.int .i64 x144), (.lst a0), (.int .i64 (((List.length a0) : Nat) : Int)), (.int .i64 (((List.length a0) : Nat) : Int)), (.bool (decide ((((List.length a0) : Nat) : Int) < 3))), (.bool false), (.int .i64 (((List.length a0) : Nat) : Int)), (.bool (decide ((((List.length a0) : Nat) : Int) > 8))), (.bool (decide ((((List.length a0) : Nat) : Int) > 8))), (.bool false), (.lst a0), (.bool b0), (.bool false), (.int .i64 (((List.length a0) : Nat) : Int)), (.int .i64 x145), (.bool b146), (.int .i64 x147), (.int .i64 x148), (.int .i64 x149), (.bool b150), (.int .i64 x151), v152, (.int .i64 x153), v154, (.agg [(.int .i64 x156), (.int .i64 x157)]), v158, (.int .i64 x159), v160, (.agg [(.int .i64 x162), (.int .i64 x163)]), (.bool b164), (.bool b165), v166, v167, v168, v169, v170, (.bool b171), v172, v173], []⟩ = k2R b142) (b87 : Bool) (x88 x89 : Int) (b90 : Bool) (x91 : Int) (v92 : AV) (x93 : Int) (v94 : AV) (x96 x97 : Int) (v98 : AV) (x99 : Int) (v100 : AV) (x102 x103 : Int) (b104 b105 : Bool) (v106 v107 v108 v109 v110 : AV) (b111 : Bool) (v112 : AV) : r56E1 C0 d a0 b0 k2 x7 v31 ⟨[(.lst a0), (.tup []), (.bool b87), (.int .i64 (((List.length a0) : Nat) : Int)), (.int .i64 x7), (.int .i64 x88), (.lst a0), (.int .i64 (((List.length a0) : Nat) : Int)), (.int .i64 (((List.length a0) : Nat) : Int)), (.bool (decide ((((List.length a0) : Nat) : Int) < 3))), (.bool false), (.int .i64 (((List.length a0) : Nat) : Int)), (.bool (decide ((((List.length a0) : Nat) : Int) > 8))), (.bool (decide ((((List.length a0) : Nat) : Int) > 8))), (.bool false), (.lst a0), (.bool b0), (.bool false), (.int .i64 (((List.length a0) : Nat) : Int)), (.int .i64 x7), (.bool true), (.int .i64 x7), (.int .i64 x7), (.int .i64 x89), (.bool b90), (.int .i64 x91), v92, (.int .i64 x93), v94, (.agg [(.int .i64 x96), (.int .i64 x97)]), v98, (.int .i64 x99), v100, (.agg [(.int .i64 x102), (.int .i64 x103)]), (.bool b104), (.bool b105), v106, v107, v108, v109, v110, (.bool b111), v112, v31], []⟩ = E56_1 d a0 x7 k2N k2R b87 := by
  try dsimp only at hk2N
  try dsimp only at hk2R
  unfold r56E1; refine Eq.trans (pl_len (by rfl)) ?_; (iterate 2 (refine Eq.trans (pl_same (by rfl)) ?_)); refine Eq.trans (pl_bool (by rfl)) ?_; (iterate 2 (refine Eq.trans (pl_same (by rfl)) ?_)); refine Eq.trans (pl_int (by rfl)) ?_; (iterate 17 (refine Eq.trans (pl_same (by rfl)) ?_)); refine Eq.trans (pl_int (by rfl)) ?_; refine Eq.trans (pl_bool (by rfl)) ?_; refine Eq.trans (pl_int (by rfl)) ?_; refine Eq.trans (pl_any (by rfl)) ?_; refine Eq.trans (pl_int (by rfl)) ?_; refine Eq.trans (pl_any (by rfl)) ?_; refine Eq.trans (pl_agg (by rfl) (by rfl)) ?_; (iterate 2 (refine Eq.trans (pl_int (by rfl)) ?_)); refine Eq.trans (pl_any (by rfl)) ?_; refine Eq.trans (pl_int (by rfl)) ?_; refine Eq.trans (pl_any (by rfl)) ?_; refine Eq.trans (pl_agg (by rfl) (by rfl)) ?_; (iterate 2 (refine Eq.trans (pl_int (by rfl)) ?_)); (iterate 2 (refine Eq.trans (pl_bool (by rfl)) ?_)); (iterate 5 (refine Eq.trans (pl_any (by rfl)) ?_)); refine Eq.trans (pl_bool (by rfl)) ?_; refine Eq.trans (pl_any (by rfl)) ?_; refine Eq.trans (pl_same (by rfl)) ?_; refine Eq.trans (pl_sameH) ?_
  first | rfl | (simp only [hk2N, hk2R] <;> rfl)
noncomputable def L56_1 (d : Nat) (a0 : List AV) (x7 : Int) (k2N : Int → Ans) (k2R : Bool → Ans) : Nat → Int → Ans
  | 0, _ => none
  | n + 1, x37 =>
  cnd (decide (x37 < x7))
   (cnd (decide (0 ≤ x7))
   (C0.agg 2 a0[(Int.toNat x7)]? fun l57 =>
   C0.int .i64 l57[0]? fun x58 =>
   C0.int .i64 l57[1]? fun x59 =>
   cnd (decide (0 ≤ x37))
   (C0.agg 2 a0[(Int.toNat x37)]? fun l60 =>
   C0.int .i64 l60[0]? fun x61 =>
   C0.int .i64 l60[1]? fun x62 =>
   cnd (xor false ((x58 == x61) && ((x59 == x62) && true)))
   (E56_1 d a0 x7 k2N k2R false)
   (C0.bool (pcall M d 71 [(.lst a0), (.int .i64 x37), (.int .i64 x7)]) fun b63 =>
   cnd (!b63)
   (E56_1 d a0 x7 k2N k2R false)
   (L56_1 d a0 x7 k2N k2R n (IntKind.wrap .i64 (x37 + 1)))))
   (none))
   (none))
   (X56_1_0 d a0 x7 k2N k2R)
theorem it56_1 (d : Nat) (a0 : List AV) (b0 : Bool) (k2 : Ex → St → Ans) (x7 : Int) (v31 : AV) (k2N : Int → Ans) (k2R : Bool → Ans) (hk2N : ∀ (b4 : Bool) (v5 v6 : AV) (x7 : Int) (v8 v9 v10 v11 v12 v13 v14 v15 v16 v17 v18 v19 v20 v21 v22 v23 v24 v25 v26 v27 v28 v29 v30 v31 : AV), k2 .normal ⟨[(.lst a0), (.tup []), (.bool b4), (.int .i64 (((List.length a0) : Nat) : Int)), v5, v6, (.lst a0), (.int .i64 (((List.length a0) : Nat) : Int)), (.int .i64 (((List.length a0) : Nat) : Int)), (.bool (decide ((((List.length a0) : Nat) : Int) < 3))), (.bool false), (.int .i64 (((List.length a0) : Nat) : Int)), (.bool (decide ((((List.length a0) : Nat) : Int) > 8))), (.bool (decide ((((List.length a0) : Nat) : Int) > 8))), (.bool false), (.lst a0), (.bool b0), (.bool false), (.int .i64 (((List.length a0) : Nat) : Int)), (.int .i64 x7), v8, v9, v10, v11, v12, v13, v14, v15, v16, v17, v18, v19, v20, v21, v22, v23, v24, v25, v26, v27, v28, v29, v30, v31], []⟩ = k2N x7) (hk2R : ∀ (b142 : Bool) (x143 x144 x145 : Int) (b146 : Bool) (x147 x148 x149 : Int) (b150 : Bool) (x151 : Int) (v152 : AV) (x153 : Int) (v154 : AV) (x156 x157 : Int) (v158 : AV) (x159 : Int) (v160 : AV) (x162 x163 : Int) (b164 b165 : Bool) (v166 v167 v168 v169 v170 : AV) (b171 : Bool) (v172 v173 : AV), k2 .ret ⟨[(.lst a0), (.tup []), (.bool b142), (.int .i64 (((List.length a0) : Nat) : Int)), (.int .i64 x143), (.int .i64 x144), (.lst a0), (.int .i64 (((List.length a0) : Nat) : Int)), (.int .i64 (((List.length a0) : Nat) : Int)), (.bool (decide ((((List.length a0) : Nat) : Int) < 3))), (.bool false), (.int .i64 (((List.length a0) : Nat) : Int)), (.bool (decide ((((List.length a0) : Nat) : Int) > 8))), (.bool (decide ((((List.length a0) : Nat) : Int) > 8))), (.bool false), (.lst a0), (.bool b0), (.bool false), (.int .i64 (((List.length a0) : Nat) : Int)), (.int .i64 x145), (.bool b146), (.int .i64 x147), (.int .i64 x148), (.int .i64 x149), (.bool b150), (.int .i64 x151), v152, (.int .i64 x153), v154, (.agg [(.int .i64 x156), (.int .i64 x157)]), v158, (.int .i64 x159), v160, (.agg [(.int .i64 x162), (.int .i64 x163)]), (.bool b164), (.bool b165), v166, v167, v168, v169, v170, (.bool b171), v172, v173], []⟩ = k2R b142) : ∀ (n : Nat) (b35 : Bool) (v36 : AV) (x37 : Int) (v38 v39 v40 v41 v42 v43 v44 v45 v46 v47 v48 v49 v50 v51 v52 v53 v54 v55 v56 : AV), C0.iter (r56R1 C0 d a0 b0 k2 x7 v31) n ⟨[(.lst a0), (.tup []), (.bool b35), (.int .i64 (((List.length a0) : Nat) : Int)), (.int .i64 x7), v36, (.lst a0), (.int .i64 (((List.length a0) : Nat) : Int)), (.int .i64 (((List.length a0) : Nat) : Int)), (.bool (decide ((((List.length a0) : Nat) : Int) < 3))), (.bool false), (.int .i64 (((List.length a0) : Nat) : Int)), (.bool (decide ((((List.length a0) : Nat) : Int) > 8))), (.bool (decide ((((List.length a0) : Nat) : Int) > 8))), (.bool false), (.lst a0), (.bool b0), (.bool false), (.int .i64 (((List.length a0) : Nat) : Int)), (.int .i64 x7), (.bool true), (.int .i64 x7), (.int .i64 x7), (.int .i64 x37), v38, v39, v40, v41, v42, v43, v44, v45, v46, v47, v48, v49, v50, v51, v52, v53, v54, v55, v56, v31], []⟩ [2] [r56X1_0 C0 d a0 b0 k2 x7 v31] (r56E1 C0 d a0 b0 k2 x7 v31) = L56_1 d a0 x7 k2N k2R n x37 := by
  generalize hR : r56R1 C0 d a0 b0 k2 x7 v31 = R
  intro n
  induction n with
  | zero => intros; rfl
  | succ n ih =>
    intro b35 v36 x37 v38 v39 v40 v41 v42 v43 v44 v45 v46 v47 v48 v49 v50 v51 v52 v53 v54 v55 v56
    simp only [it_ret] at ih
    rw [it_ret, xiter_s]
    refine Eq.trans (congrFun (congrFun hR.symm _) _) ?_
    unfold r56R1
    refine Eq.trans (pl_len (by rfl)) ?_; (iterate 2 (refine Eq.trans (pl_same (by rfl)) ?_)); refine Eq.trans (pl_bool (by rfl)) ?_; (iterate 2 (refine Eq.trans (pl_same (by rfl)) ?_)); refine Eq.trans (pl_any (by rfl)) ?_; (iterate 17 (refine Eq.trans (pl_same (by rfl)) ?_)); refine Eq.trans (pl_int (by rfl)) ?_; (iterate 19 (refine Eq.trans (pl_any (by rfl)) ?_)); refine Eq.trans (pl_same (by rfl)) ?_; refine Eq.trans (pl_sameH) ?_
    simp only [L56_1, kIter_n, kIter_x, kIter_r, kOut_x, kOut_r, xgo_hit, xgo_miss, ih, X56_1_0_ok d a0 b0 k2 x7 v31 k2N k2R hk2N hk2R, E56_1_ok d a0 b0 k2 x7 v31 k2N k2R hk2N hk2R]
noncomputable def X56_0_0 (d : Nat) (a0 : List AV)  : Ans :=
  some (.bool true)
theorem X56_0_0_ok (d : Nat) (a0 : List AV) (b0 b114 : Bool) (v115 v116 : AV) (x117 : Int) (b118 : Bool) (v119 v120 v121 v122 v123 v124 v125 v126 v127 v128 v129 v130 v131 v132 v133 v134 v135 v136 v137 v138 v139 v140 v141 : AV) : r56X0_0 C0 d a0 b0 ⟨[(.lst a0), (.tup []), (.bool b114), (.int .i64 (((List.length a0) : Nat) : Int)), v115, v116, (.lst a0), (.int .i64 (((List.length a0) : Nat) : Int)), (.int .i64 (((List.length a0) : Nat) : Int)), (.bool (decide ((((List.length a0) : Nat) : Int) < 3))), (.bool false), (.int .i64 (((List.length a0) : Nat) : Int)), (.bool (decide ((((List.length a0) : Nat) : Int) > 8))), (.bool (decide ((((List.length a0) : Nat) : Int) > 8))), (.bool false), (.lst a0), (.bool b0), (.bool false), (.int .i64 (((List.length a0) : Nat) : Int)), (.int .i64 x117), (.bool b118), v119, v120, v121, v122, v123, v124, v125, v126, v127, v128, v129, v130, v131, v132, v133, v134, v135, v136, v137, v138, v139, v140, v141], []⟩ = X56_0_0 d a0  := by
  unfold r56X0_0; refine Eq.trans (pl_len (by rfl)) ?_; (iterate 2 (refine Eq.trans (pl_same (by rfl)) ?_)); refine Eq.trans (pl_bool (by rfl)) ?_; refine Eq.trans (pl_same (by rfl)) ?_; (iterate 2 (refine Eq.trans (pl_any (by rfl)) ?_)); (iterate 13 (refine Eq.trans (pl_same (by rfl)) ?_)); refine Eq.trans (pl_int (by rfl)) ?_; refine Eq.trans (pl_bool (by rfl)) ?_; (iterate 23 (refine Eq.trans (pl_any (by rfl)) ?_)); refine Eq.trans (pl_sameH) ?_
  rfl
noncomputable def E56_0 (d : Nat) (a0 : List AV) (b142 : Bool) : Ans :=
  some (.bool b142)
theorem E56_0_ok (d : Nat) (a0 : List AV) (b0 b142 : Bool) (x143 x144 x145 : Int) (b146 : Bool) (x147 x148 x149 : Int) (b150 : Bool) (x151 : Int) (v152 : AV) (x153 : Int) (v154 : AV) (x156 x157 : Int) (v158 : AV) (x159 : Int) (v160 : AV) (x162 x163 : Int) (b164 b165 : Bool) (v166 v167 v168 v169 v170 : AV) (b171 : Bool) (v172 v173 : AV) : r56E0 C0 d a0 b0 ⟨[(.lst a0), (.tup []), (.bool b142), (.int .i64 (((List.length a0) : Nat) : Int)), (.int .i64 x143), (.int .i64 x144), (.lst a0), (.int .i64 (((List.length a0) : Nat) : Int)), (.int .i64 (((List.length a0) : Nat) : Int)), (.bool (decide ((((List.length a0) : Nat) : Int) < 3))), (.bool false), (.int .i64 (((List.length a0) : Nat) : Int)), (.bool (decide ((((List.length a0) : Nat) : Int) > 8))), (.bool (decide ((((List.length a0) : Nat) : Int) > 8))), (.bool false), (.lst a0), (.bool b0), (.bool false), (.int .i64 (((List.length a0) : Nat) : Int)), (.int .i64 x145), (.bool b146), (.int .i64 x147), (.int .i64 x148), (.int .i64 x149), (.bool b150), (.int .i64 x151), v152, (.int .i64 x153), v154, (.agg [(.int .i64 x156), (.int .i64 x157)]), v158, (.int .i64 x159), v160, (.agg [(.int .i64 x162), (.int .i64 x163)]), (.bool b164), (.bool b165), v166, v167, v168, v169, v170, (.bool b171), v172, v173], []⟩ = E56_0 d a0 b142 := by
  unfold r56E0; refine Eq.trans (pl_len (by rfl)) ?_; (iterate 2 (refine Eq.trans (pl_same (by rfl)) ?_)); refine Eq.trans (pl_bool (by rfl)) ?_; refine Eq.trans (pl_same (by rfl)) ?_; (iterate 2 (refine Eq.trans (pl_int (by rfl)) ?_)); (iterate 13 (refine Eq.trans (pl_same (by rfl)) ?_)); refine Eq.trans (pl_int (by rfl)) ?_; refine Eq.trans (pl_bool (by rfl)) ?_; (iterate 3 (refine Eq.trans (pl_int (by rfl)) ?_)); refine Eq.trans (pl_bool (by rfl)) ?_; refine Eq.trans (pl_int (by rfl)) ?_; refine Eq.trans (pl_any (by rfl)) ?_; refine Eq.trans (pl_int (by rfl)) ?_; refine Eq.trans (pl_any (by rfl)) ?_; refine Eq.trans (pl_agg (by rfl) (by rfl)) ?_; (iterate 2 (refine Eq.trans (pl_int (by rfl)) ?_)); refine Eq.trans (pl_any (by rfl)) ?_; refine Eq.trans (pl_int (by rfl)) ?_; refine Eq.trans (pl_any (by rfl)) ?_; refine Eq.trans (pl_agg (by rfl) (by rfl)) ?_; (iterate 2 (refine Eq.trans (pl_int (by rfl)) ?_)); (iterate 2 (refine Eq.trans (pl_bool (by rfl)) ?_)); (iterate 5 (refine Eq.trans (pl_any (by rfl)) ?_)); refine Eq.trans (pl_bool (by rfl)) ?_; (iterate 2 (refine Eq.trans (pl_any (by rfl)) ?_)); refine Eq.trans (pl_sameH) ?_
  rfl
noncomputable def L56_0 (d : Nat) (a0 : List AV) : Nat → Int → Ans
  | 0, _ => none
  | n + 1, x7 =>
  cnd (decide (x7 < (((List.length a0) : Nat) : Int)))
   (L56_1 d a0 x7 (fun x7 => L56_0 d a0 n x7) (fun b142 => E56_0 d a0 b142) 1000000000000000000 0)
   (X56_0_0 d a0)
theorem it56_0 (d : Nat) (a0 : List AV) (b0 : Bool)   : ∀ (n : Nat) (b4 : Bool) (v5 v6 : AV) (x7 : Int) (v8 v9 v10 v11 v12 v13 v14 v15 v16 v17 v18 v19 v20 v21 v22 v23 v24 v25 v26 v27 v28 v29 v30 v31 : AV), C0.iter (r56R0 C0 d a0 b0) n ⟨[(.lst a0), (.tup []), (.bool b4), (.int .i64 (((List.length a0) : Nat) : Int)), v5, v6, (.lst a0), (.int .i64 (((List.length a0) : Nat) : Int)), (.int .i64 (((List.length a0) : Nat) : Int)), (.bool (decide ((((List.length a0) : Nat) : Int) < 3))), (.bool false), (.int .i64 (((List.length a0) : Nat) : Int)), (.bool (decide ((((List.length a0) : Nat) : Int) > 8))), (.bool (decide ((((List.length a0) : Nat) : Int) > 8))), (.bool false), (.lst a0), (.bool b0), (.bool false), (.int .i64 (((List.length a0) : Nat) : Int)), (.int .i64 x7), v8, v9, v10, v11, v12, v13, v14, v15, v16, v17, v18, v19, v20, v21, v22, v23, v24, v25, v26, v27, v28, v29, v30, v31], []⟩ [0] [r56X0_0 C0 d a0 b0] (r56E0 C0 d a0 b0) = L56_0 d a0 n x7 := by
  generalize hR : r56R0 C0 d a0 b0 = R
  intro n
  induction n with
  | zero => intros; rfl
  | succ n ih =>
    intro b4 v5 v6 x7 v8 v9 v10 v11 v12 v13 v14 v15 v16 v17 v18 v19 v20 v21 v22 v23 v24 v25 v26 v27 v28 v29 v30 v31
    simp only [it_ret] at ih
    rw [it_ret, xiter_s]
    refine Eq.trans (congrFun (congrFun hR.symm _) _) ?_
    unfold r56R0
    refine Eq.trans (pl_len (by rfl)) ?_; (iterate 2 (refine Eq.trans (pl_same (by rfl)) ?_)); refine Eq.trans (pl_bool (by rfl)) ?_; refine Eq.trans (pl_same (by rfl)) ?_; (iterate 2 (refine Eq.trans (pl_any (by rfl)) ?_)); (iterate 13 (refine Eq.trans (pl_same (by rfl)) ?_)); refine Eq.trans (pl_int (by rfl)) ?_; (iterate 24 (refine Eq.trans (pl_any (by rfl)) ?_)); refine Eq.trans (pl_sameH) ?_
    have I0 := it56_1 d a0 b0 (kIter R n (kOut [0] [r56X0_0 C0 d a0 b0] (r56E0 C0 d a0 b0))) x7 v31 (fun x7 => L56_0 d a0 n x7) (fun b142 => E56_0 d a0 b142) (fun b4 v5 v6 x7 v8 v9 v10 v11 v12 v13 v14 v15 v16 v17 v18 v19 v20 v21 v22 v23 v24 v25 v26 v27 v28 v29 v30 v31 => ih b4 v5 v6 x7 v8 v9 v10 v11 v12 v13 v14 v15 v16 v17 v18 v19 v20 v21 v22 v23 v24 v25 v26 v27 v28 v29 v30 v31) (fun b142 x143 x144 x145 b146 x147 x148 x149 b150 x151 v152 x153 v154 x156 x157 v158 x159 v160 x162 x163 b164 b165 v166 v167 v168 v169 v170 b171 v172 v173 => E56_0_ok d a0 b0   b142 x143 x144 x145 b146 x147 x148 x149 b150 x151 v152 x153 v154 x156 x157 v158 x159 v160 x162 x163 b164 b165 v166 v167 v168 v169 v170 b171 v172 v173)
    try dsimp only at I0
    simp only [L56_0, kIter_n, kIter_x, kIter_r, kOut_x, kOut_r, xgo_hit, xgo_miss, ih, I0, X56_0_0_ok d a0 b0  , E56_0_ok d a0 b0  ]
/-- apogee/poly.Simple -/
theorem q56 (d : Nat) (a0 : List AV) : xcall C0 M unr d 56 [(.lst a0)] =
  cnd (decide ((((List.length a0) : Nat) : Int) < 3))
   (some (.bool false))
   (cnd (decide ((((List.length a0) : Nat) : Int) > 8))
   (some (.bool false))
   (C0.bool (pcall M d 40 [(.lst a0), (.fn 70 [] [])]) fun b0 =>
   cnd b0
   (some (.bool false))
   (L56_0 d a0 1000000000000000000 0))) := (r56 C0 d a0).trans (by simp only [it56_0])
end Go.Proofs.Ytjblhppbjebagaa.AE

namespace Go.Proofs.Ytjblhppbjebagaa.AE
set_option linter.unusedVariables false
set_option linter.unusedSimpArgs false
set_option linter.constructorNameAsVariable false
open Go
theorem hget_s {H S : Heap} {k : Nat} {b : Blk} (h : S[k]? = some (some b)) : hget (H ++ S) (H.length + k) = some b := by
  unfold hget; rw [List.getElem?_append_right (by omega), show H.length + k - H.length = k by omega, h]
theorem set_s {H S : Heap} {k : Nat} {x : Option Blk} : (H ++ S).set (H.length + k) x = H ++ S.set k x := by
  rw [List.set_append_right _ _ (by omega), show H.length + k - H.length = k by omega]
theorem al_n {H : Heap} {e : ETy} {K : AV → Heap → Ans} : C0.hop H (.alloc e) K = K (.ptr (H.length + 0) 0 0) (H ++ [some ⟨e, [e.zero]⟩]) := rfl
theorem al_s {H S : Heap} {e : ETy} {K : AV → Heap → Ans} : C0.hop (H ++ S) (.alloc e) K = K (.ptr (H.length + S.length) 0 0) (H ++ (S ++ [some ⟨e, [e.zero]⟩])) := by
  refine (hop_eq rfl).trans ?_
  simp only [evO, List.length_append, List.append_assoc]
theorem ld_s {H S : Heap} {k i j n : Nat} {ag : Bool} {b : Blk} {el v : AV} {K : AV → Heap → Ans} (h : S[k]? = some (some b)) (hi : b.els[i]? = some el) (hs : sub ag n j el = some v) :
    C0.hop (H ++ S) (.load ag n (.v (.ptr (H.length + k) i j))) K = K v (H ++ S) := ld_ptr (hget_s h) hi hs
theorem st_s {H S : Heap} {k i j n : Nat} {b : Blk} {el el' x : AV} {K : AV → Heap → Ans} (h : S[k]? = some (some b)) (hi : b.els[i]? = some el) (hs : putSub n j x el = some el') :
    C0.hop (H ++ S) (.store n (.v (.ptr (H.length + k) i j)) (.v x)) K = K .undef (H ++ S.set k (some { b with els := b.els.set i el' })) := by
  rw [st_ptr (hget_s h) hi hs, set_s]
end Go.Proofs.Ytjblhppbjebagaa.AE

namespace Go.Proofs.Ytjblhppbjebagaa.AE
set_option linter.unusedVariables false
set_option linter.unusedSimpArgs false
set_option linter.constructorNameAsVariable false
open Go Go.Proofs.Ytjblhppbjebagaa.Geo
/-- The i-th corner. -/
def vv (ps : List Pt) (i : Nat) : Pt := ps.getD i (0, 0)
theorem vv_at {ps : List Pt} {i : Nat} (h : i < ps.length) : (ps.map pt)[((i : Nat) : Int).toNat]? = some (pt (vv ps i)) := by
  simp [vv, List.getD_eq_getElem?_getD, h]
theorem pmap_len (ps : List Pt) : ((ps.map pt).length : Nat) = ps.length := by simp
def nx (ps : List Pt) (i : Nat) : Nat := (i + 1) % ps.length
theorem nx_lt {ps : List Pt} {i : Nat} (h : i < ps.length) : nx ps i < ps.length := Nat.mod_lt _ (by omega)
theorem nx_int {ps : List Pt} {i : Nat} (h : i < ps.length) (hl : ps.length ≤ 140737488355328) : Int.tmod (IntKind.wrap .i64 ((i : Int) + 1)) (((ps.map pt).length : Nat) : Int) = ((nx ps i : Nat) : Int) := by
  rw [pmap_len, i64_small (by omega) (by omega), Int.tmod_eq_emod_of_nonneg (by omega)]
  simp [nx]
theorem s46 (d : Nat) (ps : List Pt) (i : Nat) (h : i < ps.length) (hl : ps.length ≤ 140737488355328) : pcall M (d + 1) 46 [.lst (ps.map pt), .int .i64 i] = some (.tup [pt (vv ps i), pt (vv ps (nx ps i))]) := told (r46 C0 d _ _) (by
  rw [decide_eq_true (by omega), cnd_t, vv_at h]
  refine Eq.trans (pl_agg (by rfl) (by rfl)) ?_; refine Eq.trans (pl_int (by rfl)) ?_; refine Eq.trans (pl_int (by rfl)) ?_
  rw [decide_eq_false (by rw [pmap_len]; omega), cnd_f, nx_int h hl, decide_eq_true (by omega), cnd_t, vv_at (nx_lt h)]
  refine Eq.trans (pl_agg (by rfl) (by rfl)) ?_; refine Eq.trans (pl_int (by rfl)) ?_; refine Eq.trans (pl_int (by rfl)) ?_
  rfl)
/-- May two edges be, of those that begin at k and i? -/
def apartB (ps : List Pt) (k i : Nat) : Bool :=
  if nx ps k = i then !onB (vv ps (nx ps i)) (vv ps k) (vv ps (nx ps k)) && !onB (vv ps k) (vv ps i) (vv ps (nx ps i))
  else if nx ps i = k then !onB (vv ps i) (vv ps k) (vv ps (nx ps k)) && !onB (vv ps (nx ps k)) (vv ps i) (vv ps (nx ps i))
  else !meetB (vv ps k) (vv ps (nx ps k)) (vv ps i) (vv ps (nx ps i))
theorem cast_beq (a b : Nat) : (((a : Nat) : Int) == ((b : Nat) : Int)) = decide (a = b) := by
  by_cases h : a = b
  · subst h; simp
  · rw [decide_eq_false h]; simp; omega
theorem s71 (d : Nat) (ps : List Pt) (k i : Nat) (hk : k < ps.length) (hi : i < ps.length) (hl : ps.length ≤ 140737488355328) :
    pcall M (d + 10) 71 [.lst (ps.map pt), .int .i64 k, .int .i64 i] = some (.bool (apartB ps k i)) := told (r71 C0 (d + 9) _ _ _) (by
  refine Eq.trans (pl_tup (s46 (d + 8) ps k hk hl) (by rfl)) ?_
  refine Eq.trans (pl_agg (by rfl) (by rfl)) ?_; refine Eq.trans (pl_int (by rfl)) ?_; refine Eq.trans (pl_int (by rfl)) ?_; refine Eq.trans (pl_agg (by rfl) (by rfl)) ?_; refine Eq.trans (pl_int (by rfl)) ?_; refine Eq.trans (pl_int (by rfl)) ?_
  refine Eq.trans (pl_tup (s46 (d + 8) ps i hi hl) (by rfl)) ?_
  refine Eq.trans (pl_agg (by rfl) (by rfl)) ?_; refine Eq.trans (pl_int (by rfl)) ?_; refine Eq.trans (pl_int (by rfl)) ?_; refine Eq.trans (pl_agg (by rfl) (by rfl)) ?_; refine Eq.trans (pl_int (by rfl)) ?_; refine Eq.trans (pl_int (by rfl)) ?_
  rw [decide_eq_false (by rw [pmap_len]; omega), cnd_f, cnd_f, nx_int hk hl, nx_int hi hl, cast_beq, cast_beq]
  have o := fun p q r => s47 (d + 1) p q r
  have m := s79 d (vv ps k) (vv ps (nx ps k)) (vv ps i) (vv ps (nx ps i))
  simp only [pt] at o m
  unfold apartB
  by_cases h1 : nx ps k = i
  · rw [decide_eq_true h1, cnd_t, if_pos h1, o, o, C0_bool, C0_bool]
    cases onB (vv ps (nx ps i)) (vv ps k) (vv ps (nx ps k)) <;> rfl
  · rw [decide_eq_false h1, cnd_f, if_neg h1]
    by_cases h2 : nx ps i = k
    · rw [decide_eq_true h2, cnd_t, if_pos h2, o, o, C0_bool, C0_bool]
      cases onB (vv ps i) (vv ps k) (vv ps (nx ps k)) <;> rfl
    · rw [decide_eq_false h2, cnd_f, if_neg h2, m, C0_bool])
def pairB (ps : List Pt) (k i : Nat) : Bool := !decide (vv ps i = vv ps k) && apartB ps k i
/-- Does it hold of i, and of the next ones? -/
def upAll (f : Nat → Bool) : Nat → Nat → Bool
  | 0, _ => true
  | m + 1, i => f i && upAll f m (i + 1)
theorem pt_beq (p q : Pt) : (xor false ((p.1 == q.1) && ((p.2 == q.2) && true))) = decide (p = q) := by
  rw [Bool.false_xor, Bool.and_true, Bool.eq_iff_iff, Bool.and_eq_true, beq_iff_eq, beq_iff_eq, decide_eq_true_iff]
  exact ⟨fun h => Prod.ext h.1 h.2, fun h => by rw [h]; exact ⟨rfl, rfl⟩⟩
theorem simple1 (d : Nat) (ps : List Pt) (i : Nat) (hi : i < ps.length) (hl : ps.length ≤ 140737488355328) (kN : Int → Ans) (kR : Bool → Ans) : ∀ (m k f : Nat), k + m = i → m < f →
    L56_1 (d + 10) (ps.map pt) (i : Nat) kN kR f (k : Nat) = bif upAll (fun k => pairB ps k i) m k then kN ((i + 1 : Nat) : Int) else kR false := by
  intro m
  induction m with
  | zero =>
    intro k f hk hf
    obtain ⟨f, rfl⟩ : ∃ g, f = g + 1 := ⟨f - 1, by omega⟩
    rw [L56_1, decide_eq_false (by omega), cnd_f, X56_1_0, i64_small (by omega) (by omega)]; rfl
  | succ m ih =>
    intro k f hk hf
    obtain ⟨f, rfl⟩ : ∃ g, f = g + 1 := ⟨f - 1, by omega⟩
    rw [L56_1, decide_eq_true (by omega), cnd_t, decide_eq_true (by omega), cnd_t, vv_at hi]
    refine Eq.trans (pl_agg (by rfl) (by rfl)) ?_; refine Eq.trans (pl_int (by rfl)) ?_; refine Eq.trans (pl_int (by rfl)) ?_
    rw [decide_eq_true (by omega), cnd_t, vv_at (show k < ps.length by omega)]
    refine Eq.trans (pl_agg (by rfl) (by rfl)) ?_; refine Eq.trans (pl_int (by rfl)) ?_; refine Eq.trans (pl_int (by rfl)) ?_
    rw [pt_beq, s71 d ps k i (by omega) hi hl]
    simp only [upAll, pairB]
    by_cases he : vv ps i = vv ps k
    · rw [decide_eq_true he, cnd_t]; rfl
    · rw [decide_eq_false he, cnd_f, C0_bool]
      cases apartB ps k i
      · rfl
      · refine Eq.trans (pl_f (by rfl)) ?_
        rw [show IntKind.wrap .i64 ((k : Int) + 1) = ((k + 1 : Nat) : Int) by rw [i64_small (by omega) (by omega)]; rfl, ih (k + 1) f (by omega) (by omega)]
        simp only [Bool.not_false, Bool.true_and]
        rfl
theorem simple0 (d : Nat) (ps : List Pt) (hl : ps.length ≤ 140737488355328) : ∀ (m i f : Nat), i + m = ps.length → m < f →
    L56_0 (d + 10) (ps.map pt) f (i : Nat) = some (.bool (upAll (fun i => upAll (fun k => pairB ps k i) i 0) m i)) := by
  intro m
  induction m with
  | zero =>
    intro i f hk hf
    obtain ⟨f, rfl⟩ : ∃ g, f = g + 1 := ⟨f - 1, by omega⟩
    rw [L56_0, decide_eq_false (by rw [pmap_len]; omega), cnd_f]; rfl
  | succ m ih =>
    intro i f hk hf
    obtain ⟨f, rfl⟩ : ∃ g, f = g + 1 := ⟨f - 1, by omega⟩
    rw [L56_0, decide_eq_true (by rw [pmap_len]; omega), cnd_t]
    refine (simple1 d ps i (by omega) hl _ _ i 0 _ (by omega) (by omega)).trans ?_
    rw [ih (i + 1) f (by omega) (by omega)]
    simp only [upAll]
    cases upAll (fun k => pairB ps k i) i 0 <;> rfl
end Go.Proofs.Ytjblhppbjebagaa.AE

namespace Go.Proofs.Ytjblhppbjebagaa.AE
set_option linter.unusedVariables false
set_option linter.unusedSimpArgs false
set_option linter.constructorNameAsVariable false
open Go Go.Proofs.Ytjblhppbjebagaa.Geo
def fiG (g : Pt → Bool) : List Pt → Int → Int
  | [], _ => -1
  | p :: l, i => bif g p then i else fiG g l (i + 1)
theorem fiG_any (g : Pt → Bool) (ps : List Pt) : ∀ i : Int, 0 ≤ i → decide (fiG g ps i ≥ 0) = ps.any g := by
  induction ps with
  | nil => intro i hi; simp [fiG]
  | cons p l ih =>
    intro i hi
    have h := ih (i + 1) (by omega)
    have e : ∀ b : Bool, decide ((bif b then i else fiG g l (i + 1)) ≥ 0) = (b || l.any g) := fun b => by
      match b with
      | false => exact h
      | true => exact decide_eq_true hi
    exact e (g p)
theorem s53f70 (d : Nat) (g : Pt → Bool) (ps : List Pt) (hl : ps.length ≤ 140737488355328) (hg : ∀ p ∈ ps, pcall M d 70 [pt p] = some (.bool (g p))) : ∀ (l2 : List Pt) (i f : Nat), ps.drop i = l2 → l2.length < f →
    L53f70_0 d (ps.map pt) f (i : Nat) = some (.int .i64 (fiG g l2 (i : Nat))) := by
  intro l2
  induction l2 with
  | nil =>
    intro i f hd hf
    obtain ⟨f, rfl⟩ : ∃ m, f = m + 1 := ⟨f - 1, by omega⟩
    have : ps.length ≤ i := List.drop_eq_nil_iff.mp hd
    rw [L53f70_0, decide_eq_false (by rw [pmap_len]; omega), cnd_f]; rfl
  | cons p l2 ih =>
    intro i f hd hf
    obtain ⟨f, rfl⟩ : ∃ m, f = m + 1 := ⟨f - 1, by simp at hf; omega⟩
    have hi : i < ps.length := by
      rcases Nat.lt_or_ge i ps.length with h | h
      · exact h
      · rw [List.drop_eq_nil_of_le h] at hd; cases hd
    have hp : ps[i] = p := by have := List.drop_eq_getElem_cons hi; rw [hd] at this; exact (List.cons.inj this).1.symm
    have hd2 : ps.drop (i + 1) = l2 := by have := List.drop_eq_getElem_cons hi; rw [hd] at this; exact (List.cons.inj this).2.symm
    have hg' := hg ps[i] (List.getElem_mem _)
    simp only [pt] at hg'
    rw [L53f70_0, decide_eq_true (by rw [pmap_len]; omega), cnd_t, decide_eq_true (by omega), cnd_t, pts_at hi]
    refine Eq.trans (pl_agg (by rfl) (by rfl)) ?_; refine Eq.trans (pl_int (by rfl)) ?_; refine Eq.trans (pl_int (by rfl)) ?_
    rw [hg', C0_bool, hp]
    simp only [fiG]
    cases g p
    · refine Eq.trans (pl_f (by rfl)) ?_
      rw [show IntKind.wrap .i64 ((i : Int) + 1) = ((i + 1 : Nat) : Int) by rw [IntKind.wrap_i64]; omega]
      exact (ih (i + 1) f hd2 (by simp at hf; omega)).trans (by simp)
    · rfl
theorem s40f70 (d : Nat) (g : Pt → Bool) (ps : List Pt) (hl : ps.length ≤ 140737488355328) (hg : ∀ p ∈ ps, pcall M d 70 [pt p] = some (.bool (g p))) :
    pcall M (d + 2) 40 [.lst (ps.map pt), .fn 70 [] []] = some (.bool (ps.any g)) := told (r40f70 C0 (d + 1) _ .nilp) (by
  have h : pcall M (d + 1) 53 [.lst (ps.map pt), .fn 70 [] []] = some (.int .i64 (fiG g ps 0)) :=
    told (q53f70 d (ps.map pt) .nilp) (s53f70 d g ps hl hg ps 0 _ rfl (by omega))
  rw [h, C0_int, fiG_any g ps 0 (by decide)])
theorem s53f57 (d : Nat) (g : Pt → Bool) (ps : List Pt) (hl : ps.length ≤ 140737488355328) (hg : ∀ p ∈ ps, pcall M d 57 [pt p] = some (.bool (g p))) : ∀ (l2 : List Pt) (i f : Nat), ps.drop i = l2 → l2.length < f →
    L53f57_0 d (ps.map pt) f (i : Nat) = some (.int .i64 (fiG g l2 (i : Nat))) := by
  intro l2
  induction l2 with
  | nil =>
    intro i f hd hf
    obtain ⟨f, rfl⟩ : ∃ m, f = m + 1 := ⟨f - 1, by omega⟩
    have : ps.length ≤ i := List.drop_eq_nil_iff.mp hd
    rw [L53f57_0, decide_eq_false (by rw [pmap_len]; omega), cnd_f]; rfl
  | cons p l2 ih =>
    intro i f hd hf
    obtain ⟨f, rfl⟩ : ∃ m, f = m + 1 := ⟨f - 1, by simp at hf; omega⟩
    have hi : i < ps.length := by
      rcases Nat.lt_or_ge i ps.length with h | h
      · exact h
      · rw [List.drop_eq_nil_of_le h] at hd; cases hd
    have hp : ps[i] = p := by have := List.drop_eq_getElem_cons hi; rw [hd] at this; exact (List.cons.inj this).1.symm
    have hd2 : ps.drop (i + 1) = l2 := by have := List.drop_eq_getElem_cons hi; rw [hd] at this; exact (List.cons.inj this).2.symm
    have hg' := hg ps[i] (List.getElem_mem _)
    simp only [pt] at hg'
    rw [L53f57_0, decide_eq_true (by rw [pmap_len]; omega), cnd_t, decide_eq_true (by omega), cnd_t, pts_at hi]
    refine Eq.trans (pl_agg (by rfl) (by rfl)) ?_; refine Eq.trans (pl_int (by rfl)) ?_; refine Eq.trans (pl_int (by rfl)) ?_
    rw [hg', C0_bool, hp]
    simp only [fiG]
    cases g p
    · refine Eq.trans (pl_f (by rfl)) ?_
      rw [show IntKind.wrap .i64 ((i : Int) + 1) = ((i + 1 : Nat) : Int) by rw [IntKind.wrap_i64]; omega]
      exact (ih (i + 1) f hd2 (by simp at hf; omega)).trans (by simp)
    · rfl
theorem s40f57 (d : Nat) (g : Pt → Bool) (ps : List Pt) (hl : ps.length ≤ 140737488355328) (hg : ∀ p ∈ ps, pcall M d 57 [pt p] = some (.bool (g p))) :
    pcall M (d + 2) 40 [.lst (ps.map pt), .fn 57 [] []] = some (.bool (ps.any g)) := told (r40f57 C0 (d + 1) _ .nilp) (by
  have h : pcall M (d + 1) 53 [.lst (ps.map pt), .fn 57 [] []] = some (.int .i64 (fiG g ps 0)) :=
    told (q53f57 d (ps.map pt) .nilp) (s53f57 d g ps hl hg ps 0 _ rfl (by omega))
  rw [h, C0_int, fiG_any g ps 0 (by decide)])
theorem s70 (d : Nat) (p : Pt) : pcall M (d + 3) 70 [pt p] = some (.bool (!okb p)) := told (r70 C0 (d + 2) _ _) (by
  have := s35 d p
  simp only [pt] at this
  rw [this, C0_bool]; rfl)
/-- Is a corner too far? -/
def farB (p : Pt) : Bool := !decide (-1073741824 ≤ p.1 ∧ p.1 ≤ 1073741824 ∧ -1073741824 ≤ p.2 ∧ p.2 ≤ 1073741824)
theorem s57 (d : Nat) (p : Pt) (h : OkP p) : pcall M (d + 1) 57 [pt p] = some (.bool (farB p)) := told (r57 C0 d _ _) (by
  obtain ⟨⟨h1, h2⟩, h3, h4⟩ := h
  rw [i64_small (n := 0 - p.1) (by omega) (by omega), i64_small (n := 0 - p.2) (by omega) (by omega)]
  congr 2
  rw [Bool.eq_iff_iff]
  unfold farB
  simp only [decide_eq_true_iff, Bool.not_eq_true', decide_eq_false_iff_not]
  split <;> split <;> split <;> omega)
def allPairs (ps : List Pt) : Bool := upAll (fun i => upAll (fun k => pairB ps k i) i 0) ps.length 0
def simpleB (ps : List Pt) : Bool := decide (3 ≤ ps.length) && (decide (ps.length ≤ 8) && (ps.all okb && allPairs ps))
def rightB (ps : List Pt) : Bool := simpleB ps && !ps.any farB
theorem any_not (ps : List Pt) : (ps.any fun p => !okb p) = !ps.all okb := by
  induction ps with
  | nil => rfl
  | cons p l ih => simp only [List.any_cons, List.all_cons, ih, Bool.not_and]
theorem s56 (d : Nat) (ps : List Pt) (hl : ps.length ≤ 140737488355328) : pcall M (d + 11) 56 [.lst (ps.map pt)] = some (.bool (simpleB ps)) := told (q56 (d + 10) _) (by
  have hc := s40f70 (d + 8) (fun p => !okb p) ps hl (fun p _ => s70 (d + 5) p)
  have h0 := simple0 d ps hl ps.length 0 1000000000000000000 (by omega) (by omega)
  rw [hc, C0_bool, any_not, pmap_len, show (0 : Int) = ((0 : Nat) : Int) from rfl, h0]
  unfold simpleB
  by_cases h1 : 3 ≤ ps.length
  · rw [decide_eq_false (by omega), cnd_f, decide_eq_true h1]
    by_cases h2 : ps.length ≤ 8
    · rw [decide_eq_false (by omega), cnd_f, decide_eq_true h2]
      cases ps.all okb <;> rfl
    · rw [decide_eq_true (by omega), cnd_t, decide_eq_false h2]; rfl
  · rw [decide_eq_true (by omega), cnd_t, decide_eq_false h1]; rfl)
theorem simple_ok {ps : List Pt} (h : simpleB ps = true) : 3 ≤ ps.length ∧ ps.length ≤ 8 ∧ ∀ p ∈ ps, OkP p := by
  unfold simpleB at h
  simp only [Bool.and_eq_true, decide_eq_true_iff, List.all_eq_true, okb_t] at h
  exact ⟨h.1, h.2.1, h.2.2.1⟩
theorem s43 (d : Nat) (ps : List Pt) (hl : ps.length ≤ 140737488355328) : pcall M (d + 12) 43 [.lst (ps.map pt)] = some (.bool (rightB ps)) := told (r43 C0 (d + 11) _) (by
  rw [s56 d ps hl, C0_bool]
  unfold rightB
  cases hs : simpleB ps
  · rfl
  · have hc := s40f57 (d + 9) farB ps hl (fun p hp => s57 (d + 8) p ((simple_ok hs).2.2 p hp))
    rw [hc, cnd_t, C0_bool]; rfl)
end Go.Proofs.Ytjblhppbjebagaa.AE

namespace Go.Proofs.Ytjblhppbjebagaa.Geo
/-- The ray from p to greater X meets the edge, told from its lower end (that end counts, the higher one doesn't). -/
def CrsU (p a b : Pt) : Prop := a.2 ≤ p.2 ∧ p.2 < b.2 ∧ TN a b p > 0
instance (p a b : Pt) : Decidable (CrsU p a b) := by unfold CrsU; infer_instance
def Crs (p a b : Pt) : Prop := CrsU p a b ∨ CrsU p b a
instance (p a b : Pt) : Decidable (Crs p a b) := by unfold Crs; infer_instance
/-- Between both rays, to the right of the way from p up to q. -/
def Rgt (p q v : Pt) : Prop := p.2 < v.2 ∧ v.2 ≤ q.2 ∧ TN p q v < 0
instance (p q v : Pt) : Decidable (Rgt p q v) := by unfold Rgt; infer_instance
theorem mul_nn {x y : Int} (hx : x ≤ 0) (hy : y ≤ 0) : 0 ≤ x * y := by
  have := Int.mul_nonneg (show 0 ≤ -x by omega) (show 0 ≤ -y by omega)
  rwa [Int.neg_mul_neg] at this
theorem mul_np {x y : Int} (hx : x ≤ 0) (hy : 0 ≤ y) : x * y ≤ 0 := by
  have := Int.mul_nonneg (show 0 ≤ -x by omega) hy
  rw [Int.neg_mul] at this; omega
theorem mul_np_neg {x y : Int} (hx : x < 0) (hy : 0 < y) : x * y < 0 := by
  have := Int.mul_pos (show 0 < -x by omega) hy
  rw [Int.neg_mul] at this; omega
theorem mul_pn_neg {x y : Int} (hx : 0 < x) (hy : y < 0) : x * y < 0 := by rw [Int.mul_comm]; exact mul_np_neg hy hx
theorem mul_pn {x y : Int} (hx : 0 ≤ x) (hy : y ≤ 0) : x * y ≤ 0 := by rw [Int.mul_comm]; exact mul_np hy hx
/-- On the line, and between in height where that isn't one height: on the way. -/
theorem On_of_height {p a b : Pt} (h : TN a b p = 0) (h1 : a.2 ≤ p.2) (h2 : p.2 ≤ b.2) (h3 : a.2 < b.2) : On p a b := by
  refine ⟨h, ?_⟩
  unfold TN at h
  unfold Btw
  have hx : (a.1 ≤ p.1 ∧ p.1 ≤ b.1) ∨ (b.1 ≤ p.1 ∧ p.1 ≤ a.1) := by
    have e1 : (b.2 - a.2) * (p.1 - a.1) = (b.1 - a.1) * (p.2 - a.2) := by omega
    have e2 : (b.2 - a.2) * (b.1 - p.1) = (b.1 - a.1) * (b.2 - p.2) := by
      have : (b.2 - a.2) * (b.1 - p.1) = (b.2 - a.2) * (b.1 - a.1) - (b.2 - a.2) * (p.1 - a.1) := by grind
      rw [this, e1]; grind
    rcases Int.le_total a.1 b.1 with c | c
    · left
      have n1 := Int.mul_nonneg (show 0 ≤ b.1 - a.1 by omega) (show 0 ≤ p.2 - a.2 by omega)
      have n2 := Int.mul_nonneg (show 0 ≤ b.1 - a.1 by omega) (show 0 ≤ b.2 - p.2 by omega)
      constructor
      · refine Int.not_lt.1 fun d => ?_
        have := mul_pn_neg (show 0 < b.2 - a.2 by omega) (show p.1 - a.1 < 0 by omega); omega
      · refine Int.not_lt.1 fun d => ?_
        have := mul_pn_neg (show 0 < b.2 - a.2 by omega) (show b.1 - p.1 < 0 by omega); omega
    · right
      have n1 := mul_np (show b.1 - a.1 ≤ 0 by omega) (show 0 ≤ p.2 - a.2 by omega)
      have n2 := mul_np (show b.1 - a.1 ≤ 0 by omega) (show 0 ≤ b.2 - p.2 by omega)
      constructor
      · refine Int.not_lt.1 fun d => ?_
        have := Int.mul_pos (show 0 < b.2 - a.2 by omega) (show 0 < b.1 - p.1 by omega); omega
      · refine Int.not_lt.1 fun d => ?_
        have := Int.mul_pos (show 0 < b.2 - a.2 by omega) (show 0 < p.1 - a.1 by omega); omega
  exact ⟨hx, Or.inl ⟨h1, h2⟩⟩
end Go.Proofs.Ytjblhppbjebagaa.Geo

namespace Go.Proofs.Ytjblhppbjebagaa.AE
set_option linter.unusedVariables false
set_option linter.unusedSimpArgs false
set_option linter.constructorNameAsVariable false
open Go Go.Proofs.Ytjblhppbjebagaa.Geo
/-- Is the place's way to the right over the edge? -/
def crsB (ps : List Pt) (p : Pt) (i : Nat) : Bool := decide (Crs p (vv ps i) (vv ps (nx ps i)))
def sideUp (ps : List Pt) (p : Pt) : Nat → Nat → Bool → Int
  | 0, _, o => bif o then 1 else -1
  | m + 1, i, o => bif onB p (vv ps i) (vv ps (nx ps i)) then 0 else sideUp ps p m (i + 1) (xor o (crsB ps p i))
def sideB (ps : List Pt) (p : Pt) : Int := bif rightB ps then bif okb p then sideUp ps p ps.length 0 false else -1 else -1
theorem right_ok {ps : List Pt} (h : rightB ps = true) : 3 ≤ ps.length ∧ ps.length ≤ 8 ∧ ∀ p ∈ ps, OkP p := by
  unfold rightB at h
  exact simple_ok (Bool.and_eq_true_iff.mp h).1
theorem vv_ok {ps : List Pt} (h : ∀ p ∈ ps, OkP p) {i : Nat} (hi : i < ps.length) : OkP (vv ps i) := by
  have : vv ps i = ps[i] := by simp [vv, List.getD_eq_getElem?_getD, hi]
  rw [this]; exact h _ (List.getElem_mem _)
theorem crs_hi {p a b : Pt} (h : a.2 > b.2) : decide (Crs p a b) = decide (CrsU p b a) := by
  rw [decide_eq_decide]; unfold Crs
  exact ⟨fun g => g.elim (fun g => by unfold CrsU at g; omega) id, .inr⟩
theorem crs_lo {p a b : Pt} (h : ¬ a.2 > b.2) : decide (Crs p a b) = decide (CrsU p a b) := by
  rw [decide_eq_decide]; unfold Crs
  exact ⟨fun g => g.elim id (fun g => by unfold CrsU at g; omega), .inl⟩
theorem crsU_f1 {p a b : Pt} (h : ¬ a.2 ≤ p.2) : decide (CrsU p a b) = false := decide_eq_false fun g => h g.1
theorem crsU_f2 {p a b : Pt} (h : ¬ p.2 < b.2) : decide (CrsU p a b) = false := decide_eq_false fun g => h g.2.1
theorem crsU_t {p a b : Pt} (h : a.2 ≤ p.2) (h2 : p.2 < b.2) (ha : OkP a) (hb : OkP b) (hp : OkP p) : decide (CrsU p a b) = decide (tn3 a b p > 0) := by
  rw [decide_eq_decide, tn3_sg ⟨ha, hb, hp⟩, sg_pos]
  exact ⟨fun g => g.2.2, fun g => ⟨h, h2, g⟩⟩
def sgn1 (o : Bool) : Int := bif o then 1 else -1
theorem sgn1_neg (o : Bool) : IntKind.wrap .i64 (0 - sgn1 o) = sgn1 (xor o true) := by cases o <;> simp [sgn1, i64w]
theorem sgn1_id (o : Bool) : sgn1 o = sgn1 (xor o false) := by cases o <;> rfl
theorem side0 (d : Nat) (ps : List Pt) (p : Pt) (hl : ps.length ≤ 140737488355328) (hok : ∀ q ∈ ps, OkP q) (hp : OkP p) : ∀ (m i f : Nat) (o : Bool) (H : Heap), i + m = ps.length → m < f → hget H 0 = some ⟨E23, [pt p]⟩ →
    L31_0 (d + 8) (ps.map pt) (.ptr 0 0 0) (ps.length : Nat) f (sgn1 o) (i : Nat) H = some (.int .i64 (sideUp ps p m i o)) := by
  intro m
  induction m with
  | zero =>
    intro i f o H hi hf h0
    obtain ⟨f, rfl⟩ : ∃ g, f = g + 1 := ⟨f - 1, by omega⟩
    rw [L31_0, decide_eq_false (by omega), cnd_f]; rfl
  | succ m ih =>
    intro i f o H hi hf h0
    obtain ⟨f, rfl⟩ : ∃ g, f = g + 1 := ⟨f - 1, by omega⟩
    have hil : i < ps.length := by omega
    have oa := vv_ok hok hil
    have ob := vv_ok hok (nx_lt hil)
    have w1 : IntKind.wrap .i64 ((i : Int) + 1) = ((i + 1 : Nat) : Int) := by rw [i64_small (by omega) (by omega)]; rfl
    rw [L31_0, decide_eq_true (by omega), cnd_t, w1, sgn1_neg]
    refine Eq.trans (snp_free (by rfl)) ?_
    refine Eq.trans (pl_tup (s46 (d + 7) ps i hil hl) (by rfl)) ?_
    refine Eq.trans (pl_agg (by rfl) (by rfl)) ?_; refine Eq.trans (pl_int (by rfl)) ?_; refine Eq.trans (pl_int (by rfl)) ?_; refine Eq.trans (pl_agg (by rfl) (by rfl)) ?_; refine Eq.trans (pl_int (by rfl)) ?_; refine Eq.trans (pl_int (by rfl)) ?_; refine Eq.trans (pl_len (by rfl)) ?_; refine Eq.trans al_n ?_; refine Eq.trans al_s ?_; refine Eq.trans (st_s (by rfl) (by rfl) (by rfl)) ?_; refine Eq.trans (st_s (by rfl) (by rfl) (by rfl)) ?_; refine Eq.trans (ld_ptr (hget_app h0) (by rfl) (by rfl)) ?_; refine Eq.trans (pl_agg (by rfl) (by rfl)) ?_; refine Eq.trans (pl_int (by rfl)) ?_; refine Eq.trans (pl_int (by rfl)) ?_; refine Eq.trans (ld_s (by rfl) (by rfl) (by rfl)) ?_; refine Eq.trans (pl_agg (by rfl) (by rfl)) ?_; refine Eq.trans (pl_int (by rfl)) ?_; refine Eq.trans (pl_int (by rfl)) ?_; refine Eq.trans (ld_s (by rfl) (by rfl) (by rfl)) ?_; refine Eq.trans (pl_agg (by rfl) (by rfl)) ?_; refine Eq.trans (pl_int (by rfl)) ?_; refine Eq.trans (pl_int (by rfl)) ?_
    refine Eq.trans (pl_bool (s47 d p (vv ps i) (vv ps (nx ps i)))) ?_
    simp only [sideUp]
    cases onB p (vv ps i) (vv ps (nx ps i))
    · refine Eq.trans (pl_f (by rfl)) ?_; refine Eq.trans sh_ptr ?_; refine Eq.trans (ld_s (by rfl) (by rfl) (by rfl)) ?_; refine Eq.trans (pl_int (by rfl)) ?_; refine Eq.trans sh_ptr ?_; refine Eq.trans (ld_s (by rfl) (by rfl) (by rfl)) ?_; refine Eq.trans (pl_int (by rfl)) ?_
      unfold crsB
      by_cases c1 : (vv ps i).2 > (vv ps (nx ps i)).2
      · rw [crs_hi c1, decide_eq_true c1, cnd_t]
        refine Eq.trans (ld_s (by rfl) (by rfl) (by rfl)) ?_; refine Eq.trans (pl_agg (by rfl) (by rfl)) ?_; refine Eq.trans (pl_int (by rfl)) ?_; refine Eq.trans (pl_int (by rfl)) ?_; refine Eq.trans (ld_s (by rfl) (by rfl) (by rfl)) ?_; refine Eq.trans (pl_agg (by rfl) (by rfl)) ?_; refine Eq.trans (pl_int (by rfl)) ?_; refine Eq.trans (pl_int (by rfl)) ?_; refine Eq.trans (st_s (by rfl) (by rfl) (by rfl)) ?_; refine Eq.trans (st_s (by rfl) (by rfl) (by rfl)) ?_; refine Eq.trans sh_ptr ?_; refine Eq.trans (ld_s (by rfl) (by rfl) (by rfl)) ?_; refine Eq.trans (pl_int (by rfl)) ?_; refine Eq.trans sh_ptr ?_; refine Eq.trans (ld_ptr (hget_app h0) (by rfl) (by rfl)) ?_; refine Eq.trans (pl_int (by rfl)) ?_
        by_cases c2 : (vv ps (nx ps i)).2 ≤ p.2
        · rw [decide_eq_true c2, cnd_t]
          refine Eq.trans sh_ptr ?_; refine Eq.trans (ld_ptr (hget_app h0) (by rfl) (by rfl)) ?_; refine Eq.trans (pl_int (by rfl)) ?_; refine Eq.trans sh_ptr ?_; refine Eq.trans (ld_s (by rfl) (by rfl) (by rfl)) ?_; refine Eq.trans (pl_int (by rfl)) ?_
          by_cases c3 : p.2 < (vv ps i).2
          · rw [decide_eq_true c3, cnd_t, crsU_t c2 c3 ob oa hp]
            refine Eq.trans (ld_s (by rfl) (by rfl) (by rfl)) ?_; refine Eq.trans (pl_agg (by rfl) (by rfl)) ?_; refine Eq.trans (pl_int (by rfl)) ?_; refine Eq.trans (pl_int (by rfl)) ?_; refine Eq.trans (ld_s (by rfl) (by rfl) (by rfl)) ?_; refine Eq.trans (pl_agg (by rfl) (by rfl)) ?_; refine Eq.trans (pl_int (by rfl)) ?_; refine Eq.trans (pl_int (by rfl)) ?_; refine Eq.trans (ld_ptr (hget_app h0) (by rfl) (by rfl)) ?_; refine Eq.trans (pl_agg (by rfl) (by rfl)) ?_; refine Eq.trans (pl_int (by rfl)) ?_; refine Eq.trans (pl_int (by rfl)) ?_
            refine Eq.trans (pl_int (s39 (d + 1) (vv ps (nx ps i)) (vv ps i) p)) ?_
            cases decide (tn3 (vv ps (nx ps i)) (vv ps i) p > 0)
            · refine Eq.trans (pl_f (by rfl)) ?_; rw [sgn1_id]; exact ih (i + 1) f _ _ (by omega) (by omega) (hget_app h0)
            · refine Eq.trans (pl_len (by rfl)) ?_; exact ih (i + 1) f _ _ (by omega) (by omega) (hget_app h0)
          · rw [decide_eq_false c3, cnd_f, crsU_f2 c3, sgn1_id]; exact ih (i + 1) f _ _ (by omega) (by omega) (hget_app h0)
        · rw [decide_eq_false c2, cnd_f, crsU_f1 c2, sgn1_id]; exact ih (i + 1) f _ _ (by omega) (by omega) (hget_app h0)
      · rw [crs_lo c1, decide_eq_false c1, cnd_f]
        refine Eq.trans sh_ptr ?_; refine Eq.trans (ld_s (by rfl) (by rfl) (by rfl)) ?_; refine Eq.trans (pl_int (by rfl)) ?_; refine Eq.trans sh_ptr ?_; refine Eq.trans (ld_ptr (hget_app h0) (by rfl) (by rfl)) ?_; refine Eq.trans (pl_int (by rfl)) ?_
        by_cases c2 : (vv ps i).2 ≤ p.2
        · rw [decide_eq_true c2, cnd_t]
          refine Eq.trans sh_ptr ?_; refine Eq.trans (ld_ptr (hget_app h0) (by rfl) (by rfl)) ?_; refine Eq.trans (pl_int (by rfl)) ?_; refine Eq.trans sh_ptr ?_; refine Eq.trans (ld_s (by rfl) (by rfl) (by rfl)) ?_; refine Eq.trans (pl_int (by rfl)) ?_
          by_cases c3 : p.2 < (vv ps (nx ps i)).2
          · rw [decide_eq_true c3, cnd_t, crsU_t c2 c3 oa ob hp]
            refine Eq.trans (ld_s (by rfl) (by rfl) (by rfl)) ?_; refine Eq.trans (pl_agg (by rfl) (by rfl)) ?_; refine Eq.trans (pl_int (by rfl)) ?_; refine Eq.trans (pl_int (by rfl)) ?_; refine Eq.trans (ld_s (by rfl) (by rfl) (by rfl)) ?_; refine Eq.trans (pl_agg (by rfl) (by rfl)) ?_; refine Eq.trans (pl_int (by rfl)) ?_; refine Eq.trans (pl_int (by rfl)) ?_; refine Eq.trans (ld_ptr (hget_app h0) (by rfl) (by rfl)) ?_; refine Eq.trans (pl_agg (by rfl) (by rfl)) ?_; refine Eq.trans (pl_int (by rfl)) ?_; refine Eq.trans (pl_int (by rfl)) ?_
            refine Eq.trans (pl_int (s39 (d + 1) (vv ps i) (vv ps (nx ps i)) p)) ?_
            cases decide (tn3 (vv ps i) (vv ps (nx ps i)) p > 0)
            · refine Eq.trans (pl_f (by rfl)) ?_; rw [sgn1_id]; exact ih (i + 1) f _ _ (by omega) (by omega) (hget_app h0)
            · refine Eq.trans (pl_len (by rfl)) ?_; exact ih (i + 1) f _ _ (by omega) (by omega) (hget_app h0)
          · rw [decide_eq_false c3, cnd_f, crsU_f2 c3, sgn1_id]; exact ih (i + 1) f _ _ (by omega) (by omega) (hget_app h0)
        · rw [decide_eq_false c2, cnd_f, crsU_f1 c2, sgn1_id]; exact ih (i + 1) f _ _ (by omega) (by omega) (hget_app h0)
    · rfl
theorem s31 (d : Nat) (ps : List Pt) (p : Pt) (hl : ps.length ≤ 140737488355328) : pcall M (d + 13) 31 [.lst (ps.map pt), pt p] = some (.int .i64 (sideB ps p)) := told (q31 (d + 12) _ _ _) (by
  refine Eq.trans (hop_eq (by rfl)) ?_; refine Eq.trans (snp_free (by rfl)) ?_
  refine Eq.trans (pl_bool (s43 d ps hl)) ?_
  refine Eq.trans (pl_len (by rfl)) ?_
  unfold sideB
  cases hr : rightB ps
  · rfl
  · refine Eq.trans (pl_f (by rfl)) ?_; refine Eq.trans (hop_eq (by rfl)) ?_; refine Eq.trans (pl_agg (by rfl) (by rfl)) ?_; refine Eq.trans (pl_int (by rfl)) ?_; refine Eq.trans (pl_int (by rfl)) ?_
    refine Eq.trans (pl_bool (s35 (d + 10) p)) ?_
    change cnd (!okb p) _ _ = _
    cases hp : okb p
    · rfl
    · refine Eq.trans (pl_f (by rfl)) ?_; refine Eq.trans (hop_eq (by rfl)) ?_; refine Eq.trans (pl_int (by rfl)) ?_
      rw [pmap_len]
      exact side0 (d + 4) ps p hl (right_ok hr).2.2 (okb_t.mp hp) ps.length 0 1000000000000000000 false _ (by omega) (by omega) rfl)
end Go.Proofs.Ytjblhppbjebagaa.AE

namespace Go.Proofs.Ytjblhppbjebagaa.AE
set_option linter.unusedVariables false
set_option linter.unusedSimpArgs false
set_option linter.constructorNameAsVariable false
open Go Go.Proofs.Ytjblhppbjebagaa.Geo
abbrev Bx := Pt × Pt
abbrev bx (b : Bx) : AV := .agg [.int .i64 b.1.1, .int .i64 b.1.2, .int .i64 b.2.1, .int .i64 b.2.2]
def zB : Bx := ((0, 0), (0, 0))
end Go.Proofs.Ytjblhppbjebagaa.AE

namespace Go.Proofs.Ytjblhppbjebagaa.AE
set_option linter.unusedVariables false
set_option linter.unusedSimpArgs false
set_option linter.constructorNameAsVariable false
open Go
set_option maxRecDepth 100000
/-- apogee/box.Grow -/
theorem r9 (C : Cb) (d : Nat) (a0 a1 a2 a3 a4 : Int) : xcall C M unr d 9 [(.agg [(.int .i64 a0), (.int .i64 a1), (.int .i64 a2), (.int .i64 a3)]), (.int .i64 a4)] =
  C.tup 2 (pcall M d 32 [(.agg [(.int .i64 a0), (.int .i64 a1)]), (.int .i64 (IntKind.wrap .i64 (0 - a4))), (.int .i64 (IntKind.wrap .i64 (0 - a4)))]) fun l0 =>
  C.agg 2 l0[0]? fun l1 =>
  C.int .i64 l1[0]? fun x2 =>
  C.int .i64 l1[1]? fun x3 =>
  C.bool l0[1]? fun b4 =>
  C.tup 2 (pcall M d 32 [(.agg [(.int .i64 a2), (.int .i64 a3)]), (.int .i64 a4), (.int .i64 a4)]) fun l5 =>
  C.agg 2 l5[0]? fun l6 =>
  C.int .i64 l6[0]? fun x7 =>
  C.int .i64 l6[1]? fun x8 =>
  C.bool l5[1]? fun b9 =>
  cnd (decide (a4 < 0))
   (some (.tup [(.agg [(.int .i64 0), (.int .i64 0), (.int .i64 0), (.int .i64 0)]), (.bool false)]))
   (C.bool (pcall M d 12 [(.agg [(.int .i64 a0), (.int .i64 a1), (.int .i64 a2), (.int .i64 a3)])]) fun b10 =>
   cnd (!b10)
   (some (.tup [(.agg [(.int .i64 0), (.int .i64 0), (.int .i64 0), (.int .i64 0)]), (.bool false)]))
   (cnd (!b4)
   (some (.tup [(.agg [(.int .i64 0), (.int .i64 0), (.int .i64 0), (.int .i64 0)]), (.bool false)]))
   (cnd (!b9)
   (some (.tup [(.agg [(.int .i64 0), (.int .i64 0), (.int .i64 0), (.int .i64 0)]), (.bool false)]))
   (some (.tup [(.agg [(.int .i64 x2), (.int .i64 x3), (.int .i64 x7), (.int .i64 x8)]), (.bool true)]))))) := by kernel_rfl
/-- apogee/box.Right -/
theorem r12 (C : Cb) (d : Nat) (a0 a1 a2 a3 : Int) : xcall C M unr d 12 [(.agg [(.int .i64 a0), (.int .i64 a1), (.int .i64 a2), (.int .i64 a3)])] =
  C.bool (pcall M d 35 [(.agg [(.int .i64 a0), (.int .i64 a1)])]) fun b0 =>
  cnd b0
   (C.bool (pcall M d 35 [(.agg [(.int .i64 a2), (.int .i64 a3)])]) fun b1 =>
   cnd b1
   (cnd (decide (a0 ≤ a2))
   (some (.bool (decide (a1 ≤ a3))))
   (some (.bool false)))
   (some (.bool false)))
   (some (.bool false)) := by kernel_rfl
/-- apogee/apogeeref12.Right -/
theorem r13 (C : Cb) (d : Nat) (a0 a1 a2 a3 : Int) : xcall C M unr d 13 [(.agg [(.int .i64 a0), (.int .i64 a1), (.int .i64 a2), (.int .i64 a3)])] =
  C.bool (pcall M d 26 [(.agg [(.int .i64 a0), (.int .i64 a1)])]) fun b0 =>
  cnd b0
   (C.bool (pcall M d 26 [(.agg [(.int .i64 a2), (.int .i64 a3)])]) fun b1 =>
   cnd b1
   (cnd (decide (a0 ≤ a2))
   (some (.bool (decide (a1 ≤ a3))))
   (some (.bool false)))
   (some (.bool false)))
   (some (.bool false)) := by kernel_rfl
/-- apogee/box.Of -/
theorem r14 (C : Cb) (d : Nat) (a0 a1 a2 : Int) : xcall C M unr d 14 [(.agg [(.int .i64 a0), (.int .i64 a1)]), (.int .i64 a2)] =
  C.bool (pcall M d 35 [(.agg [(.int .i64 a0), (.int .i64 a1)])]) fun b0 =>
  cnd (!b0)
   (some (.agg [(.int .i64 0), (.int .i64 0), (.int .i64 0), (.int .i64 0)]))
   (C.int .i64 (pcall M d 36 [(.int .i64 a2), (.int .i64 0), (.int .i64 4398046511104)]) fun x1 =>
   C.int .i64 (pcall M d 37 [(.int .i64 (IntKind.wrap .i64 (a0 - x1)))]) fun x2 =>
   C.int .i64 (pcall M d 37 [(.int .i64 (IntKind.wrap .i64 (a1 - x1)))]) fun x3 =>
   C.int .i64 (pcall M d 37 [(.int .i64 (IntKind.wrap .i64 (a0 + x1)))]) fun x4 =>
   C.int .i64 (pcall M d 37 [(.int .i64 (IntKind.wrap .i64 (a1 + x1)))]) fun x5 =>
   some (.agg [(.int .i64 x2), (.int .i64 x3), (.int .i64 x4), (.int .i64 x5)])) := by kernel_rfl
/-- apogee/box.Has -/
theorem r15 (C : Cb) (d : Nat) (a0 a1 a2 a3 a4 a5 : Int) : xcall C M unr d 15 [(.agg [(.int .i64 a0), (.int .i64 a1), (.int .i64 a2), (.int .i64 a3)]), (.agg [(.int .i64 a4), (.int .i64 a5)])] =
  C.bool (pcall M d 12 [(.agg [(.int .i64 a0), (.int .i64 a1), (.int .i64 a2), (.int .i64 a3)])]) fun b0 =>
  cnd b0
   (C.bool (pcall M d 35 [(.agg [(.int .i64 a4), (.int .i64 a5)])]) fun b1 =>
   cnd b1
   (cnd (decide (a0 ≤ a4))
   (cnd (decide (a4 ≤ a2))
   (cnd (decide (a1 ≤ a5))
   (some (.bool (decide (a5 ≤ a3))))
   (some (.bool false)))
   (some (.bool false)))
   (some (.bool false)))
   (some (.bool false)))
   (some (.bool false)) := by kernel_rfl
/-- apogee/apogeeref12.Has -/
theorem r16 (C : Cb) (d : Nat) (a0 a1 a2 a3 a4 a5 : Int) : xcall C M unr d 16 [(.agg [(.int .i64 a0), (.int .i64 a1), (.int .i64 a2), (.int .i64 a3)]), (.agg [(.int .i64 a4), (.int .i64 a5)])] =
  C.bool (pcall M d 13 [(.agg [(.int .i64 a0), (.int .i64 a1), (.int .i64 a2), (.int .i64 a3)])]) fun b0 =>
  cnd b0
   (C.bool (pcall M d 26 [(.agg [(.int .i64 a4), (.int .i64 a5)])]) fun b1 =>
   cnd b1
   (cnd (decide (a4 ≥ a0))
   (cnd (decide (a4 ≤ a2))
   (cnd (decide (a5 ≥ a1))
   (some (.bool (decide (a5 ≤ a3))))
   (some (.bool false)))
   (some (.bool false)))
   (some (.bool false)))
   (some (.bool false)))
   (some (.bool false)) := by kernel_rfl
/-- apogee/box.In -/
theorem r17 (C : Cb) (d : Nat) (a0 a1 a2 a3 a4 a5 a6 a7 : Int) : xcall C M unr d 17 [(.agg [(.int .i64 a0), (.int .i64 a1), (.int .i64 a2), (.int .i64 a3)]), (.agg [(.int .i64 a4), (.int .i64 a5), (.int .i64 a6), (.int .i64 a7)])] =
  C.bool (pcall M d 12 [(.agg [(.int .i64 a0), (.int .i64 a1), (.int .i64 a2), (.int .i64 a3)])]) fun b0 =>
  cnd b0
   (C.bool (pcall M d 15 [(.agg [(.int .i64 a4), (.int .i64 a5), (.int .i64 a6), (.int .i64 a7)]), (.agg [(.int .i64 a0), (.int .i64 a1)])]) fun b1 =>
   cnd b1
   (C.bool (pcall M d 15 [(.agg [(.int .i64 a4), (.int .i64 a5), (.int .i64 a6), (.int .i64 a7)]), (.agg [(.int .i64 a2), (.int .i64 a3)])]) fun b2 =>
   some (.bool b2))
   (some (.bool false)))
   (some (.bool false)) := by kernel_rfl
/-- apogee/apogeeref12.In -/
theorem r18 (C : Cb) (d : Nat) (a0 a1 a2 a3 a4 a5 a6 a7 : Int) : xcall C M unr d 18 [(.agg [(.int .i64 a0), (.int .i64 a1), (.int .i64 a2), (.int .i64 a3)]), (.agg [(.int .i64 a4), (.int .i64 a5), (.int .i64 a6), (.int .i64 a7)])] =
  C.bool (pcall M d 13 [(.agg [(.int .i64 a0), (.int .i64 a1), (.int .i64 a2), (.int .i64 a3)])]) fun b0 =>
  cnd b0
   (C.bool (pcall M d 16 [(.agg [(.int .i64 a4), (.int .i64 a5), (.int .i64 a6), (.int .i64 a7)]), (.agg [(.int .i64 a0), (.int .i64 a1)])]) fun b1 =>
   cnd b1
   (C.bool (pcall M d 16 [(.agg [(.int .i64 a4), (.int .i64 a5), (.int .i64 a6), (.int .i64 a7)]), (.agg [(.int .i64 a2), (.int .i64 a3)])]) fun b2 =>
   some (.bool b2))
   (some (.bool false)))
   (some (.bool false)) := by kernel_rfl
/-- apogee/box.Join -/
theorem r19 (C : Cb) (d : Nat) (a0 a1 a2 a3 a4 a5 a6 a7 : Int) : xcall C M unr d 19 [(.agg [(.int .i64 a0), (.int .i64 a1), (.int .i64 a2), (.int .i64 a3)]), (.agg [(.int .i64 a4), (.int .i64 a5), (.int .i64 a6), (.int .i64 a7)])] =
  C.bool (pcall M d 12 [(.agg [(.int .i64 a0), (.int .i64 a1), (.int .i64 a2), (.int .i64 a3)])]) fun b0 =>
  cnd b0
   (C.bool (pcall M d 12 [(.agg [(.int .i64 a4), (.int .i64 a5), (.int .i64 a6), (.int .i64 a7)])]) fun b1 =>
   cnd b1
   (some (.agg [(.int .i64 (if (a4 < a0) then a4 else a0)), (.int .i64 (if (a5 < a1) then a5 else a1)), (.int .i64 (if (a6 > a2) then a6 else a2)), (.int .i64 (if (a7 > a3) then a7 else a3))]))
   (C.bool (pcall M d 12 [(.agg [(.int .i64 a0), (.int .i64 a1), (.int .i64 a2), (.int .i64 a3)])]) fun b2 =>
   cnd b2
   (some (.agg [(.int .i64 a0), (.int .i64 a1), (.int .i64 a2), (.int .i64 a3)]))
   (C.bool (pcall M d 12 [(.agg [(.int .i64 a4), (.int .i64 a5), (.int .i64 a6), (.int .i64 a7)])]) fun b3 =>
   cnd b3
   (some (.agg [(.int .i64 a4), (.int .i64 a5), (.int .i64 a6), (.int .i64 a7)]))
   (some (.agg [(.int .i64 0), (.int .i64 0), (.int .i64 0), (.int .i64 0)])))))
   (C.bool (pcall M d 12 [(.agg [(.int .i64 a0), (.int .i64 a1), (.int .i64 a2), (.int .i64 a3)])]) fun b4 =>
   cnd b4
   (some (.agg [(.int .i64 a0), (.int .i64 a1), (.int .i64 a2), (.int .i64 a3)]))
   (C.bool (pcall M d 12 [(.agg [(.int .i64 a4), (.int .i64 a5), (.int .i64 a6), (.int .i64 a7)])]) fun b5 =>
   cnd b5
   (some (.agg [(.int .i64 a4), (.int .i64 a5), (.int .i64 a6), (.int .i64 a7)]))
   (some (.agg [(.int .i64 0), (.int .i64 0), (.int .i64 0), (.int .i64 0)])))) := by kernel_rfl
/-- apogee/apogeeref12.Join -/
theorem r20 (C : Cb) (d : Nat) (a0 a1 a2 a3 a4 a5 a6 a7 : Int) : xcall C M unr d 20 [(.agg [(.int .i64 a0), (.int .i64 a1), (.int .i64 a2), (.int .i64 a3)]), (.agg [(.int .i64 a4), (.int .i64 a5), (.int .i64 a6), (.int .i64 a7)])] =
  C.bool (pcall M d 13 [(.agg [(.int .i64 a0), (.int .i64 a1), (.int .i64 a2), (.int .i64 a3)])]) fun b0 =>
  cnd (!b0)
   (C.bool (pcall M d 13 [(.agg [(.int .i64 a4), (.int .i64 a5), (.int .i64 a6), (.int .i64 a7)])]) fun b1 =>
   cnd (!b1)
   (some (.agg [(.int .i64 0), (.int .i64 0), (.int .i64 0), (.int .i64 0)]))
   (C.bool (pcall M d 13 [(.agg [(.int .i64 a0), (.int .i64 a1), (.int .i64 a2), (.int .i64 a3)])]) fun b2 =>
   cnd (!b2)
   (some (.agg [(.int .i64 a4), (.int .i64 a5), (.int .i64 a6), (.int .i64 a7)]))
   (C.bool (pcall M d 13 [(.agg [(.int .i64 a4), (.int .i64 a5), (.int .i64 a6), (.int .i64 a7)])]) fun b3 =>
   cnd (!b3)
   (some (.agg [(.int .i64 a0), (.int .i64 a1), (.int .i64 a2), (.int .i64 a3)]))
   (some (.agg [(.int .i64 (if (a4 < a0) then a4 else a0)), (.int .i64 (if (a5 < a1) then a5 else a1)), (.int .i64 (if (a6 > a2) then a6 else a2)), (.int .i64 (if (a7 > a3) then a7 else a3))])))))
   (C.bool (pcall M d 13 [(.agg [(.int .i64 a0), (.int .i64 a1), (.int .i64 a2), (.int .i64 a3)])]) fun b4 =>
   cnd (!b4)
   (some (.agg [(.int .i64 a4), (.int .i64 a5), (.int .i64 a6), (.int .i64 a7)]))
   (C.bool (pcall M d 13 [(.agg [(.int .i64 a4), (.int .i64 a5), (.int .i64 a6), (.int .i64 a7)])]) fun b5 =>
   cnd (!b5)
   (some (.agg [(.int .i64 a0), (.int .i64 a1), (.int .i64 a2), (.int .i64 a3)]))
   (some (.agg [(.int .i64 (if (a4 < a0) then a4 else a0)), (.int .i64 (if (a5 < a1) then a5 else a1)), (.int .i64 (if (a6 > a2) then a6 else a2)), (.int .i64 (if (a7 > a3) then a7 else a3))])))) := by kernel_rfl
/-- apogee/box.Corners -/
theorem r22 (C : Cb) (d : Nat) (a0 a1 a2 a3 : Int) : xcall C M unr d 22 [(.agg [(.int .i64 a0), (.int .i64 a1), (.int .i64 a2), (.int .i64 a3)])] =
  C.bool (pcall M d 12 [(.agg [(.int .i64 a0), (.int .i64 a1), (.int .i64 a2), (.int .i64 a3)])]) fun b0 =>
  cnd (!b0)
   (some (.lst []))
   (some (.lst [(.agg [(.int .i64 a0), (.int .i64 a1)]), (.agg [(.int .i64 a2), (.int .i64 a1)]), (.agg [(.int .i64 a2), (.int .i64 a3)]), (.agg [(.int .i64 a0), (.int .i64 a3)])])) := by kernel_rfl
/-- apogee/box.Meets -/
theorem r24 (C : Cb) (d : Nat) (a0 a1 a2 a3 a4 a5 a6 a7 : Int) : xcall C M unr d 24 [(.agg [(.int .i64 a0), (.int .i64 a1), (.int .i64 a2), (.int .i64 a3)]), (.agg [(.int .i64 a4), (.int .i64 a5)]), (.agg [(.int .i64 a6), (.int .i64 a7)])] =
  C.bool (pcall M d 12 [(.agg [(.int .i64 a0), (.int .i64 a1), (.int .i64 a2), (.int .i64 a3)])]) fun b0 =>
  cnd (!b0)
   (some (.bool false))
   (C.bool (pcall M d 35 [(.agg [(.int .i64 a4), (.int .i64 a5)])]) fun b1 =>
   cnd (!b1)
   (some (.bool false))
   (C.bool (pcall M d 35 [(.agg [(.int .i64 a6), (.int .i64 a7)])]) fun b2 =>
   cnd (!b2)
   (some (.bool false))
   (cnd (decide ((if (a6 > a4) then a6 else a4) < a0))
   (some (.bool false))
   (cnd (decide ((if (a6 < a4) then a6 else a4) > a2))
   (some (.bool false))
   (cnd (decide ((if (a7 > a5) then a7 else a5) < a1))
   (some (.bool false))
   (cnd (decide ((if (a7 < a5) then a7 else a5) > a3))
   (some (.bool false))
   (C.int .i64 (pcall M d 38 [(.agg [(.int .i64 a0), (.int .i64 a1)]), (.fptr (.agg [(.int .i64 a4), (.int .i64 a5)]) 0), (.fptr (.agg [(.int .i64 a6), (.int .i64 a7)]) 0)]) fun x3 =>
   cnd (x3 == 0)
   (some (.bool true))
   (C.lst (pcall M d 22 [(.agg [(.int .i64 a0), (.int .i64 a1), (.int .i64 a2), (.int .i64 a3)])]) (fun l4 =>
   C.bool (pcall M d 40 [(.lst l4), (.fn 41 [] [(.fptr (.fn 38 [] [(.fptr (.agg [(.int .i64 a4), (.int .i64 a5)]) 0), (.fptr (.agg [(.int .i64 a6), (.int .i64 a7)]) 0)]) 0), (.fptr (.int .i64 x3) 0)])]) fun b6 =>
   some (.bool b6))
   (fun z5 =>
   C.bool (pcall M d 40 [(.lst []), (.fn 41 [] [(.fptr (.fn 38 [] [(.fptr (.agg [(.int .i64 a4), (.int .i64 a5)]) 0), (.fptr (.agg [(.int .i64 a6), (.int .i64 a7)]) 0)]) 0), (.fptr (.int .i64 x3) 0)])]) fun b7 =>
   some (.bool b7)))))))))) := by kernel_rfl
def r27R0 (C : Cb) (d : Nat) (a0 a1 a2 a3 : Int) (a4 : List AV) (v0 : AV) (x5 x6 x7 x8 : Int) (b9 b12 : Bool) (x15 : Int) : St → (Ex → St → Ans) → Ans := fun s16 k17 =>
  cnd ((List.length (St.env s16)) == 38)
   (C.same (St.env s16)[0]? (.agg [(.int .i64 a0), (.int .i64 a1), (.int .i64 a2), (.int .i64 a3)]) <|
   C.same (St.env s16)[1]? (.lst a4) <|
   C.same (St.env s16)[2]? v0 <|
   C.same (St.env s16)[3]? (.tup []) <|
   C.int .i64 (St.env s16)[4]? fun x19 =>
   C.any (St.env s16)[5]? fun v20 =>
   C.any (St.env s16)[6]? fun v21 =>
   C.same (St.env s16)[7]? (.agg [(.int .i64 x5), (.int .i64 x6), (.int .i64 x7), (.int .i64 x8)]) <|
   C.same (St.env s16)[8]? (.bool b9) <|
   C.same (St.env s16)[9]? (.bool (!b9)) <|
   C.same (St.env s16)[10]? (.bool false) <|
   C.same (St.env s16)[11]? (.lst a4) <|
   C.same (St.env s16)[12]? (.bool b12) <|
   C.same (St.env s16)[13]? (.bool (!b12)) <|
   C.same (St.env s16)[14]? (.bool false) <|
   C.same (St.env s16)[15]? (.lst a4) <|
   C.same (St.env s16)[16]? (.int .i64 x15) <|
   C.int .i64 (St.env s16)[17]? fun x22 =>
   C.any (St.env s16)[18]? fun v23 =>
   C.any (St.env s16)[19]? fun v24 =>
   C.any (St.env s16)[20]? fun v25 =>
   C.any (St.env s16)[21]? fun v26 =>
   C.any (St.env s16)[22]? fun v27 =>
   C.any (St.env s16)[23]? fun v28 =>
   C.any (St.env s16)[24]? fun v29 =>
   C.any (St.env s16)[25]? fun v30 =>
   C.any (St.env s16)[26]? fun v31 =>
   C.any (St.env s16)[27]? fun v32 =>
   C.any (St.env s16)[28]? fun v33 =>
   C.any (St.env s16)[29]? fun v34 =>
   C.any (St.env s16)[30]? fun v35 =>
   C.any (St.env s16)[31]? fun v36 =>
   C.any (St.env s16)[32]? fun v37 =>
   C.any (St.env s16)[33]? fun v38 =>
   C.same (St.env s16)[34]? (.tup []) <|
   C.same (St.env s16)[35]? (.tup []) <|
   C.same (St.env s16)[36]? (.tup []) <|
   C.same (St.env s16)[37]? (.tup []) <|
   cnd (decide (x22 < x15))
   (C.hop (St.H s16) (.ixAS .any 2 (.v (.lst a4)) (.v (.int .i64 x22))) fun v39 h40 =>
   C.hop h40 (.load true 2 (.v v39)) fun v41 h42 =>
   C.agg 2 (some v41) fun l43 =>
   C.int .i64 l43[0]? fun x44 =>
   C.int .i64 l43[1]? fun x45 =>
   C.hop h42 (.alloc E23) fun v46 h47 =>
   C.hop h47 (.store 2 (.v v46) (.v (.agg [(.int .i64 x44), (.int .i64 x45)]))) fun v48 h49 =>
   C.hop h49 (.load true 4 (.v v0)) fun v50 h51 =>
   C.agg 4 (some v50) fun l52 =>
   C.int .i64 l52[0]? fun x53 =>
   C.int .i64 l52[1]? fun x54 =>
   C.int .i64 l52[2]? fun x55 =>
   C.int .i64 l52[3]? fun x56 =>
   C.hop h51 (.load true 2 (.v v46)) fun v57 h58 =>
   C.agg 2 (some v57) fun l59 =>
   C.int .i64 l59[0]? fun x60 =>
   C.int .i64 l59[1]? fun x61 =>
   C.hop h58 (.bk .lenV [(.v (.lst a4))]) fun v62 h63 =>
   C.int .i64 (some v62) fun x64 =>
   cnd (decide (x64 = 0))
   (none)
   (C.hop h63 (.ixAS .any 2 (.v (.lst a4)) (.v (.int .i64 (Int.tmod (IntKind.wrap .i64 (x22 + 1)) x64)))) fun v65 h66 =>
   C.hop h66 (.load true 2 (.v v65)) fun v67 h68 =>
   C.agg 2 (some v67) fun l69 =>
   C.int .i64 l69[0]? fun x70 =>
   C.int .i64 l69[1]? fun x71 =>
   C.bool (pcall M d 24 [(.agg [(.int .i64 x53), (.int .i64 x54), (.int .i64 x55), (.int .i64 x56)]), (.agg [(.int .i64 x60), (.int .i64 x61)]), (.agg [(.int .i64 x70), (.int .i64 x71)])]) fun b72 =>
   cnd b72
   (k17 .ret ⟨[(.agg [(.int .i64 a0), (.int .i64 a1), (.int .i64 a2), (.int .i64 a3)]), (.lst a4), v0, (.tup []), (.int .i64 0), (.int .i64 x22), v46, (.agg [(.int .i64 x5), (.int .i64 x6), (.int .i64 x7), (.int .i64 x8)]), (.bool b9), (.bool (!b9)), (.bool false), (.lst a4), (.bool b12), (.bool (!b12)), (.bool false), (.lst a4), (.int .i64 x15), (.int .i64 x22), (.bool true), (.int .i64 x22), v39, (.agg [(.int .i64 x44), (.int .i64 x45)]), (.agg [(.int .i64 x53), (.int .i64 x54), (.int .i64 x55), (.int .i64 x56)]), (.agg [(.int .i64 x60), (.int .i64 x61)]), (.lst a4), (.int .i64 x22), (.int .i64 (IntKind.wrap .i64 (x22 + 1))), (.lst a4), (.int .i64 x64), (.int .i64 (Int.tmod (IntKind.wrap .i64 (x22 + 1)) x64)), v65, (.agg [(.int .i64 x70), (.int .i64 x71)]), (.bool true), v38, (.tup []), (.tup []), (.tup []), (.tup [])], h68⟩)
   (k17 .normal ⟨[(.agg [(.int .i64 a0), (.int .i64 a1), (.int .i64 a2), (.int .i64 a3)]), (.lst a4), v0, (.tup []), (.int .i64 x19), (.int .i64 x22), v46, (.agg [(.int .i64 x5), (.int .i64 x6), (.int .i64 x7), (.int .i64 x8)]), (.bool b9), (.bool (!b9)), (.bool false), (.lst a4), (.bool b12), (.bool (!b12)), (.bool false), (.lst a4), (.int .i64 x15), (.int .i64 (IntKind.wrap .i64 (x22 + 1))), (.bool true), (.int .i64 x22), v39, (.agg [(.int .i64 x44), (.int .i64 x45)]), (.agg [(.int .i64 x53), (.int .i64 x54), (.int .i64 x55), (.int .i64 x56)]), (.agg [(.int .i64 x60), (.int .i64 x61)]), (.lst a4), (.int .i64 x22), (.int .i64 (IntKind.wrap .i64 (x22 + 1))), (.lst a4), (.int .i64 x64), (.int .i64 (Int.tmod (IntKind.wrap .i64 (x22 + 1)) x64)), v65, (.agg [(.int .i64 x70), (.int .i64 x71)]), (.bool false), (.int .i64 (IntKind.wrap .i64 (x22 + 1))), (.tup []), (.tup []), (.tup []), (.tup [])], h68⟩)))
   (k17 (.exit 0) ⟨[(.agg [(.int .i64 a0), (.int .i64 a1), (.int .i64 a2), (.int .i64 a3)]), (.lst a4), v0, (.tup []), (.int .i64 x19), v20, v21, (.agg [(.int .i64 x5), (.int .i64 x6), (.int .i64 x7), (.int .i64 x8)]), (.bool b9), (.bool (!b9)), (.bool false), (.lst a4), (.bool b12), (.bool (!b12)), (.bool false), (.lst a4), (.int .i64 x15), (.int .i64 x22), (.bool false), v24, v25, v26, v27, v28, v29, v30, v31, v32, v33, v34, v35, v36, v37, v38, (.tup []), (.tup []), (.tup []), (.tup [])], (St.H s16)⟩))
   (none)
def r27X0_0 (C : Cb) (d : Nat) (a0 a1 a2 a3 : Int) (a4 : List AV) (v0 : AV) (x5 x6 x7 x8 : Int) (b9 b12 : Bool) (x15 : Int) : St → Ans := fun s73 =>
  cnd ((List.length (St.env s73)) == 38)
   (C.same (St.env s73)[0]? (.agg [(.int .i64 a0), (.int .i64 a1), (.int .i64 a2), (.int .i64 a3)]) <|
   C.same (St.env s73)[1]? (.lst a4) <|
   C.same (St.env s73)[2]? v0 <|
   C.same (St.env s73)[3]? (.tup []) <|
   C.int .i64 (St.env s73)[4]? fun x74 =>
   C.any (St.env s73)[5]? fun v75 =>
   C.any (St.env s73)[6]? fun v76 =>
   C.same (St.env s73)[7]? (.agg [(.int .i64 x5), (.int .i64 x6), (.int .i64 x7), (.int .i64 x8)]) <|
   C.same (St.env s73)[8]? (.bool b9) <|
   C.same (St.env s73)[9]? (.bool (!b9)) <|
   C.same (St.env s73)[10]? (.bool false) <|
   C.same (St.env s73)[11]? (.lst a4) <|
   C.same (St.env s73)[12]? (.bool b12) <|
   C.same (St.env s73)[13]? (.bool (!b12)) <|
   C.same (St.env s73)[14]? (.bool false) <|
   C.same (St.env s73)[15]? (.lst a4) <|
   C.same (St.env s73)[16]? (.int .i64 x15) <|
   C.int .i64 (St.env s73)[17]? fun x77 =>
   C.any (St.env s73)[18]? fun v78 =>
   C.any (St.env s73)[19]? fun v79 =>
   C.any (St.env s73)[20]? fun v80 =>
   C.any (St.env s73)[21]? fun v81 =>
   C.any (St.env s73)[22]? fun v82 =>
   C.any (St.env s73)[23]? fun v83 =>
   C.any (St.env s73)[24]? fun v84 =>
   C.any (St.env s73)[25]? fun v85 =>
   C.any (St.env s73)[26]? fun v86 =>
   C.any (St.env s73)[27]? fun v87 =>
   C.any (St.env s73)[28]? fun v88 =>
   C.any (St.env s73)[29]? fun v89 =>
   C.any (St.env s73)[30]? fun v90 =>
   C.any (St.env s73)[31]? fun v91 =>
   C.any (St.env s73)[32]? fun v92 =>
   C.any (St.env s73)[33]? fun v93 =>
   C.same (St.env s73)[34]? (.tup []) <|
   C.same (St.env s73)[35]? (.tup []) <|
   C.same (St.env s73)[36]? (.tup []) <|
   C.same (St.env s73)[37]? (.tup []) <|
   C.hop (St.H s73) (.fldA 0 (.v v0)) fun v94 h95 =>
   C.hop h95 (.load true 2 (.v v94)) fun v96 h97 =>
   C.agg 2 (some v96) fun l98 =>
   C.int .i64 l98[0]? fun x99 =>
   C.int .i64 l98[1]? fun x100 =>
   C.snp h97 [(.lst a4), (.agg [(.int .i64 x99), (.int .i64 x100)])] fun l101 b102 =>
   C.int .i64 (pcall M d 31 l101) fun x103 =>
   cnd (b102 || true)
   (C.fin h97 (.int .i64 x103))
   (none))
   (none)
def r27E0 (C : Cb) (d : Nat) (a0 a1 a2 a3 : Int) (a4 : List AV) (v0 : AV) (x5 x6 x7 x8 : Int) (b9 b12 : Bool) (x15 : Int) : St → Ans := fun s18 =>
  cnd ((List.length (St.env s18)) == 38)
   (C.same (St.env s18)[0]? (.agg [(.int .i64 a0), (.int .i64 a1), (.int .i64 a2), (.int .i64 a3)]) <|
   C.same (St.env s18)[1]? (.lst a4) <|
   C.same (St.env s18)[2]? v0 <|
   C.same (St.env s18)[3]? (.tup []) <|
   C.int .i64 (St.env s18)[4]? fun x104 =>
   C.int .i64 (St.env s18)[5]? fun x105 =>
   C.any (St.env s18)[6]? fun v106 =>
   C.same (St.env s18)[7]? (.agg [(.int .i64 x5), (.int .i64 x6), (.int .i64 x7), (.int .i64 x8)]) <|
   C.same (St.env s18)[8]? (.bool b9) <|
   C.same (St.env s18)[9]? (.bool (!b9)) <|
   C.same (St.env s18)[10]? (.bool false) <|
   C.same (St.env s18)[11]? (.lst a4) <|
   C.same (St.env s18)[12]? (.bool b12) <|
   C.same (St.env s18)[13]? (.bool (!b12)) <|
   C.same (St.env s18)[14]? (.bool false) <|
   C.same (St.env s18)[15]? (.lst a4) <|
   C.same (St.env s18)[16]? (.int .i64 x15) <|
   C.int .i64 (St.env s18)[17]? fun x107 =>
   C.any (St.env s18)[18]? fun v108 =>
   C.int .i64 (St.env s18)[19]? fun x109 =>
   C.any (St.env s18)[20]? fun v110 =>
   C.agg 2 (St.env s18)[21]? fun l111 =>
   C.int .i64 l111[0]? fun x112 =>
   C.int .i64 l111[1]? fun x113 =>
   C.agg 4 (St.env s18)[22]? fun l114 =>
   C.int .i64 l114[0]? fun x115 =>
   C.int .i64 l114[1]? fun x116 =>
   C.int .i64 l114[2]? fun x117 =>
   C.int .i64 l114[3]? fun x118 =>
   C.agg 2 (St.env s18)[23]? fun l119 =>
   C.int .i64 l119[0]? fun x120 =>
   C.int .i64 l119[1]? fun x121 =>
   C.any (St.env s18)[24]? fun v122 =>
   C.int .i64 (St.env s18)[25]? fun x123 =>
   C.int .i64 (St.env s18)[26]? fun x124 =>
   C.any (St.env s18)[27]? fun v125 =>
   C.int .i64 (St.env s18)[28]? fun x126 =>
   C.int .i64 (St.env s18)[29]? fun x127 =>
   C.any (St.env s18)[30]? fun v128 =>
   C.agg 2 (St.env s18)[31]? fun l129 =>
   C.int .i64 l129[0]? fun x130 =>
   C.int .i64 l129[1]? fun x131 =>
   C.bool (St.env s18)[32]? fun b132 =>
   C.any (St.env s18)[33]? fun v133 =>
   C.same (St.env s18)[34]? (.tup []) <|
   C.same (St.env s18)[35]? (.tup []) <|
   C.same (St.env s18)[36]? (.tup []) <|
   C.same (St.env s18)[37]? (.tup []) <|
   C.fin (St.H s18) (.int .i64 x104))
   (none)
/-- apogee/box.Relate -/
theorem r27 (C : Cb) (d : Nat) (a0 a1 a2 a3 : Int) (a4 : List AV) : xcall C M unr d 27 [(.agg [(.int .i64 a0), (.int .i64 a1), (.int .i64 a2), (.int .i64 a3)]), (.lst a4)] =
  C.hop [] (.box E25 (.v (.agg [(.int .i64 a0), (.int .i64 a1), (.int .i64 a2), (.int .i64 a3)]))) fun v0 h1 =>
  C.hop h1 (.load true 4 (.v v0)) fun v2 h3 =>
  C.agg 4 (some v2) fun l4 =>
  C.int .i64 l4[0]? fun x5 =>
  C.int .i64 l4[1]? fun x6 =>
  C.int .i64 l4[2]? fun x7 =>
  C.int .i64 l4[3]? fun x8 =>
  C.bool (pcall M d 12 [(.agg [(.int .i64 x5), (.int .i64 x6), (.int .i64 x7), (.int .i64 x8)])]) fun b9 =>
  cnd (!b9)
   (C.fin h3 (.int .i64 (-1)))
   (C.snp h3 [(.lst a4)] fun l10 b11 =>
   C.bool (pcall M d 43 l10) fun b12 =>
   cnd (b11 || true)
   (cnd (!b12)
   (C.fin h3 (.int .i64 (-1)))
   (C.hop h3 (.bk .lenV [(.v (.lst a4))]) fun v13 h14 =>
   C.int .i64 (some v13) fun x15 =>
   C.iter (r27R0 C d a0 a1 a2 a3 a4 v0 x5 x6 x7 x8 b9 b12 x15) 1000000000000000000 ⟨[(.agg [(.int .i64 a0), (.int .i64 a1), (.int .i64 a2), (.int .i64 a3)]), (.lst a4), v0, (.tup []), (.int .i64 0), (.tup []), (.tup []), (.agg [(.int .i64 x5), (.int .i64 x6), (.int .i64 x7), (.int .i64 x8)]), (.bool b9), (.bool (!b9)), (.bool false), (.lst a4), (.bool b12), (.bool (!b12)), (.bool false), (.lst a4), (.int .i64 x15), (.int .i64 0), (.tup []), (.tup []), (.tup []), (.tup []), (.tup []), (.tup []), (.tup []), (.tup []), (.tup []), (.tup []), (.tup []), (.tup []), (.tup []), (.tup []), (.tup []), (.tup []), (.tup []), (.tup []), (.tup []), (.tup [])], h14⟩ [0] [r27X0_0 C d a0 a1 a2 a3 a4 v0 x5 x6 x7 x8 b9 b12 x15] (r27E0 C d a0 a1 a2 a3 a4 v0 x5 x6 x7 x8 b9 b12 x15)))
   (none)) := by kernel_rfl
/-- apogee/box.Of$1 -/
theorem r37 (C : Cb) (d : Nat) (a0 : Int) : xcall C M unr d 37 [(.int .i64 a0)] =
  C.int .i64 (pcall M d 36 [(.int .i64 a0), (.int .i64 (-1099511627776)), (.int .i64 1099511627776)]) fun x0 =>
  some (.int .i64 x0) := by kernel_rfl
/-- apogee/box.Meets$1 -/
theorem r38 (C : Cb) (d : Nat) (a0 a1 a2 a3 a4 a5 : Int) : xcall C M unr d 38 [(.agg [(.int .i64 a0), (.int .i64 a1)]), (.fptr (.agg [(.int .i64 a2), (.int .i64 a3)]) 0), (.fptr (.agg [(.int .i64 a4), (.int .i64 a5)]) 0)] =
  C.int .i64 (pcall M d 39 [(.agg [(.int .i64 a2), (.int .i64 a3)]), (.agg [(.int .i64 a4), (.int .i64 a5)]), (.agg [(.int .i64 a0), (.int .i64 a1)])]) fun x0 =>
  some (.int .i64 x0) := by kernel_rfl
/-- slices.ContainsFunc[[]apogee/api.Point,apogee/api.Point] -/
theorem r40f41 (C : Cb) (d : Nat) (a0 : List AV) (a1 : AV) (a2 a3 a4 a5 a6 : Int) : xcall C M unr d 40 [(.lst a0), (.fn 41 [] [(.fptr (.fn 38 [] [(.fptr (.agg [(.int .i64 a2), (.int .i64 a3)]) 0), (.fptr (.agg [(.int .i64 a4), (.int .i64 a5)]) 0)]) 0), (.fptr (.int .i64 a6) 0)])] =
  C.int .i64 (pcall M d 53 [(.lst a0), (.fn 41 [] [(.fptr (.fn 38 [] [(.fptr (.agg [(.int .i64 a2), (.int .i64 a3)]) 0), (.fptr (.agg [(.int .i64 a4), (.int .i64 a5)]) 0)]) 0), (.fptr (.int .i64 a6) 0)])]) fun x0 =>
  some (.bool (decide (x0 ≥ 0))) := by kernel_rfl
/-- apogee/box.Meets$2 -/
theorem r41 (C : Cb) (d : Nat) (a0 a1 a2 a3 a4 a5 a6 : Int) : xcall C M unr d 41 [(.agg [(.int .i64 a0), (.int .i64 a1)]), (.fptr (.fn 38 [] [(.fptr (.agg [(.int .i64 a2), (.int .i64 a3)]) 0), (.fptr (.agg [(.int .i64 a4), (.int .i64 a5)]) 0)]) 0), (.fptr (.int .i64 a6) 0)] =
  C.int .i64 (pcall M d 38 [(.agg [(.int .i64 a0), (.int .i64 a1)]), (.fptr (.agg [(.int .i64 a2), (.int .i64 a3)]) 0), (.fptr (.agg [(.int .i64 a4), (.int .i64 a5)]) 0)]) fun x0 =>
  some (.bool (x0 != a6)) := by kernel_rfl
def r53f41R0 (C : Cb) (d : Nat) (a0 : List AV) (a2 a3 a4 a5 a6 : Int) : St → (Ex → St → Ans) → Ans := fun s0 k1 =>
  cnd ((List.length (St.env s0)) == 19)
   (C.same (St.env s0)[0]? (.lst a0) <|
   C.same (St.env s0)[1]? (.fn 41 [] [(.fptr (.fn 38 [] [(.fptr (.agg [(.int .i64 a2), (.int .i64 a3)]) 0), (.fptr (.agg [(.int .i64 a4), (.int .i64 a5)]) 0)]) 0), (.fptr (.int .i64 a6) 0)]) <|
   C.same (St.env s0)[2]? (.tup []) <|
   C.same (St.env s0)[3]? (.tup []) <|
   C.int .i64 (St.env s0)[4]? fun x3 =>
   C.any (St.env s0)[5]? fun v4 =>
   C.same (St.env s0)[6]? (.lst a0) <|
   C.same (St.env s0)[7]? (.int .i64 (((List.length a0) : Nat) : Int)) <|
   C.int .i64 (St.env s0)[8]? fun x5 =>
   C.any (St.env s0)[9]? fun v6 =>
   C.any (St.env s0)[10]? fun v7 =>
   C.any (St.env s0)[11]? fun v8 =>
   C.any (St.env s0)[12]? fun v9 =>
   C.any (St.env s0)[13]? fun v10 =>
   C.any (St.env s0)[14]? fun v11 =>
   C.any (St.env s0)[15]? fun v12 =>
   C.any (St.env s0)[16]? fun v13 =>
   C.any (St.env s0)[17]? fun v14 =>
   C.any (St.env s0)[18]? fun v15 =>
   C.sameH (St.H s0) [] <|
   cnd (decide (x5 < (((List.length a0) : Nat) : Int)))
   (cnd (decide (0 ≤ x5))
   (C.agg 2 a0[(Int.toNat x5)]? fun l16 =>
   C.int .i64 l16[0]? fun x17 =>
   C.int .i64 l16[1]? fun x18 =>
   C.bool (pcall M d 41 [(.agg [(.int .i64 x17), (.int .i64 x18)]), (.fptr (.fn 38 [] [(.fptr (.agg [(.int .i64 a2), (.int .i64 a3)]) 0), (.fptr (.agg [(.int .i64 a4), (.int .i64 a5)]) 0)]) 0), (.fptr (.int .i64 a6) 0)]) fun b19 =>
   cnd b19
   (k1 .ret ⟨[(.lst a0), (.fn 41 [] [(.fptr (.fn 38 [] [(.fptr (.agg [(.int .i64 a2), (.int .i64 a3)]) 0), (.fptr (.agg [(.int .i64 a4), (.int .i64 a5)]) 0)]) 0), (.fptr (.int .i64 a6) 0)]), (.tup []), (.tup []), (.int .i64 x5), (.int .i64 x5), (.lst a0), (.int .i64 (((List.length a0) : Nat) : Int)), (.int .i64 x5), (.bool true), (.int .i64 x5), (.fn 41 [] [(.fptr (.fn 38 [] [(.fptr (.agg [(.int .i64 a2), (.int .i64 a3)]) 0), (.fptr (.agg [(.int .i64 a4), (.int .i64 a5)]) 0)]) 0), (.fptr (.int .i64 a6) 0)]), (.lst a0), (.int .i64 x5), (.fptr (.agg [(.int .i64 x17), (.int .i64 x18)]) 0), (.agg [(.int .i64 x17), (.int .i64 x18)]), (.bool true), (.int .i64 x5), v15], []⟩)
   (k1 .normal ⟨[(.lst a0), (.fn 41 [] [(.fptr (.fn 38 [] [(.fptr (.agg [(.int .i64 a2), (.int .i64 a3)]) 0), (.fptr (.agg [(.int .i64 a4), (.int .i64 a5)]) 0)]) 0), (.fptr (.int .i64 a6) 0)]), (.tup []), (.tup []), (.int .i64 x3), (.int .i64 x5), (.lst a0), (.int .i64 (((List.length a0) : Nat) : Int)), (.int .i64 (IntKind.wrap .i64 (x5 + 1))), (.bool true), (.int .i64 x5), (.fn 41 [] [(.fptr (.fn 38 [] [(.fptr (.agg [(.int .i64 a2), (.int .i64 a3)]) 0), (.fptr (.agg [(.int .i64 a4), (.int .i64 a5)]) 0)]) 0), (.fptr (.int .i64 a6) 0)]), (.lst a0), (.int .i64 x5), (.fptr (.agg [(.int .i64 x17), (.int .i64 x18)]) 0), (.agg [(.int .i64 x17), (.int .i64 x18)]), (.bool false), v14, (.int .i64 (IntKind.wrap .i64 (x5 + 1)))], []⟩))
   (none))
   (k1 (.exit 0) ⟨[(.lst a0), (.fn 41 [] [(.fptr (.fn 38 [] [(.fptr (.agg [(.int .i64 a2), (.int .i64 a3)]) 0), (.fptr (.agg [(.int .i64 a4), (.int .i64 a5)]) 0)]) 0), (.fptr (.int .i64 a6) 0)]), (.tup []), (.tup []), (.int .i64 x3), v4, (.lst a0), (.int .i64 (((List.length a0) : Nat) : Int)), (.int .i64 x5), (.bool false), v7, v8, v9, v10, v11, v12, v13, v14, v15], []⟩))
   (none)
def r53f41X0_0 (C : Cb) (d : Nat) (a0 : List AV) (a2 a3 a4 a5 a6 : Int) : St → Ans := fun s20 =>
  cnd ((List.length (St.env s20)) == 19)
   (C.same (St.env s20)[0]? (.lst a0) <|
   C.same (St.env s20)[1]? (.fn 41 [] [(.fptr (.fn 38 [] [(.fptr (.agg [(.int .i64 a2), (.int .i64 a3)]) 0), (.fptr (.agg [(.int .i64 a4), (.int .i64 a5)]) 0)]) 0), (.fptr (.int .i64 a6) 0)]) <|
   C.same (St.env s20)[2]? (.tup []) <|
   C.same (St.env s20)[3]? (.tup []) <|
   C.int .i64 (St.env s20)[4]? fun x21 =>
   C.any (St.env s20)[5]? fun v22 =>
   C.same (St.env s20)[6]? (.lst a0) <|
   C.same (St.env s20)[7]? (.int .i64 (((List.length a0) : Nat) : Int)) <|
   C.int .i64 (St.env s20)[8]? fun x23 =>
   C.any (St.env s20)[9]? fun v24 =>
   C.any (St.env s20)[10]? fun v25 =>
   C.any (St.env s20)[11]? fun v26 =>
   C.any (St.env s20)[12]? fun v27 =>
   C.any (St.env s20)[13]? fun v28 =>
   C.any (St.env s20)[14]? fun v29 =>
   C.any (St.env s20)[15]? fun v30 =>
   C.any (St.env s20)[16]? fun v31 =>
   C.any (St.env s20)[17]? fun v32 =>
   C.any (St.env s20)[18]? fun v33 =>
   C.sameH (St.H s20) [] <|
   some (.int .i64 (-1)))
   (none)
def r53f41E0 (C : Cb) (d : Nat) (a0 : List AV) (a2 a3 a4 a5 a6 : Int) : St → Ans := fun s2 =>
  cnd ((List.length (St.env s2)) == 19)
   (C.same (St.env s2)[0]? (.lst a0) <|
   C.same (St.env s2)[1]? (.fn 41 [] [(.fptr (.fn 38 [] [(.fptr (.agg [(.int .i64 a2), (.int .i64 a3)]) 0), (.fptr (.agg [(.int .i64 a4), (.int .i64 a5)]) 0)]) 0), (.fptr (.int .i64 a6) 0)]) <|
   C.same (St.env s2)[2]? (.tup []) <|
   C.same (St.env s2)[3]? (.tup []) <|
   C.int .i64 (St.env s2)[4]? fun x34 =>
   C.int .i64 (St.env s2)[5]? fun x35 =>
   C.same (St.env s2)[6]? (.lst a0) <|
   C.same (St.env s2)[7]? (.int .i64 (((List.length a0) : Nat) : Int)) <|
   C.int .i64 (St.env s2)[8]? fun x36 =>
   C.any (St.env s2)[9]? fun v37 =>
   C.int .i64 (St.env s2)[10]? fun x38 =>
   C.any (St.env s2)[11]? fun v39 =>
   C.any (St.env s2)[12]? fun v40 =>
   C.int .i64 (St.env s2)[13]? fun x41 =>
   C.any (St.env s2)[14]? fun v42 =>
   C.agg 2 (St.env s2)[15]? fun l43 =>
   C.int .i64 l43[0]? fun x44 =>
   C.int .i64 l43[1]? fun x45 =>
   C.bool (St.env s2)[16]? fun b46 =>
   C.int .i64 (St.env s2)[17]? fun x47 =>
   C.any (St.env s2)[18]? fun v48 =>
   C.sameH (St.H s2) [] <|
   some (.int .i64 x34))
   (none)
/-- slices.IndexFunc[[]apogee/api.Point,apogee/api.Point] -/
theorem r53f41 (C : Cb) (d : Nat) (a0 : List AV) (a1 : AV) (a2 a3 a4 a5 a6 : Int) : xcall C M unr d 53 [(.lst a0), (.fn 41 [] [(.fptr (.fn 38 [] [(.fptr (.agg [(.int .i64 a2), (.int .i64 a3)]) 0), (.fptr (.agg [(.int .i64 a4), (.int .i64 a5)]) 0)]) 0), (.fptr (.int .i64 a6) 0)])] =
  C.iter (r53f41R0 C d a0 a2 a3 a4 a5 a6) 1000000000000000000 ⟨[(.lst a0), (.fn 41 [] [(.fptr (.fn 38 [] [(.fptr (.agg [(.int .i64 a2), (.int .i64 a3)]) 0), (.fptr (.agg [(.int .i64 a4), (.int .i64 a5)]) 0)]) 0), (.fptr (.int .i64 a6) 0)]), (.tup []), (.tup []), (.int .i64 0), (.tup []), (.lst a0), (.int .i64 (((List.length a0) : Nat) : Int)), (.int .i64 0), (.tup []), (.tup []), (.tup []), (.tup []), (.tup []), (.tup []), (.tup []), (.tup []), (.tup []), (.tup [])], []⟩ [0] [r53f41X0_0 C d a0 a2 a3 a4 a5 a6] (r53f41E0 C d a0 a2 a3 a4 a5 a6) := by kernel_rfl
end Go.Proofs.Ytjblhppbjebagaa.AE

namespace Go.Proofs.Ytjblhppbjebagaa.AE
set_option linter.unusedVariables false
set_option linter.unusedSimpArgs false
set_option linter.constructorNameAsVariable false
open Go
set_option maxRecDepth 100000
noncomputable def X27_0_0 (d : Nat) (a4 : List AV) (v0 : AV) (x15 : Int) (H : Heap) : Ans :=
  C0.hop H (.fldA 0 (.v v0)) fun v94 h95 =>
   C0.hop h95 (.load true 2 (.v v94)) fun v96 h97 =>
   C0.agg 2 (some v96) fun l98 =>
   C0.int .i64 l98[0]? fun x99 =>
   C0.int .i64 l98[1]? fun x100 =>
   C0.snp h97 [(.lst a4), (.agg [(.int .i64 x99), (.int .i64 x100)])] fun l101 b102 =>
   C0.int .i64 (pcall M d 31 l101) fun x103 =>
   cnd (b102 || true)
   (C0.fin h97 (.int .i64 x103))
   (none)
theorem X27_0_0_ok (d : Nat) (a0 a1 a2 a3 : Int) (a4 : List AV) (v0 : AV) (x5 x6 x7 x8 : Int) (b9 b12 : Bool) (x15 x74 : Int) (v75 v76 : AV) (x77 : Int) (v78 v79 v80 v81 v82 v83 v84 v85 v86 v87 v88 v89 v90 v91 v92 v93 : AV) (H : Heap) : r27X0_0 C0 d a0 a1 a2 a3 a4 v0 x5 x6 x7 x8 b9 b12 x15 ⟨[(.agg [(.int .i64 a0), (.int .i64 a1), (.int .i64 a2), (.int .i64 a3)]), (.lst a4), v0, (.tup []), (.int .i64 x74), v75, v76, (.agg [(.int .i64 x5), (.int .i64 x6), (.int .i64 x7), (.int .i64 x8)]), (.bool b9), (.bool (!b9)), (.bool false), (.lst a4), (.bool b12), (.bool (!b12)), (.bool false), (.lst a4), (.int .i64 x15), (.int .i64 x77), v78, v79, v80, v81, v82, v83, v84, v85, v86, v87, v88, v89, v90, v91, v92, v93, (.tup []), (.tup []), (.tup []), (.tup [])], H⟩ = X27_0_0 d a4 v0 x15 H := by
  unfold r27X0_0; refine Eq.trans (pl_len (by rfl)) ?_; (iterate 4 (refine Eq.trans (pl_same (by rfl)) ?_)); refine Eq.trans (pl_int (by rfl)) ?_; (iterate 2 (refine Eq.trans (pl_any (by rfl)) ?_)); (iterate 10 (refine Eq.trans (pl_same (by rfl)) ?_)); refine Eq.trans (pl_int (by rfl)) ?_; (iterate 16 (refine Eq.trans (pl_any (by rfl)) ?_)); (iterate 4 (refine Eq.trans (pl_same (by rfl)) ?_))
  rfl
noncomputable def E27_0 (d : Nat) (a4 : List AV) (v0 : AV) (x15 x104 : Int) (H : Heap) : Ans :=
  C0.fin H (.int .i64 x104)
theorem E27_0_ok (d : Nat) (a0 a1 a2 a3 : Int) (a4 : List AV) (v0 : AV) (x5 x6 x7 x8 : Int) (b9 b12 : Bool) (x15 x104 x105 : Int) (v106 : AV) (x107 : Int) (v108 : AV) (x109 : Int) (v110 : AV) (x112 x113 x115 x116 x117 x118 x120 x121 : Int) (v122 : AV) (x123 x124 : Int) (v125 : AV) (x126 x127 : Int) (v128 : AV) (x130 x131 : Int) (b132 : Bool) (v133 : AV) (H : Heap) : r27E0 C0 d a0 a1 a2 a3 a4 v0 x5 x6 x7 x8 b9 b12 x15 ⟨[(.agg [(.int .i64 a0), (.int .i64 a1), (.int .i64 a2), (.int .i64 a3)]), (.lst a4), v0, (.tup []), (.int .i64 x104), (.int .i64 x105), v106, (.agg [(.int .i64 x5), (.int .i64 x6), (.int .i64 x7), (.int .i64 x8)]), (.bool b9), (.bool (!b9)), (.bool false), (.lst a4), (.bool b12), (.bool (!b12)), (.bool false), (.lst a4), (.int .i64 x15), (.int .i64 x107), v108, (.int .i64 x109), v110, (.agg [(.int .i64 x112), (.int .i64 x113)]), (.agg [(.int .i64 x115), (.int .i64 x116), (.int .i64 x117), (.int .i64 x118)]), (.agg [(.int .i64 x120), (.int .i64 x121)]), v122, (.int .i64 x123), (.int .i64 x124), v125, (.int .i64 x126), (.int .i64 x127), v128, (.agg [(.int .i64 x130), (.int .i64 x131)]), (.bool b132), v133, (.tup []), (.tup []), (.tup []), (.tup [])], H⟩ = E27_0 d a4 v0 x15 x104 H := by
  unfold r27E0; refine Eq.trans (pl_len (by rfl)) ?_; (iterate 4 (refine Eq.trans (pl_same (by rfl)) ?_)); (iterate 2 (refine Eq.trans (pl_int (by rfl)) ?_)); refine Eq.trans (pl_any (by rfl)) ?_; (iterate 10 (refine Eq.trans (pl_same (by rfl)) ?_)); refine Eq.trans (pl_int (by rfl)) ?_; refine Eq.trans (pl_any (by rfl)) ?_; refine Eq.trans (pl_int (by rfl)) ?_; refine Eq.trans (pl_any (by rfl)) ?_; refine Eq.trans (pl_agg (by rfl) (by rfl)) ?_; (iterate 2 (refine Eq.trans (pl_int (by rfl)) ?_)); refine Eq.trans (pl_agg (by rfl) (by rfl)) ?_; (iterate 4 (refine Eq.trans (pl_int (by rfl)) ?_)); refine Eq.trans (pl_agg (by rfl) (by rfl)) ?_; (iterate 2 (refine Eq.trans (pl_int (by rfl)) ?_)); refine Eq.trans (pl_any (by rfl)) ?_; (iterate 2 (refine Eq.trans (pl_int (by rfl)) ?_)); refine Eq.trans (pl_any (by rfl)) ?_; (iterate 2 (refine Eq.trans (pl_int (by rfl)) ?_)); refine Eq.trans (pl_any (by rfl)) ?_; refine Eq.trans (pl_agg (by rfl) (by rfl)) ?_; (iterate 2 (refine Eq.trans (pl_int (by rfl)) ?_)); refine Eq.trans (pl_bool (by rfl)) ?_; refine Eq.trans (pl_any (by rfl)) ?_; (iterate 4 (refine Eq.trans (pl_same (by rfl)) ?_))
  rfl
noncomputable def L27_0 (d : Nat) (a4 : List AV) (v0 : AV) (x15 : Int) : Nat → Int → Heap → Ans
  | 0, _, _ => none
  | n + 1, x22, H =>
  cnd (decide (x22 < x15))
   (C0.hop H (.ixAS .any 2 (.v (.lst a4)) (.v (.int .i64 x22))) fun v39 h40 =>
   C0.hop h40 (.load true 2 (.v v39)) fun v41 h42 =>
   C0.agg 2 (some v41) fun l43 =>
   C0.int .i64 l43[0]? fun x44 =>
   C0.int .i64 l43[1]? fun x45 =>
   C0.hop h42 (.alloc E23) fun v46 h47 =>
   C0.hop h47 (.store 2 (.v v46) (.v (.agg [(.int .i64 x44), (.int .i64 x45)]))) fun v48 h49 =>
   C0.hop h49 (.load true 4 (.v v0)) fun v50 h51 =>
   C0.agg 4 (some v50) fun l52 =>
   C0.int .i64 l52[0]? fun x53 =>
   C0.int .i64 l52[1]? fun x54 =>
   C0.int .i64 l52[2]? fun x55 =>
   C0.int .i64 l52[3]? fun x56 =>
   C0.hop h51 (.load true 2 (.v v46)) fun v57 h58 =>
   C0.agg 2 (some v57) fun l59 =>
   C0.int .i64 l59[0]? fun x60 =>
   C0.int .i64 l59[1]? fun x61 =>
   C0.hop h58 (.bk .lenV [(.v (.lst a4))]) fun v62 h63 =>
   C0.int .i64 (some v62) fun x64 =>
   cnd (decide (x64 = 0))
   (none)
   (C0.hop h63 (.ixAS .any 2 (.v (.lst a4)) (.v (.int .i64 (Int.tmod (IntKind.wrap .i64 (x22 + 1)) x64)))) fun v65 h66 =>
   C0.hop h66 (.load true 2 (.v v65)) fun v67 h68 =>
   C0.agg 2 (some v67) fun l69 =>
   C0.int .i64 l69[0]? fun x70 =>
   C0.int .i64 l69[1]? fun x71 =>
   C0.bool (pcall M d 24 [(.agg [(.int .i64 x53), (.int .i64 x54), (.int .i64 x55), (.int .i64 x56)]), (.agg [(.int .i64 x60), (.int .i64 x61)]), (.agg [(.int .i64 x70), (.int .i64 x71)])]) fun b72 =>
   cnd b72
   (E27_0 d a4 v0 x15 0 h68)
   (L27_0 d a4 v0 x15 n (IntKind.wrap .i64 (x22 + 1)) h68)))
   (X27_0_0 d a4 v0 x15 H)
theorem it27_0 (d : Nat) (a0 a1 a2 a3 : Int) (a4 : List AV) (v0 : AV) (x5 x6 x7 x8 : Int) (b9 b12 : Bool) (x15 : Int)   : ∀ (n : Nat) (x19 : Int) (v20 v21 : AV) (x22 : Int) (v23 v24 v25 v26 v27 v28 v29 v30 v31 v32 v33 v34 v35 v36 v37 v38 : AV) (H : Heap), C0.iter (r27R0 C0 d a0 a1 a2 a3 a4 v0 x5 x6 x7 x8 b9 b12 x15) n ⟨[(.agg [(.int .i64 a0), (.int .i64 a1), (.int .i64 a2), (.int .i64 a3)]), (.lst a4), v0, (.tup []), (.int .i64 x19), v20, v21, (.agg [(.int .i64 x5), (.int .i64 x6), (.int .i64 x7), (.int .i64 x8)]), (.bool b9), (.bool (!b9)), (.bool false), (.lst a4), (.bool b12), (.bool (!b12)), (.bool false), (.lst a4), (.int .i64 x15), (.int .i64 x22), v23, v24, v25, v26, v27, v28, v29, v30, v31, v32, v33, v34, v35, v36, v37, v38, (.tup []), (.tup []), (.tup []), (.tup [])], H⟩ [0] [r27X0_0 C0 d a0 a1 a2 a3 a4 v0 x5 x6 x7 x8 b9 b12 x15] (r27E0 C0 d a0 a1 a2 a3 a4 v0 x5 x6 x7 x8 b9 b12 x15) = L27_0 d a4 v0 x15 n x22 H := by
  generalize hR : r27R0 C0 d a0 a1 a2 a3 a4 v0 x5 x6 x7 x8 b9 b12 x15 = R
  intro n
  induction n with
  | zero => intros; rfl
  | succ n ih =>
    intro x19 v20 v21 x22 v23 v24 v25 v26 v27 v28 v29 v30 v31 v32 v33 v34 v35 v36 v37 v38 H
    simp only [it_ret] at ih
    rw [it_ret, xiter_s]
    refine Eq.trans (congrFun (congrFun hR.symm _) _) ?_
    unfold r27R0
    refine Eq.trans (pl_len (by rfl)) ?_; (iterate 4 (refine Eq.trans (pl_same (by rfl)) ?_)); refine Eq.trans (pl_int (by rfl)) ?_; (iterate 2 (refine Eq.trans (pl_any (by rfl)) ?_)); (iterate 10 (refine Eq.trans (pl_same (by rfl)) ?_)); refine Eq.trans (pl_int (by rfl)) ?_; (iterate 16 (refine Eq.trans (pl_any (by rfl)) ?_)); (iterate 4 (refine Eq.trans (pl_same (by rfl)) ?_))
    simp only [L27_0, kIter_n, kIter_x, kIter_r, kOut_x, kOut_r, xgo_hit, xgo_miss, ih, X27_0_0_ok d a0 a1 a2 a3 a4 v0 x5 x6 x7 x8 b9 b12 x15  , E27_0_ok d a0 a1 a2 a3 a4 v0 x5 x6 x7 x8 b9 b12 x15  ]
/-- apogee/box.Relate -/
theorem q27 (d : Nat) (a0 a1 a2 a3 : Int) (a4 : List AV) : xcall C0 M unr d 27 [(.agg [(.int .i64 a0), (.int .i64 a1), (.int .i64 a2), (.int .i64 a3)]), (.lst a4)] =
  C0.hop [] (.box E25 (.v (.agg [(.int .i64 a0), (.int .i64 a1), (.int .i64 a2), (.int .i64 a3)]))) fun v0 h1 =>
  C0.hop h1 (.load true 4 (.v v0)) fun v2 h3 =>
  C0.agg 4 (some v2) fun l4 =>
  C0.int .i64 l4[0]? fun x5 =>
  C0.int .i64 l4[1]? fun x6 =>
  C0.int .i64 l4[2]? fun x7 =>
  C0.int .i64 l4[3]? fun x8 =>
  C0.bool (pcall M d 12 [(.agg [(.int .i64 x5), (.int .i64 x6), (.int .i64 x7), (.int .i64 x8)])]) fun b9 =>
  cnd (!b9)
   (C0.fin h3 (.int .i64 (-1)))
   (C0.snp h3 [(.lst a4)] fun l10 b11 =>
   C0.bool (pcall M d 43 l10) fun b12 =>
   cnd (b11 || true)
   (cnd (!b12)
   (C0.fin h3 (.int .i64 (-1)))
   (C0.hop h3 (.bk .lenV [(.v (.lst a4))]) fun v13 h14 =>
   C0.int .i64 (some v13) fun x15 =>
   L27_0 d a4 v0 x15 1000000000000000000 0 h14))
   (none)) := (r27 C0 d a0 a1 a2 a3 a4).trans (by simp only [it27_0])
noncomputable def X53f41_0_0 (d : Nat) (a0 : List AV) (a2 a3 a4 a5 a6 : Int)  : Ans :=
  some (.int .i64 (-1))
theorem X53f41_0_0_ok (d : Nat) (a0 : List AV) (a2 a3 a4 a5 a6 x21 : Int) (v22 : AV) (x23 : Int) (v24 v25 v26 v27 v28 v29 v30 v31 v32 v33 : AV) : r53f41X0_0 C0 d a0 a2 a3 a4 a5 a6 ⟨[(.lst a0), (.fn 41 [] [(.fptr (.fn 38 [] [(.fptr (.agg [(.int .i64 a2), (.int .i64 a3)]) 0), (.fptr (.agg [(.int .i64 a4), (.int .i64 a5)]) 0)]) 0), (.fptr (.int .i64 a6) 0)]), (.tup []), (.tup []), (.int .i64 x21), v22, (.lst a0), (.int .i64 (((List.length a0) : Nat) : Int)), (.int .i64 x23), v24, v25, v26, v27, v28, v29, v30, v31, v32, v33], []⟩ = X53f41_0_0 d a0 a2 a3 a4 a5 a6  := by
  unfold r53f41X0_0; refine Eq.trans (pl_len (by rfl)) ?_; (iterate 4 (refine Eq.trans (pl_same (by rfl)) ?_)); refine Eq.trans (pl_int (by rfl)) ?_; refine Eq.trans (pl_any (by rfl)) ?_; (iterate 2 (refine Eq.trans (pl_same (by rfl)) ?_)); refine Eq.trans (pl_int (by rfl)) ?_; (iterate 10 (refine Eq.trans (pl_any (by rfl)) ?_)); refine Eq.trans (pl_sameH) ?_
  rfl
noncomputable def E53f41_0 (d : Nat) (a0 : List AV) (a2 a3 a4 a5 a6 x34 : Int) : Ans :=
  some (.int .i64 x34)
theorem E53f41_0_ok (d : Nat) (a0 : List AV) (a2 a3 a4 a5 a6 x34 x35 x36 : Int) (v37 : AV) (x38 : Int) (v39 v40 : AV) (x41 : Int) (v42 : AV) (x44 x45 : Int) (b46 : Bool) (x47 : Int) (v48 : AV) : r53f41E0 C0 d a0 a2 a3 a4 a5 a6 ⟨[(.lst a0), (.fn 41 [] [(.fptr (.fn 38 [] [(.fptr (.agg [(.int .i64 a2), (.int .i64 a3)]) 0), (.fptr (.agg [(.int .i64 a4), (.int .i64 a5)]) 0)]) 0), (.fptr (.int .i64 a6) 0)]), (.tup []), (.tup []), (.int .i64 x34), (.int .i64 x35), (.lst a0), (.int .i64 (((List.length a0) : Nat) : Int)), (.int .i64 x36), v37, (.int .i64 x38), v39, v40, (.int .i64 x41), v42, (.agg [(.int .i64 x44), (.int .i64 x45)]), (.bool b46), (.int .i64 x47), v48], []⟩ = E53f41_0 d a0 a2 a3 a4 a5 a6 x34 := by
  unfold r53f41E0; refine Eq.trans (pl_len (by rfl)) ?_; (iterate 4 (refine Eq.trans (pl_same (by rfl)) ?_)); (iterate 2 (refine Eq.trans (pl_int (by rfl)) ?_)); (iterate 2 (refine Eq.trans (pl_same (by rfl)) ?_)); refine Eq.trans (pl_int (by rfl)) ?_; refine Eq.trans (pl_any (by rfl)) ?_; refine Eq.trans (pl_int (by rfl)) ?_; (iterate 2 (refine Eq.trans (pl_any (by rfl)) ?_)); refine Eq.trans (pl_int (by rfl)) ?_; refine Eq.trans (pl_any (by rfl)) ?_; refine Eq.trans (pl_agg (by rfl) (by rfl)) ?_; (iterate 2 (refine Eq.trans (pl_int (by rfl)) ?_)); refine Eq.trans (pl_bool (by rfl)) ?_; refine Eq.trans (pl_int (by rfl)) ?_; refine Eq.trans (pl_any (by rfl)) ?_; refine Eq.trans (pl_sameH) ?_
  rfl
noncomputable def L53f41_0 (d : Nat) (a0 : List AV) (a2 a3 a4 a5 a6 : Int) : Nat → Int → Ans
  | 0, _ => none
  | n + 1, x5 =>
  cnd (decide (x5 < (((List.length a0) : Nat) : Int)))
   (cnd (decide (0 ≤ x5))
   (C0.agg 2 a0[(Int.toNat x5)]? fun l16 =>
   C0.int .i64 l16[0]? fun x17 =>
   C0.int .i64 l16[1]? fun x18 =>
   C0.bool (pcall M d 41 [(.agg [(.int .i64 x17), (.int .i64 x18)]), (.fptr (.fn 38 [] [(.fptr (.agg [(.int .i64 a2), (.int .i64 a3)]) 0), (.fptr (.agg [(.int .i64 a4), (.int .i64 a5)]) 0)]) 0), (.fptr (.int .i64 a6) 0)]) fun b19 =>
   cnd b19
   (E53f41_0 d a0 a2 a3 a4 a5 a6 x5)
   (L53f41_0 d a0 a2 a3 a4 a5 a6 n (IntKind.wrap .i64 (x5 + 1))))
   (none))
   (X53f41_0_0 d a0 a2 a3 a4 a5 a6)
theorem it53f41_0 (d : Nat) (a0 : List AV) (a2 a3 a4 a5 a6 : Int)   : ∀ (n : Nat) (x3 : Int) (v4 : AV) (x5 : Int) (v6 v7 v8 v9 v10 v11 v12 v13 v14 v15 : AV), C0.iter (r53f41R0 C0 d a0 a2 a3 a4 a5 a6) n ⟨[(.lst a0), (.fn 41 [] [(.fptr (.fn 38 [] [(.fptr (.agg [(.int .i64 a2), (.int .i64 a3)]) 0), (.fptr (.agg [(.int .i64 a4), (.int .i64 a5)]) 0)]) 0), (.fptr (.int .i64 a6) 0)]), (.tup []), (.tup []), (.int .i64 x3), v4, (.lst a0), (.int .i64 (((List.length a0) : Nat) : Int)), (.int .i64 x5), v6, v7, v8, v9, v10, v11, v12, v13, v14, v15], []⟩ [0] [r53f41X0_0 C0 d a0 a2 a3 a4 a5 a6] (r53f41E0 C0 d a0 a2 a3 a4 a5 a6) = L53f41_0 d a0 a2 a3 a4 a5 a6 n x5 := by
  generalize hR : r53f41R0 C0 d a0 a2 a3 a4 a5 a6 = R
  intro n
  induction n with
  | zero => intros; rfl
  | succ n ih =>
    intro x3 v4 x5 v6 v7 v8 v9 v10 v11 v12 v13 v14 v15
    simp only [it_ret] at ih
    rw [it_ret, xiter_s]
    refine Eq.trans (congrFun (congrFun hR.symm _) _) ?_
    unfold r53f41R0
    refine Eq.trans (pl_len (by rfl)) ?_; (iterate 4 (refine Eq.trans (pl_same (by rfl)) ?_)); refine Eq.trans (pl_int (by rfl)) ?_; refine Eq.trans (pl_any (by rfl)) ?_; (iterate 2 (refine Eq.trans (pl_same (by rfl)) ?_)); refine Eq.trans (pl_int (by rfl)) ?_; (iterate 10 (refine Eq.trans (pl_any (by rfl)) ?_)); refine Eq.trans (pl_sameH) ?_
    simp only [L53f41_0, kIter_n, kIter_x, kIter_r, kOut_x, kOut_r, xgo_hit, xgo_miss, ih, X53f41_0_0_ok d a0 a2 a3 a4 a5 a6  , E53f41_0_ok d a0 a2 a3 a4 a5 a6  ]
/-- slices.IndexFunc[[]apogee/api.Point,apogee/api.Point] -/
theorem q53f41 (d : Nat) (a0 : List AV) (a1 : AV) (a2 a3 a4 a5 a6 : Int) : xcall C0 M unr d 53 [(.lst a0), (.fn 41 [] [(.fptr (.fn 38 [] [(.fptr (.agg [(.int .i64 a2), (.int .i64 a3)]) 0), (.fptr (.agg [(.int .i64 a4), (.int .i64 a5)]) 0)]) 0), (.fptr (.int .i64 a6) 0)])] =
  L53f41_0 d a0 a2 a3 a4 a5 a6 1000000000000000000 0 := (r53f41 C0 d a0 a1 a2 a3 a4 a5 a6).trans (by simp only [it53f41_0])
end Go.Proofs.Ytjblhppbjebagaa.AE

namespace Go.Proofs.Ytjblhppbjebagaa.Geo
/-- On the line, and between in width where that isn't one width: on the way. -/
theorem On_of_width {p a b : Pt} (h : TN a b p = 0) (h1 : a.1 ≤ p.1) (h2 : p.1 ≤ b.1) (h3 : a.1 < b.1) : On p a b := by
  have e : TN (a.2, a.1) (b.2, b.1) (p.2, p.1) = 0 := by
    have : TN (a.2, a.1) (b.2, b.1) (p.2, p.1) = -TN a b p := by unfold TN; grind
    omega
  have k := (On_of_height (p := (p.2, p.1)) (a := (a.2, a.1)) (b := (b.2, b.1)) e h1 h2 h3).2
  refine ⟨h, ?_⟩
  unfold Btw at k ⊢
  exact ⟨k.2, k.1⟩
def HasB (x0 y0 x1 y1 : Int) (p : Pt) : Prop := x0 ≤ p.1 ∧ p.1 ≤ x1 ∧ y0 ≤ p.2 ∧ p.2 ≤ y1
instance (x0 y0 x1 y1 : Int) (p : Pt) : Decidable (HasB x0 y0 x1 y1 p) := by unfold HasB; infer_instance
/-- By the sides. -/
def MeetB (x0 y0 x1 y1 : Int) (p q : Pt) : Prop := HasB x0 y0 x1 y1 p ∨ HasB x0 y0 x1 y1 q ∨ Meet p q (x0, y0) (x1, y0) ∨ Meet p q (x1, y0) (x1, y1) ∨ Meet p q (x1, y1) (x0, y1) ∨ Meet p q (x0, y1) (x0, y0)
/-- Both shadows overlap. -/
def Ovl (x0 y0 x1 y1 : Int) (p q : Pt) : Prop := (x0 ≤ p.1 ∨ x0 ≤ q.1) ∧ (p.1 ≤ x1 ∨ q.1 ≤ x1) ∧ (y0 ≤ p.2 ∨ y0 ≤ q.2) ∧ (p.2 ≤ y1 ∨ q.2 ≤ y1)
/-- All corners to one side. -/
def Side1 (x0 y0 x1 y1 : Int) (p q : Pt) : Prop := (TN p q (x0, y0) > 0 ∧ TN p q (x1, y0) > 0 ∧ TN p q (x1, y1) > 0 ∧ TN p q (x0, y1) > 0) ∨ (TN p q (x0, y0) < 0 ∧ TN p q (x1, y0) < 0 ∧ TN p q (x1, y1) < 0 ∧ TN p q (x0, y1) < 0)
/-- What holds at all corners holds in the box. -/
theorem corner_pos {x0 y0 x1 y1 : Int} {p q v : Pt} (hv : HasB x0 y0 x1 y1 v) (h : TN p q (x0, y0) > 0 ∧ TN p q (x1, y0) > 0 ∧ TN p q (x1, y1) > 0 ∧ TN p q (x0, y1) > 0) : TN p q v > 0 := by
  obtain ⟨v1, v2, v3, v4⟩ := hv
  obtain ⟨h1, h2, h3, h4⟩ := h
  have e : ∀ c : Pt, TN p q v = TN p q c + (q.1 - p.1) * (v.2 - c.2) - (q.2 - p.2) * (v.1 - c.1) := by intro c; unfold TN; grind
  rcases Int.le_total p.1 q.1 with a | a <;> rcases Int.le_total p.2 q.2 with b | b
  · have := e (x1, y0)
    have m1 := Int.mul_nonneg (show 0 ≤ q.1 - p.1 by omega) (show 0 ≤ v.2 - y0 by omega)
    have m2 := mul_pn (show 0 ≤ q.2 - p.2 by omega) (show v.1 - x1 ≤ 0 by omega)
    simp only at this; omega
  · have := e (x0, y0)
    have m1 := Int.mul_nonneg (show 0 ≤ q.1 - p.1 by omega) (show 0 ≤ v.2 - y0 by omega)
    have m2 := mul_np (show q.2 - p.2 ≤ 0 by omega) (show 0 ≤ v.1 - x0 by omega)
    simp only at this; omega
  · have := e (x1, y1)
    have m1 := mul_nn (show q.1 - p.1 ≤ 0 by omega) (show v.2 - y1 ≤ 0 by omega)
    have m2 := mul_pn (show 0 ≤ q.2 - p.2 by omega) (show v.1 - x1 ≤ 0 by omega)
    simp only at this; omega
  · have := e (x0, y1)
    have m1 := mul_nn (show q.1 - p.1 ≤ 0 by omega) (show v.2 - y1 ≤ 0 by omega)
    have m2 := mul_np (show q.2 - p.2 ≤ 0 by omega) (show 0 ≤ v.1 - x0 by omega)
    simp only at this; omega
theorem corner_none {x0 y0 x1 y1 : Int} {p q v : Pt} (hv : HasB x0 y0 x1 y1 v) (h0 : TN p q v = 0) : ¬ Side1 x0 y0 x1 y1 p q := by
  rintro (h | h)
  · have := corner_pos hv h; omega
  · obtain ⟨h1, h2, h3, h4⟩ := h
    have := corner_pos (p := q) (q := p) hv ⟨by rw [TN_swap]; omega, by rw [TN_swap]; omega, by rw [TN_swap]; omega, by rw [TN_swap]; omega⟩
    rw [TN_swap] at this; omega
/-- Ways that cross overlap in width. -/
theorem Cross_width {p q c d : Pt} (h : Cross p q c d) : ¬ (p.1 < c.1 ∧ p.1 < d.1 ∧ q.1 < c.1 ∧ q.1 < d.1) := by
  rintro ⟨a1, a2, a3, a4⟩
  obtain ⟨h1, h2⟩ := h
  rw [sg_mul_neg] at h1 h2
  have i1 : (q.1 - p.1) * TN c d p = TN p q d * (c.1 - p.1) - TN p q c * (d.1 - p.1) := by unfold TN; grind
  have i2 : (q.1 - p.1) * TN c d q = TN p q d * (c.1 - q.1) - TN p q c * (d.1 - q.1) := by unfold TN; grind
  rcases h1 with ⟨x, y⟩ | ⟨x, y⟩
  · have m1 := mul_np_neg x (show 0 < d.1 - p.1 by omega)
    have m2 := Int.mul_pos y (show 0 < c.1 - p.1 by omega)
    have m3 := mul_np_neg x (show 0 < d.1 - q.1 by omega)
    have m4 := Int.mul_pos y (show 0 < c.1 - q.1 by omega)
    have n1 : 0 < (q.1 - p.1) * TN c d p := by omega
    have n2 : 0 < (q.1 - p.1) * TN c d q := by omega
    rcases h2 with ⟨u, w⟩ | ⟨u, w⟩
    · rcases Int.le_total p.1 q.1 with g | g
      · have := mul_pn (show 0 ≤ q.1 - p.1 by omega) (show TN c d p ≤ 0 by omega); omega
      · have := mul_np (show q.1 - p.1 ≤ 0 by omega) (show 0 ≤ TN c d q by omega); omega
    · rcases Int.le_total p.1 q.1 with g | g
      · have := mul_pn (show 0 ≤ q.1 - p.1 by omega) (show TN c d q ≤ 0 by omega); omega
      · have := mul_np (show q.1 - p.1 ≤ 0 by omega) (show 0 ≤ TN c d p by omega); omega
  · have m1 := Int.mul_pos x (show 0 < d.1 - p.1 by omega)
    have m2 := mul_np_neg y (show 0 < c.1 - p.1 by omega)
    have m3 := Int.mul_pos x (show 0 < d.1 - q.1 by omega)
    have m4 := mul_np_neg y (show 0 < c.1 - q.1 by omega)
    have n1 : (q.1 - p.1) * TN c d p < 0 := by omega
    have n2 : (q.1 - p.1) * TN c d q < 0 := by omega
    rcases h2 with ⟨u, w⟩ | ⟨u, w⟩
    · rcases Int.le_total p.1 q.1 with g | g
      · have := Int.mul_nonneg (show 0 ≤ q.1 - p.1 by omega) (show 0 ≤ TN c d q by omega); omega
      · have := mul_nn (show q.1 - p.1 ≤ 0 by omega) (show TN c d p ≤ 0 by omega); omega
    · rcases Int.le_total p.1 q.1 with g | g
      · have := Int.mul_nonneg (show 0 ≤ q.1 - p.1 by omega) (show 0 ≤ TN c d p by omega); omega
      · have := mul_nn (show q.1 - p.1 ≤ 0 by omega) (show TN c d q ≤ 0 by omega); omega
theorem Cross_flip {p q c d : Pt} : Cross (p.2, p.1) (q.2, q.1) (c.2, c.1) (d.2, d.1) ↔ Cross p q c d := by
  have e : ∀ a b c : Pt, TN (a.2, a.1) (b.2, b.1) (c.2, c.1) = -TN a b c := by intro a b c; unfold TN; grind
  unfold Cross; rw [e, e, e, e]; simp only [sg_neg, Int.neg_mul_neg]
theorem Cross_neg {p q c d : Pt} : Cross (-p.1, -p.2) (-q.1, -q.2) (-c.1, -c.2) (-d.1, -d.2) ↔ Cross p q c d := by
  have e : ∀ a b c : Pt, TN (-a.1, -a.2) (-b.1, -b.2) (-c.1, -c.2) = TN a b c := by intro a b c; unfold TN; grind
  unfold Cross; rw [e, e, e, e]
/-- Ways that cross overlap. -/
theorem Cross_ovl {p q c d : Pt} (h : Cross p q c d) : ¬ (p.1 < c.1 ∧ p.1 < d.1 ∧ q.1 < c.1 ∧ q.1 < d.1) ∧ ¬ (c.1 < p.1 ∧ d.1 < p.1 ∧ c.1 < q.1 ∧ d.1 < q.1) ∧
    ¬ (p.2 < c.2 ∧ p.2 < d.2 ∧ q.2 < c.2 ∧ q.2 < d.2) ∧ ¬ (c.2 < p.2 ∧ d.2 < p.2 ∧ c.2 < q.2 ∧ d.2 < q.2) := by
  have f := Cross_flip.2 h
  have n := Cross_neg.2 h
  have fn := Cross_neg.2 f
  refine ⟨Cross_width h, ?_, Cross_width f, ?_⟩
  · have := Cross_width n; simp only at this; omega
  · have := Cross_width fn; simp only at this; omega
/-- A side that is met: it isn't all to one side, and shadows overlap. -/
theorem side_met {x0 y0 x1 y1 : Int} {p q c d : Pt} (hc : HasB x0 y0 x1 y1 c) (hd : HasB x0 y0 x1 y1 d) (hseg : ∀ v, Btw v c d → HasB x0 y0 x1 y1 v) (h : Meet p q c d) : Ovl x0 y0 x1 y1 p q ∧ ¬ Side1 x0 y0 x1 y1 p q := by
  have has : ∀ v, (v = p ∨ v = q) → HasB x0 y0 x1 y1 v → Ovl x0 y0 x1 y1 p q ∧ ¬ Side1 x0 y0 x1 y1 p q := by
    intro v hv hb
    refine ⟨?_, corner_none hb ?_⟩
    · unfold HasB at hb; unfold Ovl; rcases hv with rfl | rfl <;> omega
    · rcases hv with rfl | rfl
      · exact TN_aba _ _
      · exact TN_abb _ _
  have hon : ∀ v, HasB x0 y0 x1 y1 v → On v p q → Ovl x0 y0 x1 y1 p q ∧ ¬ Side1 x0 y0 x1 y1 p q := by
    intro v hb ho
    refine ⟨?_, corner_none hb ho.1⟩
    have := ho.2; unfold HasB at hb; unfold Btw at this; unfold Ovl; omega
  rcases h with h | h | h | h | h
  · exact has p (Or.inl rfl) (hseg p h.2)
  · exact has q (Or.inr rfl) (hseg q h.2)
  · exact hon c hc h
  · exact hon d hd h
  · refine ⟨?_, ?_⟩
    · have := Cross_ovl h
      unfold HasB at hc hd; unfold Ovl; omega
    · have h1 := h.1
      rw [sg_mul_neg] at h1
      rintro (s | s)
      · have k1 := corner_pos hc s
        have k2 := corner_pos hd s; omega
      · have sw : TN q p (x0, y0) > 0 ∧ TN q p (x1, y0) > 0 ∧ TN q p (x1, y1) > 0 ∧ TN q p (x0, y1) > 0 := ⟨by rw [TN_swap]; omega, by rw [TN_swap]; omega, by rw [TN_swap]; omega, by rw [TN_swap]; omega⟩
        have k1 := corner_pos hc sw
        have k2 := corner_pos hd sw
        rw [TN_swap] at k1 k2; omega
theorem MeetB_fwd {x0 y0 x1 y1 : Int} {p q : Pt} (hx : x0 ≤ x1) (hy : y0 ≤ y1) (h : MeetB x0 y0 x1 y1 p q) : Ovl x0 y0 x1 y1 p q ∧ ¬ Side1 x0 y0 x1 y1 p q := by
  have has : ∀ v, (v = p ∨ v = q) → HasB x0 y0 x1 y1 v → Ovl x0 y0 x1 y1 p q ∧ ¬ Side1 x0 y0 x1 y1 p q := by
    intro v hv hb
    refine ⟨?_, corner_none hb ?_⟩
    · unfold HasB at hb; unfold Ovl; rcases hv with rfl | rfl <;> omega
    · rcases hv with rfl | rfl
      · exact TN_aba _ _
      · exact TN_abb _ _
  rcases h with h | h | h | h | h | h
  · exact has p (Or.inl rfl) h
  · exact has q (Or.inr rfl) h
  all_goals
    refine side_met ?_ ?_ ?_ h
    · unfold HasB; simp only; omega
    · unfold HasB; simp only; omega
    · intro v hv; unfold Btw at hv; unfold HasB; (try simp only at hv); omega
/-- The way goes up and to the right, and doesn't begin in the box. -/
theorem MeetB_up {x0 y0 x1 y1 : Int} {p q : Pt} (hx : x0 ≤ x1) (hy : y0 ≤ y1) (dx : p.1 ≤ q.1) (dy : p.2 ≤ q.2) (ho : Ovl x0 y0 x1 y1 p q) (hs : ¬ Side1 x0 y0 x1 y1 p q) : MeetB x0 y0 x1 y1 p q := by
  by_cases hp : HasB x0 y0 x1 y1 p
  · exact Or.inl hp
  · have f : ∀ x y : Int, TN p q (x, y) = (q.1 - p.1) * (y - p.2) - (q.2 - p.2) * (x - p.1) := fun x y => rfl
    have mx_ := Int.mul_nonneg (show 0 ≤ q.2 - p.2 by omega) (show 0 ≤ x1 - x0 by omega)
    have my_ := Int.mul_nonneg (show 0 ≤ q.1 - p.1 by omega) (show 0 ≤ y1 - y0 by omega)
    have g1 : TN p q (x0, y1) = TN p q (x0, y0) + (q.1 - p.1) * (y1 - y0) := by unfold TN; grind
    have g2 : TN p q (x1, y0) = TN p q (x0, y0) - (q.2 - p.2) * (x1 - x0) := by unfold TN; grind
    have g3 : TN p q (x1, y1) = TN p q (x0, y0) + (q.1 - p.1) * (y1 - y0) - (q.2 - p.2) * (x1 - x0) := by unfold TN; grind
    have tl : TN p q (x0, y1) ≥ 0 := by
      refine Int.not_lt.1 fun c => hs (Or.inr ⟨by omega, by omega, by omega, c⟩)
    have br : TN p q (x1, y0) ≤ 0 := by
      refine Int.not_lt.1 fun c => hs (Or.inl ⟨by omega, c, by omega, by omega⟩)
    unfold Ovl at ho
    unfold HasB at hp
    -- the bottom side
    have bottom : p.2 < y0 → TN p q (x0, y0) ≥ 0 → Meet p q (x0, y0) (x1, y0) := by
      intro hp2 hbl
      by_cases z0 : TN p q (x0, y0) = 0
      · exact Or.inr (Or.inr (Or.inl (On_of_height z0 (by simp only; omega) (by simp only; omega) (by omega))))
      · by_cases z1 : TN p q (x1, y0) = 0
        · exact Or.inr (Or.inr (Or.inr (Or.inl (On_of_height z1 (by simp only; omega) (by simp only; omega) (by omega)))))
        · have hx' : x0 < x1 := by
            refine Int.not_le.1 fun c => ?_
            have z : x1 - x0 = 0 := by omega
            rw [z, Int.mul_zero] at g2; omega
          have t : ∀ v : Pt, TN (x0, y0) (x1, y0) v = (x1 - x0) * (v.2 - y0) := by intro v; unfold TN; grind
          have tp := mul_pn_neg (show 0 < x1 - x0 by omega) (show p.2 - y0 < 0 by omega)
          by_cases e : q.2 = y0
          · refine Or.inr (Or.inl ⟨by rw [t, e, Int.sub_self, Int.mul_zero], ?_⟩)
            -- q is on the side
            have fb : TN p q (x0, y0) = (q.2 - p.2) * (q.1 - x0) := by unfold TN; rw [← e]; grind
            have fr : TN p q (x1, y0) = (q.2 - p.2) * (q.1 - x1) := by unfold TN; rw [← e]; grind
            have u1 : x0 ≤ q.1 := by
              refine Int.not_lt.1 fun c => ?_
              have := mul_pn (show 0 ≤ q.2 - p.2 by omega) (show q.1 - x0 ≤ 0 by omega); omega
            have u2 : q.1 ≤ x1 := by
              refine Int.not_lt.1 fun c => ?_
              have := Int.mul_nonneg (show 0 ≤ q.2 - p.2 by omega) (show 0 ≤ q.1 - x1 by omega); omega
            unfold Btw; simp only; omega
          · have tq := Int.mul_pos (show 0 < x1 - x0 by omega) (show 0 < q.2 - y0 by omega)
            exact Or.inr (Or.inr (Or.inr (Or.inr ⟨sg_mul_neg.2 (Or.inr ⟨by omega, by omega⟩), sg_mul_neg.2 (Or.inl ⟨by rw [t]; exact tp, by rw [t]; exact tq⟩)⟩)))
    by_cases hp1 : p.1 < x0
    · by_cases hbl : TN p q (x0, y0) > 0
      · -- the line is below the box's lower left corner
        have hp2 : p.2 < y0 := by
          refine Int.not_le.1 fun c => ?_
          have m1 := mul_pn (show 0 ≤ q.1 - p.1 by omega) (show y0 - p.2 ≤ 0 by omega)
          have m2 := Int.mul_nonneg (show 0 ≤ q.2 - p.2 by omega) (show 0 ≤ x0 - p.1 by omega)
          rw [f] at hbl; omega
        exact Or.inr (Or.inr (Or.inl (bottom hp2 (by omega))))
      · -- the left side
        refine Or.inr (Or.inr (Or.inr (Or.inr (Or.inr ?_))))
        by_cases z0 : TN p q (x0, y0) = 0
        · exact Or.inr (Or.inr (Or.inr (Or.inl (On_of_width z0 (by simp only; omega) (by simp only; omega) (by omega)))))
        · by_cases z1 : TN p q (x0, y1) = 0
          · exact Or.inr (Or.inr (Or.inl (On_of_width z1 (by simp only; omega) (by simp only; omega) (by omega))))
          · have hy' : y0 < y1 := by
              refine Int.not_le.1 fun c => ?_
              have z : y1 - y0 = 0 := by omega
              rw [z, Int.mul_zero] at g1; omega
            have t : ∀ v : Pt, TN (x0, y1) (x0, y0) v = (y1 - y0) * (v.1 - x0) := by intro v; unfold TN; grind
            have tp := mul_pn_neg (show 0 < y1 - y0 by omega) (show p.1 - x0 < 0 by omega)
            by_cases e : q.1 = x0
            · refine Or.inr (Or.inl ⟨by rw [t, e, Int.sub_self, Int.mul_zero], ?_⟩)
              have fb : TN p q (x0, y0) = (q.1 - p.1) * (y0 - q.2) := by unfold TN; rw [← e]; grind
              have fr : TN p q (x0, y1) = (q.1 - p.1) * (y1 - q.2) := by unfold TN; rw [← e]; grind
              have u1 : y0 ≤ q.2 := by
                refine Int.not_lt.1 fun c => ?_
                have := Int.mul_nonneg (show 0 ≤ q.1 - p.1 by omega) (show 0 ≤ y0 - q.2 by omega); omega
              have u2 : q.2 ≤ y1 := by
                refine Int.not_lt.1 fun c => ?_
                have := mul_pn (show 0 ≤ q.1 - p.1 by omega) (show y1 - q.2 ≤ 0 by omega); omega
              unfold Btw; simp only; omega
            · have tq := Int.mul_pos (show 0 < y1 - y0 by omega) (show 0 < q.1 - x0 by omega)
              exact Or.inr (Or.inr (Or.inr (Or.inr ⟨sg_mul_neg.2 (Or.inr ⟨by omega, by omega⟩), sg_mul_neg.2 (Or.inl ⟨by rw [t]; exact tp, by rw [t]; exact tq⟩)⟩)))
    · have hp2 : p.2 < y0 := by omega
      refine Or.inr (Or.inr (Or.inl (bottom hp2 ?_)))
      have m1 := Int.mul_nonneg (show 0 ≤ q.1 - p.1 by omega) (show 0 ≤ y0 - p.2 by omega)
      have m2 := mul_pn (show 0 ≤ q.2 - p.2 by omega) (show x0 - p.1 ≤ 0 by omega)
      rw [f]; omega
/-- Mirrored in height. -/
def ud (p : Pt) : Pt := (p.1, -p.2)
theorem TN_ud (a b c : Pt) : TN (ud a) (ud b) (ud c) = -TN a b c := by unfold TN ud; grind
theorem On_ud (p a b : Pt) : On (ud p) (ud a) (ud b) ↔ On p a b := by unfold On; rw [TN_ud]; unfold Btw ud; omega
theorem Meet_ud (a b c d : Pt) : Meet (ud a) (ud b) (ud c) (ud d) ↔ Meet a b c d := by
  unfold Meet Cross; simp only [On_ud, TN_ud, sg_neg, Int.neg_mul_neg]
theorem MeetB_ud {x0 y0 x1 y1 : Int} {p q : Pt} (h : MeetB x0 (-y1) x1 (-y0) (ud p) (ud q)) : MeetB x0 y0 x1 y1 p q := by
  have hb : ∀ v, HasB x0 (-y1) x1 (-y0) (ud v) ↔ HasB x0 y0 x1 y1 v := by intro v; unfold HasB ud; omega
  unfold MeetB at h
  rw [hb, hb, show (x0, -y1) = ud (x0, y1) from rfl, show (x1, -y1) = ud (x1, y1) from rfl, show (x1, -y0) = ud (x1, y0) from rfl, show (x0, -y0) = ud (x0, y0) from rfl, Meet_ud, Meet_ud, Meet_ud, Meet_ud] at h
  rcases h with h | h | h | h | h | h
  · exact Or.inl h
  · exact Or.inr (Or.inl h)
  · exact Or.inr (Or.inr (Or.inr (Or.inr (Or.inl (Meet_cd.1 h)))))
  · exact Or.inr (Or.inr (Or.inr (Or.inl (Meet_cd.1 h))))
  · exact Or.inr (Or.inr (Or.inl (Meet_cd.1 h)))
  · exact Or.inr (Or.inr (Or.inr (Or.inr (Or.inr (Meet_cd.1 h)))))
theorem MeetB_swap {x0 y0 x1 y1 : Int} {p q : Pt} (h : MeetB x0 y0 x1 y1 q p) : MeetB x0 y0 x1 y1 p q := by
  unfold MeetB at h ⊢
  rw [Meet_ab (a := p) (b := q), Meet_ab (a := p) (b := q), Meet_ab (a := p) (b := q), Meet_ab (a := p) (b := q)] at h
  rcases h with h | h | h | h | h | h <;> simp [h]
theorem MeetB_bwd {x0 y0 x1 y1 : Int} {p q : Pt} (hx : x0 ≤ x1) (hy : y0 ≤ y1) (ho : Ovl x0 y0 x1 y1 p q) (hs : ¬ Side1 x0 y0 x1 y1 p q) : MeetB x0 y0 x1 y1 p q := by
  have one : ∀ p q : Pt, p.1 ≤ q.1 → Ovl x0 y0 x1 y1 p q → ¬ Side1 x0 y0 x1 y1 p q → MeetB x0 y0 x1 y1 p q := by
    intro p q h ho hs
    rcases Int.le_total p.2 q.2 with g | g
    · exact MeetB_up hx hy h g ho hs
    · refine MeetB_ud (MeetB_up hx (by omega) h (by unfold ud; simp only; omega) ?_ ?_)
      · unfold Ovl ud at *; simp only; omega
      · intro s
        unfold Side1 at s hs
        rw [show (x0, -y1) = ud (x0, y1) from rfl, show (x1, -y1) = ud (x1, y1) from rfl, show (x1, -y0) = ud (x1, y0) from rfl, show (x0, -y0) = ud (x0, y0) from rfl, TN_ud, TN_ud, TN_ud, TN_ud] at s
        omega
  rcases Int.le_total p.1 q.1 with h | h
  · exact one p q h ho hs
  · refine MeetB_swap (one q p h ?_ ?_)
    · unfold Ovl at *; omega
    · intro s
      unfold Side1 at s hs
      rw [TN_swap p q, TN_swap p q, TN_swap p q, TN_swap p q] at s
      omega
/-- THE BOX IS MET, by its sides, just if shadows overlap and not all corners are to one side. -/
theorem MeetB_iff {x0 y0 x1 y1 : Int} {p q : Pt} (hx : x0 ≤ x1) (hy : y0 ≤ y1) : MeetB x0 y0 x1 y1 p q ↔ Ovl x0 y0 x1 y1 p q ∧ ¬ Side1 x0 y0 x1 y1 p q :=
  ⟨MeetB_fwd hx hy, fun h => MeetB_bwd hx hy h.1 h.2⟩
end Go.Proofs.Ytjblhppbjebagaa.Geo

namespace Go.Proofs.Ytjblhppbjebagaa.AE
set_option linter.unusedVariables false
set_option linter.unusedSimpArgs false
set_option linter.constructorNameAsVariable false
open Go Go.Proofs.Ytjblhppbjebagaa.Geo
def rightX (b : Bx) : Bool := okb b.1 && (okb b.2 && (decide (b.1.1 ≤ b.2.1) && decide (b.1.2 ≤ b.2.2)))
def hasX (b : Bx) (p : Pt) : Bool := rightX b && (okb p && (decide (b.1.1 ≤ p.1) && (decide (p.1 ≤ b.2.1) && (decide (b.1.2 ≤ p.2) && decide (p.2 ≤ b.2.2)))))
def inX (a b : Bx) : Bool := rightX a && (hasX b a.1 && hasX b a.2)
theorem rightX_t {b : Bx} : rightX b = true ↔ OkP b.1 ∧ OkP b.2 ∧ b.1.1 ≤ b.2.1 ∧ b.1.2 ≤ b.2.2 := by
  unfold rightX; simp only [Bool.and_eq_true, okb_t, decide_eq_true_iff]
theorem hasX_t {b : Bx} {p : Pt} : hasX b p = true ↔ rightX b = true ∧ OkP p ∧ HasB b.1.1 b.1.2 b.2.1 b.2.2 p := by
  unfold hasX HasB; simp only [Bool.and_eq_true, okb_t, decide_eq_true_iff]
theorem s12 (d : Nat) (b : Bx) : pcall M (d + 3) 12 [bx b] = some (.bool (rightX b)) := told (r12 C0 (d + 2) _ _ _ _) (by
  refine Eq.trans (pl_bool (s35 d b.1)) ?_
  unfold rightX
  change cnd (okb b.1) _ _ = _
  cases okb b.1
  · rfl
  · refine Eq.trans (pl_len (by rfl)) ?_
    refine Eq.trans (pl_bool (s35 d b.2)) ?_
    change cnd (okb b.2) _ _ = _
    cases okb b.2
    · rfl
    · refine Eq.trans (pl_len (by rfl)) ?_; cases decide (b.1.1 ≤ b.2.1) <;> rfl)
theorem s13 (d : Nat) (b : Bx) : pcall M (d + 2) 13 [bx b] = some (.bool (rightX b)) := told (r13 C0 (d + 1) _ _ _ _) (by
  refine Eq.trans (pl_bool (s26 d b.1)) ?_
  unfold rightX
  change cnd (okb b.1) _ _ = _
  cases okb b.1
  · rfl
  · refine Eq.trans (pl_len (by rfl)) ?_
    refine Eq.trans (pl_bool (s26 d b.2)) ?_
    change cnd (okb b.2) _ _ = _
    cases okb b.2
    · rfl
    · refine Eq.trans (pl_len (by rfl)) ?_; cases decide (b.1.1 ≤ b.2.1) <;> rfl)
theorem s15 (d : Nat) (b : Bx) (p : Pt) : pcall M (d + 4) 15 [bx b, pt p] = some (.bool (hasX b p)) := told (r15 C0 (d + 3) _ _ _ _ _ _) (by
  refine Eq.trans (pl_bool (s12 d b)) ?_
  unfold hasX
  cases rightX b
  · rfl
  · refine Eq.trans (pl_len (by rfl)) ?_
    refine Eq.trans (pl_bool (s35 (d + 1) p)) ?_
    change cnd (okb p) _ _ = _
    cases okb p
    · rfl
    · refine Eq.trans (pl_len (by rfl)) ?_; cases decide (b.1.1 ≤ p.1) <;> cases decide (p.1 ≤ b.2.1) <;> cases decide (b.1.2 ≤ p.2) <;> rfl)
theorem s16 (d : Nat) (b : Bx) (p : Pt) : pcall M (d + 3) 16 [bx b, pt p] = some (.bool (hasX b p)) := told (r16 C0 (d + 2) _ _ _ _ _ _) (by
  refine Eq.trans (pl_bool (s13 d b)) ?_
  unfold hasX
  cases rightX b
  · rfl
  · refine Eq.trans (pl_len (by rfl)) ?_
    refine Eq.trans (pl_bool (s26 (d + 1) p)) ?_
    change cnd (okb p) _ _ = _
    cases okb p
    · rfl
    · refine Eq.trans (pl_len (by rfl)) ?_
      change cnd (decide (b.1.1 ≤ p.1)) (cnd (decide (p.1 ≤ b.2.1)) (cnd (decide (b.1.2 ≤ p.2)) (some (.bool (decide (p.2 ≤ b.2.2)))) _) _) _ = _
      cases decide (b.1.1 ≤ p.1) <;> cases decide (p.1 ≤ b.2.1) <;> cases decide (b.1.2 ≤ p.2) <;> rfl)
theorem s17 (d : Nat) (a b : Bx) : pcall M (d + 5) 17 [bx a, bx b] = some (.bool (inX a b)) := told (r17 C0 (d + 4) _ _ _ _ _ _ _ _) (by
  refine Eq.trans (pl_bool (s12 (d + 1) a)) ?_
  unfold inX
  cases rightX a
  · rfl
  · refine Eq.trans (pl_len (by rfl)) ?_
    refine Eq.trans (pl_bool (s15 d b a.1)) ?_
    cases hasX b a.1
    · rfl
    · refine Eq.trans (pl_len (by rfl)) ?_
      exact pl_bool (s15 d b a.2))
def cornersX (b : Bx) : List Pt := [b.1, (b.2.1, b.1.2), b.2, (b.1.1, b.2.2)]
theorem s22 (d : Nat) (b : Bx) (h : rightX b = true) : pcall M (d + 4) 22 [bx b] = some (.lst ((cornersX b).map pt)) := told (r22 C0 (d + 3) _ _ _ _) (by
  refine Eq.trans (pl_bool (s12 d b)) ?_
  rw [h]; rfl)
instance (x0 y0 x1 y1 : Int) (p q : Pt) : Decidable (MeetB x0 y0 x1 y1 p q) := by unfold MeetB; infer_instance
def meetsX (b : Bx) (p q : Pt) : Bool := rightX b && (okb p && (okb q && decide (MeetB b.1.1 b.1.2 b.2.1 b.2.2 p q)))
abbrev capS (p q : Pt) : AV := .fn 38 [] [.fptr (pt p) 0, .fptr (pt q) 0]
theorem s38 (d : Nat) (c p q : Pt) : pcall M (d + 8) 38 [pt c, .fptr (pt p) 0, .fptr (pt q) 0] = some (.int .i64 (tn3 p q c)) := told (r38 C0 (d + 7) _ _ _ _ _ _) (by
  exact pl_int (s39 d p q c))
theorem s41 (d : Nat) (c p q : Pt) (f : Int) : pcall M (d + 9) 41 [pt c, .fptr (capS p q) 0, .fptr (.int .i64 f) 0] = some (.bool (tn3 p q c != f)) := told (r41 C0 (d + 8) _ _ _ _ _ _ _) (by
  exact pl_int (s38 d c p q))
theorem cidx (d : Nat) (p q : Pt) (g : Int) (ps : List Pt) (hl : ps.length ≤ 140737488355328) : ∀ (l2 : List Pt) (i f : Nat), ps.drop i = l2 → l2.length < f →
    L53f41_0 (d + 9) (ps.map pt) p.1 p.2 q.1 q.2 g f (i : Nat) = some (.int .i64 (fiG (fun c => tn3 p q c != g) l2 (i : Nat))) := by
  intro l2
  induction l2 with
  | nil =>
    intro i f hd hf
    obtain ⟨f, rfl⟩ : ∃ m, f = m + 1 := ⟨f - 1, by omega⟩
    have : ps.length ≤ i := List.drop_eq_nil_iff.mp hd
    rw [L53f41_0, decide_eq_false (by rw [pmap_len]; omega), cnd_f]; rfl
  | cons c l2 ih =>
    intro i f hd hf
    obtain ⟨f, rfl⟩ : ∃ m, f = m + 1 := ⟨f - 1, by simp at hf; omega⟩
    have hi : i < ps.length := by
      rcases Nat.lt_or_ge i ps.length with h | h
      · exact h
      · rw [List.drop_eq_nil_of_le h] at hd; cases hd
    have hp : ps[i] = c := by have := List.drop_eq_getElem_cons hi; rw [hd] at this; exact (List.cons.inj this).1.symm
    have hd2 : ps.drop (i + 1) = l2 := by have := List.drop_eq_getElem_cons hi; rw [hd] at this; exact (List.cons.inj this).2.symm
    rw [L53f41_0, decide_eq_true (by rw [pmap_len]; omega), cnd_t, decide_eq_true (by omega), cnd_t, pts_at hi, hp]
    refine Eq.trans (pl_agg (by rfl) (by rfl)) ?_; refine Eq.trans (pl_int (by rfl)) ?_; refine Eq.trans (pl_int (by rfl)) ?_
    refine Eq.trans (pl_bool (s41 d c p q g)) ?_
    simp only [fiG]
    cases (tn3 p q c != g)
    · refine Eq.trans (pl_f (by rfl)) ?_
      rw [show IntKind.wrap .i64 ((i : Int) + 1) = ((i + 1 : Nat) : Int) by rw [IntKind.wrap_i64]; omega]
      exact (ih (i + 1) f hd2 (by simp at hf; omega)).trans (by simp)
    · rfl
theorem cany (d : Nat) (p q : Pt) (g : Int) (ps : List Pt) (hl : ps.length ≤ 140737488355328) :
    pcall M (d + 11) 40 [.lst (ps.map pt), .fn 41 [] [.fptr (capS p q) 0, .fptr (.int .i64 g) 0]] = some (.bool (ps.any fun c => tn3 p q c != g)) := told (r40f41 C0 (d + 10) _ .nilp _ _ _ _ _) (by
  have h : pcall M (d + 10) 53 [.lst (ps.map pt), .fn 41 [] [.fptr (capS p q) 0, .fptr (.int .i64 g) 0]] = some (.int .i64 (fiG (fun c => tn3 p q c != g) ps 0)) :=
    told (q53f41 (d + 9) (ps.map pt) .nilp _ _ _ _ _) (cidx d p q g ps hl ps 0 _ rfl (by omega))
  refine Eq.trans (pl_int h) ?_
  rw [fiG_any _ ps 0 (by decide)])
theorem sg_ne {u v : Int} (hv : v ≠ 0) : (sg u != sg v) = !decide ((v > 0 ∧ u > 0) ∨ (v < 0 ∧ u < 0)) := by
  rcases sg_cases u with ⟨h, e⟩ | ⟨h, e⟩ | ⟨h, e⟩ <;> rcases sg_cases v with ⟨h', e'⟩ | ⟨h', e'⟩ | ⟨h', e'⟩ <;> rw [e, e']
  all_goals first | (exfalso; exact hv h') | skip
  all_goals first | (rw [decide_eq_true (by omega)]; rfl) | (rw [decide_eq_false (by omega)]; rfl)
theorem s24 (d : Nat) (b : Bx) (p q : Pt) : pcall M (d + 12) 24 [bx b, pt p, pt q] = some (.bool (meetsX b p q)) := told (r24 C0 (d + 11) _ _ _ _ _ _ _ _) (by
  refine Eq.trans (pl_bool (s12 (d + 8) b)) ?_
  unfold meetsX
  cases hr : rightX b
  · rfl
  · refine Eq.trans (pl_f (by rfl)) ?_
    refine Eq.trans (pl_bool (s35 (d + 9) p)) ?_
    change cnd (!okb p) _ _ = _
    cases hp : okb p
    · rfl
    · refine Eq.trans (pl_f (by rfl)) ?_
      refine Eq.trans (pl_bool (s35 (d + 9) q)) ?_
      change cnd (!okb q) _ _ = _
      cases hq : okb q
      · rfl
      · refine Eq.trans (pl_f (by rfl)) ?_
        obtain ⟨o1, o2, hx, hy⟩ := rightX_t.mp hr
        have op := okb_t.mp hp
        have oq := okb_t.mp hq
        have iff := MeetB_iff (p := p) (q := q) hx hy
        have noOvl : ¬ Ovl b.1.1 b.1.2 b.2.1 b.2.2 p q → decide (MeetB b.1.1 b.1.2 b.2.1 b.2.2 p q) = false := fun h => decide_eq_false fun g => h (iff.mp g).1
        have m1 : ∀ x y : Int, (if y > x then y else x) = max x y := fun x y => by omega
        have m2 : ∀ x y : Int, (if y < x then y else x) = min x y := fun x y => by omega
        rw [m1, m1, m2, m2]
        simp only [Bool.true_and]
        by_cases c1 : max p.1 q.1 < b.1.1
        · rw [decide_eq_true c1, cnd_t, noOvl (by unfold Ovl; omega)]
        · rw [decide_eq_false c1, cnd_f]
          by_cases c2 : min p.1 q.1 > b.2.1
          · rw [decide_eq_true c2, cnd_t, noOvl (by unfold Ovl; omega)]
          · rw [decide_eq_false c2, cnd_f]
            by_cases c3 : max p.2 q.2 < b.1.2
            · rw [decide_eq_true c3, cnd_t, noOvl (by unfold Ovl; omega)]
            · rw [decide_eq_false c3, cnd_f]
              by_cases c4 : min p.2 q.2 > b.2.2
              · rw [decide_eq_true c4, cnd_t, noOvl (by unfold Ovl; omega)]
              · rw [decide_eq_false c4, cnd_f]
                have ovl : Ovl b.1.1 b.1.2 b.2.1 b.2.2 p q := by unfold Ovl; omega
                refine Eq.trans (pl_int (s38 (d + 3) b.1 p q)) ?_
                have ok2 : OkP (b.2.1, b.1.2) := ⟨o2.1, o1.2⟩
                have ok4 : OkP (b.1.1, b.2.2) := ⟨o1.1, o2.2⟩
                rw [tn3_sg ⟨op, oq, o1⟩]
                by_cases z : TN p q b.1 = 0
                · rw [show (sg (TN p q b.1) == 0) = true by simp [sg_zero, z], cnd_t, decide_eq_true (iff.mpr ⟨ovl, fun h => by unfold Side1 at h; simp only [show ((b.1.1, b.1.2) : Pt) = b.1 from rfl, show ((b.2.1, b.2.2) : Pt) = b.2 from rfl] at h; omega⟩)]
                · rw [show (sg (TN p q b.1) == 0) = false by simp [sg_zero, z], cnd_f]
                  refine Eq.trans (pl_lst (s22 (d + 7) b hr)) ?_
                  refine Eq.trans (pl_bool (cany d p q (sg (TN p q b.1)) (cornersX b) (by simp [cornersX]))) ?_
                  congr 2
                  simp only [cornersX, List.any_cons, List.any_nil, Bool.or_false]
                  rw [tn3_sg ⟨op, oq, o1⟩, tn3_sg ⟨op, oq, ok2⟩, tn3_sg ⟨op, oq, o2⟩, tn3_sg ⟨op, oq, ok4⟩, sg_ne z, sg_ne z, sg_ne z, sg_ne z]
                  rw [Bool.eq_iff_iff]
                  simp only [Bool.or_eq_true, Bool.not_eq_true', decide_eq_false_iff_not, decide_eq_true_iff, iff]
                  unfold Side1
                  simp only [show ((b.1.1, b.1.2) : Pt) = b.1 from rfl, show ((b.2.1, b.2.2) : Pt) = b.2 from rfl]
                  constructor
                  · intro h; exact ⟨ovl, by omega⟩
                  · rintro ⟨_, h⟩; omega)
end Go.Proofs.Ytjblhppbjebagaa.AE

namespace Go.Proofs.Ytjblhppbjebagaa.AE
set_option linter.unusedVariables false
set_option linter.unusedSimpArgs false
set_option linter.constructorNameAsVariable false
open Go Go.Proofs.Ytjblhppbjebagaa.Geo
def upAny (f : Nat → Bool) : Nat → Nat → Bool
  | 0, _ => false
  | m + 1, i => f i || upAny f m (i + 1)
/-- Inside (1), outside (-1), or at an edge (0)? -/
def relX (b : Bx) (ps : List Pt) : Int := bif rightX b then bif rightB ps then bif upAny (fun i => meetsX b (vv ps i) (vv ps (nx ps i))) ps.length 0 then 0 else sideB ps b.1 else -1 else -1
theorem prel (d : Nat) (b : Bx) (ps : List Pt) (hl : ps.length ≤ 140737488355328) : ∀ (m i f : Nat) (H : Heap), i + m = ps.length → m < f → hget H 0 = some ⟨E25, [bx b]⟩ →
    L27_0 (d + 13) (ps.map pt) (.ptr 0 0 0) (ps.length : Nat) f (i : Nat) H = some (.int .i64 (bif upAny (fun i => meetsX b (vv ps i) (vv ps (nx ps i))) m i then 0 else sideB ps b.1)) := by
  intro m
  induction m with
  | zero =>
    intro i f H hi hf h0
    obtain ⟨f, rfl⟩ : ∃ g, f = g + 1 := ⟨f - 1, by omega⟩
    rw [L27_0, decide_eq_false (by omega), cnd_f, X27_0_0]
    refine Eq.trans sh_ptr ?_
    refine Eq.trans (ld_ptr h0 (by rfl) (by rfl)) ?_
    refine Eq.trans (pl_agg (by rfl) (by rfl)) ?_; refine Eq.trans (pl_int (by rfl)) ?_; refine Eq.trans (pl_int (by rfl)) ?_; refine Eq.trans (snp_free (by rfl)) ?_
    refine Eq.trans (pl_int (s31 d ps b.1 hl)) ?_
    refine Eq.trans (pl_len (by rfl)) ?_; rfl
  | succ m ih =>
    intro i f H hi hf h0
    obtain ⟨f, rfl⟩ : ∃ g, f = g + 1 := ⟨f - 1, by omega⟩
    have hil : i < ps.length := by omega
    have e := nx_int hil hl
    rw [L27_0, decide_eq_true (by omega), cnd_t]
    refine Eq.trans (ix_lst (by omega) (vv_at hil) (by rfl)) ?_
    refine Eq.trans (hop_eq (by rfl)) ?_; refine Eq.trans (pl_agg (by rfl) (by rfl)) ?_; refine Eq.trans (pl_int (by rfl)) ?_; refine Eq.trans (pl_int (by rfl)) ?_; refine Eq.trans al_n ?_; refine Eq.trans (st_s (by rfl) (by rfl) (by rfl)) ?_; refine Eq.trans (ld_ptr (hget_app h0) (by rfl) (by rfl)) ?_; refine Eq.trans (pl_agg (by rfl) (by rfl)) ?_; refine Eq.trans (pl_int (by rfl)) ?_; refine Eq.trans (pl_int (by rfl)) ?_; refine Eq.trans (pl_int (by rfl)) ?_; refine Eq.trans (pl_int (by rfl)) ?_; refine Eq.trans (ld_s (by rfl) (by rfl) (by rfl)) ?_; refine Eq.trans (pl_agg (by rfl) (by rfl)) ?_; refine Eq.trans (pl_int (by rfl)) ?_; refine Eq.trans (pl_int (by rfl)) ?_; refine Eq.trans (hop_eq (by rfl)) ?_; refine Eq.trans (pl_int (by rfl)) ?_
    rw [decide_eq_false (by rw [pmap_len]; omega), cnd_f, e]
    refine Eq.trans (ix_lst (by omega) (vv_at (nx_lt hil)) (by rfl)) ?_
    refine Eq.trans (hop_eq (by rfl)) ?_; refine Eq.trans (pl_agg (by rfl) (by rfl)) ?_; refine Eq.trans (pl_int (by rfl)) ?_; refine Eq.trans (pl_int (by rfl)) ?_
    refine Eq.trans (pl_bool (s24 (d + 1) b (vv ps i) (vv ps (nx ps i)))) ?_
    simp only [upAny]
    cases meetsX b (vv ps i) (vv ps (nx ps i))
    · refine Eq.trans (pl_f (by rfl)) ?_
      rw [show IntKind.wrap .i64 ((i : Int) + 1) = ((i + 1 : Nat) : Int) by rw [IntKind.wrap_i64]; omega, ih (i + 1) f _ (by omega) (by omega) (hget_app h0)]; rfl
    · rfl
theorem s27 (d : Nat) (b : Bx) (ps : List Pt) (hl : ps.length ≤ 140737488355328) : pcall M (d + 14) 27 [bx b, .lst (ps.map pt)] = some (.int .i64 (relX b ps)) := told (q27 (d + 13) _ _ _ _ _) (by
  refine Eq.trans (hop_eq (by rfl)) ?_; refine Eq.trans (hop_eq (by rfl)) ?_; refine Eq.trans (pl_agg (by rfl) (by rfl)) ?_; refine Eq.trans (pl_int (by rfl)) ?_; refine Eq.trans (pl_int (by rfl)) ?_; refine Eq.trans (pl_int (by rfl)) ?_; refine Eq.trans (pl_int (by rfl)) ?_
  refine Eq.trans (pl_bool (s12 (d + 10) b)) ?_
  unfold relX
  cases rightX b
  · rfl
  · refine Eq.trans (pl_f (by rfl)) ?_; refine Eq.trans (snp_free (by rfl)) ?_
    refine Eq.trans (pl_bool (s43 (d + 1) ps hl)) ?_
    refine Eq.trans (pl_len (by rfl)) ?_
    cases rightB ps
    · rfl
    · refine Eq.trans (pl_f (by rfl)) ?_; refine Eq.trans (hop_eq (by rfl)) ?_; refine Eq.trans (pl_int (by rfl)) ?_
      rw [pmap_len]
      exact prel d b ps hl ps.length 0 1000000000000000000 _ (by omega) (by omega) rfl)
end Go.Proofs.Ytjblhppbjebagaa.AE

namespace Go.Proofs.Ytjblhppbjebagaa.AE
set_option linter.unusedVariables false
set_option linter.unusedSimpArgs false
set_option linter.constructorNameAsVariable false
open Go Go.Proofs.Ytjblhppbjebagaa.Geo
theorem s61 (d : Nat) (x : Int) (h : -9223372036854775808 ≤ x) (h' : x < 9223372036854775808) : pcall M (d + 1) 61 [.int .i64 x] = some (.agg [.int .i64 (hiw x), .int .u64 (low x)]) := told (r61 C0 d x) (by
  rw [show ((2 : Int) ^ (min (Int.toNat 63) 64)) = 9223372036854775808 from by decide, Int.fdiv_eq_ediv_of_nonneg x (by decide)]
  have e1 : x / 9223372036854775808 = hiw x := by unfold hiw; rw [i64w]; omega
  have e2 : IntKind.wrap .u64 x = low x := by unfold low; rw [u64w]
  rw [e1, e2])
def fitB (v : Int) : Bool := decide (-9223372036854775808 ≤ v ∧ v < 9223372036854775808)
theorem s72 (d : Nat) (v : Int) (h : -170141183460469231731687303715884105728 ≤ v) (h' : v < 170141183460469231731687303715884105728) : pcall M (d + 2) 72 [.agg [.int .i64 (hiw v), .int .u64 (low v)]] = some (.tup [.int .i64 (if fitB v then v else 0), .bool (fitB v)]) := told (r72 C0 (d + 1) _ _) (by
  have hw : -9223372036854775808 ≤ IntKind.wrap .i64 (low v) ∧ IntKind.wrap .i64 (low v) < 9223372036854775808 := by rw [i64w]; omega
  rw [s61 d _ hw.1 hw.2, C0_agg2]
  simp only [at0, at1, C0_int]
  by_cases hf : fitB v = true
  · have h2 := of_decide_eq_true hf
    have e : IntKind.wrap .i64 (low v) = v := by unfold low; rw [i64w]; omega
    rw [e, hf]
    simp [cnd_f]
  · have h2 : ¬ (-9223372036854775808 ≤ v ∧ v < 9223372036854775808) := fun g => hf (decide_eq_true g)
    have e : (hiw (IntKind.wrap .i64 (low v)) == hiw v) = false := by
      rw [beq_eq_false_iff_ne]
      unfold hiw low
      rw [i64w, i64w, i64w]
      omega
    rw [e, Bool.eq_false_iff.mpr hf]
    simp [cnd_t])
theorem s60 (d : Nat) (v : Int) (h : -170141183460469231731687303715884105728 ≤ v) (h' : v < 170141183460469231731687303715884105728) : pcall M (d + 3) 60 [.agg [.int .i64 (hiw v), .int .u64 (low v)], .bool true] = some (.tup [.int .i64 (if fitB v then v else 0), .bool (fitB v)]) := told (r60 C0 (d + 2) _ _ true) (by
  rw [s72 d v h h', C0_tup2]
  simp only [at0, at1, C0_int, C0_bool, Bool.not_true, cnd_f])
end Go.Proofs.Ytjblhppbjebagaa.AE

namespace Go.Proofs.Ytjblhppbjebagaa.AE
set_option linter.unusedVariables false
set_option linter.unusedSimpArgs false
set_option linter.constructorNameAsVariable false
open Go Go.Proofs.Ytjblhppbjebagaa.Geo
theorem add64_e (x y c : Int) (hx : 0 ≤ x) (hy : 0 ≤ y) (hc : 0 ≤ c) (hc' : c ≤ 1) : add64E [.int .u64 x, .int .u64 y, .int .u64 c] = some (.tup [.int .u64 ((x + y + c) % 18446744073709551616), .int .u64 ((x + y + c) / 18446744073709551616)]) := by
  simp [add64E, hx, hy, hc, hc']
theorem s62 (d : Nat) (x y : Int) (hx : -9223372036854775808 ≤ x) (hx' : x < 9223372036854775808) (hy : -9223372036854775808 ≤ y) (hy' : y < 9223372036854775808) :
    pcall M (d + 1) 62 [.agg [.int .i64 (hiw x), .int .u64 (low x)], .agg [.int .i64 (hiw y), .int .u64 (low y)]] = some (.tup [.agg [.int .i64 (hiw (x + y)), .int .u64 (low (x + y))], .bool true]) := told (r62 C0 d _ _ _ _) (by
  have l0 : 0 ≤ low x ∧ low x < 18446744073709551616 := by unfold low; omega
  have l1 : 0 ≤ low y ∧ low y < 18446744073709551616 := by unfold low; omega
  have hhx : hiw x = if x < 0 then -1 else 0 := by unfold hiw; rw [i64w]; split <;> omega
  have hhy : hiw y = if y < 0 then -1 else 0 := by unfold hiw; rw [i64w]; split <;> omega
  rw [add64_e _ _ _ l0.1 l1.1 (by decide) (by decide), C0_tup2]
  simp only [at0, at1, C0_int]
  rw [add64_e _ _ _ (by rw [u64w]; omega) (by rw [u64w]; omega) (by omega) (by omega), C0_tup2]
  simp only [at0, at1, C0_int, Int.add_zero]
  have e1 : (low x + low y) % 18446744073709551616 = low (x + y) := by unfold low; omega
  have e2 : IntKind.wrap .i64 ((IntKind.wrap .u64 (hiw x) + IntKind.wrap .u64 (hiw y) + (low x + low y) / 18446744073709551616) % 18446744073709551616) = hiw (x + y) := by
    rw [u64w, u64w, i64w]
    have : hiw (x + y) = (x + y) / 18446744073709551616 := by unfold hiw; rw [i64_small (by omega) (by omega)]
    rw [this, hhx, hhy]
    unfold low
    split <;> split <;> omega
  rw [e1, e2]
  have hs : hiw (x + y) = if x + y < 0 then -1 else 0 := by unfold hiw; rw [i64w]; split <;> omega
  have b1 := bits_rng_i64 .xor (hiw x) (hiw (x + y))
  have b2 := bits_rng_i64 .xor (hiw y) (hiw (x + y))
  have key : ¬ Go.bits .and .i64 (Go.bits .xor .i64 (hiw x) (hiw (x + y))) (Go.bits .xor .i64 (hiw y) (hiw (x + y))) < 0 := by
    rw [bits_and_sgn _ _ b1.1 b1.2 b2.1 b2.2, bits_xor_sgn _ _ (by rw [hhx]; split <;> omega) (by rw [hhx]; split <;> omega) (by rw [hs]; split <;> omega) (by rw [hs]; split <;> omega), bits_xor_sgn _ _ (by rw [hhy]; split <;> omega) (by rw [hhy]; split <;> omega) (by rw [hs]; split <;> omega) (by rw [hs]; split <;> omega), hhx, hhy, hs]
    split <;> split <;> split <;> omega
  rw [decide_eq_false key, cnd_f])
theorem s48 (d : Nat) (x y : Int) (hx : -9223372036854775808 ≤ x) (hx' : x < 9223372036854775808) (hy : -9223372036854775808 ≤ y) (hy' : y < 9223372036854775808) :
    pcall M (d + 4) 48 [.int .i64 x, .int .i64 y] = some (.tup [.int .i64 (if fitB (x + y) then x + y else 0), .bool (fitB (x + y))]) := told (r48 C0 (d + 3) _ _) (by
  rw [s61 (d + 2) x hx hx', s61 (d + 2) y hy hy', C0_agg2]
  simp only [at0, at1, C0_int, C0_agg2]
  rw [s62 (d + 2) x y hx hx' hy hy', C0_tup2]
  simp only [at0, at1, C0_int, C0_agg2, C0_bool]
  rw [s60 d (x + y) (by omega) (by omega), C0_tup2]
  simp only [at0, at1, C0_int, C0_bool])
end Go.Proofs.Ytjblhppbjebagaa.AE

namespace Go.Proofs.Ytjblhppbjebagaa.AE
set_option linter.unusedVariables false
set_option linter.unusedSimpArgs false
set_option linter.constructorNameAsVariable false
open Go Go.Proofs.Ytjblhppbjebagaa.Geo
/-- Inside of 64 bits. -/
def In64 (x : Int) : Prop := -9223372036854775808 ≤ x ∧ x < 9223372036854775808
def mvB (p : Pt) (x y : Int) : Bool := decide (OkP p ∧ OkP (mv p x y))
theorem mvB_t {p : Pt} {x y : Int} : mvB p x y = true ↔ OkP p ∧ OkP (mv p x y) := decide_eq_true_iff
theorem fit_ok {x : Int} (h : Okc x) : fitB x = true := decide_eq_true (by unfold Okc at h; omega)
theorem s32 (d : Nat) (p : Pt) (x y : Int) (h1 : In64 p.1) (h2 : In64 p.2) (h3 : In64 x) (h4 : In64 y) :
    pcall M (d + 7) 32 [pt p, .int .i64 x, .int .i64 y] = some (if mvB p x y then .tup [pt (mv p x y), .bool true] else .tup [pt (0, 0), .bool false]) := told (r32 C0 (d + 6) _ _ _ _) (by
  rw [s48 (d + 2) _ _ h1.1 h1.2 h3.1 h3.2, C0_tup2]
  simp only [at0, at1, C0_int, C0_bool]
  rw [s48 (d + 2) _ _ h2.1 h2.2 h4.1 h4.2, C0_tup2]
  simp only [at0, at1, C0_int, C0_bool]
  by_cases f1 : fitB (p.1 + x) = true
  · by_cases f2 : fitB (p.2 + y) = true
    · rw [f1, f2]
      simp only [if_true]
      have h22 : pcall M (d + 6) 49 [.lst [.agg [.int .i64 p.1, .int .i64 p.2], .agg [.int .i64 (p.1 + x), .int .i64 (p.2 + y)]]] = some (.bool (okB [p, mv p x y])) := s49 d [p, mv p x y] (by simp)
      rw [h22, C0_bool]
      have hk : okB [p, mv p x y] = mvB p x y := by rw [Bool.eq_iff_iff, okB_t, mvB_t]; simp
      rw [hk]
      cases mvB p x y <;> rfl
    · have hm : ¬ mvB p x y = true := fun g => f2 (fit_ok (mvB_t.mp g).2.2)
      rw [if_neg hm, f1, Bool.eq_false_iff.mpr f2]; rfl
  · have hm : ¬ mvB p x y = true := fun g => f1 (fit_ok (mvB_t.mp g).2.1)
    rw [if_neg hm, Bool.eq_false_iff.mpr f1]; rfl)
end Go.Proofs.Ytjblhppbjebagaa.AE

namespace Go.Proofs.Ytjblhppbjebagaa.AE
set_option linter.unusedVariables false
set_option linter.unusedSimpArgs false
set_option linter.constructorNameAsVariable false
open Go Go.Proofs.Ytjblhppbjebagaa.Geo
theorem s34 (d : Nat) (a b c e : Int) : pcall M (d + 1) 34 [.int .i64 a, .int .i64 b, .int .i64 c, .int .i64 e] = some (bx ((a, b), (c, e))) := told (r34 C0 d _ _ _ _) rfl
def clampX (n lo hi : Int) : Int := if n < lo then lo else if n > hi then hi else n
theorem s36 (d : Nat) (n lo hi : Int) : pcall M (d + 1) 36 [.int .i64 n, .int .i64 lo, .int .i64 hi] = some (.int .i64 (clampX n lo hi)) := told (r36 C0 d _ _ _) (by
  unfold clampX
  by_cases h : n < lo
  · rw [decide_eq_true h, cnd_t, if_pos h]
  · rw [decide_eq_false h, cnd_f, if_neg h]
    by_cases h2 : n > hi
    · rw [decide_eq_true h2, cnd_t, if_pos h2]
    · rw [decide_eq_false h2, cnd_f, if_neg h2])
def holdX (n : Int) : Int := clampX n (-1099511627776) 1099511627776
theorem s37 (d : Nat) (n : Int) : pcall M (d + 2) 37 [.int .i64 n] = some (.int .i64 (holdX n)) := told (r37 C0 (d + 1) _) (by
  exact pl_int (s36 d n _ _))
def ofX (p : Pt) (n : Int) : Bx := bif okb p then ((holdX (p.1 - clampX n 0 4398046511104), holdX (p.2 - clampX n 0 4398046511104)), (holdX (p.1 + clampX n 0 4398046511104), holdX (p.2 + clampX n 0 4398046511104))) else ((0, 0), (0, 0))
theorem clamp_rng (n : Int) : 0 ≤ clampX n 0 4398046511104 ∧ clampX n 0 4398046511104 ≤ 4398046511104 := by unfold clampX; split <;> (try split) <;> omega
theorem s14 (d : Nat) (p : Pt) (n : Int) : pcall M (d + 3) 14 [pt p, .int .i64 n] = some (bx (ofX p n)) := told (r14 C0 (d + 2) _ _ _) (by
  refine Eq.trans (pl_bool (s35 d p)) ?_
  change cnd (!okb p) _ _ = _
  unfold ofX
  cases hp : okb p
  · rfl
  · refine Eq.trans (pl_f (by rfl)) ?_
    obtain ⟨⟨h1, h2⟩, h3, h4⟩ := okb_t.mp hp
    have c := clamp_rng n
    refine Eq.trans (pl_int (s36 (d + 1) n 0 4398046511104)) ?_
    rw [i64_small (n := p.1 - clampX n 0 4398046511104) (by omega) (by omega), i64_small (n := p.2 - clampX n 0 4398046511104) (by omega) (by omega), i64_small (n := p.1 + clampX n 0 4398046511104) (by omega) (by omega), i64_small (n := p.2 + clampX n 0 4398046511104) (by omega) (by omega)]
    refine Eq.trans (pl_int (s37 d _)) ?_
    refine Eq.trans (pl_int (s37 d _)) ?_
    refine Eq.trans (pl_int (s37 d _)) ?_
    exact pl_int (s37 d _))
def joinX (a b : Bx) : Bx := bif rightX a then bif rightX b then ((min a.1.1 b.1.1, min a.1.2 b.1.2), (max a.2.1 b.2.1, max a.2.2 b.2.2)) else a else bif rightX b then b else zB
theorem mn (x y : Int) : (if y < x then y else x) = min x y := by omega
theorem mx (x y : Int) : (if y > x then y else x) = max x y := by omega
theorem s19 (d : Nat) (a b : Bx) : pcall M (d + 4) 19 [bx a, bx b] = some (bx (joinX a b)) := told (r19 C0 (d + 3) _ _ _ _ _ _ _ _) (by
  refine Eq.trans (pl_bool (s12 d a)) ?_
  unfold joinX
  cases h1 : rightX a
  · refine Eq.trans (pl_f (by rfl)) ?_
    refine Eq.trans (pl_bool (s12 d a)) ?_
    rw [h1]
    refine Eq.trans (pl_f (by rfl)) ?_
    refine Eq.trans (pl_bool (s12 d b)) ?_
    cases rightX b <;> rfl
  · refine Eq.trans (pl_len (by rfl)) ?_
    refine Eq.trans (pl_bool (s12 d b)) ?_
    cases h2 : rightX b
    · refine Eq.trans (pl_f (by rfl)) ?_
      refine Eq.trans (pl_bool (s12 d a)) ?_
      rw [h1]; rfl
    · refine Eq.trans (pl_len (by rfl)) ?_
      rw [mn, mn, mx, mx]; rfl)
def growB (b : Bx) (n : Int) : Bool := decide (0 ≤ n) && (rightX b && (mvB b.1 (-n) (-n) && mvB b.2 n n))
def growX (b : Bx) (n : Int) : Bx := bif growB b n then (mv b.1 (-n) (-n), mv b.2 n n) else zB
theorem neg64 {n : Int} (h : In64 n) : In64 (IntKind.wrap .i64 (0 - n)) := by unfold In64; rw [i64w]; omega
theorem s9 (d : Nat) (b : Bx) (n : Int) (h1 : In64 b.1.1) (h2 : In64 b.1.2) (h3 : In64 b.2.1) (h4 : In64 b.2.2) (h5 : In64 n) :
    pcall M (d + 8) 9 [bx b, .int .i64 n] = some (.tup [bx (growX b n), .bool (growB b n)]) := told (r9 C0 (d + 7) _ _ _ _ _) (by
  have m1 := s32 d b.1 (IntKind.wrap .i64 (0 - n)) (IntKind.wrap .i64 (0 - n)) h1 h2 (neg64 h5) (neg64 h5)
  have m2 := s32 d b.2 n n h3 h4 h5 h5
  simp only [pt] at m1 m2
  rw [m1, m2]
  have fin : (some (AV.tup [.agg [.int .i64 0, .int .i64 0, .int .i64 0, .int .i64 0], .bool false]) : Ans) = some (.tup [bx (growX b n), .bool (growB b n)]) ↔ growB b n = false := by
    constructor
    · intro h; simp at h; exact h.2
    · intro h; unfold growX; rw [h]; rfl
  by_cases c0 : n < 0
  · have g : growB b n = false := by unfold growB; rw [decide_eq_false (by omega)]; rfl
    cases mvB b.1 (IntKind.wrap .i64 (0 - n)) (IntKind.wrap .i64 (0 - n)) <;> cases mvB b.2 n n <;> (refine Eq.trans (pl_tup (by rfl) (by rfl)) ?_; refine Eq.trans (pl_agg (by rfl) (by rfl)) ?_; refine Eq.trans (pl_int (by rfl)) ?_; refine Eq.trans (pl_int (by rfl)) ?_; refine Eq.trans (pl_bool (by rfl)) ?_; refine Eq.trans (pl_tup (by rfl) (by rfl)) ?_; refine Eq.trans (pl_agg (by rfl) (by rfl)) ?_; refine Eq.trans (pl_int (by rfl)) ?_; refine Eq.trans (pl_int (by rfl)) ?_; refine Eq.trans (pl_bool (by rfl)) ?_; rw [decide_eq_true c0, cnd_t]; exact fin.mpr g)
  · have e : IntKind.wrap .i64 (0 - n) = -n := by rw [i64w]; unfold In64 at h5; omega
    rw [e, decide_eq_false c0]
    have g : growB b n = (rightX b && (mvB b.1 (-n) (-n) && mvB b.2 n n)) := by unfold growB; rw [decide_eq_true (by omega), Bool.true_and]
    have r := s12 (d + 4) b
    simp only [bx] at r
    rw [r]
    cases hr : rightX b <;> cases hm1 : mvB b.1 (-n) (-n) <;> cases hm2 : mvB b.2 n n
    all_goals rw [hr, hm1, hm2] at g
    all_goals first
      | (refine Eq.trans (pl_tup (by rfl) (by rfl)) ?_; refine Eq.trans (pl_agg (by rfl) (by rfl)) ?_; refine Eq.trans (pl_int (by rfl)) ?_; refine Eq.trans (pl_int (by rfl)) ?_; refine Eq.trans (pl_bool (by rfl)) ?_; refine Eq.trans (pl_tup (by rfl) (by rfl)) ?_; refine Eq.trans (pl_agg (by rfl) (by rfl)) ?_; refine Eq.trans (pl_int (by rfl)) ?_; refine Eq.trans (pl_int (by rfl)) ?_; refine Eq.trans (pl_bool (by rfl)) ?_; refine Eq.trans (pl_f (by rfl)) ?_; refine Eq.trans (pl_bool (by rfl)) ?_; exact fin.mpr g)
      | (refine Eq.trans (pl_tup (by rfl) (by rfl)) ?_; refine Eq.trans (pl_agg (by rfl) (by rfl)) ?_; refine Eq.trans (pl_int (by rfl)) ?_; refine Eq.trans (pl_int (by rfl)) ?_; refine Eq.trans (pl_bool (by rfl)) ?_; refine Eq.trans (pl_tup (by rfl) (by rfl)) ?_; refine Eq.trans (pl_agg (by rfl) (by rfl)) ?_; refine Eq.trans (pl_int (by rfl)) ?_; refine Eq.trans (pl_int (by rfl)) ?_; refine Eq.trans (pl_bool (by rfl)) ?_; refine Eq.trans (pl_f (by rfl)) ?_; refine Eq.trans (pl_bool (by rfl)) ?_; unfold growX; rw [g]; rfl))
end Go.Proofs.Ytjblhppbjebagaa.AE

namespace Go.Proofs.Ytjblhppbjebagaa.AE
set_option linter.unusedVariables false
set_option linter.unusedSimpArgs false
set_option linter.constructorNameAsVariable false
open Go Go.WideShapes

/-- The form of a cell. -/
inductive CT where
  | i (k : IntKind)
  | b
  | s
  | sl (ag : Bool) (es : List CT)
mutual
def CTok : CT → AV → Prop
  | .i k, v => ∃ n, v = .int k n ∧ (Lit.int k n).wf = true
  | .b, v => ∃ x, v = .bool x
  | .s, v => ∃ x, v = .str x ∧ x.length ≤ maxLen
  | .sl ag es, v => ∃ l, v = .lst l ∧ l.length ≤ maxLen ∧ ∀ x ∈ l, ∃ cs, (match ag with
    | true => x = .agg cs
    | false => cs = [x]) ∧ CTall es cs
def CTall : List CT → List AV → Prop
  | [], l => l = []
  | c :: cs, l => ∃ x t, l = x :: t ∧ CTok c x ∧ CTall cs t
end
/-- An argument of a form: is it a struct or an array; its cells. -/
def TyOK (ag : Bool) (cs : List CT) (v : AV) : Prop := ∃ l, (match ag with
  | true => v = .agg l
  | false => l = [v]) ∧ CTall cs l
theorem CTall_len : ∀ {cs : List CT} {l : List AV}, CTall cs l → l.length = cs.length
  | [], l, h => by simp only [CTall] at h; subst h; rfl
  | c :: cs, l, h => by
    simp only [CTall] at h
    obtain ⟨x, t, rfl, _, h⟩ := h
    simp [CTall_len h]
theorem CTall_app : ∀ {a b : List CT} {l m : List AV}, CTall a l → CTall b m → CTall (a ++ b) (l ++ m)
  | [], b, l, m, h, h' => by simp only [CTall] at h; subst h; exact h'
  | c :: cs, b, l, m, h, h' => by
    simp only [CTall] at h
    obtain ⟨x, t, rfl, h1, h⟩ := h
    simp only [List.cons_append, CTall]
    exact ⟨x, t ++ m, rfl, h1, CTall_app h h'⟩

section
variable (P : Program)
def ctFs (g : TypeId → Option (List CT)) : List Field → Nat → Option (List CT)
  | [], _ => some []
  | f :: fs, off => if f.offset = off then match g f.type with
      | some l => if P.cellsOf f.type = l.length then match ctFs g fs (off + l.length) with
          | some m => some (l ++ m)
          | none => none
        else none
      | none => none
    else none
def ctOf : Nat → TypeId → Option (List CT)
  | 0, _ => none
  | d + 1, t => match P.underlying t with
    | some (.int k) => some [.i k]
    | some .bool => some [.b]
    | some .string => some [.s]
    | some (.slice e) => match ctOf d e, agB P e with
      | some l, some ag => if P.cellsOf e = l.length ∧ 0 < l.length ∧ (ag || l.length == 1) = true then some [.sl ag l] else none
      | _, _ => none
    | some (.struct fs) => match ctFs P (ctOf d) fs.toList 0 with
      | some l => if P.cellsOf t = l.length then some l else none
      | none => none
    | some (.array n e) => match ctOf d e with
      | some l => if P.cellsOf e = l.length ∧ P.cellsOf t = n * l.length then some (List.replicate n l).flatten else none
      | none => none
    | _ => none
end

section
variable {H : Type} {enc : TypeId × Value → H} {P : Program} {w : World} {base : Nat} {spare : Nat → Bool} {held : Bool}
abbrev noBad : Nat → Prop := fun _ => False

/-- Each cell is told. -/
def Cells (w : World) (avs : List AV) (cs : List Value) : Prop := ∀ (i : Nat) (c : AV) (u : Value), avs[i]? = some c → cs[i]? = some u → FRep w noBad c u

theorem cells_one {c : AV} {u : Value} (h : FRep w noBad c u) : Cells w [c] [u] := by
  intro i a b ha hb
  match i with
  | 0 => cases ha; cases hb; exact h
  | i + 1 => cases ha

theorem ctFs_open {g : TypeId → Option (List CT)} {cs : List Value} (hg : ∀ t l (ds : List Value) fuel x, g t = some l → DataW.trod enc P w base spare held fuel t ds = some x → ∃ avs, avs.length = ds.length ∧ CTall l avs ∧ Cells w avs ds) :
    ∀ (fs : List Field) (off : Nat) (l : List CT), ctFs P g fs off = some l → (∀ f ∈ fs, ∃ fuel y, DataW.trod enc P w base spare held fuel f.type ((cs.drop f.offset).take (P.cellsOf f.type)) = some y) →
      ∃ avs, CTall l avs ∧ Cells w avs (cs.drop off)
  | [], off, l, h, _ => by
    simp only [ctFs] at h; cases h
    exact ⟨[], rfl, fun i c u hc _ => by cases hc⟩
  | f :: fs, off, l, h, ht => by
    simp only [ctFs] at h
    split at h
    · rename_i ho
      split at h <;> (try (cases h; done))
      rename_i l1 h1
      split at h
      · rename_i hn
        split at h <;> (try (cases h; done))
        rename_i m hm
        cases h
        obtain ⟨fuel, y, hy⟩ := ht f (List.mem_cons_self ..)
        obtain ⟨a1, e1, e2, e3⟩ := hg _ _ _ _ _ h1 hy
        obtain ⟨a2, q1, q2⟩ := ctFs_open hg fs (off + l1.length) m hm (fun f hf => ht f (List.mem_cons_of_mem _ hf))
        refine ⟨a1 ++ a2, CTall_app e2 q1, ?_⟩
        have hl : a1.length = l1.length := CTall_len e2
        intro i c u hc hu
        by_cases hi : i < a1.length
        · rw [List.getElem?_append_left hi] at hc
          refine e3 i c u hc ?_
          rw [ho, hn, List.getElem?_take, if_pos (by omega)]; exact hu
        · rw [List.getElem?_append_right (by omega)] at hc
          refine q2 (i - a1.length) c u hc ?_
          rw [List.getElem?_drop] at hu ⊢
          rw [← hu]; congr 1; omega
      · cases h
    · cases h

theorem cells?_at {a : Addr} {n : Nat} {cs : List Value} (h : w.cells? base a n = some cs) : cs.length = n ∧ ∀ j u, cs[j]? = some u → w.cell? (a.add j) = some u := by
  unfold World.cells? at h
  split at h
  · have hl : cs.length = n := by simpa using mapM_some_length h
    refine ⟨hl, fun j u hu => ?_⟩
    have hj : j < n := by
      rcases Nat.lt_or_ge j n with h1 | h1
      · exact h1
      · rw [List.getElem?_eq_none (by omega)] at hu; cases hu
    have := mapM_some_get h j j (by simp [hj])
    rw [hu] at this
    exact this
  · cases h

theorem rng_at {n i j : Nat} (h : (List.range n)[i]? = some j) : i < n ∧ i = j := by
  rcases Nat.lt_or_ge i n with h1 | h1
  · rw [List.getElem?_range h1] at h; exact ⟨h1, Option.some.inj h⟩
  · rw [List.getElem?_eq_none (by simpa using h1)] at h; cases h
theorem add_pl (b o n : Nat) : (⟨b, o, none⟩ : Addr).add n = ⟨b, o + n, none⟩ := by
  unfold Addr.add; split <;> simp_all

theorem open_cells : ∀ (d : Nat) (t : TypeId) (l : List CT) (cs : List Value) (fuel : Nat) (x : DataW H × List MemPlace), ctOf P d t = some l → DataW.trod enc P w base spare held fuel t cs = some x →
    ∃ avs, avs.length = cs.length ∧ CTall l avs ∧ Cells w avs cs
  | 0, t, l, cs, fuel, x, h, _ => by cases h
  | d + 1, t, l, cs, fuel, x, h, ht => by
    simp only [ctOf] at h
    split at h <;> (try (cases h; done))
    · rename_i k hu
      cases h
      obtain ⟨n, rfl, _, hw⟩ := DataW.trod_int hu ht
      exact ⟨[.int k n], rfl, ⟨_, _, rfl, ⟨n, rfl, hw⟩, rfl⟩, cells_one (.int k n)⟩
    · rename_i hu
      cases h
      obtain ⟨b, rfl, _⟩ := DataW.trod_bool hu ht
      exact ⟨[.bool b], rfl, ⟨_, _, rfl, ⟨b, rfl⟩, rfl⟩, cells_one (.bool b)⟩
    · rename_i hu
      cases h
      obtain ⟨s, rfl, _, hs⟩ := DataW.trod_string hu ht
      refine ⟨[.str s.data.toList], rfl, ⟨_, _, rfl, ⟨_, rfl, by simpa using hs⟩, rfl⟩, cells_one ?_⟩
      have := FRep.str (w := w) (bad := noBad) s.data.toList
      simpa using this
    · rename_i e hu
      split at h <;> (try (cases h; done))
      rename_i le ag hle hag
      split at h
      · rename_i hc
        obtain ⟨hc1, hc2, hc3⟩ := hc
        cases h
        rcases DataW.trod_slice hu ht with ⟨rfl, _⟩ | ⟨a, len, cap, elems, rest, n, _, rfl, _, hb, hl, hm, hel, hat, _, _⟩
        · exact ⟨[.lst []], rfl, ⟨_, _, rfl, ⟨[], rfl, by simp, fun x hx => by cases hx⟩, rfl⟩, cells_one (.lst0 none 0)⟩
        · have each : ∀ i, i < len → ∃ ex : List AV × List Value, w.cells? base (a.add (i * P.cellsOf e)) (P.cellsOf e) = some ex.2 ∧ CTall le ex.1 ∧ Cells w ex.1 ex.2 := by
            intro i hi
            have h1 := hat i hi
            rw [List.getElem?_eq_getElem (by omega)] at h1
            obtain ⟨ds, h2, h3⟩ := Option.bind_eq_some_iff.mp h1
            obtain ⟨avs, _, q2, q3⟩ := open_cells d e le ds n _ hle h3
            exact ⟨(avs, ds), h2, q2, q3⟩
          obtain ⟨f, hf⟩ := Go.Deep.choose_lt each
          let el : List AV → AV := fun cs => match ag with
            | true => .agg cs
            | false => cs.headD .undef
          have elc : ∀ cs, CTall le cs → (el cs).cells = cs ∨ (ag = false ∧ ∃ v, cs = [v] ∧ el cs = v) := by
            intro cs hcs
            cases ag with
            | true => exact .inl rfl
            | false =>
              have hl1 : le.length = 1 := by simpa using hc3
              have := CTall_len hcs
              match cs, this.trans hl1 with
              | [v], _ => exact .inr ⟨rfl, v, rfl, rfl⟩
          have scal : ∀ cs, CTall le cs → (el cs).cells = cs := by
            intro cs hcs
            rcases elc cs hcs with h1 | ⟨hag', v, rfl, h2⟩
            · exact h1
            · rw [h2]
              match v, hcs with
              | .agg l', hcs =>
                exfalso
                cases le with
                | nil => simp only [CTall] at hcs; cases hcs
                | cons c cs' =>
                  simp only [CTall] at hcs
                  obtain ⟨x', t', hx', hok, _⟩ := hcs
                  injection hx' with hx1 _
                  subst hx1
                  cases c <;> simp [CTok] at hok
              | .int .., _ | .bool _, _ | .str _, _ | .nilp, _ | .zsl _, _ | .ptr .., _ | .slc .., _ | .lst _, _ | .fptr .., _ | .tup _, _ | .fn .., _ | .nilf, _ | .undef, _ => rfl
          have hlen : ∀ i, i < len → ((f i).1).length = P.cellsOf e := fun i hi => by rw [CTall_len (hf i hi).2.1, hc1]
          refine ⟨[.lst ((List.range len).map fun i => el (f i).1)], rfl, ⟨_, _, rfl, ⟨_, rfl, by simp; omega, ?_⟩, rfl⟩, cells_one ?_⟩
          · intro y hy
            obtain ⟨i, hi, rfl⟩ := List.mem_map.mp hy
            have hi := List.mem_range.mp hi
            refine ⟨(f i).1, ?_, (hf i hi).2.1⟩
            cases ag with
            | true => rfl
            | false =>
              rcases elc _ (hf i hi).2.1 with h1 | ⟨_, v, h1, h2⟩
              · have h3 := scal _ (hf i hi).2.1
                have hl1 : le.length = 1 := by simpa using hc3
                have h4 := (CTall_len (hf i hi).2.1).trans hl1
                show (f i).1 = [(f i).1.headD .undef]
                match (f i).1, h4 with
                | [v], _ => rfl
              · show (f i).1 = [(f i).1.headD .undef]
                rw [h1]; rfl
          · by_cases h0 : len = 0
            · subst h0; exact .lst0 (some a) cap
            · have hsp : a.spot = none ∧ a.block < w.heap.size := by
                obtain ⟨g1, g2, g3⟩ := hf 0 (by omega)
                obtain ⟨g4, g5⟩ := cells?_at g1
                have h6 : ∃ u, (f 0).2[0]? = some u := ⟨_, List.getElem?_eq_getElem (by omega)⟩
                obtain ⟨u, hu0⟩ := h6
                have := g5 0 u hu0
                rw [Nat.zero_mul, show (a.add 0).add 0 = a by simp [Addr.add]] at this
                unfold World.cell? at this
                split at this
                · rename_i c _ _ hh
                  split at this
                  · cases this
                  · rename_i hs
                    refine ⟨by simpa using hs, ?_⟩
                    rcases Nat.lt_or_ge a.block w.heap.size with h7 | h7
                    · exact h7
                    · rw [Array.getElem?_eq_none h7] at hh; cases hh
                · cases this
              obtain ⟨b, o, sp⟩ := a
              obtain ⟨hsp1, hsp2⟩ := hsp
              simp only at hsp1 hsp2
              subst hsp1
              have hlm : ((List.range len).map fun i => el (f i).1).length = len := by simp
              have key := FRep.lst (w := w) (bad := noBad) ((List.range len).map fun i => el (f i).1) b o (P.cellsOf e) cap (fun i j => (f i).2.getD j (.bool false)) (by rw [hlm]; exact hl) (by omega) (fun h => h) hsp2 ?_ ?_ ?_
              · rw [hlm] at key; exact key
              · intro i y hy
                rw [List.getElem?_map] at hy
                obtain ⟨i', h1, rfl⟩ := Option.map_eq_some_iff.mp hy
                obtain ⟨h2, rfl⟩ := rng_at h1
                rw [scal _ (hf _ h2).2.1, hlen _ h2]
              · intro i y j c hy hc
                rw [List.getElem?_map] at hy
                obtain ⟨i', h1, rfl⟩ := Option.map_eq_some_iff.mp hy
                obtain ⟨h2, rfl⟩ := rng_at h1
                rw [scal _ (hf _ h2).2.1] at hc
                obtain ⟨g4, g5⟩ := cells?_at (hf _ h2).1
                have hj : j < (f i).2.length := by
                  rw [g4, ← hlen _ h2]
                  rcases Nat.lt_or_ge j (f i).1.length with h7 | h7
                  · exact h7
                  · rw [List.getElem?_eq_none h7] at hc; cases hc
                have := g5 j _ (List.getElem?_eq_getElem hj)
                rw [add_pl, add_pl] at this
                rw [List.getD_eq_getElem?_getD, List.getElem?_eq_getElem hj]
                simp only [Option.getD_some]
                rw [← Nat.add_assoc]; exact this
              · intro i y j c hy hc
                rw [List.getElem?_map] at hy
                obtain ⟨i', h1, rfl⟩ := Option.map_eq_some_iff.mp hy
                obtain ⟨h2, rfl⟩ := rng_at h1
                rw [scal _ (hf _ h2).2.1] at hc
                obtain ⟨g4, g5⟩ := cells?_at (hf _ h2).1
                have hj : j < (f i).2.length := by
                  rw [g4, ← hlen _ h2]
                  rcases Nat.lt_or_ge j (f i).1.length with h7 | h7
                  · exact h7
                  · rw [List.getElem?_eq_none h7] at hc; cases hc
                refine (hf _ h2).2.2 j c _ hc ?_
                rw [List.getD_eq_getElem?_getD, List.getElem?_eq_getElem hj]; rfl
      · cases h
    · rename_i fs hu
      split at h <;> (try (cases h; done))
      rename_i l' hl'
      split at h
      · rename_i hc
        cases h
        obtain ⟨xs, n, _, _, hlen, hxs, hf⟩ := DataW.trod_struct hu ht
        obtain ⟨avs, q1, q2⟩ := ctFs_open (cs := cs) (enc := enc) (base := base) (spare := spare) (held := held) (fun t l ds fuel x => open_cells d t l ds fuel x) fs.toList 0 l hl' (fun f hfm => by
          obtain ⟨i, hi⟩ := List.getElem?_of_mem hfm
          have h1 := hf i f (by simpa using hi)
          have hi' : i < xs.length := by
            rw [hxs]
            rcases Nat.lt_or_ge i fs.size with h7 | h7
            · exact h7
            · rw [List.getElem?_eq_none (by simpa using h7)] at hi; cases hi
          exact ⟨n, _, h1.trans (List.getElem?_eq_getElem hi')⟩)
        exact ⟨avs, by rw [CTall_len q1, hlen, hc], q1, by simpa using q2⟩
      · cases h
    · rename_i n e hu
      split at h <;> (try (cases h; done))
      rename_i le hle
      split at h
      · rename_i hc
        obtain ⟨hc1, hc2⟩ := hc
        cases h
        obtain ⟨xs, m, _, _, hlen, hxs, hf⟩ := DataW.trod_array hu ht
        have key : ∀ k, k ≤ n → ∃ avs, CTall (List.replicate k le).flatten avs ∧ Cells w avs (cs.drop ((n - k) * le.length)) := by
          intro k
          induction k with
          | zero => intro _; exact ⟨[], rfl, fun i c u hc _ => by cases hc⟩
          | succ k ih =>
            intro hk
            obtain ⟨a2, q1, q2⟩ := ih (by omega)
            have h1 := hf (n - (k + 1)) (by omega)
            rw [List.getElem?_eq_getElem (by omega)] at h1
            obtain ⟨a1, e1, e2, e3⟩ := open_cells d e le _ m _ hle h1
            refine ⟨a1 ++ a2, by rw [List.replicate_succ, List.flatten_cons]; exact CTall_app e2 q1, ?_⟩
            have hl : a1.length = le.length := CTall_len e2
            intro i c u hc hu
            by_cases hi : i < a1.length
            · rw [List.getElem?_append_left hi] at hc
              refine e3 i c u hc ?_
              rw [hc1, List.getElem?_take, if_pos (by omega)]; exact hu
            · rw [List.getElem?_append_right (by omega)] at hc
              refine q2 (i - a1.length) c u hc ?_
              rw [List.getElem?_drop] at hu ⊢
              rw [← hu]; congr 1
              have : n - k = n - (k + 1) + 1 := by omega
              rw [this, Nat.add_mul]; omega
        obtain ⟨avs, q1, q2⟩ := key n (Nat.le_refl _)
        refine ⟨avs, ?_, q1, by simpa using q2⟩
        rw [CTall_len q1, hlen, hc2]; simp
      · cases h

theorem okWide_array {r : Reach} {n : Nat} {t e : TypeId} {v : Value} (ht : P.underlying t = some (.array n e)) (h : Value.okWide P w r base t v) : ∃ cs, v = .agg cs ∧ cs.size = P.cellsOf t := by
  simp only [Value.okWide, ht] at h
  obtain ⟨cs, h1, h2, _⟩ := h
  exact ⟨cs, h1, h2⟩
/-- A scalar argument. -/
theorem open_sc {t : TypeId} {v : Value} {d : DataW H} {ps : List MemPlace} {l : List CT} (hv : v.cells.toList = [v]) (hl : ctOf P 9 t = some l) (h : DataW.Trod enc P w base spare held t v d ps) :
    ∃ a, TyOK false l a ∧ FRep w noBad a v := by
  obtain ⟨fuel, h⟩ := h
  obtain ⟨avs, h1, h2, h3⟩ := open_cells 9 t l _ fuel _ hl h
  rw [hv] at h1 h3
  match avs, h1 with
  | [a], _ => exact ⟨a, ⟨_, rfl, h2⟩, h3 0 a v rfl rfl⟩
/-- A struct, or an array. -/
theorem open_ag {t : TypeId} {cs : Array Value} {d : DataW H} {ps : List MemPlace} {l : List CT} (hl : ctOf P 9 t = some l) (h : DataW.Trod enc P w base spare held t (.agg cs) d ps) :
    ∃ a, TyOK true l a ∧ FRep w noBad a (.agg cs) := by
  obtain ⟨fuel, h⟩ := h
  obtain ⟨avs, h1, h2, h3⟩ := open_cells 9 t l _ fuel _ hl h
  refine ⟨.agg avs, ⟨_, rfl, h2⟩, ?_⟩
  have := FRep.agg (w := w) (bad := noBad) avs cs.toList h1 h3
  simpa using this
end
end Go.Proofs.Ytjblhppbjebagaa.AE

namespace Go.Proofs.Ytjblhppbjebagaa.AE
set_option linter.unusedVariables false
set_option linter.unusedSimpArgs false
set_option linter.constructorNameAsVariable false
open Go Go.Proofs.Ytjblhppbjebagaa.Geo
theorem s18 (d : Nat) (a b : Bx) : pcall M (d + 4) 18 [bx a, bx b] = some (.bool (inX a b)) := told (r18 C0 (d + 3) _ _ _ _ _ _ _ _) (by
  refine Eq.trans (pl_bool (s13 (d + 1) a)) ?_
  unfold inX
  cases rightX a
  · rfl
  · refine Eq.trans (pl_len (by rfl)) ?_
    refine Eq.trans (pl_bool (s16 d b a.1)) ?_
    cases hasX b a.1
    · rfl
    · refine Eq.trans (pl_len (by rfl)) ?_
      exact pl_bool (s16 d b a.2))
theorem s20 (d : Nat) (a b : Bx) : pcall M (d + 3) 20 [bx a, bx b] = some (bx (joinX a b)) := told (r20 C0 (d + 2) _ _ _ _ _ _ _ _) (by
  have ra := s13 d a
  have rb := s13 d b
  refine Eq.trans (pl_bool ra) ?_
  unfold joinX
  cases h1 : rightX a
  · refine Eq.trans (pl_len (by rfl)) ?_
    refine Eq.trans (pl_bool rb) ?_
    cases h2 : rightX b
    · rfl
    · refine Eq.trans (pl_f (by rfl)) ?_
      refine Eq.trans (pl_bool ra) ?_
      rw [h1]; rfl
  · refine Eq.trans (pl_f (by rfl)) ?_
    refine Eq.trans (pl_bool ra) ?_
    rw [h1]
    refine Eq.trans (pl_f (by rfl)) ?_
    refine Eq.trans (pl_bool rb) ?_
    cases h2 : rightX b
    · rfl
    · refine Eq.trans (pl_f (by rfl)) ?_
      rw [mn, mn, mx, mx]; rfl)
end Go.Proofs.Ytjblhppbjebagaa.AE

namespace Go.Proofs.Ytjblhppbjebagaa.AE
set_option linter.unusedVariables false
set_option linter.unusedSimpArgs false
set_option linter.constructorNameAsVariable false
open Go
set_option maxRecDepth 100000
/-- apogee/apogeelaw12.awake -/
theorem r11 (C : Cb) (d : Nat)  : xcall C M unr d 11 [] =
  C.agg 4 (pcall M d 34 [(.int .i64 1), (.int .i64 1), (.int .i64 2), (.int .i64 2)]) fun l0 =>
  C.int .i64 l0[0]? fun x1 =>
  C.int .i64 l0[1]? fun x2 =>
  C.int .i64 l0[2]? fun x3 =>
  C.int .i64 l0[3]? fun x4 =>
  C.tup 2 (pcall M d 9 [(.agg [(.int .i64 x1), (.int .i64 x2), (.int .i64 x3), (.int .i64 x4)]), (.int .i64 1)]) fun l5 =>
  C.agg 4 l5[0]? fun l6 =>
  C.int .i64 l6[0]? fun x7 =>
  C.int .i64 l6[1]? fun x8 =>
  C.int .i64 l6[2]? fun x9 =>
  C.int .i64 l6[3]? fun x10 =>
  C.bool l5[1]? fun b11 =>
  C.agg 4 (pcall M d 34 [(.int .i64 1), (.int .i64 1), (.int .i64 2), (.int .i64 2)]) fun l12 =>
  C.int .i64 l12[0]? fun x13 =>
  C.int .i64 l12[1]? fun x14 =>
  C.int .i64 l12[2]? fun x15 =>
  C.int .i64 l12[3]? fun x16 =>
  C.tup 2 (pcall M d 9 [(.agg [(.int .i64 x13), (.int .i64 x14), (.int .i64 x15), (.int .i64 x16)]), (.int .i64 (-1))]) fun l17 =>
  C.agg 4 l17[0]? fun l18 =>
  C.int .i64 l18[0]? fun x19 =>
  C.int .i64 l18[1]? fun x20 =>
  C.int .i64 l18[2]? fun x21 =>
  C.int .i64 l18[3]? fun x22 =>
  C.bool l17[1]? fun b23 =>
  C.agg 4 (pcall M d 34 [(.int .i64 1), (.int .i64 1), (.int .i64 2), (.int .i64 2)]) fun l24 =>
  C.int .i64 l24[0]? fun x25 =>
  C.int .i64 l24[1]? fun x26 =>
  C.int .i64 l24[2]? fun x27 =>
  C.int .i64 l24[3]? fun x28 =>
  C.bool (pcall M d 12 [(.agg [(.int .i64 x25), (.int .i64 x26), (.int .i64 x27), (.int .i64 x28)])]) fun b29 =>
  cnd b29
   (C.agg 4 (pcall M d 34 [(.int .i64 2), (.int .i64 1), (.int .i64 1), (.int .i64 2)]) fun l30 =>
   C.int .i64 l30[0]? fun x31 =>
   C.int .i64 l30[1]? fun x32 =>
   C.int .i64 l30[2]? fun x33 =>
   C.int .i64 l30[3]? fun x34 =>
   C.bool (pcall M d 12 [(.agg [(.int .i64 x31), (.int .i64 x32), (.int .i64 x33), (.int .i64 x34)])]) fun b35 =>
   cnd (!b35)
   (C.agg 4 (pcall M d 14 [(.agg [(.int .i64 5), (.int .i64 0)]), (.int .i64 2)]) fun l36 =>
   C.int .i64 l36[0]? fun x37 =>
   C.int .i64 l36[1]? fun x38 =>
   C.int .i64 l36[2]? fun x39 =>
   C.int .i64 l36[3]? fun x40 =>
   C.agg 4 (pcall M d 34 [(.int .i64 3), (.int .i64 (-2)), (.int .i64 7), (.int .i64 2)]) fun l41 =>
   C.int .i64 l41[0]? fun x42 =>
   C.int .i64 l41[1]? fun x43 =>
   C.int .i64 l41[2]? fun x44 =>
   C.int .i64 l41[3]? fun x45 =>
   cnd (xor false ((x37 == x42) && ((x38 == x43) && ((x39 == x44) && ((x40 == x45) && true)))))
   (C.agg 4 (pcall M d 34 [(.int .i64 1), (.int .i64 1), (.int .i64 2), (.int .i64 2)]) fun l46 =>
   C.int .i64 l46[0]? fun x47 =>
   C.int .i64 l46[1]? fun x48 =>
   C.int .i64 l46[2]? fun x49 =>
   C.int .i64 l46[3]? fun x50 =>
   C.bool (pcall M d 15 [(.agg [(.int .i64 x47), (.int .i64 x48), (.int .i64 x49), (.int .i64 x50)]), (.agg [(.int .i64 2), (.int .i64 1)])]) fun b51 =>
   cnd b51
   (C.agg 4 (pcall M d 34 [(.int .i64 1), (.int .i64 1), (.int .i64 2), (.int .i64 2)]) fun l52 =>
   C.int .i64 l52[0]? fun x53 =>
   C.int .i64 l52[1]? fun x54 =>
   C.int .i64 l52[2]? fun x55 =>
   C.int .i64 l52[3]? fun x56 =>
   C.agg 4 (pcall M d 34 [(.int .i64 0), (.int .i64 1), (.int .i64 3), (.int .i64 3)]) fun l57 =>
   C.int .i64 l57[0]? fun x58 =>
   C.int .i64 l57[1]? fun x59 =>
   C.int .i64 l57[2]? fun x60 =>
   C.int .i64 l57[3]? fun x61 =>
   C.bool (pcall M d 17 [(.agg [(.int .i64 x53), (.int .i64 x54), (.int .i64 x55), (.int .i64 x56)]), (.agg [(.int .i64 x58), (.int .i64 x59), (.int .i64 x60), (.int .i64 x61)])]) fun b62 =>
   cnd b62
   (C.agg 4 (pcall M d 34 [(.int .i64 0), (.int .i64 1), (.int .i64 3), (.int .i64 3)]) fun l63 =>
   C.int .i64 l63[0]? fun x64 =>
   C.int .i64 l63[1]? fun x65 =>
   C.int .i64 l63[2]? fun x66 =>
   C.int .i64 l63[3]? fun x67 =>
   C.agg 4 (pcall M d 34 [(.int .i64 1), (.int .i64 1), (.int .i64 2), (.int .i64 2)]) fun l68 =>
   C.int .i64 l68[0]? fun x69 =>
   C.int .i64 l68[1]? fun x70 =>
   C.int .i64 l68[2]? fun x71 =>
   C.int .i64 l68[3]? fun x72 =>
   C.bool (pcall M d 17 [(.agg [(.int .i64 x64), (.int .i64 x65), (.int .i64 x66), (.int .i64 x67)]), (.agg [(.int .i64 x69), (.int .i64 x70), (.int .i64 x71), (.int .i64 x72)])]) fun b73 =>
   cnd (!b73)
   (C.agg 4 (pcall M d 34 [(.int .i64 0), (.int .i64 0), (.int .i64 1), (.int .i64 1)]) fun l74 =>
   C.int .i64 l74[0]? fun x75 =>
   C.int .i64 l74[1]? fun x76 =>
   C.int .i64 l74[2]? fun x77 =>
   C.int .i64 l74[3]? fun x78 =>
   C.agg 4 (pcall M d 34 [(.int .i64 3), (.int .i64 3), (.int .i64 4), (.int .i64 4)]) fun l79 =>
   C.int .i64 l79[0]? fun x80 =>
   C.int .i64 l79[1]? fun x81 =>
   C.int .i64 l79[2]? fun x82 =>
   C.int .i64 l79[3]? fun x83 =>
   C.agg 4 (pcall M d 19 [(.agg [(.int .i64 x75), (.int .i64 x76), (.int .i64 x77), (.int .i64 x78)]), (.agg [(.int .i64 x80), (.int .i64 x81), (.int .i64 x82), (.int .i64 x83)])]) fun l84 =>
   C.int .i64 l84[0]? fun x85 =>
   C.int .i64 l84[1]? fun x86 =>
   C.int .i64 l84[2]? fun x87 =>
   C.int .i64 l84[3]? fun x88 =>
   C.agg 4 (pcall M d 34 [(.int .i64 0), (.int .i64 0), (.int .i64 4), (.int .i64 4)]) fun l89 =>
   C.int .i64 l89[0]? fun x90 =>
   C.int .i64 l89[1]? fun x91 =>
   C.int .i64 l89[2]? fun x92 =>
   C.int .i64 l89[3]? fun x93 =>
   cnd (xor false ((x85 == x90) && ((x86 == x91) && ((x87 == x92) && ((x88 == x93) && true)))))
   (C.agg 4 (pcall M d 34 [(.int .i64 0), (.int .i64 0), (.int .i64 3), (.int .i64 3)]) fun l94 =>
   C.int .i64 l94[0]? fun x95 =>
   C.int .i64 l94[1]? fun x96 =>
   C.int .i64 l94[2]? fun x97 =>
   C.int .i64 l94[3]? fun x98 =>
   cnd (xor false ((x7 == x95) && ((x8 == x96) && ((x9 == x97) && ((x10 == x98) && true)))))
   (cnd b11
   (cnd (!b23)
   (C.agg 4 (pcall M d 34 [(.int .i64 1), (.int .i64 1), (.int .i64 2), (.int .i64 2)]) fun l99 =>
   C.int .i64 l99[0]? fun x100 =>
   C.int .i64 l99[1]? fun x101 =>
   C.int .i64 l99[2]? fun x102 =>
   C.int .i64 l99[3]? fun x103 =>
   C.bool (pcall M d 24 [(.agg [(.int .i64 x100), (.int .i64 x101), (.int .i64 x102), (.int .i64 x103)]), (.agg [(.int .i64 0), (.int .i64 0)]), (.agg [(.int .i64 3), (.int .i64 3)])]) fun b104 =>
   cnd b104
   (C.agg 4 (pcall M d 34 [(.int .i64 1), (.int .i64 1), (.int .i64 2), (.int .i64 2)]) fun l105 =>
   C.int .i64 l105[0]? fun x106 =>
   C.int .i64 l105[1]? fun x107 =>
   C.int .i64 l105[2]? fun x108 =>
   C.int .i64 l105[3]? fun x109 =>
   C.bool (pcall M d 24 [(.agg [(.int .i64 x106), (.int .i64 x107), (.int .i64 x108), (.int .i64 x109)]), (.agg [(.int .i64 0), (.int .i64 0)]), (.agg [(.int .i64 3), (.int .i64 0)])]) fun b110 =>
   cnd (!b110)
   (C.agg 4 (pcall M d 34 [(.int .i64 1), (.int .i64 1), (.int .i64 2), (.int .i64 2)]) fun l111 =>
   C.int .i64 l111[0]? fun x112 =>
   C.int .i64 l111[1]? fun x113 =>
   C.int .i64 l111[2]? fun x114 =>
   C.int .i64 l111[3]? fun x115 =>
   C.int .i64 (pcall M d 27 [(.agg [(.int .i64 x112), (.int .i64 x113), (.int .i64 x114), (.int .i64 x115)]), (.lst [(.agg [(.int .i64 0), (.int .i64 0)]), (.agg [(.int .i64 4), (.int .i64 0)]), (.agg [(.int .i64 4), (.int .i64 4)]), (.agg [(.int .i64 0), (.int .i64 4)])])]) fun x116 =>
   cnd (x116 == 1)
   (C.agg 4 (pcall M d 34 [(.int .i64 3), (.int .i64 3), (.int .i64 5), (.int .i64 5)]) fun l117 =>
   C.int .i64 l117[0]? fun x118 =>
   C.int .i64 l117[1]? fun x119 =>
   C.int .i64 l117[2]? fun x120 =>
   C.int .i64 l117[3]? fun x121 =>
   C.int .i64 (pcall M d 27 [(.agg [(.int .i64 x118), (.int .i64 x119), (.int .i64 x120), (.int .i64 x121)]), (.lst [(.agg [(.int .i64 0), (.int .i64 0)]), (.agg [(.int .i64 4), (.int .i64 0)]), (.agg [(.int .i64 4), (.int .i64 4)]), (.agg [(.int .i64 0), (.int .i64 4)])])]) fun x122 =>
   cnd (x122 == 0)
   (C.agg 4 (pcall M d 34 [(.int .i64 6), (.int .i64 6), (.int .i64 7), (.int .i64 7)]) fun l123 =>
   C.int .i64 l123[0]? fun x124 =>
   C.int .i64 l123[1]? fun x125 =>
   C.int .i64 l123[2]? fun x126 =>
   C.int .i64 l123[3]? fun x127 =>
   C.int .i64 (pcall M d 27 [(.agg [(.int .i64 x124), (.int .i64 x125), (.int .i64 x126), (.int .i64 x127)]), (.lst [(.agg [(.int .i64 0), (.int .i64 0)]), (.agg [(.int .i64 4), (.int .i64 0)]), (.agg [(.int .i64 4), (.int .i64 4)]), (.agg [(.int .i64 0), (.int .i64 4)])])]) fun x128 =>
   cnd (x128 == (-1))
   (C.agg 4 (pcall M d 34 [(.int .i64 1), (.int .i64 1), (.int .i64 2), (.int .i64 2)]) fun l129 =>
   C.int .i64 l129[0]? fun x130 =>
   C.int .i64 l129[1]? fun x131 =>
   C.int .i64 l129[2]? fun x132 =>
   C.int .i64 l129[3]? fun x133 =>
   C.lst (pcall M d 22 [(.agg [(.int .i64 x130), (.int .i64 x131), (.int .i64 x132), (.int .i64 x133)])]) (fun l134 =>
   some (.bool ((((List.length l134) : Nat) : Int) == 4)))
   (fun z135 =>
   some (.bool false)))
   (some (.bool false)))
   (some (.bool false)))
   (some (.bool false)))
   (some (.bool false)))
   (some (.bool false)))
   (some (.bool false)))
   (some (.bool false)))
   (some (.bool false)))
   (some (.bool false)))
   (some (.bool false)))
   (some (.bool false)))
   (some (.bool false)))
   (some (.bool false)))
   (some (.bool false)))
   (some (.bool false)) := by kernel_rfl
end Go.Proofs.Ytjblhppbjebagaa.AE

namespace Go.Proofs.Ytjblhppbjebagaa.AE
set_option linter.unusedVariables false
set_option linter.unusedSimpArgs false
set_option linter.constructorNameAsVariable false
open Go Go.Proofs.Ytjblhppbjebagaa.Geo
set_option maxRecDepth 100000
def sq4 : List Pt := [(0, 0), (4, 0), (4, 4), (0, 4)]
theorem awake : pcall M 40 11 [] = some (.bool true) := told (r11 C0 39) (by
  have i1 : In64 1 := by unfold In64; omega
  have i2 : In64 2 := by unfold In64; omega
  have im : In64 (-1) := by unfold In64; omega
  refine Eq.trans (pl_agg (s34 38 _ _ _ _) (by rfl)) ?_
  refine Eq.trans (pl_int (by rfl)) ?_; refine Eq.trans (pl_int (by rfl)) ?_; refine Eq.trans (pl_int (by rfl)) ?_; refine Eq.trans (pl_int (by rfl)) ?_
  refine Eq.trans (pl_tup (s9 31 ((1, 1), (2, 2)) 1 i1 i1 i2 i2 i1) (by rfl)) ?_
  rw [show growX ((1, 1), (2, 2)) 1 = ((0, 0), (3, 3)) by kernel_rfl, show growB ((1, 1), (2, 2)) 1 = true by kernel_rfl]
  refine Eq.trans (pl_agg (by rfl) (by rfl)) ?_; refine Eq.trans (pl_int (by rfl)) ?_; refine Eq.trans (pl_int (by rfl)) ?_; refine Eq.trans (pl_int (by rfl)) ?_; refine Eq.trans (pl_int (by rfl)) ?_; refine Eq.trans (pl_bool (by rfl)) ?_
  refine Eq.trans (pl_agg (s34 38 _ _ _ _) (by rfl)) ?_
  refine Eq.trans (pl_int (by rfl)) ?_; refine Eq.trans (pl_int (by rfl)) ?_; refine Eq.trans (pl_int (by rfl)) ?_; refine Eq.trans (pl_int (by rfl)) ?_
  refine Eq.trans (pl_tup (s9 31 ((1, 1), (2, 2)) (-1) i1 i1 i2 i2 im) (by rfl)) ?_
  rw [show growX ((1, 1), (2, 2)) (-1) = ((0, 0), (0, 0)) by kernel_rfl, show growB ((1, 1), (2, 2)) (-1) = false by kernel_rfl]
  refine Eq.trans (pl_agg (by rfl) (by rfl)) ?_; refine Eq.trans (pl_int (by rfl)) ?_; refine Eq.trans (pl_int (by rfl)) ?_; refine Eq.trans (pl_int (by rfl)) ?_; refine Eq.trans (pl_int (by rfl)) ?_; refine Eq.trans (pl_bool (by rfl)) ?_
  refine Eq.trans (pl_agg (s34 38 _ _ _ _) (by rfl)) ?_
  refine Eq.trans (pl_int (by rfl)) ?_; refine Eq.trans (pl_int (by rfl)) ?_; refine Eq.trans (pl_int (by rfl)) ?_; refine Eq.trans (pl_int (by rfl)) ?_
  refine Eq.trans (pl_bool (s12 36 ((1, 1), (2, 2)))) ?_
  rw [show rightX ((1, 1), (2, 2)) = true by kernel_rfl]
  refine Eq.trans (pl_len (by rfl)) ?_
  refine Eq.trans (pl_agg (s34 38 _ _ _ _) (by rfl)) ?_
  refine Eq.trans (pl_int (by rfl)) ?_; refine Eq.trans (pl_int (by rfl)) ?_; refine Eq.trans (pl_int (by rfl)) ?_; refine Eq.trans (pl_int (by rfl)) ?_
  refine Eq.trans (pl_bool (s12 36 ((2, 1), (1, 2)))) ?_
  rw [show rightX ((2, 1), (1, 2)) = false by kernel_rfl]
  refine Eq.trans (pl_len (by rfl)) ?_
  refine Eq.trans (pl_agg (s14 36 (5, 0) 2) (by rfl)) ?_
  rw [show ofX (5, 0) 2 = ((3, -2), (7, 2)) by kernel_rfl]
  refine Eq.trans (pl_int (by rfl)) ?_; refine Eq.trans (pl_int (by rfl)) ?_; refine Eq.trans (pl_int (by rfl)) ?_; refine Eq.trans (pl_int (by rfl)) ?_
  refine Eq.trans (pl_agg (s34 38 _ _ _ _) (by rfl)) ?_
  refine Eq.trans (pl_int (by rfl)) ?_; refine Eq.trans (pl_int (by rfl)) ?_; refine Eq.trans (pl_int (by rfl)) ?_; refine Eq.trans (pl_int (by rfl)) ?_; refine Eq.trans (pl_len (by rfl)) ?_
  refine Eq.trans (pl_agg (s34 38 _ _ _ _) (by rfl)) ?_
  refine Eq.trans (pl_int (by rfl)) ?_; refine Eq.trans (pl_int (by rfl)) ?_; refine Eq.trans (pl_int (by rfl)) ?_; refine Eq.trans (pl_int (by rfl)) ?_
  refine Eq.trans (pl_bool (s15 35 ((1, 1), (2, 2)) (2, 1))) ?_
  rw [show hasX ((1, 1), (2, 2)) (2, 1) = true by kernel_rfl]
  refine Eq.trans (pl_len (by rfl)) ?_
  refine Eq.trans (pl_agg (s34 38 _ _ _ _) (by rfl)) ?_
  refine Eq.trans (pl_int (by rfl)) ?_; refine Eq.trans (pl_int (by rfl)) ?_; refine Eq.trans (pl_int (by rfl)) ?_; refine Eq.trans (pl_int (by rfl)) ?_
  refine Eq.trans (pl_agg (s34 38 _ _ _ _) (by rfl)) ?_
  refine Eq.trans (pl_int (by rfl)) ?_; refine Eq.trans (pl_int (by rfl)) ?_; refine Eq.trans (pl_int (by rfl)) ?_; refine Eq.trans (pl_int (by rfl)) ?_
  refine Eq.trans (pl_bool (s17 34 ((1, 1), (2, 2)) ((0, 1), (3, 3)))) ?_
  rw [show inX ((1, 1), (2, 2)) ((0, 1), (3, 3)) = true by kernel_rfl]
  refine Eq.trans (pl_len (by rfl)) ?_
  refine Eq.trans (pl_agg (s34 38 _ _ _ _) (by rfl)) ?_
  refine Eq.trans (pl_int (by rfl)) ?_; refine Eq.trans (pl_int (by rfl)) ?_; refine Eq.trans (pl_int (by rfl)) ?_; refine Eq.trans (pl_int (by rfl)) ?_
  refine Eq.trans (pl_agg (s34 38 _ _ _ _) (by rfl)) ?_
  refine Eq.trans (pl_int (by rfl)) ?_; refine Eq.trans (pl_int (by rfl)) ?_; refine Eq.trans (pl_int (by rfl)) ?_; refine Eq.trans (pl_int (by rfl)) ?_
  refine Eq.trans (pl_bool (s17 34 ((0, 1), (3, 3)) ((1, 1), (2, 2)))) ?_
  rw [show inX ((0, 1), (3, 3)) ((1, 1), (2, 2)) = false by kernel_rfl]
  refine Eq.trans (pl_len (by rfl)) ?_
  refine Eq.trans (pl_agg (s34 38 _ _ _ _) (by rfl)) ?_
  refine Eq.trans (pl_int (by rfl)) ?_; refine Eq.trans (pl_int (by rfl)) ?_; refine Eq.trans (pl_int (by rfl)) ?_; refine Eq.trans (pl_int (by rfl)) ?_
  refine Eq.trans (pl_agg (s34 38 _ _ _ _) (by rfl)) ?_
  refine Eq.trans (pl_int (by rfl)) ?_; refine Eq.trans (pl_int (by rfl)) ?_; refine Eq.trans (pl_int (by rfl)) ?_; refine Eq.trans (pl_int (by rfl)) ?_
  refine Eq.trans (pl_agg (s19 35 ((0, 0), (1, 1)) ((3, 3), (4, 4))) (by rfl)) ?_
  rw [show joinX ((0, 0), (1, 1)) ((3, 3), (4, 4)) = ((0, 0), (4, 4)) by kernel_rfl]
  refine Eq.trans (pl_int (by rfl)) ?_; refine Eq.trans (pl_int (by rfl)) ?_; refine Eq.trans (pl_int (by rfl)) ?_; refine Eq.trans (pl_int (by rfl)) ?_
  refine Eq.trans (pl_agg (s34 38 _ _ _ _) (by rfl)) ?_
  refine Eq.trans (pl_int (by rfl)) ?_; refine Eq.trans (pl_int (by rfl)) ?_; refine Eq.trans (pl_int (by rfl)) ?_; refine Eq.trans (pl_int (by rfl)) ?_; refine Eq.trans (pl_len (by rfl)) ?_
  refine Eq.trans (pl_agg (s34 38 _ _ _ _) (by rfl)) ?_
  refine Eq.trans (pl_int (by rfl)) ?_; refine Eq.trans (pl_int (by rfl)) ?_; refine Eq.trans (pl_int (by rfl)) ?_; refine Eq.trans (pl_int (by rfl)) ?_; refine Eq.trans (pl_len (by rfl)) ?_; refine Eq.trans (pl_len (by rfl)) ?_; refine Eq.trans (pl_len (by rfl)) ?_
  refine Eq.trans (pl_agg (s34 38 _ _ _ _) (by rfl)) ?_
  refine Eq.trans (pl_int (by rfl)) ?_; refine Eq.trans (pl_int (by rfl)) ?_; refine Eq.trans (pl_int (by rfl)) ?_; refine Eq.trans (pl_int (by rfl)) ?_
  refine Eq.trans (pl_bool (s24 27 ((1, 1), (2, 2)) (0, 0) (3, 3))) ?_
  rw [show meetsX ((1, 1), (2, 2)) (0, 0) (3, 3) = true by kernel_rfl]
  refine Eq.trans (pl_len (by rfl)) ?_
  refine Eq.trans (pl_agg (s34 38 _ _ _ _) (by rfl)) ?_
  refine Eq.trans (pl_int (by rfl)) ?_; refine Eq.trans (pl_int (by rfl)) ?_; refine Eq.trans (pl_int (by rfl)) ?_; refine Eq.trans (pl_int (by rfl)) ?_
  refine Eq.trans (pl_bool (s24 27 ((1, 1), (2, 2)) (0, 0) (3, 0))) ?_
  rw [show meetsX ((1, 1), (2, 2)) (0, 0) (3, 0) = false by kernel_rfl]
  refine Eq.trans (pl_len (by rfl)) ?_
  refine Eq.trans (pl_agg (s34 38 _ _ _ _) (by rfl)) ?_
  refine Eq.trans (pl_int (by rfl)) ?_; refine Eq.trans (pl_int (by rfl)) ?_; refine Eq.trans (pl_int (by rfl)) ?_; refine Eq.trans (pl_int (by rfl)) ?_
  refine Eq.trans (pl_int (s27 25 ((1, 1), (2, 2)) sq4 (by decide))) ?_
  rw [show relX ((1, 1), (2, 2)) sq4 = 1 by kernel_rfl]
  refine Eq.trans (pl_len (by rfl)) ?_
  refine Eq.trans (pl_agg (s34 38 _ _ _ _) (by rfl)) ?_
  refine Eq.trans (pl_int (by rfl)) ?_; refine Eq.trans (pl_int (by rfl)) ?_; refine Eq.trans (pl_int (by rfl)) ?_; refine Eq.trans (pl_int (by rfl)) ?_
  refine Eq.trans (pl_int (s27 25 ((3, 3), (5, 5)) sq4 (by decide))) ?_
  rw [show relX ((3, 3), (5, 5)) sq4 = 0 by kernel_rfl]
  refine Eq.trans (pl_len (by rfl)) ?_
  refine Eq.trans (pl_agg (s34 38 _ _ _ _) (by rfl)) ?_
  refine Eq.trans (pl_int (by rfl)) ?_; refine Eq.trans (pl_int (by rfl)) ?_; refine Eq.trans (pl_int (by rfl)) ?_; refine Eq.trans (pl_int (by rfl)) ?_
  refine Eq.trans (pl_int (s27 25 ((6, 6), (7, 7)) sq4 (by decide))) ?_
  rw [show relX ((6, 6), (7, 7)) sq4 = -1 by kernel_rfl]
  refine Eq.trans (pl_len (by rfl)) ?_
  refine Eq.trans (pl_agg (s34 38 _ _ _ _) (by rfl)) ?_
  refine Eq.trans (pl_int (by rfl)) ?_; refine Eq.trans (pl_int (by rfl)) ?_; refine Eq.trans (pl_int (by rfl)) ?_; refine Eq.trans (pl_int (by rfl)) ?_
  refine Eq.trans (pl_lst (s22 35 ((1, 1), (2, 2)) (by kernel_rfl))) ?_
  rfl)
end Go.Proofs.Ytjblhppbjebagaa.AE

namespace Go.Proofs.Ytjblhppbjebagaa.AE
set_option linter.unusedVariables false
set_option linter.unusedSimpArgs false
set_option linter.constructorNameAsVariable false
open Go
set_option maxRecDepth 100000
/-- apogee/apogeelaw12.BoxTells -/
theorem r3 (C : Cb) (d : Nat) (a0 a1 a2 a3 a4 a5 a6 a7 a8 a9 a10 : Int) : xcall C M unr d 3 [(.agg [(.int .i64 a0), (.int .i64 a1), (.int .i64 a2), (.int .i64 a3)]), (.agg [(.int .i64 a4), (.int .i64 a5), (.int .i64 a6), (.int .i64 a7)]), (.agg [(.int .i64 a8), (.int .i64 a9)]), (.int .i64 a10)] =
  C.tup 2 (pcall M d 9 [(.agg [(.int .i64 a0), (.int .i64 a1), (.int .i64 a2), (.int .i64 a3)]), (.int .i64 a10)]) fun l0 =>
  C.agg 4 l0[0]? fun l1 =>
  C.int .i64 l1[0]? fun x2 =>
  C.int .i64 l1[1]? fun x3 =>
  C.int .i64 l1[2]? fun x4 =>
  C.int .i64 l1[3]? fun x5 =>
  C.bool l0[1]? fun b6 =>
  C.agg 4 (pcall M d 10 [(.agg [(.int .i64 a8), (.int .i64 a9)]), (.int .i64 a10)]) fun l7 =>
  C.int .i64 l7[0]? fun x8 =>
  C.int .i64 l7[1]? fun x9 =>
  C.int .i64 l7[2]? fun x10 =>
  C.int .i64 l7[3]? fun x11 =>
  C.bool (pcall M d 11 []) fun b12 =>
  cnd (!b12)
   (some (.bool false))
   (C.bool (pcall M d 12 [(.agg [(.int .i64 a0), (.int .i64 a1), (.int .i64 a2), (.int .i64 a3)])]) fun b13 =>
   C.bool (pcall M d 13 [(.agg [(.int .i64 a0), (.int .i64 a1), (.int .i64 a2), (.int .i64 a3)])]) fun b14 =>
   cnd (xor true (b13 == b14))
   (some (.bool false))
   (C.agg 4 (pcall M d 14 [(.agg [(.int .i64 a8), (.int .i64 a9)]), (.int .i64 a10)]) fun l15 =>
   C.int .i64 l15[0]? fun x16 =>
   C.int .i64 l15[1]? fun x17 =>
   C.int .i64 l15[2]? fun x18 =>
   C.int .i64 l15[3]? fun x19 =>
   cnd (xor true ((x16 == x8) && ((x17 == x9) && ((x18 == x10) && ((x19 == x11) && true)))))
   (some (.bool false))
   (C.bool (pcall M d 15 [(.agg [(.int .i64 a0), (.int .i64 a1), (.int .i64 a2), (.int .i64 a3)]), (.agg [(.int .i64 a8), (.int .i64 a9)])]) fun b20 =>
   C.bool (pcall M d 16 [(.agg [(.int .i64 a0), (.int .i64 a1), (.int .i64 a2), (.int .i64 a3)]), (.agg [(.int .i64 a8), (.int .i64 a9)])]) fun b21 =>
   cnd (xor true (b20 == b21))
   (some (.bool false))
   (C.bool (pcall M d 17 [(.agg [(.int .i64 a0), (.int .i64 a1), (.int .i64 a2), (.int .i64 a3)]), (.agg [(.int .i64 a4), (.int .i64 a5), (.int .i64 a6), (.int .i64 a7)])]) fun b22 =>
   C.bool (pcall M d 18 [(.agg [(.int .i64 a0), (.int .i64 a1), (.int .i64 a2), (.int .i64 a3)]), (.agg [(.int .i64 a4), (.int .i64 a5), (.int .i64 a6), (.int .i64 a7)])]) fun b23 =>
   cnd (xor true (b22 == b23))
   (some (.bool false))
   (C.agg 4 (pcall M d 19 [(.agg [(.int .i64 a0), (.int .i64 a1), (.int .i64 a2), (.int .i64 a3)]), (.agg [(.int .i64 a4), (.int .i64 a5), (.int .i64 a6), (.int .i64 a7)])]) fun l24 =>
   C.int .i64 l24[0]? fun x25 =>
   C.int .i64 l24[1]? fun x26 =>
   C.int .i64 l24[2]? fun x27 =>
   C.int .i64 l24[3]? fun x28 =>
   C.agg 4 (pcall M d 20 [(.agg [(.int .i64 a0), (.int .i64 a1), (.int .i64 a2), (.int .i64 a3)]), (.agg [(.int .i64 a4), (.int .i64 a5), (.int .i64 a6), (.int .i64 a7)])]) fun l29 =>
   C.int .i64 l29[0]? fun x30 =>
   C.int .i64 l29[1]? fun x31 =>
   C.int .i64 l29[2]? fun x32 =>
   C.int .i64 l29[3]? fun x33 =>
   cnd (xor true ((x25 == x30) && ((x26 == x31) && ((x27 == x32) && ((x28 == x33) && true)))))
   (some (.bool false))
   (C.lst (pcall M d 22 [(.agg [(.int .i64 a0), (.int .i64 a1), (.int .i64 a2), (.int .i64 a3)])]) (fun l34 =>
   C.lst (pcall M d 23 [(.agg [(.int .i64 a0), (.int .i64 a1), (.int .i64 a2), (.int .i64 a3)])]) (fun l36 =>
   C.bool (pcall M d 21 [(.lst l34), (.lst l36)]) fun b38 =>
   cnd (!b38)
   (some (.bool false))
   (cnd (!b6)
   (cnd (xor false ((x2 == 0) && ((x3 == 0) && ((x4 == 0) && ((x5 == 0) && true)))))
   (cnd (decide (a10 < 0))
   (some (.bool true))
   (C.bool (pcall M d 13 [(.agg [(.int .i64 a0), (.int .i64 a1), (.int .i64 a2), (.int .i64 a3)])]) fun b39 =>
   cnd (!b39)
   (some (.bool true))
   (cnd (decide (a10 > 2199023255552))
   (some (.bool true))
   (C.bool (pcall M d 13 [(.agg [(.int .i64 (IntKind.wrap .i64 (a0 - a10))), (.int .i64 (IntKind.wrap .i64 (a1 - a10))), (.int .i64 (IntKind.wrap .i64 (a2 + a10))), (.int .i64 (IntKind.wrap .i64 (a3 + a10)))])]) fun b40 =>
   some (.bool (!b40))))))
   (some (.bool false)))
   (cnd (xor false ((x2 == (IntKind.wrap .i64 (a0 - a10))) && ((x3 == (IntKind.wrap .i64 (a1 - a10))) && ((x4 == (IntKind.wrap .i64 (a2 + a10))) && ((x5 == (IntKind.wrap .i64 (a3 + a10))) && true)))))
   (C.bool (pcall M d 17 [(.agg [(.int .i64 a0), (.int .i64 a1), (.int .i64 a2), (.int .i64 a3)]), (.agg [(.int .i64 x2), (.int .i64 x3), (.int .i64 x4), (.int .i64 x5)])]) fun b41 =>
   some (.bool b41))
   (some (.bool false)))))
   (fun z37 =>
   C.bool (pcall M d 21 [(.lst l34), (.zsl z37)]) fun b42 =>
   cnd (!b42)
   (some (.bool false))
   (cnd (!b6)
   (cnd (xor false ((x2 == 0) && ((x3 == 0) && ((x4 == 0) && ((x5 == 0) && true)))))
   (cnd (decide (a10 < 0))
   (some (.bool true))
   (C.bool (pcall M d 13 [(.agg [(.int .i64 a0), (.int .i64 a1), (.int .i64 a2), (.int .i64 a3)])]) fun b43 =>
   cnd (!b43)
   (some (.bool true))
   (cnd (decide (a10 > 2199023255552))
   (some (.bool true))
   (C.bool (pcall M d 13 [(.agg [(.int .i64 (IntKind.wrap .i64 (a0 - a10))), (.int .i64 (IntKind.wrap .i64 (a1 - a10))), (.int .i64 (IntKind.wrap .i64 (a2 + a10))), (.int .i64 (IntKind.wrap .i64 (a3 + a10)))])]) fun b44 =>
   some (.bool (!b44))))))
   (some (.bool false)))
   (cnd (xor false ((x2 == (IntKind.wrap .i64 (a0 - a10))) && ((x3 == (IntKind.wrap .i64 (a1 - a10))) && ((x4 == (IntKind.wrap .i64 (a2 + a10))) && ((x5 == (IntKind.wrap .i64 (a3 + a10))) && true)))))
   (C.bool (pcall M d 17 [(.agg [(.int .i64 a0), (.int .i64 a1), (.int .i64 a2), (.int .i64 a3)]), (.agg [(.int .i64 x2), (.int .i64 x3), (.int .i64 x4), (.int .i64 x5)])]) fun b45 =>
   some (.bool b45))
   (some (.bool false))))))
   (fun z35 =>
   C.lst (pcall M d 23 [(.agg [(.int .i64 a0), (.int .i64 a1), (.int .i64 a2), (.int .i64 a3)])]) (fun l46 =>
   C.bool (pcall M d 21 [(.zsl z35), (.lst l46)]) fun b48 =>
   cnd (!b48)
   (some (.bool false))
   (cnd (!b6)
   (cnd (xor false ((x2 == 0) && ((x3 == 0) && ((x4 == 0) && ((x5 == 0) && true)))))
   (cnd (decide (a10 < 0))
   (some (.bool true))
   (C.bool (pcall M d 13 [(.agg [(.int .i64 a0), (.int .i64 a1), (.int .i64 a2), (.int .i64 a3)])]) fun b49 =>
   cnd (!b49)
   (some (.bool true))
   (cnd (decide (a10 > 2199023255552))
   (some (.bool true))
   (C.bool (pcall M d 13 [(.agg [(.int .i64 (IntKind.wrap .i64 (a0 - a10))), (.int .i64 (IntKind.wrap .i64 (a1 - a10))), (.int .i64 (IntKind.wrap .i64 (a2 + a10))), (.int .i64 (IntKind.wrap .i64 (a3 + a10)))])]) fun b50 =>
   some (.bool (!b50))))))
   (some (.bool false)))
   (cnd (xor false ((x2 == (IntKind.wrap .i64 (a0 - a10))) && ((x3 == (IntKind.wrap .i64 (a1 - a10))) && ((x4 == (IntKind.wrap .i64 (a2 + a10))) && ((x5 == (IntKind.wrap .i64 (a3 + a10))) && true)))))
   (C.bool (pcall M d 17 [(.agg [(.int .i64 a0), (.int .i64 a1), (.int .i64 a2), (.int .i64 a3)]), (.agg [(.int .i64 x2), (.int .i64 x3), (.int .i64 x4), (.int .i64 x5)])]) fun b51 =>
   some (.bool b51))
   (some (.bool false)))))
   (fun z47 =>
   C.bool (pcall M d 21 [(.zsl z35), (.zsl z47)]) fun b52 =>
   cnd (!b52)
   (some (.bool false))
   (cnd (!b6)
   (cnd (xor false ((x2 == 0) && ((x3 == 0) && ((x4 == 0) && ((x5 == 0) && true)))))
   (cnd (decide (a10 < 0))
   (some (.bool true))
   (C.bool (pcall M d 13 [(.agg [(.int .i64 a0), (.int .i64 a1), (.int .i64 a2), (.int .i64 a3)])]) fun b53 =>
   cnd (!b53)
   (some (.bool true))
   (cnd (decide (a10 > 2199023255552))
   (some (.bool true))
   (C.bool (pcall M d 13 [(.agg [(.int .i64 (IntKind.wrap .i64 (a0 - a10))), (.int .i64 (IntKind.wrap .i64 (a1 - a10))), (.int .i64 (IntKind.wrap .i64 (a2 + a10))), (.int .i64 (IntKind.wrap .i64 (a3 + a10)))])]) fun b54 =>
   some (.bool (!b54))))))
   (some (.bool false)))
   (cnd (xor false ((x2 == (IntKind.wrap .i64 (a0 - a10))) && ((x3 == (IntKind.wrap .i64 (a1 - a10))) && ((x4 == (IntKind.wrap .i64 (a2 + a10))) && ((x5 == (IntKind.wrap .i64 (a3 + a10))) && true)))))
   (C.bool (pcall M d 17 [(.agg [(.int .i64 a0), (.int .i64 a1), (.int .i64 a2), (.int .i64 a3)]), (.agg [(.int .i64 x2), (.int .i64 x3), (.int .i64 x4), (.int .i64 x5)])]) fun b55 =>
   some (.bool b55))
   (some (.bool false)))))))))))) := by kernel_rfl
end Go.Proofs.Ytjblhppbjebagaa.AE

namespace Go.Proofs.Ytjblhppbjebagaa.AE
set_option linter.unusedVariables false
set_option linter.unusedSimpArgs false
set_option linter.constructorNameAsVariable false
open Go Go.RowKit

theorem frl_nil {w : World} {bad : Nat → Prop} : ∀ (i : Nat) (c : AV) (u : Value), ([] : List AV)[i]? = some c → ([] : List Value)[i]? = some u → FRep w bad c u := fun _ _ _ h => by cases h
theorem frl_cons {w : World} {bad : Nat → Prop} {c0 : AV} {u0 : Value} {cs : List AV} {us : List Value} (h0 : FRep w bad c0 u0) (h : ∀ (i : Nat) (c : AV) (u : Value), cs[i]? = some c → us[i]? = some u → FRep w bad c u) :
    ∀ (i : Nat) (c : AV) (u : Value), (c0 :: cs)[i]? = some c → (u0 :: us)[i]? = some u → FRep w bad c u
  | 0, c, u, hc, hu => by cases hc; cases hu; exact h0
  | i + 1, c, u, hc, hu => h i c u hc hu
theorem law_calls {d : Nat} {g : FuncId} {args : List AV} {vs : List Value} (h : pcall M d g args = some (.bool true)) (W : World) (hl : args.length = vs.length)
    (hr : ∀ (i : Nat) (c : AV) (u : Value), args[i]? = some c → vs[i]? = some u → FRep W (fun _ => False) c u) : Calls Try.prog g vs.toArray W fun e W' => e = .returned (.bool true) ∧ Below W.heap.size W W' := by
  refine (pcall_law modOK d g args _ h W (fun _ => False) vs (fun _ h => h.elim) hl hr).mono ?_
  rintro e W' ⟨cv, rfl, hf, hb⟩
  cases hf
  exact ⟨rfl, hb⟩
end Go.Proofs.Ytjblhppbjebagaa.AE
