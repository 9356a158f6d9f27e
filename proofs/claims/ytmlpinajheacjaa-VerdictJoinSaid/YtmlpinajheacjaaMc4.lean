/- The texts that the seat's laws need, part 4. No conditions. -/
import Derived.ChangeArms
import Derived.WideShapes
import Derived.OpenShut
import Derived.Deep.Slices
import Derived.Test.YtmlpinajheacjaaMc3
namespace Go.Proofs.Ytmlpinajheacjaa.AE
set_option linter.unusedVariables false
set_option linter.unusedSimpArgs false
set_option linter.constructorNameAsVariable false
open Go
set_option maxRecDepth 100000
set_option maxHeartbeats 0
noncomputable def X18_0_0 (d : Nat) (a0 : List AV)  : Ans :=
  C0.bool (pcall M d 28 [(.lst a0)]) fun b102 =>
   some (.bool b102)
theorem X18_0_0_ok (d : Nat) (a0 : List AV) (b59 : Bool) (x60 x61 : Int) (v62 : AV) (x63 : Int) (b64 b65 : Bool) (v66 v67 v68 : AV) (b69 : Bool) (v70 v71 v72 v73 v74 v75 v76 v77 v78 v79 v80 v81 v82 v83 v84 v85 v86 v87 v88 v89 v90 v91 v92 v93 v94 v95 v96 v97 v98 v99 v100 v101 : AV) : r18X0_0 C0 d a0 ⟨[(.lst a0), tz, (.bool b59), (iz x60), (iz x61), v62, (iz x63), (.bool b64), (.bool b65), v66, v67, v68, (.bool b69), v70, v71, v72, v73, v74, v75, v76, v77, v78, v79, v80, v81, v82, v83, v84, v85, v86, v87, v88, v89, v90, v91, v92, v93, v94, v95, v96, v97, v98, v99, v100, v101, tz, tz], []⟩ = X18_0_0 d a0  := by
  unfold r18X0_0; refine Eq.trans (pl_len (by rfl)) ?_; (iterate 2 (refine yt yS ?_)); refine yt yB ?_; (iterate 2 (refine yt yI ?_)); refine yt yA ?_; refine yt yI ?_; (iterate 2 (refine yt yB ?_)); (iterate 3 (refine yt yA ?_)); refine yt yB ?_; (iterate 32 (refine yt yA ?_)); (iterate 2 (refine yt yS ?_)); refine Eq.trans (pl_sameH) ?_
  rfl
noncomputable def E18_0 (d : Nat) (a0 : List AV) (b103 : Bool) : Ans :=
  some (.bool b103)
theorem E18_0_ok (d : Nat) (a0 : List AV) (b103 : Bool) (x104 x105 : Int) (v106 : AV) (x107 : Int) (b108 b109 : Bool) (v110 v111 v112 : AV) (b113 : Bool) (v114 v115 v116 : AV) (x117 : Int) (v118 v119 : AV) (x120 : Int) (b121 b122 : Bool) (v123 v124 v125 v126 v127 v128 : AV) (b129 b130 : Bool) (v131 v132 v133 v134 v135 v136 : AV) (b137 b138 : Bool) (v139 v140 v141 v142 v143 v144 : AV) (b145 : Bool) : r18E0 C0 d a0 ⟨[(.lst a0), tz, (.bool b103), (iz x104), (iz x105), v106, (iz x107), (.bool b108), (.bool b109), v110, v111, v112, (.bool b113), v114, v115, v116, (iz x117), v118, v119, (iz x120), (.bool b121), (.bool b122), v123, v124, v125, v126, v127, v128, (.bool b129), (.bool b130), v131, v132, v133, v134, v135, v136, (.bool b137), (.bool b138), v139, v140, v141, v142, v143, v144, (.bool b145), tz, tz], []⟩ = E18_0 d a0 b103 := by
  unfold r18E0; refine Eq.trans (pl_len (by rfl)) ?_; (iterate 2 (refine yt yS ?_)); refine yt yB ?_; (iterate 2 (refine yt yI ?_)); refine yt yA ?_; refine yt yI ?_; (iterate 2 (refine yt yB ?_)); (iterate 3 (refine yt yA ?_)); refine yt yB ?_; (iterate 3 (refine yt yA ?_)); refine yt yI ?_; (iterate 2 (refine yt yA ?_)); refine yt yI ?_; (iterate 2 (refine yt yB ?_)); (iterate 6 (refine yt yA ?_)); (iterate 2 (refine yt yB ?_)); (iterate 6 (refine yt yA ?_)); (iterate 2 (refine yt yB ?_)); (iterate 6 (refine yt yA ?_)); refine yt yB ?_; (iterate 2 (refine yt yS ?_)); refine Eq.trans (pl_sameH) ?_
  rfl
noncomputable def L18_0 (d : Nat) (a0 : List AV) : Nat → Int → Ans
  | 0, _ => none
  | n + 1, x4 =>
  cnd (decide (x4 < (((List.length a0) : Nat) : Int)))
   (cnd (decide ((((List.length a0) : Nat) : Int) ≤ 8))
   (cnd (decide (0 ≤ x4))
   (C0.agg 2 a0[(Int.toNat x4)]? fun l46 =>
   C0.int .i64 l46[0]? fun x47 =>
   C0.int .i64 l46[1]? fun x48 =>
   cnd (decide (x47 < (-1073741824)))
   (E18_0 d a0 false)
   (cnd (decide (0 ≤ x4))
   (C0.agg 2 a0[(Int.toNat x4)]? fun l49 =>
   C0.int .i64 l49[0]? fun x50 =>
   C0.int .i64 l49[1]? fun x51 =>
   cnd (decide (x50 > 1073741824))
   (E18_0 d a0 false)
   (cnd (decide (0 ≤ x4))
   (C0.agg 2 a0[(Int.toNat x4)]? fun l52 =>
   C0.int .i64 l52[0]? fun x53 =>
   C0.int .i64 l52[1]? fun x54 =>
   cnd (decide (x54 < (-1073741824)))
   (E18_0 d a0 false)
   (cnd (decide (0 ≤ x4))
   (C0.agg 2 a0[(Int.toNat x4)]? fun l55 =>
   C0.int .i64 l55[0]? fun x56 =>
   C0.int .i64 l55[1]? fun x57 =>
   cnd (decide (x57 > 1073741824))
   (E18_0 d a0 false)
   (L18_0 d a0 n (IntKind.wrap .i64 (x4 + 1))))
   (none)))
   (none)))
   (none)))
   (none))
   (X18_0_0 d a0))
   (X18_0_0 d a0)
theorem it18_0 (d : Nat) (a0 : List AV)   : ∀ (n : Nat) (b3 : Bool) (x4 : Int) (v5 v6 v7 v8 v9 v10 v11 v12 v13 v14 v15 v16 v17 v18 v19 v20 v21 v22 v23 v24 v25 v26 v27 v28 v29 v30 v31 v32 v33 v34 v35 v36 v37 v38 v39 v40 v41 v42 v43 v44 v45 : AV), C0.iter (r18R0 C0 d a0) n ⟨[(.lst a0), tz, (.bool b3), (iz x4), v5, v6, v7, v8, v9, v10, v11, v12, v13, v14, v15, v16, v17, v18, v19, v20, v21, v22, v23, v24, v25, v26, v27, v28, v29, v30, v31, v32, v33, v34, v35, v36, v37, v38, v39, v40, v41, v42, v43, v44, v45, tz, tz], []⟩ [0] [r18X0_0 C0 d a0] (r18E0 C0 d a0) = L18_0 d a0 n x4 := by
  generalize hR : r18R0 C0 d a0 = R
  intro n
  induction n with
  | zero => intros; rfl
  | succ n ih =>
    intro b3 x4 v5 v6 v7 v8 v9 v10 v11 v12 v13 v14 v15 v16 v17 v18 v19 v20 v21 v22 v23 v24 v25 v26 v27 v28 v29 v30 v31 v32 v33 v34 v35 v36 v37 v38 v39 v40 v41 v42 v43 v44 v45
    simp only [it_ret] at ih
    rw [it_ret, xiter_s]
    refine Eq.trans (congrFun (congrFun hR.symm _) _) ?_
    unfold r18R0
    refine Eq.trans (pl_len (by rfl)) ?_; (iterate 2 (refine yt yS ?_)); refine yt yB ?_; refine yt yI ?_; (iterate 41 (refine yt yA ?_)); (iterate 2 (refine yt yS ?_)); refine Eq.trans (pl_sameH) ?_
    simp only [L18_0, kIter_n, kIter_x, kIter_r, kOut_x, kOut_r, xgo_hit, xgo_miss, ih, X18_0_0_ok d a0  , E18_0_ok d a0  ]
/-- apogee/apogeeref11.Right -/
theorem q18 (d : Nat) (a0 : List AV) : xcall C0 M unr d 18 [(.lst a0)] =
  L18_0 d a0 1000000000000000000 0 := (r18 C0 d a0).trans (by simp only [it18_0])
noncomputable def X28_2_0 (d : Nat) (a0 : List AV) (x2 x45 : Int) (k42N : Int → Heap → Ans) (k42R : Bool → Heap → Ans) (H : Heap) : Ans :=
  k42N (IntKind.wrap .i64 (x45 + 1)) H
theorem X28_2_0_ok (d : Nat) (a0 : List AV) (x2 x29 x30 x31 : Int) (b32 : Bool) (v33 v34 v35 v36 v37 v38 v39 v40 : AV) (k42 : Ex → St → Ans) (x45 : Int) (v54 v55 : AV) (k42N : Int → Heap → Ans) (k42R : Bool → Heap → Ans) (hk42N : ∀ (b44 : Bool) (x45 : Int) (v46 v47 v48 v49 v50 v51 v52 v53 v54 v55 v56 v57 v58 v59 v60 v61 v62 v63 v64 v65 v66 v67 v68 v69 v70 v71 v72 v73 v74 v75 v76 v77 v78 v79 v80 v81 v82 v83 v84 v85 v86 v87 v88 v89 v90 v91 v92 v93 v94 v95 v96 v97 v98 v99 v100 v101 v102 v103 v104 v105 v106 v107 v108 v109 v110 v111 v112 v113 v114 v115 v116 v117 v118 v119 v120 : AV) (H : Heap), k42 .normal ⟨[(.lst a0), tz, (.bool b44), (iz x2), (iz x29), (iz x45), v46, v47, v48, v49, v50, (.lst a0), (iz x2), (iz x2), (.bool (decide (x2 < 3))), bf, (iz x2), (.bool (decide (x2 > 8))), bf, (iz x30), (iz x31), (.bool b32), v33, v34, v35, v36, v37, v38, v39, v40, v51, v52, v53, v54, v55, v56, v57, v58, v59, v60, v61, v62, v63, v64, v65, v66, v67, v68, v69, v70, v71, v72, v73, v74, v75, v76, v77, v78, v79, v80, v81, v82, v83, v84, v85, v86, v87, v88, v89, v90, v91, v92, v93, v94, v95, v96, v97, v98, v99, v100, v101, v102, v103, v104, v105, v106, v107, v108, v109, v110, v111, v112, v113, v114, v115, v116, v117, v118, v119, v120], H⟩ = k42N x45 H) (hk42R : ∀ (b578 : Bool) (x579 x580 : Int) (v581 v582 v583 v584 : AV) (x585 x586 : Int) (b587 : Bool) (v588 v589 : AV) (x590 x591 x592 x593 : Int) (b594 : Bool) (v595 v596 v597 : AV) (x598 : Int) (v599 : AV) (x601 x602 : Int) (v603 : AV) (x604 x606 x607 : Int) (v608 : AV) (x609 : Int) (v610 : AV) (x612 x613 : Int) (v614 : AV) (x615 x617 x618 : Int) (b619 : Bool) (x621 x622 x624 x625 : Int) (b626 : Bool) (v627 v628 v629 v630 v631 v632 v633 v634 v635 v636 v637 v638 v639 v640 v641 v642 v643 v644 v645 v646 v647 v648 v649 v650 v651 v652 v653 v654 v655 v656 v657 v658 v659 v660 v661 v662 v663 v664 v665 v666 : AV) (H : Heap), k42 .ret ⟨[(.lst a0), tz, (.bool b578), (iz x2), (iz x29), (iz x579), (iz x580), v581, v582, v583, v584, (.lst a0), (iz x2), (iz x2), (.bool (decide (x2 < 3))), bf, (iz x2), (.bool (decide (x2 > 8))), bf, (iz x30), (iz x31), (.bool b32), v33, v34, v35, v36, v37, v38, v39, v40, (iz x585), (iz x586), (.bool b587), v588, v589, (iz x590), (iz x591), (iz x592), (iz x593), (.bool b594), v595, v596, v597, (iz x598), v599, (.agg [(iz x601), (iz x602)]), v603, (iz x604), (.agg [(iz x606), (iz x607)]), v608, (iz x609), v610, (.agg [(iz x612), (iz x613)]), v614, (iz x615), (.agg [(iz x617), (iz x618)]), (.bool b619), (.agg [(iz x621), (iz x622)]), (.agg [(iz x624), (iz x625)]), (.bool b626), v627, v628, v629, v630, v631, v632, v633, v634, v635, v636, v637, v638, v639, v640, v641, v642, v643, v644, v645, v646, v647, v648, v649, v650, v651, v652, v653, v654, v655, v656, v657, v658, v659, v660, v661, v662, v663, v664, v665, v666], H⟩ = k42R b578 H) (b350 : Bool) (x351 : Int) (v352 v353 v354 v355 : AV) (x356 x357 : Int) (b358 : Bool) (v359 v360 v361 v362 v363 v364 v365 v366 v367 v368 v369 v370 v371 v372 v373 v374 v375 v376 v377 v378 v379 v380 v381 v382 v383 v384 v385 v386 v387 v388 v389 v390 v391 v392 v393 v394 v395 v396 v397 v398 v399 v400 v401 v402 v403 v404 v405 v406 v407 v408 v409 v410 v411 v412 v413 v414 v415 v416 v417 v418 : AV) (H : Heap) : r28X2_0 C0 d a0 x2 x29 x30 x31 b32 v33 v34 v35 v36 v37 v38 v39 v40 k42 x45 v54 v55 ⟨[(.lst a0), tz, (.bool b350), (iz x2), (iz x29), (iz x45), (iz x351), v352, v353, v354, v355, (.lst a0), (iz x2), (iz x2), (.bool (decide (x2 < 3))), bf, (iz x2), (.bool (decide (x2 > 8))), bf, (iz x30), (iz x31), (.bool b32), v33, v34, v35, v36, v37, v38, v39, v40, (iz x45), (iz x2), bt, v54, v55, (iz x45), (iz (IntKind.wrap .i64 (x45 + 1))), (iz x356), (iz x357), (.bool b358), v359, v360, v361, v362, v363, v364, v365, v366, v367, v368, v369, v370, v371, v372, v373, v374, v375, v376, v377, v378, v379, v380, v381, v382, v383, v384, v385, v386, v387, v388, v389, v390, v391, v392, v393, v394, v395, v396, v397, v398, v399, v400, v401, v402, v403, v404, v405, v406, v407, v408, v409, v410, v411, v412, v413, v414, v415, v416, v417, v418], H⟩ = X28_2_0 d a0 x2 x45 k42N k42R H := by
  try dsimp only at hk42N
  try dsimp only at hk42R
  unfold r28X2_0; refine Eq.trans (pl_len (by rfl)) ?_; (iterate 2 (refine yt yS ?_)); refine yt yB ?_; (iterate 3 (refine yt yS ?_)); refine yt yI ?_; (iterate 4 (refine yt yA ?_)); (iterate 26 (refine yt yS ?_)); (iterate 2 (refine yt yI ?_)); refine yt yB ?_; (iterate 60 (refine yt yA ?_))
  first | (simp only [hk42N, hk42R] <;> rfl) | rfl
noncomputable def E28_2 (d : Nat) (a0 : List AV) (x2 x45 : Int) (k42N : Int → Heap → Ans) (k42R : Bool → Heap → Ans) (b419 : Bool) (H : Heap) : Ans :=
  k42R b419 H
theorem E28_2_ok (d : Nat) (a0 : List AV) (x2 x29 x30 x31 : Int) (b32 : Bool) (v33 v34 v35 v36 v37 v38 v39 v40 : AV) (k42 : Ex → St → Ans) (x45 : Int) (v54 v55 : AV) (k42N : Int → Heap → Ans) (k42R : Bool → Heap → Ans) (hk42N : ∀ (b44 : Bool) (x45 : Int) (v46 v47 v48 v49 v50 v51 v52 v53 v54 v55 v56 v57 v58 v59 v60 v61 v62 v63 v64 v65 v66 v67 v68 v69 v70 v71 v72 v73 v74 v75 v76 v77 v78 v79 v80 v81 v82 v83 v84 v85 v86 v87 v88 v89 v90 v91 v92 v93 v94 v95 v96 v97 v98 v99 v100 v101 v102 v103 v104 v105 v106 v107 v108 v109 v110 v111 v112 v113 v114 v115 v116 v117 v118 v119 v120 : AV) (H : Heap), k42 .normal ⟨[(.lst a0), tz, (.bool b44), (iz x2), (iz x29), (iz x45), v46, v47, v48, v49, v50, (.lst a0), (iz x2), (iz x2), (.bool (decide (x2 < 3))), bf, (iz x2), (.bool (decide (x2 > 8))), bf, (iz x30), (iz x31), (.bool b32), v33, v34, v35, v36, v37, v38, v39, v40, v51, v52, v53, v54, v55, v56, v57, v58, v59, v60, v61, v62, v63, v64, v65, v66, v67, v68, v69, v70, v71, v72, v73, v74, v75, v76, v77, v78, v79, v80, v81, v82, v83, v84, v85, v86, v87, v88, v89, v90, v91, v92, v93, v94, v95, v96, v97, v98, v99, v100, v101, v102, v103, v104, v105, v106, v107, v108, v109, v110, v111, v112, v113, v114, v115, v116, v117, v118, v119, v120], H⟩ = k42N x45 H) (hk42R : ∀ (b578 : Bool) (x579 x580 : Int) (v581 v582 v583 v584 : AV) (x585 x586 : Int) (b587 : Bool) (v588 v589 : AV) (x590 x591 x592 x593 : Int) (b594 : Bool) (v595 v596 v597 : AV) (x598 : Int) (v599 : AV) (x601 x602 : Int) (v603 : AV) (x604 x606 x607 : Int) (v608 : AV) (x609 : Int) (v610 : AV) (x612 x613 : Int) (v614 : AV) (x615 x617 x618 : Int) (b619 : Bool) (x621 x622 x624 x625 : Int) (b626 : Bool) (v627 v628 v629 v630 v631 v632 v633 v634 v635 v636 v637 v638 v639 v640 v641 v642 v643 v644 v645 v646 v647 v648 v649 v650 v651 v652 v653 v654 v655 v656 v657 v658 v659 v660 v661 v662 v663 v664 v665 v666 : AV) (H : Heap), k42 .ret ⟨[(.lst a0), tz, (.bool b578), (iz x2), (iz x29), (iz x579), (iz x580), v581, v582, v583, v584, (.lst a0), (iz x2), (iz x2), (.bool (decide (x2 < 3))), bf, (iz x2), (.bool (decide (x2 > 8))), bf, (iz x30), (iz x31), (.bool b32), v33, v34, v35, v36, v37, v38, v39, v40, (iz x585), (iz x586), (.bool b587), v588, v589, (iz x590), (iz x591), (iz x592), (iz x593), (.bool b594), v595, v596, v597, (iz x598), v599, (.agg [(iz x601), (iz x602)]), v603, (iz x604), (.agg [(iz x606), (iz x607)]), v608, (iz x609), v610, (.agg [(iz x612), (iz x613)]), v614, (iz x615), (.agg [(iz x617), (iz x618)]), (.bool b619), (.agg [(iz x621), (iz x622)]), (.agg [(iz x624), (iz x625)]), (.bool b626), v627, v628, v629, v630, v631, v632, v633, v634, v635, v636, v637, v638, v639, v640, v641, v642, v643, v644, v645, v646, v647, v648, v649, v650, v651, v652, v653, v654, v655, v656, v657, v658, v659, v660, v661, v662, v663, v664, v665, v666], H⟩ = k42R b578 H) (b419 : Bool) (x420 : Int) (v421 v422 v423 v424 : AV) (x425 x426 : Int) (b427 : Bool) (v428 v429 v430 : AV) (x431 : Int) (v432 : AV) (x434 x435 : Int) (v436 : AV) (x437 x439 x440 : Int) (v441 : AV) (x442 : Int) (v443 : AV) (x445 x446 : Int) (v447 : AV) (x448 x450 x451 : Int) (b452 : Bool) (x454 x455 x457 x458 : Int) (b459 : Bool) (v460 v461 v462 v463 v464 v465 v466 v467 v468 v469 v470 v471 v472 v473 v474 v475 v476 v477 v478 v479 v480 v481 v482 v483 v484 v485 v486 v487 v488 v489 v490 v491 v492 v493 v494 v495 v496 v497 v498 v499 : AV) (H : Heap) : r28E2 C0 d a0 x2 x29 x30 x31 b32 v33 v34 v35 v36 v37 v38 v39 v40 k42 x45 v54 v55 ⟨[(.lst a0), tz, (.bool b419), (iz x2), (iz x29), (iz x45), (iz x420), v421, v422, v423, v424, (.lst a0), (iz x2), (iz x2), (.bool (decide (x2 < 3))), bf, (iz x2), (.bool (decide (x2 > 8))), bf, (iz x30), (iz x31), (.bool b32), v33, v34, v35, v36, v37, v38, v39, v40, (iz x45), (iz x2), bt, v54, v55, (iz x45), (iz (IntKind.wrap .i64 (x45 + 1))), (iz x425), (iz x426), (.bool b427), v428, v429, v430, (iz x431), v432, (.agg [(iz x434), (iz x435)]), v436, (iz x437), (.agg [(iz x439), (iz x440)]), v441, (iz x442), v443, (.agg [(iz x445), (iz x446)]), v447, (iz x448), (.agg [(iz x450), (iz x451)]), (.bool b452), (.agg [(iz x454), (iz x455)]), (.agg [(iz x457), (iz x458)]), (.bool b459), v460, v461, v462, v463, v464, v465, v466, v467, v468, v469, v470, v471, v472, v473, v474, v475, v476, v477, v478, v479, v480, v481, v482, v483, v484, v485, v486, v487, v488, v489, v490, v491, v492, v493, v494, v495, v496, v497, v498, v499], H⟩ = E28_2 d a0 x2 x45 k42N k42R b419 H := by
  try dsimp only at hk42N
  try dsimp only at hk42R
  unfold r28E2; refine Eq.trans (pl_len (by rfl)) ?_; (iterate 2 (refine yt yS ?_)); refine yt yB ?_; (iterate 3 (refine yt yS ?_)); refine yt yI ?_; (iterate 4 (refine yt yA ?_)); (iterate 26 (refine yt yS ?_)); (iterate 2 (refine yt yI ?_)); refine yt yB ?_; (iterate 3 (refine yt yA ?_)); refine yt yI ?_; refine yt yA ?_; refine yt yG ?_; (iterate 2 (refine yt yI ?_)); refine yt yA ?_; refine yt yI ?_; refine yt yG ?_; (iterate 2 (refine yt yI ?_)); refine yt yA ?_; refine yt yI ?_; refine yt yA ?_; refine yt yG ?_; (iterate 2 (refine yt yI ?_)); refine yt yA ?_; refine yt yI ?_; refine yt yG ?_; (iterate 2 (refine yt yI ?_)); refine yt yB ?_; refine yt yG ?_; (iterate 2 (refine yt yI ?_)); refine yt yG ?_; (iterate 2 (refine yt yI ?_)); refine yt yB ?_; (iterate 40 (refine yt yA ?_))
  first | (simp only [hk42N, hk42R] <;> rfl) | rfl
noncomputable def L28_2 (d : Nat) (a0 : List AV) (x2 x45 : Int) (k42N : Int → Heap → Ans) (k42R : Bool → Heap → Ans) : Nat → Int → Heap → Ans
  | 0, _, _ => none
  | n + 1, x125, H =>
  cnd (decide (x125 < x2))
   (C0.hop H (.ixAS .any 2 (.v (.lst a0)) (.v (iz x45))) fun v193 h194 =>
   C0.hop h194 (.load true 2 (.v v193)) fun v195 h196 =>
   C0.agg 2 (some v195) fun l197 =>
   C0.int .i64 l197[0]? fun x198 =>
   C0.int .i64 l197[1]? fun x199 =>
   C0.snp h196 [(.lst a0), (iz x45)] fun l200 b201 =>
   C0.agg 2 (pcall M d 42 l200) fun l202 =>
   C0.int .i64 l202[0]? fun x203 =>
   C0.int .i64 l202[1]? fun x204 =>
   cnd (b201 || true)
   (C0.hop h196 (.ixAS .any 2 (.v (.lst a0)) (.v (iz x125))) fun v205 h206 =>
   C0.hop h206 (.load true 2 (.v v205)) fun v207 h208 =>
   C0.agg 2 (some v207) fun l209 =>
   C0.int .i64 l209[0]? fun x210 =>
   C0.int .i64 l209[1]? fun x211 =>
   C0.snp h208 [(.lst a0), (iz x125)] fun l212 b213 =>
   C0.agg 2 (pcall M d 42 l212) fun l214 =>
   C0.int .i64 l214[0]? fun x215 =>
   C0.int .i64 l214[1]? fun x216 =>
   cnd (b213 || true)
   (C0.hop h208 (.alloc E45) fun v217 h218 =>
   C0.hop h218 (.alloc E45) fun v219 h220 =>
   C0.hop h220 (.alloc E45) fun v221 h222 =>
   C0.hop h222 (.alloc E45) fun v223 h224 =>
   C0.disj (.addr v205) (.addr v217) <|
   C0.hop h224 (.store 2 (.v v217) (.v (.agg [(iz x198), (iz x199)]))) fun v225 h226 =>
   C0.disj (.addr v205) (.addr v219) <|
   C0.hop h226 (.store 2 (.v v219) (.v (.agg [(iz x203), (iz x204)]))) fun v227 h228 =>
   C0.hop h228 (.store 2 (.v v221) (.v (.agg [(iz x210), (iz x211)]))) fun v229 h230 =>
   C0.hop h230 (.store 2 (.v v223) (.v (.agg [(iz x215), (iz x216)]))) fun v231 h232 =>
   C0.hop h232 (.load true 2 (.v v217)) fun v233 h234 =>
   C0.agg 2 (some v233) fun l235 =>
   C0.int .i64 l235[0]? fun x236 =>
   C0.int .i64 l235[1]? fun x237 =>
   C0.hop h234 (.load true 2 (.v v221)) fun v238 h239 =>
   C0.agg 2 (some v238) fun l240 =>
   C0.int .i64 l240[0]? fun x241 =>
   C0.int .i64 l240[1]? fun x242 =>
   cnd (xor false ((x236 == x241) && ((x237 == x242) && true)))
   (E28_2 d a0 x2 x45 k42N k42R false h239)
   (cnd (x125 == (IntKind.wrap .i64 (x45 + 1)))
   (C0.hop h239 (.load true 2 (.v v223)) fun v243 h244 =>
   C0.agg 2 (some v243) fun l245 =>
   C0.int .i64 l245[0]? fun x246 =>
   C0.int .i64 l245[1]? fun x247 =>
   C0.hop h244 (.load true 2 (.v v217)) fun v248 h249 =>
   C0.agg 2 (some v248) fun l250 =>
   C0.int .i64 l250[0]? fun x251 =>
   C0.int .i64 l250[1]? fun x252 =>
   C0.hop h249 (.load true 2 (.v v219)) fun v253 h254 =>
   C0.agg 2 (some v253) fun l255 =>
   C0.int .i64 l255[0]? fun x256 =>
   C0.int .i64 l255[1]? fun x257 =>
   C0.bool (pcall M d 43 [(.agg [(iz x246), (iz x247)]), (.agg [(iz x251), (iz x252)]), (.agg [(iz x256), (iz x257)])]) fun b258 =>
   cnd b258
   (E28_2 d a0 x2 x45 k42N k42R false h254)
   (C0.hop h254 (.load true 2 (.v v217)) fun v259 h260 =>
   C0.agg 2 (some v259) fun l261 =>
   C0.int .i64 l261[0]? fun x262 =>
   C0.int .i64 l261[1]? fun x263 =>
   C0.hop h260 (.load true 2 (.v v221)) fun v264 h265 =>
   C0.agg 2 (some v264) fun l266 =>
   C0.int .i64 l266[0]? fun x267 =>
   C0.int .i64 l266[1]? fun x268 =>
   C0.hop h265 (.load true 2 (.v v223)) fun v269 h270 =>
   C0.agg 2 (some v269) fun l271 =>
   C0.int .i64 l271[0]? fun x272 =>
   C0.int .i64 l271[1]? fun x273 =>
   C0.bool (pcall M d 43 [(.agg [(iz x262), (iz x263)]), (.agg [(iz x267), (iz x268)]), (.agg [(iz x272), (iz x273)])]) fun b274 =>
   cnd b274
   (E28_2 d a0 x2 x45 k42N k42R false h270)
   (L28_2 d a0 x2 x45 k42N k42R n (IntKind.wrap .i64 (x125 + 1)) h270)))
   (cnd (x45 == 0)
   (cnd (x125 == (IntKind.wrap .i64 (x2 - 1)))
   (C0.hop h239 (.load true 2 (.v v221)) fun v275 h276 =>
   C0.agg 2 (some v275) fun l277 =>
   C0.int .i64 l277[0]? fun x278 =>
   C0.int .i64 l277[1]? fun x279 =>
   C0.hop h276 (.load true 2 (.v v217)) fun v280 h281 =>
   C0.agg 2 (some v280) fun l282 =>
   C0.int .i64 l282[0]? fun x283 =>
   C0.int .i64 l282[1]? fun x284 =>
   C0.hop h281 (.load true 2 (.v v219)) fun v285 h286 =>
   C0.agg 2 (some v285) fun l287 =>
   C0.int .i64 l287[0]? fun x288 =>
   C0.int .i64 l287[1]? fun x289 =>
   C0.bool (pcall M d 43 [(.agg [(iz x278), (iz x279)]), (.agg [(iz x283), (iz x284)]), (.agg [(iz x288), (iz x289)])]) fun b290 =>
   cnd b290
   (E28_2 d a0 x2 x45 k42N k42R false h286)
   (C0.hop h286 (.load true 2 (.v v219)) fun v291 h292 =>
   C0.agg 2 (some v291) fun l293 =>
   C0.int .i64 l293[0]? fun x294 =>
   C0.int .i64 l293[1]? fun x295 =>
   C0.hop h292 (.load true 2 (.v v221)) fun v296 h297 =>
   C0.agg 2 (some v296) fun l298 =>
   C0.int .i64 l298[0]? fun x299 =>
   C0.int .i64 l298[1]? fun x300 =>
   C0.hop h297 (.load true 2 (.v v223)) fun v301 h302 =>
   C0.agg 2 (some v301) fun l303 =>
   C0.int .i64 l303[0]? fun x304 =>
   C0.int .i64 l303[1]? fun x305 =>
   C0.bool (pcall M d 43 [(.agg [(iz x294), (iz x295)]), (.agg [(iz x299), (iz x300)]), (.agg [(iz x304), (iz x305)])]) fun b306 =>
   cnd b306
   (E28_2 d a0 x2 x45 k42N k42R false h302)
   (L28_2 d a0 x2 x45 k42N k42R n (IntKind.wrap .i64 (x125 + 1)) h302)))
   (C0.hop h239 (.load true 2 (.v v217)) fun v307 h308 =>
   C0.agg 2 (some v307) fun l309 =>
   C0.int .i64 l309[0]? fun x310 =>
   C0.int .i64 l309[1]? fun x311 =>
   C0.hop h308 (.load true 2 (.v v219)) fun v312 h313 =>
   C0.agg 2 (some v312) fun l314 =>
   C0.int .i64 l314[0]? fun x315 =>
   C0.int .i64 l314[1]? fun x316 =>
   C0.hop h313 (.load true 2 (.v v221)) fun v317 h318 =>
   C0.agg 2 (some v317) fun l319 =>
   C0.int .i64 l319[0]? fun x320 =>
   C0.int .i64 l319[1]? fun x321 =>
   C0.hop h318 (.load true 2 (.v v223)) fun v322 h323 =>
   C0.agg 2 (some v322) fun l324 =>
   C0.int .i64 l324[0]? fun x325 =>
   C0.int .i64 l324[1]? fun x326 =>
   C0.bool (pcall M d 44 [(.agg [(iz x310), (iz x311)]), (.agg [(iz x315), (iz x316)]), (.agg [(iz x320), (iz x321)]), (.agg [(iz x325), (iz x326)])]) fun b327 =>
   cnd b327
   (E28_2 d a0 x2 x45 k42N k42R false h323)
   (L28_2 d a0 x2 x45 k42N k42R n (IntKind.wrap .i64 (x125 + 1)) h323)))
   (C0.hop h239 (.load true 2 (.v v217)) fun v328 h329 =>
   C0.agg 2 (some v328) fun l330 =>
   C0.int .i64 l330[0]? fun x331 =>
   C0.int .i64 l330[1]? fun x332 =>
   C0.hop h329 (.load true 2 (.v v219)) fun v333 h334 =>
   C0.agg 2 (some v333) fun l335 =>
   C0.int .i64 l335[0]? fun x336 =>
   C0.int .i64 l335[1]? fun x337 =>
   C0.hop h334 (.load true 2 (.v v221)) fun v338 h339 =>
   C0.agg 2 (some v338) fun l340 =>
   C0.int .i64 l340[0]? fun x341 =>
   C0.int .i64 l340[1]? fun x342 =>
   C0.hop h339 (.load true 2 (.v v223)) fun v343 h344 =>
   C0.agg 2 (some v343) fun l345 =>
   C0.int .i64 l345[0]? fun x346 =>
   C0.int .i64 l345[1]? fun x347 =>
   C0.bool (pcall M d 44 [(.agg [(iz x331), (iz x332)]), (.agg [(iz x336), (iz x337)]), (.agg [(iz x341), (iz x342)]), (.agg [(iz x346), (iz x347)])]) fun b348 =>
   cnd b348
   (E28_2 d a0 x2 x45 k42N k42R false h344)
   (L28_2 d a0 x2 x45 k42N k42R n (IntKind.wrap .i64 (x125 + 1)) h344)))))
   (none))
   (none))
   (X28_2_0 d a0 x2 x45 k42N k42R H)
theorem it28_2 (d : Nat) (a0 : List AV) (x2 x29 x30 x31 : Int) (b32 : Bool) (v33 v34 v35 v36 v37 v38 v39 v40 : AV) (k42 : Ex → St → Ans) (x45 : Int) (v54 v55 : AV) (k42N : Int → Heap → Ans) (k42R : Bool → Heap → Ans) (hk42N : ∀ (b44 : Bool) (x45 : Int) (v46 v47 v48 v49 v50 v51 v52 v53 v54 v55 v56 v57 v58 v59 v60 v61 v62 v63 v64 v65 v66 v67 v68 v69 v70 v71 v72 v73 v74 v75 v76 v77 v78 v79 v80 v81 v82 v83 v84 v85 v86 v87 v88 v89 v90 v91 v92 v93 v94 v95 v96 v97 v98 v99 v100 v101 v102 v103 v104 v105 v106 v107 v108 v109 v110 v111 v112 v113 v114 v115 v116 v117 v118 v119 v120 : AV) (H : Heap), k42 .normal ⟨[(.lst a0), tz, (.bool b44), (iz x2), (iz x29), (iz x45), v46, v47, v48, v49, v50, (.lst a0), (iz x2), (iz x2), (.bool (decide (x2 < 3))), bf, (iz x2), (.bool (decide (x2 > 8))), bf, (iz x30), (iz x31), (.bool b32), v33, v34, v35, v36, v37, v38, v39, v40, v51, v52, v53, v54, v55, v56, v57, v58, v59, v60, v61, v62, v63, v64, v65, v66, v67, v68, v69, v70, v71, v72, v73, v74, v75, v76, v77, v78, v79, v80, v81, v82, v83, v84, v85, v86, v87, v88, v89, v90, v91, v92, v93, v94, v95, v96, v97, v98, v99, v100, v101, v102, v103, v104, v105, v106, v107, v108, v109, v110, v111, v112, v113, v114, v115, v116, v117, v118, v119, v120], H⟩ = k42N x45 H) (hk42R : ∀ (b578 : Bool) (x579 x580 : Int) (v581 v582 v583 v584 : AV) (x585 x586 : Int) (b587 : Bool) (v588 v589 : AV) (x590 x591 x592 x593 : Int) (b594 : Bool) (v595 v596 v597 : AV) (x598 : Int) (v599 : AV) (x601 x602 : Int) (v603 : AV) (x604 x606 x607 : Int) (v608 : AV) (x609 : Int) (v610 : AV) (x612 x613 : Int) (v614 : AV) (x615 x617 x618 : Int) (b619 : Bool) (x621 x622 x624 x625 : Int) (b626 : Bool) (v627 v628 v629 v630 v631 v632 v633 v634 v635 v636 v637 v638 v639 v640 v641 v642 v643 v644 v645 v646 v647 v648 v649 v650 v651 v652 v653 v654 v655 v656 v657 v658 v659 v660 v661 v662 v663 v664 v665 v666 : AV) (H : Heap), k42 .ret ⟨[(.lst a0), tz, (.bool b578), (iz x2), (iz x29), (iz x579), (iz x580), v581, v582, v583, v584, (.lst a0), (iz x2), (iz x2), (.bool (decide (x2 < 3))), bf, (iz x2), (.bool (decide (x2 > 8))), bf, (iz x30), (iz x31), (.bool b32), v33, v34, v35, v36, v37, v38, v39, v40, (iz x585), (iz x586), (.bool b587), v588, v589, (iz x590), (iz x591), (iz x592), (iz x593), (.bool b594), v595, v596, v597, (iz x598), v599, (.agg [(iz x601), (iz x602)]), v603, (iz x604), (.agg [(iz x606), (iz x607)]), v608, (iz x609), v610, (.agg [(iz x612), (iz x613)]), v614, (iz x615), (.agg [(iz x617), (iz x618)]), (.bool b619), (.agg [(iz x621), (iz x622)]), (.agg [(iz x624), (iz x625)]), (.bool b626), v627, v628, v629, v630, v631, v632, v633, v634, v635, v636, v637, v638, v639, v640, v641, v642, v643, v644, v645, v646, v647, v648, v649, v650, v651, v652, v653, v654, v655, v656, v657, v658, v659, v660, v661, v662, v663, v664, v665, v666], H⟩ = k42R b578 H) : ∀ (n : Nat) (b124 : Bool) (x125 : Int) (v126 v127 v128 v129 v130 v131 v132 v133 v134 v135 v136 v137 v138 v139 v140 v141 v142 v143 v144 v145 v146 v147 v148 v149 v150 v151 v152 v153 v154 v155 v156 v157 v158 v159 v160 v161 v162 v163 v164 v165 v166 v167 v168 v169 v170 v171 v172 v173 v174 v175 v176 v177 v178 v179 v180 v181 v182 v183 v184 v185 v186 v187 v188 v189 v190 v191 v192 : AV) (H : Heap), C0.iter (r28R2 C0 d a0 x2 x29 x30 x31 b32 v33 v34 v35 v36 v37 v38 v39 v40 k42 x45 v54 v55) n ⟨[(.lst a0), tz, (.bool b124), (iz x2), (iz x29), (iz x45), (iz x125), v126, v127, v128, v129, (.lst a0), (iz x2), (iz x2), (.bool (decide (x2 < 3))), bf, (iz x2), (.bool (decide (x2 > 8))), bf, (iz x30), (iz x31), (.bool b32), v33, v34, v35, v36, v37, v38, v39, v40, (iz x45), (iz x2), bt, v54, v55, (iz x45), (iz (IntKind.wrap .i64 (x45 + 1))), v130, v131, v132, v133, v134, v135, v136, v137, v138, v139, v140, v141, v142, v143, v144, v145, v146, v147, v148, v149, v150, v151, v152, v153, v154, v155, v156, v157, v158, v159, v160, v161, v162, v163, v164, v165, v166, v167, v168, v169, v170, v171, v172, v173, v174, v175, v176, v177, v178, v179, v180, v181, v182, v183, v184, v185, v186, v187, v188, v189, v190, v191, v192], H⟩ [4] [r28X2_0 C0 d a0 x2 x29 x30 x31 b32 v33 v34 v35 v36 v37 v38 v39 v40 k42 x45 v54 v55] (r28E2 C0 d a0 x2 x29 x30 x31 b32 v33 v34 v35 v36 v37 v38 v39 v40 k42 x45 v54 v55) = L28_2 d a0 x2 x45 k42N k42R n x125 H := by
  generalize hR : r28R2 C0 d a0 x2 x29 x30 x31 b32 v33 v34 v35 v36 v37 v38 v39 v40 k42 x45 v54 v55 = R
  intro n
  induction n with
  | zero => intros; rfl
  | succ n ih =>
    intro b124 x125 v126 v127 v128 v129 v130 v131 v132 v133 v134 v135 v136 v137 v138 v139 v140 v141 v142 v143 v144 v145 v146 v147 v148 v149 v150 v151 v152 v153 v154 v155 v156 v157 v158 v159 v160 v161 v162 v163 v164 v165 v166 v167 v168 v169 v170 v171 v172 v173 v174 v175 v176 v177 v178 v179 v180 v181 v182 v183 v184 v185 v186 v187 v188 v189 v190 v191 v192 H
    simp only [it_ret] at ih
    rw [it_ret, xiter_s]
    refine Eq.trans (congrFun (congrFun hR.symm _) _) ?_
    unfold r28R2
    refine Eq.trans (pl_len (by rfl)) ?_; (iterate 2 (refine yt yS ?_)); refine yt yB ?_; (iterate 3 (refine yt yS ?_)); refine yt yI ?_; (iterate 4 (refine yt yA ?_)); (iterate 26 (refine yt yS ?_)); (iterate 63 (refine yt yA ?_))
    simp only [L28_2, kIter_n, kIter_x, kIter_r, kOut_x, kOut_r, xgo_hit, xgo_miss, ih, X28_2_0_ok d a0 x2 x29 x30 x31 b32 v33 v34 v35 v36 v37 v38 v39 v40 k42 x45 v54 v55 k42N k42R hk42N hk42R, E28_2_ok d a0 x2 x29 x30 x31 b32 v33 v34 v35 v36 v37 v38 v39 v40 k42 x45 v54 v55 k42N k42R hk42N hk42R]
noncomputable def X28_1_0 (d : Nat) (a0 : List AV) (x2 : Int) (H : Heap) : Ans :=
  C0.fin H bt
theorem X28_1_0_ok (d : Nat) (a0 : List AV) (x2 x29 x30 x31 : Int) (b32 : Bool) (v33 v34 v35 v36 v37 v38 v39 v40 : AV) (b501 : Bool) (x502 : Int) (v503 v504 v505 v506 v507 : AV) (x508 x509 : Int) (b510 : Bool) (v511 v512 v513 v514 v515 v516 v517 v518 v519 v520 v521 v522 v523 v524 v525 v526 v527 v528 v529 v530 v531 v532 v533 v534 v535 v536 v537 v538 v539 v540 v541 v542 v543 v544 v545 v546 v547 v548 v549 v550 v551 v552 v553 v554 v555 v556 v557 v558 v559 v560 v561 v562 v563 v564 v565 v566 v567 v568 v569 v570 v571 v572 v573 v574 v575 v576 v577 : AV) (H : Heap) : r28X1_0 C0 d a0 x2 x29 x30 x31 b32 v33 v34 v35 v36 v37 v38 v39 v40 ⟨[(.lst a0), tz, (.bool b501), (iz x2), (iz x29), (iz x502), v503, v504, v505, v506, v507, (.lst a0), (iz x2), (iz x2), (.bool (decide (x2 < 3))), bf, (iz x2), (.bool (decide (x2 > 8))), bf, (iz x30), (iz x31), (.bool b32), v33, v34, v35, v36, v37, v38, v39, v40, (iz x508), (iz x509), (.bool b510), v511, v512, v513, v514, v515, v516, v517, v518, v519, v520, v521, v522, v523, v524, v525, v526, v527, v528, v529, v530, v531, v532, v533, v534, v535, v536, v537, v538, v539, v540, v541, v542, v543, v544, v545, v546, v547, v548, v549, v550, v551, v552, v553, v554, v555, v556, v557, v558, v559, v560, v561, v562, v563, v564, v565, v566, v567, v568, v569, v570, v571, v572, v573, v574, v575, v576, v577], H⟩ = X28_1_0 d a0 x2 H := by
  unfold r28X1_0; refine Eq.trans (pl_len (by rfl)) ?_; (iterate 2 (refine yt yS ?_)); refine yt yB ?_; (iterate 2 (refine yt yS ?_)); refine yt yI ?_; (iterate 5 (refine yt yA ?_)); (iterate 19 (refine yt yS ?_)); (iterate 2 (refine yt yI ?_)); refine yt yB ?_; (iterate 67 (refine yt yA ?_))
  rfl
noncomputable def E28_1 (d : Nat) (a0 : List AV) (x2 : Int) (b578 : Bool) (H : Heap) : Ans :=
  C0.fin H (.bool b578)
theorem E28_1_ok (d : Nat) (a0 : List AV) (x2 x29 x30 x31 : Int) (b32 : Bool) (v33 v34 v35 v36 v37 v38 v39 v40 : AV) (b578 : Bool) (x579 x580 : Int) (v581 v582 v583 v584 : AV) (x585 x586 : Int) (b587 : Bool) (v588 v589 : AV) (x590 x591 x592 x593 : Int) (b594 : Bool) (v595 v596 v597 : AV) (x598 : Int) (v599 : AV) (x601 x602 : Int) (v603 : AV) (x604 x606 x607 : Int) (v608 : AV) (x609 : Int) (v610 : AV) (x612 x613 : Int) (v614 : AV) (x615 x617 x618 : Int) (b619 : Bool) (x621 x622 x624 x625 : Int) (b626 : Bool) (v627 v628 v629 v630 v631 v632 v633 v634 v635 v636 v637 v638 v639 v640 v641 v642 v643 v644 v645 v646 v647 v648 v649 v650 v651 v652 v653 v654 v655 v656 v657 v658 v659 v660 v661 v662 v663 v664 v665 v666 : AV) (H : Heap) : r28E1 C0 d a0 x2 x29 x30 x31 b32 v33 v34 v35 v36 v37 v38 v39 v40 ⟨[(.lst a0), tz, (.bool b578), (iz x2), (iz x29), (iz x579), (iz x580), v581, v582, v583, v584, (.lst a0), (iz x2), (iz x2), (.bool (decide (x2 < 3))), bf, (iz x2), (.bool (decide (x2 > 8))), bf, (iz x30), (iz x31), (.bool b32), v33, v34, v35, v36, v37, v38, v39, v40, (iz x585), (iz x586), (.bool b587), v588, v589, (iz x590), (iz x591), (iz x592), (iz x593), (.bool b594), v595, v596, v597, (iz x598), v599, (.agg [(iz x601), (iz x602)]), v603, (iz x604), (.agg [(iz x606), (iz x607)]), v608, (iz x609), v610, (.agg [(iz x612), (iz x613)]), v614, (iz x615), (.agg [(iz x617), (iz x618)]), (.bool b619), (.agg [(iz x621), (iz x622)]), (.agg [(iz x624), (iz x625)]), (.bool b626), v627, v628, v629, v630, v631, v632, v633, v634, v635, v636, v637, v638, v639, v640, v641, v642, v643, v644, v645, v646, v647, v648, v649, v650, v651, v652, v653, v654, v655, v656, v657, v658, v659, v660, v661, v662, v663, v664, v665, v666], H⟩ = E28_1 d a0 x2 b578 H := by
  unfold r28E1; refine Eq.trans (pl_len (by rfl)) ?_; (iterate 2 (refine yt yS ?_)); refine yt yB ?_; (iterate 2 (refine yt yS ?_)); (iterate 2 (refine yt yI ?_)); (iterate 4 (refine yt yA ?_)); (iterate 19 (refine yt yS ?_)); (iterate 2 (refine yt yI ?_)); refine yt yB ?_; (iterate 2 (refine yt yA ?_)); (iterate 4 (refine yt yI ?_)); refine yt yB ?_; (iterate 3 (refine yt yA ?_)); refine yt yI ?_; refine yt yA ?_; refine yt yG ?_; (iterate 2 (refine yt yI ?_)); refine yt yA ?_; refine yt yI ?_; refine yt yG ?_; (iterate 2 (refine yt yI ?_)); refine yt yA ?_; refine yt yI ?_; refine yt yA ?_; refine yt yG ?_; (iterate 2 (refine yt yI ?_)); refine yt yA ?_; refine yt yI ?_; refine yt yG ?_; (iterate 2 (refine yt yI ?_)); refine yt yB ?_; refine yt yG ?_; (iterate 2 (refine yt yI ?_)); refine yt yG ?_; (iterate 2 (refine yt yI ?_)); refine yt yB ?_; (iterate 40 (refine yt yA ?_))
  rfl
noncomputable def L28_1 (d : Nat) (a0 : List AV) (x2 : Int) : Nat → Int → Heap → Ans
  | 0, _, _ => none
  | n + 1, x45, H =>
  cnd (decide (x45 < x2))
   (L28_2 d a0 x2 x45 (fun x45 H => L28_1 d a0 x2 n x45 H) (fun b578 H => E28_1 d a0 x2 b578 H) 1000000000000000000 (IntKind.wrap .i64 (x45 + 1)) H)
   (X28_1_0 d a0 x2 H)
theorem it28_1 (d : Nat) (a0 : List AV) (x2 x29 x30 x31 : Int) (b32 : Bool) (v33 v34 v35 v36 v37 v38 v39 v40 : AV)   : ∀ (n : Nat) (b44 : Bool) (x45 : Int) (v46 v47 v48 v49 v50 v51 v52 v53 v54 v55 v56 v57 v58 v59 v60 v61 v62 v63 v64 v65 v66 v67 v68 v69 v70 v71 v72 v73 v74 v75 v76 v77 v78 v79 v80 v81 v82 v83 v84 v85 v86 v87 v88 v89 v90 v91 v92 v93 v94 v95 v96 v97 v98 v99 v100 v101 v102 v103 v104 v105 v106 v107 v108 v109 v110 v111 v112 v113 v114 v115 v116 v117 v118 v119 v120 : AV) (H : Heap), C0.iter (r28R1 C0 d a0 x2 x29 x30 x31 b32 v33 v34 v35 v36 v37 v38 v39 v40) n ⟨[(.lst a0), tz, (.bool b44), (iz x2), (iz x29), (iz x45), v46, v47, v48, v49, v50, (.lst a0), (iz x2), (iz x2), (.bool (decide (x2 < 3))), bf, (iz x2), (.bool (decide (x2 > 8))), bf, (iz x30), (iz x31), (.bool b32), v33, v34, v35, v36, v37, v38, v39, v40, v51, v52, v53, v54, v55, v56, v57, v58, v59, v60, v61, v62, v63, v64, v65, v66, v67, v68, v69, v70, v71, v72, v73, v74, v75, v76, v77, v78, v79, v80, v81, v82, v83, v84, v85, v86, v87, v88, v89, v90, v91, v92, v93, v94, v95, v96, v97, v98, v99, v100, v101, v102, v103, v104, v105, v106, v107, v108, v109, v110, v111, v112, v113, v114, v115, v116, v117, v118, v119, v120], H⟩ [2] [r28X1_0 C0 d a0 x2 x29 x30 x31 b32 v33 v34 v35 v36 v37 v38 v39 v40] (r28E1 C0 d a0 x2 x29 x30 x31 b32 v33 v34 v35 v36 v37 v38 v39 v40) = L28_1 d a0 x2 n x45 H := by
  generalize hR : r28R1 C0 d a0 x2 x29 x30 x31 b32 v33 v34 v35 v36 v37 v38 v39 v40 = R
  intro n
  induction n with
  | zero => intros; rfl
  | succ n ih =>
    intro b44 x45 v46 v47 v48 v49 v50 v51 v52 v53 v54 v55 v56 v57 v58 v59 v60 v61 v62 v63 v64 v65 v66 v67 v68 v69 v70 v71 v72 v73 v74 v75 v76 v77 v78 v79 v80 v81 v82 v83 v84 v85 v86 v87 v88 v89 v90 v91 v92 v93 v94 v95 v96 v97 v98 v99 v100 v101 v102 v103 v104 v105 v106 v107 v108 v109 v110 v111 v112 v113 v114 v115 v116 v117 v118 v119 v120 H
    simp only [it_ret] at ih
    rw [it_ret, xiter_s]
    refine Eq.trans (congrFun (congrFun hR.symm _) _) ?_
    unfold r28R1
    refine Eq.trans (pl_len (by rfl)) ?_; (iterate 2 (refine yt yS ?_)); refine yt yB ?_; (iterate 2 (refine yt yS ?_)); refine yt yI ?_; (iterate 5 (refine yt yA ?_)); (iterate 19 (refine yt yS ?_)); (iterate 70 (refine yt yA ?_))
    have I0 := it28_2 d a0 x2 x29 x30 x31 b32 v33 v34 v35 v36 v37 v38 v39 v40 (kIter R n (kOut [2] [r28X1_0 C0 d a0 x2 x29 x30 x31 b32 v33 v34 v35 v36 v37 v38 v39 v40] (r28E1 C0 d a0 x2 x29 x30 x31 b32 v33 v34 v35 v36 v37 v38 v39 v40))) x45 v54 v55 (fun x45 H => L28_1 d a0 x2 n x45 H) (fun b578 H => E28_1 d a0 x2 b578 H) (fun b44 x45 v46 v47 v48 v49 v50 v51 v52 v53 v54 v55 v56 v57 v58 v59 v60 v61 v62 v63 v64 v65 v66 v67 v68 v69 v70 v71 v72 v73 v74 v75 v76 v77 v78 v79 v80 v81 v82 v83 v84 v85 v86 v87 v88 v89 v90 v91 v92 v93 v94 v95 v96 v97 v98 v99 v100 v101 v102 v103 v104 v105 v106 v107 v108 v109 v110 v111 v112 v113 v114 v115 v116 v117 v118 v119 v120 H => ih b44 x45 v46 v47 v48 v49 v50 v51 v52 v53 v54 v55 v56 v57 v58 v59 v60 v61 v62 v63 v64 v65 v66 v67 v68 v69 v70 v71 v72 v73 v74 v75 v76 v77 v78 v79 v80 v81 v82 v83 v84 v85 v86 v87 v88 v89 v90 v91 v92 v93 v94 v95 v96 v97 v98 v99 v100 v101 v102 v103 v104 v105 v106 v107 v108 v109 v110 v111 v112 v113 v114 v115 v116 v117 v118 v119 v120 H) (fun b578 x579 x580 v581 v582 v583 v584 x585 x586 b587 v588 v589 x590 x591 x592 x593 b594 v595 v596 v597 x598 v599 x601 x602 v603 x604 x606 x607 v608 x609 v610 x612 x613 v614 x615 x617 x618 b619 x621 x622 x624 x625 b626 v627 v628 v629 v630 v631 v632 v633 v634 v635 v636 v637 v638 v639 v640 v641 v642 v643 v644 v645 v646 v647 v648 v649 v650 v651 v652 v653 v654 v655 v656 v657 v658 v659 v660 v661 v662 v663 v664 v665 v666 H => E28_1_ok d a0 x2 x29 x30 x31 b32 v33 v34 v35 v36 v37 v38 v39 v40   b578 x579 x580 v581 v582 v583 v584 x585 x586 b587 v588 v589 x590 x591 x592 x593 b594 v595 v596 v597 x598 v599 x601 x602 v603 x604 x606 x607 v608 x609 v610 x612 x613 v614 x615 x617 x618 b619 x621 x622 x624 x625 b626 v627 v628 v629 v630 v631 v632 v633 v634 v635 v636 v637 v638 v639 v640 v641 v642 v643 v644 v645 v646 v647 v648 v649 v650 v651 v652 v653 v654 v655 v656 v657 v658 v659 v660 v661 v662 v663 v664 v665 v666 H)
    try dsimp only at I0
    simp only [L28_1, kIter_n, kIter_x, kIter_r, kOut_x, kOut_r, xgo_hit, xgo_miss, ih, I0, X28_1_0_ok d a0 x2 x29 x30 x31 b32 v33 v34 v35 v36 v37 v38 v39 v40  , E28_1_ok d a0 x2 x29 x30 x31 b32 v33 v34 v35 v36 v37 v38 v39 v40  ]
noncomputable def X28_0_0 (d : Nat) (a0 : List AV) (x2 : Int) (H : Heap) : Ans :=
  L28_1 d a0 x2 1000000000000000000 0 H
theorem X28_0_0_ok (d : Nat) (a0 : List AV) (x2 : Int) (b28 : Bool) (x29 x30 x31 : Int) (b32 : Bool) (v33 v34 v35 v36 v37 v38 v39 v40 : AV) (H : Heap) : r28X0_0 C0 d a0 x2 ⟨[(.lst a0), tz, (.bool b28), (iz x2), (iz x29), tz, tz, tz, tz, tz, tz, (.lst a0), (iz x2), (iz x2), (.bool (decide (x2 < 3))), bf, (iz x2), (.bool (decide (x2 > 8))), bf, (iz x30), (iz x31), (.bool b32), v33, v34, v35, v36, v37, v38, v39, v40, tz, tz, tz, tz, tz, tz, tz, tz, tz, tz, tz, tz, tz, tz, tz, tz, tz, tz, tz, tz, tz, tz, tz, tz, tz, tz, tz, tz, tz, tz, tz, tz, tz, tz, tz, tz, tz, tz, tz, tz, tz, tz, tz, tz, tz, tz, tz, tz, tz, tz, tz, tz, tz, tz, tz, tz, tz, tz, tz, tz, tz, tz, tz, tz, tz, tz, tz, tz, tz, tz], H⟩ = X28_0_0 d a0 x2 H := by
  unfold r28X0_0; refine Eq.trans (pl_len (by rfl)) ?_; (iterate 2 (refine yt yS ?_)); refine yt yB ?_; refine yt yS ?_; refine yt yI ?_; (iterate 14 (refine yt yS ?_)); (iterate 2 (refine yt yI ?_)); refine yt yB ?_; (iterate 8 (refine yt yA ?_)); (iterate 70 (refine yt yS ?_))
  first | (simp only [it28_1] <;> rfl) | rfl
noncomputable def E28_0 (d : Nat) (a0 : List AV) (x2 : Int) (b667 : Bool) (H : Heap) : Ans :=
  C0.fin H (.bool b667)
theorem E28_0_ok (d : Nat) (a0 : List AV) (x2 : Int) (b667 : Bool) (x668 x669 x670 : Int) (b671 : Bool) (v672 v673 v674 : AV) (x675 : Int) (v676 : AV) (x678 x679 : Int) (b680 b681 : Bool) (H : Heap) : r28E0 C0 d a0 x2 ⟨[(.lst a0), tz, (.bool b667), (iz x2), (iz x668), tz, tz, tz, tz, tz, tz, (.lst a0), (iz x2), (iz x2), (.bool (decide (x2 < 3))), bf, (iz x2), (.bool (decide (x2 > 8))), bf, (iz x669), (iz x670), (.bool b671), v672, v673, v674, (iz x675), v676, (.agg [(iz x678), (iz x679)]), (.bool b680), (.bool b681), tz, tz, tz, tz, tz, tz, tz, tz, tz, tz, tz, tz, tz, tz, tz, tz, tz, tz, tz, tz, tz, tz, tz, tz, tz, tz, tz, tz, tz, tz, tz, tz, tz, tz, tz, tz, tz, tz, tz, tz, tz, tz, tz, tz, tz, tz, tz, tz, tz, tz, tz, tz, tz, tz, tz, tz, tz, tz, tz, tz, tz, tz, tz, tz, tz, tz, tz, tz, tz, tz], H⟩ = E28_0 d a0 x2 b667 H := by
  unfold r28E0; refine Eq.trans (pl_len (by rfl)) ?_; (iterate 2 (refine yt yS ?_)); refine yt yB ?_; refine yt yS ?_; refine yt yI ?_; (iterate 14 (refine yt yS ?_)); (iterate 2 (refine yt yI ?_)); refine yt yB ?_; (iterate 3 (refine yt yA ?_)); refine yt yI ?_; refine yt yA ?_; refine yt yG ?_; (iterate 2 (refine yt yI ?_)); (iterate 2 (refine yt yB ?_)); (iterate 70 (refine yt yS ?_))
  rfl
noncomputable def L28_0 (d : Nat) (a0 : List AV) (x2 : Int) : Nat → Int → Heap → Ans
  | 0, _, _ => none
  | n + 1, x7, H =>
  cnd (decide (x7 < x2))
   (C0.hop H (.ixAS .any 2 (.v (.lst a0)) (.v (iz x7))) fun v19 h20 =>
   C0.hop h20 (.load true 2 (.v v19)) fun v21 h22 =>
   C0.agg 2 (some v21) fun l23 =>
   C0.int .i64 l23[0]? fun x24 =>
   C0.int .i64 l23[1]? fun x25 =>
   C0.bool (pcall M d 41 [(.agg [(iz x24), (iz x25)])]) fun b26 =>
   cnd (!b26)
   (E28_0 d a0 x2 false h22)
   (L28_0 d a0 x2 n (IntKind.wrap .i64 (x7 + 1)) h22))
   (X28_0_0 d a0 x2 H)
theorem it28_0 (d : Nat) (a0 : List AV) (x2 : Int)   : ∀ (n : Nat) (b6 : Bool) (x7 : Int) (v8 v9 v10 v11 v12 v13 v14 v15 v16 v17 v18 : AV) (H : Heap), C0.iter (r28R0 C0 d a0 x2) n ⟨[(.lst a0), tz, (.bool b6), (iz x2), (iz x7), tz, tz, tz, tz, tz, tz, (.lst a0), (iz x2), (iz x2), (.bool (decide (x2 < 3))), bf, (iz x2), (.bool (decide (x2 > 8))), bf, v8, v9, v10, v11, v12, v13, v14, v15, v16, v17, v18, tz, tz, tz, tz, tz, tz, tz, tz, tz, tz, tz, tz, tz, tz, tz, tz, tz, tz, tz, tz, tz, tz, tz, tz, tz, tz, tz, tz, tz, tz, tz, tz, tz, tz, tz, tz, tz, tz, tz, tz, tz, tz, tz, tz, tz, tz, tz, tz, tz, tz, tz, tz, tz, tz, tz, tz, tz, tz, tz, tz, tz, tz, tz, tz, tz, tz, tz, tz, tz, tz], H⟩ [0] [r28X0_0 C0 d a0 x2] (r28E0 C0 d a0 x2) = L28_0 d a0 x2 n x7 H := by
  generalize hR : r28R0 C0 d a0 x2 = R
  intro n
  induction n with
  | zero => intros; rfl
  | succ n ih =>
    intro b6 x7 v8 v9 v10 v11 v12 v13 v14 v15 v16 v17 v18 H
    simp only [it_ret] at ih
    rw [it_ret, xiter_s]
    refine Eq.trans (congrFun (congrFun hR.symm _) _) ?_
    unfold r28R0
    refine Eq.trans (pl_len (by rfl)) ?_; (iterate 2 (refine yt yS ?_)); refine yt yB ?_; refine yt yS ?_; refine yt yI ?_; (iterate 14 (refine yt yS ?_)); (iterate 11 (refine yt yA ?_)); (iterate 70 (refine yt yS ?_))
    simp only [L28_0, kIter_n, kIter_x, kIter_r, kOut_x, kOut_r, xgo_hit, xgo_miss, ih, X28_0_0_ok d a0 x2  , E28_0_ok d a0 x2  ]
/-- apogee/apogeeref11.Simple -/
theorem q28 (d : Nat) (a0 : List AV) : xcall C0 M unr d 28 [(.lst a0)] =
  C0.hop [] (.bk .lenV [(.v (.lst a0))]) fun v0 h1 =>
  C0.int .i64 (some v0) fun x2 =>
  cnd (decide (x2 < 3))
   (C0.fin h1 bf)
   (cnd (decide (x2 > 8))
   (C0.fin h1 bf)
   (L28_0 d a0 x2 1000000000000000000 0 h1)) := (r28 C0 d a0).trans (by simp only [it28_0])
noncomputable def X40_0_0 (d : Nat) (a0 : List AV) (v0 : AV) (x13 x195 : Int) (H : Heap) : Ans :=
  C0.fin H (iz x195)
theorem X40_0_0_ok (d : Nat) (a0 : List AV) (a1 a2 : Int) (v0 : AV) (b4 : Bool) (x8 x9 : Int) (b10 : Bool) (x13 x194 x195 : Int) (v196 v197 v198 : AV) (x199 : Int) (v200 v201 v202 v203 v204 v205 v206 v207 v208 v209 v210 v211 v212 v213 v214 v215 v216 v217 v218 v219 v220 v221 v222 v223 v224 v225 v226 v227 v228 v229 v230 v231 v232 v233 v234 v235 v236 v237 v238 v239 v240 : AV) (H : Heap) : r40X0_0 C0 d a0 a1 a2 v0 b4 x8 x9 b10 x13 ⟨[(.lst a0), (.agg [(iz a1), (iz a2)]), tz, v0, (iz x194), (iz x195), v196, v197, v198, (.lst a0), (.bool b4), (.bool (!b4)), bf, (.agg [(iz x8), (iz x9)]), (.bool b10), (.bool (!b10)), bf, (.lst a0), (iz x13), (iz x199), v200, v201, v202, v203, v204, v205, v206, v207, v208, v209, v210, v211, v212, v213, v214, v215, v216, v217, v218, v219, v220, v221, v222, v223, v224, v225, v226, v227, v228, v229, v230, v231, v232, v233, v234, v235, v236, v237, v238, v239, v240, tz], H⟩ = X40_0_0 d a0 v0 x13 x195 H := by
  unfold r40X0_0; refine Eq.trans (pl_len (by rfl)) ?_; (iterate 4 (refine yt yS ?_)); (iterate 2 (refine yt yI ?_)); (iterate 3 (refine yt yA ?_)); (iterate 10 (refine yt yS ?_)); refine yt yI ?_; (iterate 41 (refine yt yA ?_)); refine yt yS ?_
  rfl
noncomputable def E40_0 (d : Nat) (a0 : List AV) (v0 : AV) (x13 x241 : Int) (H : Heap) : Ans :=
  C0.fin H (iz x241)
theorem E40_0_ok (d : Nat) (a0 : List AV) (a1 a2 : Int) (v0 : AV) (b4 : Bool) (x8 x9 : Int) (b10 : Bool) (x13 x241 x242 x243 : Int) (v244 v245 : AV) (x246 : Int) (v247 : AV) (x248 x251 x252 x254 x255 : Int) (v256 : AV) (x257 x260 x261 x263 x264 x266 x267 x269 x270 x272 x273 x275 x276 x278 x279 : Int) (b280 : Bool) (v281 v282 v283 v284 v285 v286 v287 v288 v289 v290 v291 v292 v293 v294 v295 v296 v297 v298 v299 v300 v301 v302 v303 v304 v305 v306 v307 v308 v309 : AV) (H : Heap) : r40E0 C0 d a0 a1 a2 v0 b4 x8 x9 b10 x13 ⟨[(.lst a0), (.agg [(iz a1), (iz a2)]), tz, v0, (iz x241), (iz x242), (iz x243), v244, v245, (.lst a0), (.bool b4), (.bool (!b4)), bf, (.agg [(iz x8), (iz x9)]), (.bool b10), (.bool (!b10)), bf, (.lst a0), (iz x13), (iz x246), v247, (iz x248), (.tup [(.agg [(iz x251), (iz x252)]), (.agg [(iz x254), (iz x255)])]), v256, (iz x257), (.tup [(.agg [(iz x260), (iz x261)]), (.agg [(iz x263), (iz x264)])]), (.agg [(iz x266), (iz x267)]), (.agg [(iz x269), (iz x270)]), (.agg [(iz x272), (iz x273)]), (.agg [(iz x275), (iz x276)]), (.agg [(iz x278), (iz x279)]), (.bool b280), v281, v282, v283, v284, v285, v286, v287, v288, v289, v290, v291, v292, v293, v294, v295, v296, v297, v298, v299, v300, v301, v302, v303, v304, v305, v306, v307, v308, v309, tz], H⟩ = E40_0 d a0 v0 x13 x241 H := by
  unfold r40E0; refine Eq.trans (pl_len (by rfl)) ?_; (iterate 4 (refine yt yS ?_)); (iterate 3 (refine yt yI ?_)); (iterate 2 (refine yt yA ?_)); (iterate 10 (refine yt yS ?_)); refine yt yI ?_; refine yt yA ?_; refine yt yI ?_; refine yt yT ?_; refine yt yG ?_; (iterate 2 (refine yt yI ?_)); refine yt yG ?_; (iterate 2 (refine yt yI ?_)); refine yt yA ?_; refine yt yI ?_; refine yt yT ?_; refine yt yG ?_; (iterate 2 (refine yt yI ?_)); refine yt yG ?_; (iterate 2 (refine yt yI ?_)); refine yt yG ?_; (iterate 2 (refine yt yI ?_)); refine yt yG ?_; (iterate 2 (refine yt yI ?_)); refine yt yG ?_; (iterate 2 (refine yt yI ?_)); refine yt yG ?_; (iterate 2 (refine yt yI ?_)); refine yt yG ?_; (iterate 2 (refine yt yI ?_)); refine yt yB ?_; (iterate 29 (refine yt yA ?_)); refine yt yS ?_
  rfl
noncomputable def L40_0 (d : Nat) (a0 : List AV) (v0 : AV) (x13 : Int) : Nat → Int → Int → Heap → Ans
  | 0, _, _, _ => none
  | n + 1, x18, x22, H =>
  cnd (decide (x22 < x13))
   (C0.snp H [(.lst a0), (iz x22)] fun l64 b65 =>
   C0.tup 2 (pcall M d 60 l64) fun l66 =>
   C0.agg 2 l66[0]? fun l67 =>
   C0.int .i64 l67[0]? fun x68 =>
   C0.int .i64 l67[1]? fun x69 =>
   C0.agg 2 l66[1]? fun l70 =>
   C0.int .i64 l70[0]? fun x71 =>
   C0.int .i64 l70[1]? fun x72 =>
   cnd (b65 || true)
   (C0.hop H (.alloc E45) fun v73 h74 =>
   C0.hop h74 (.alloc E45) fun v75 h76 =>
   C0.hop h76 (.store 2 (.v v73) (.v (.agg [(iz x68), (iz x69)]))) fun v77 h78 =>
   C0.hop h78 (.store 2 (.v v75) (.v (.agg [(iz x71), (iz x72)]))) fun v79 h80 =>
   C0.hop h80 (.load true 2 (.v v0)) fun v81 h82 =>
   C0.agg 2 (some v81) fun l83 =>
   C0.int .i64 l83[0]? fun x84 =>
   C0.int .i64 l83[1]? fun x85 =>
   C0.hop h82 (.load true 2 (.v v73)) fun v86 h87 =>
   C0.agg 2 (some v86) fun l88 =>
   C0.int .i64 l88[0]? fun x89 =>
   C0.int .i64 l88[1]? fun x90 =>
   C0.hop h87 (.load true 2 (.v v75)) fun v91 h92 =>
   C0.agg 2 (some v91) fun l93 =>
   C0.int .i64 l93[0]? fun x94 =>
   C0.int .i64 l93[1]? fun x95 =>
   C0.bool (pcall M d 61 [(.agg [(iz x84), (iz x85)]), (.agg [(iz x89), (iz x90)]), (.agg [(iz x94), (iz x95)])]) fun b96 =>
   cnd b96
   (E40_0 d a0 v0 x13 0 h92)
   (C0.hop h92 (.fldA 1 (.v v73)) fun v97 h98 =>
   C0.hop h98 (.load false 1 (.v v97)) fun v99 h100 =>
   C0.int .i64 (some v99) fun x101 =>
   C0.hop h100 (.fldA 1 (.v v75)) fun v102 h103 =>
   C0.hop h103 (.load false 1 (.v v102)) fun v104 h105 =>
   C0.int .i64 (some v104) fun x106 =>
   cnd (decide (x101 > x106))
   (C0.hop h105 (.load true 2 (.v v75)) fun v107 h108 =>
   C0.agg 2 (some v107) fun l109 =>
   C0.int .i64 l109[0]? fun x110 =>
   C0.int .i64 l109[1]? fun x111 =>
   C0.hop h108 (.load true 2 (.v v73)) fun v112 h113 =>
   C0.agg 2 (some v112) fun l114 =>
   C0.int .i64 l114[0]? fun x115 =>
   C0.int .i64 l114[1]? fun x116 =>
   C0.hop h113 (.store 2 (.v v73) (.v (.agg [(iz x110), (iz x111)]))) fun v117 h118 =>
   C0.hop h118 (.store 2 (.v v75) (.v (.agg [(iz x115), (iz x116)]))) fun v119 h120 =>
   C0.hop h120 (.fldA 1 (.v v73)) fun v121 h122 =>
   C0.hop h122 (.load false 1 (.v v121)) fun v123 h124 =>
   C0.int .i64 (some v123) fun x125 =>
   C0.hop h124 (.fldA 1 (.v v0)) fun v126 h127 =>
   C0.hop h127 (.load false 1 (.v v126)) fun v128 h129 =>
   C0.int .i64 (some v128) fun x130 =>
   cnd (decide (x125 ≤ x130))
   (C0.hop h129 (.fldA 1 (.v v0)) fun v131 h132 =>
   C0.hop h132 (.load false 1 (.v v131)) fun v133 h134 =>
   C0.int .i64 (some v133) fun x135 =>
   C0.hop h134 (.fldA 1 (.v v75)) fun v136 h137 =>
   C0.hop h137 (.load false 1 (.v v136)) fun v138 h139 =>
   C0.int .i64 (some v138) fun x140 =>
   cnd (decide (x135 < x140))
   (C0.hop h139 (.load true 2 (.v v73)) fun v141 h142 =>
   C0.agg 2 (some v141) fun l143 =>
   C0.int .i64 l143[0]? fun x144 =>
   C0.int .i64 l143[1]? fun x145 =>
   C0.hop h142 (.load true 2 (.v v75)) fun v146 h147 =>
   C0.agg 2 (some v146) fun l148 =>
   C0.int .i64 l148[0]? fun x149 =>
   C0.int .i64 l148[1]? fun x150 =>
   C0.hop h147 (.load true 2 (.v v0)) fun v151 h152 =>
   C0.agg 2 (some v151) fun l153 =>
   C0.int .i64 l153[0]? fun x154 =>
   C0.int .i64 l153[1]? fun x155 =>
   C0.int .i64 (pcall M d 57 [(.agg [(iz x144), (iz x145)]), (.agg [(iz x149), (iz x150)]), (.agg [(iz x154), (iz x155)])]) fun x156 =>
   cnd (decide (x156 > 0))
   (L40_0 d a0 v0 x13 n (IntKind.wrap .i64 (0 - x18)) (IntKind.wrap .i64 (x22 + 1)) h152)
   (L40_0 d a0 v0 x13 n x18 (IntKind.wrap .i64 (x22 + 1)) h152))
   (L40_0 d a0 v0 x13 n x18 (IntKind.wrap .i64 (x22 + 1)) h139))
   (L40_0 d a0 v0 x13 n x18 (IntKind.wrap .i64 (x22 + 1)) h129))
   (C0.hop h105 (.fldA 1 (.v v73)) fun v157 h158 =>
   C0.hop h158 (.load false 1 (.v v157)) fun v159 h160 =>
   C0.int .i64 (some v159) fun x161 =>
   C0.hop h160 (.fldA 1 (.v v0)) fun v162 h163 =>
   C0.hop h163 (.load false 1 (.v v162)) fun v164 h165 =>
   C0.int .i64 (some v164) fun x166 =>
   cnd (decide (x161 ≤ x166))
   (C0.hop h165 (.fldA 1 (.v v0)) fun v167 h168 =>
   C0.hop h168 (.load false 1 (.v v167)) fun v169 h170 =>
   C0.int .i64 (some v169) fun x171 =>
   C0.hop h170 (.fldA 1 (.v v75)) fun v172 h173 =>
   C0.hop h173 (.load false 1 (.v v172)) fun v174 h175 =>
   C0.int .i64 (some v174) fun x176 =>
   cnd (decide (x171 < x176))
   (C0.hop h175 (.load true 2 (.v v73)) fun v177 h178 =>
   C0.agg 2 (some v177) fun l179 =>
   C0.int .i64 l179[0]? fun x180 =>
   C0.int .i64 l179[1]? fun x181 =>
   C0.hop h178 (.load true 2 (.v v75)) fun v182 h183 =>
   C0.agg 2 (some v182) fun l184 =>
   C0.int .i64 l184[0]? fun x185 =>
   C0.int .i64 l184[1]? fun x186 =>
   C0.hop h183 (.load true 2 (.v v0)) fun v187 h188 =>
   C0.agg 2 (some v187) fun l189 =>
   C0.int .i64 l189[0]? fun x190 =>
   C0.int .i64 l189[1]? fun x191 =>
   C0.int .i64 (pcall M d 57 [(.agg [(iz x180), (iz x181)]), (.agg [(iz x185), (iz x186)]), (.agg [(iz x190), (iz x191)])]) fun x192 =>
   cnd (decide (x192 > 0))
   (L40_0 d a0 v0 x13 n (IntKind.wrap .i64 (0 - x18)) (IntKind.wrap .i64 (x22 + 1)) h188)
   (L40_0 d a0 v0 x13 n x18 (IntKind.wrap .i64 (x22 + 1)) h188))
   (L40_0 d a0 v0 x13 n x18 (IntKind.wrap .i64 (x22 + 1)) h175))
   (L40_0 d a0 v0 x13 n x18 (IntKind.wrap .i64 (x22 + 1)) h165))))
   (none))
   (X40_0_0 d a0 v0 x13 x18 H)
theorem it40_0 (d : Nat) (a0 : List AV) (a1 a2 : Int) (v0 : AV) (b4 : Bool) (x8 x9 : Int) (b10 : Bool) (x13 : Int)   : ∀ (n : Nat) (x17 x18 : Int) (v19 v20 v21 : AV) (x22 : Int) (v23 v24 v25 v26 v27 v28 v29 v30 v31 v32 v33 v34 v35 v36 v37 v38 v39 v40 v41 v42 v43 v44 v45 v46 v47 v48 v49 v50 v51 v52 v53 v54 v55 v56 v57 v58 v59 v60 v61 v62 v63 : AV) (H : Heap), C0.iter (r40R0 C0 d a0 a1 a2 v0 b4 x8 x9 b10 x13) n ⟨[(.lst a0), (.agg [(iz a1), (iz a2)]), tz, v0, (iz x17), (iz x18), v19, v20, v21, (.lst a0), (.bool b4), (.bool (!b4)), bf, (.agg [(iz x8), (iz x9)]), (.bool b10), (.bool (!b10)), bf, (.lst a0), (iz x13), (iz x22), v23, v24, v25, v26, v27, v28, v29, v30, v31, v32, v33, v34, v35, v36, v37, v38, v39, v40, v41, v42, v43, v44, v45, v46, v47, v48, v49, v50, v51, v52, v53, v54, v55, v56, v57, v58, v59, v60, v61, v62, v63, tz], H⟩ [0] [r40X0_0 C0 d a0 a1 a2 v0 b4 x8 x9 b10 x13] (r40E0 C0 d a0 a1 a2 v0 b4 x8 x9 b10 x13) = L40_0 d a0 v0 x13 n x18 x22 H := by
  generalize hR : r40R0 C0 d a0 a1 a2 v0 b4 x8 x9 b10 x13 = R
  intro n
  induction n with
  | zero => intros; rfl
  | succ n ih =>
    intro x17 x18 v19 v20 v21 x22 v23 v24 v25 v26 v27 v28 v29 v30 v31 v32 v33 v34 v35 v36 v37 v38 v39 v40 v41 v42 v43 v44 v45 v46 v47 v48 v49 v50 v51 v52 v53 v54 v55 v56 v57 v58 v59 v60 v61 v62 v63 H
    simp only [it_ret] at ih
    rw [it_ret, xiter_s]
    refine Eq.trans (congrFun (congrFun hR.symm _) _) ?_
    unfold r40R0
    refine Eq.trans (pl_len (by rfl)) ?_; (iterate 4 (refine yt yS ?_)); (iterate 2 (refine yt yI ?_)); (iterate 3 (refine yt yA ?_)); (iterate 10 (refine yt yS ?_)); refine yt yI ?_; (iterate 41 (refine yt yA ?_)); refine yt yS ?_
    simp only [L40_0, kIter_n, kIter_x, kIter_r, kOut_x, kOut_r, xgo_hit, xgo_miss, ih, X40_0_0_ok d a0 a1 a2 v0 b4 x8 x9 b10 x13  , E40_0_ok d a0 a1 a2 v0 b4 x8 x9 b10 x13  ]
/-- apogee/poly.Side -/
theorem q40 (d : Nat) (a0 : List AV) (a1 a2 : Int) : xcall C0 M unr d 40 [(.lst a0), (.agg [(iz a1), (iz a2)])] =
  C0.hop [] (.box E45 (.v (.agg [(iz a1), (iz a2)]))) fun v0 h1 =>
  C0.snp h1 [(.lst a0)] fun l2 b3 =>
  C0.bool (pcall M d 38 l2) fun b4 =>
  cnd (b3 || true)
   (cnd (!b4)
   (C0.fin h1 (iz (-1)))
   (C0.hop h1 (.load true 2 (.v v0)) fun v5 h6 =>
   C0.agg 2 (some v5) fun l7 =>
   C0.int .i64 l7[0]? fun x8 =>
   C0.int .i64 l7[1]? fun x9 =>
   C0.bool (pcall M d 49 [(.agg [(iz x8), (iz x9)])]) fun b10 =>
   cnd (!b10)
   (C0.fin h6 (iz (-1)))
   (C0.hop h6 (.bk .lenV [(.v (.lst a0))]) fun v11 h12 =>
   C0.int .i64 (some v11) fun x13 =>
   L40_0 d a0 v0 x13 1000000000000000000 (-1) 0 h12)))
   (none) := (r40 C0 d a0 a1 a2).trans (by simp only [it40_0])
noncomputable def X53_1_0 (d : Nat) (a0 : List AV) (x7 : Int) (k2N : Int → Ans) (k2R : Bool → Ans)  : Ans :=
  k2N (IntKind.wrap .i64 (x7 + 1))
theorem X53_1_0_ok (d : Nat) (a0 : List AV) (b0 : Bool) (k2 : Ex → St → Ans) (x7 : Int) (v31 : AV) (k2N : Int → Ans) (k2R : Bool → Ans) (hk2N : ∀ (b4 : Bool) (v5 v6 : AV) (x7 : Int) (v8 v9 v10 v11 v12 v13 v14 v15 v16 v17 v18 v19 v20 v21 v22 v23 v24 v25 v26 v27 v28 v29 v30 v31 : AV), k2 .normal ⟨[(.lst a0), tz, (.bool b4), (iz (((List.length a0) : Nat) : Int)), v5, v6, (.lst a0), (iz (((List.length a0) : Nat) : Int)), (iz (((List.length a0) : Nat) : Int)), (.bool (decide ((((List.length a0) : Nat) : Int) < 3))), bf, (iz (((List.length a0) : Nat) : Int)), (.bool (decide ((((List.length a0) : Nat) : Int) > 8))), (.bool (decide ((((List.length a0) : Nat) : Int) > 8))), bf, (.lst a0), (.bool b0), bf, (iz (((List.length a0) : Nat) : Int)), (iz x7), v8, v9, v10, v11, v12, v13, v14, v15, v16, v17, v18, v19, v20, v21, v22, v23, v24, v25, v26, v27, v28, v29, v30, v31], []⟩ = k2N x7) (hk2R : ∀ (b142 : Bool) (x143 x144 x145 : Int) (b146 : Bool) (x147 x148 x149 : Int) (b150 : Bool) (x151 : Int) (v152 : AV) (x153 : Int) (v154 : AV) (x156 x157 : Int) (v158 : AV) (x159 : Int) (v160 : AV) (x162 x163 : Int) (b164 b165 : Bool) (v166 v167 v168 v169 v170 : AV) (b171 : Bool) (v172 v173 : AV), k2 .ret ⟨[(.lst a0), tz, (.bool b142), (iz (((List.length a0) : Nat) : Int)), (iz x143), (iz x144), (.lst a0), (iz (((List.length a0) : Nat) : Int)), (iz (((List.length a0) : Nat) : Int)), (.bool (decide ((((List.length a0) : Nat) : Int) < 3))), bf, (iz (((List.length a0) : Nat) : Int)), (.bool (decide ((((List.length a0) : Nat) : Int) > 8))), (.bool (decide ((((List.length a0) : Nat) : Int) > 8))), bf, (.lst a0), (.bool b0), bf, (iz (((List.length a0) : Nat) : Int)), (iz x145), (.bool b146), (iz x147), (iz x148), (iz x149), (.bool b150), (iz x151), v152, (iz x153), v154, (.agg [(iz x156), (iz x157)]), v158, (iz x159), v160, (.agg [(iz x162), (iz x163)]), (.bool b164), (.bool b165), v166, v167, v168, v169, v170, (.bool b171), v172, v173], []⟩ = k2R b142) (b65 : Bool) (v66 : AV) (x67 : Int) (b68 : Bool) (v69 v70 v71 v72 v73 v74 v75 v76 v77 v78 v79 v80 v81 v82 v83 v84 v85 v86 : AV) : r53X1_0 C0 d a0 b0 k2 x7 v31 ⟨[(.lst a0), tz, (.bool b65), (iz (((List.length a0) : Nat) : Int)), (iz x7), v66, (.lst a0), (iz (((List.length a0) : Nat) : Int)), (iz (((List.length a0) : Nat) : Int)), (.bool (decide ((((List.length a0) : Nat) : Int) < 3))), bf, (iz (((List.length a0) : Nat) : Int)), (.bool (decide ((((List.length a0) : Nat) : Int) > 8))), (.bool (decide ((((List.length a0) : Nat) : Int) > 8))), bf, (.lst a0), (.bool b0), bf, (iz (((List.length a0) : Nat) : Int)), (iz x7), bt, (iz x7), (iz x7), (iz x67), (.bool b68), v69, v70, v71, v72, v73, v74, v75, v76, v77, v78, v79, v80, v81, v82, v83, v84, v85, v86, v31], []⟩ = X53_1_0 d a0 x7 k2N k2R  := by
  try dsimp only at hk2N
  try dsimp only at hk2R
  unfold r53X1_0; refine Eq.trans (pl_len (by rfl)) ?_; (iterate 2 (refine yt yS ?_)); refine yt yB ?_; (iterate 2 (refine yt yS ?_)); refine yt yA ?_; (iterate 17 (refine yt yS ?_)); refine yt yI ?_; refine yt yB ?_; (iterate 18 (refine yt yA ?_)); refine yt yS ?_; refine Eq.trans (pl_sameH) ?_
  first | (simp only [hk2N, hk2R] <;> rfl) | rfl
noncomputable def E53_1 (d : Nat) (a0 : List AV) (x7 : Int) (k2N : Int → Ans) (k2R : Bool → Ans) (b87 : Bool) : Ans :=
  k2R b87
theorem E53_1_ok (d : Nat) (a0 : List AV) (b0 : Bool) (k2 : Ex → St → Ans) (x7 : Int) (v31 : AV) (k2N : Int → Ans) (k2R : Bool → Ans) (hk2N : ∀ (b4 : Bool) (v5 v6 : AV) (x7 : Int) (v8 v9 v10 v11 v12 v13 v14 v15 v16 v17 v18 v19 v20 v21 v22 v23 v24 v25 v26 v27 v28 v29 v30 v31 : AV), k2 .normal ⟨[(.lst a0), tz, (.bool b4), (iz (((List.length a0) : Nat) : Int)), v5, v6, (.lst a0), (iz (((List.length a0) : Nat) : Int)), (iz (((List.length a0) : Nat) : Int)), (.bool (decide ((((List.length a0) : Nat) : Int) < 3))), bf, (iz (((List.length a0) : Nat) : Int)), (.bool (decide ((((List.length a0) : Nat) : Int) > 8))), (.bool (decide ((((List.length a0) : Nat) : Int) > 8))), bf, (.lst a0), (.bool b0), bf, (iz (((List.length a0) : Nat) : Int)), (iz x7), v8, v9, v10, v11, v12, v13, v14, v15, v16, v17, v18, v19, v20, v21, v22, v23, v24, v25, v26, v27, v28, v29, v30, v31], []⟩ = k2N x7) (hk2R : ∀ (b142 : Bool) (x143 x144 x145 : Int) (b146 : Bool) (x147 x148 x149 : Int) (b150 : Bool) (x151 : Int) (v152 : AV) (x153 : Int) (v154 : AV) (x156 x157 : Int) (v158 : AV) (x159 : Int) (v160 : AV) (x162 x163 : Int) (b164 b165 : Bool) (v166 v167 v168 v169 v170 : AV) (b171 : Bool) (v172 v173 : AV), k2 .ret ⟨[(.lst a0), tz, (.bool b142), (iz (((List.length a0) : Nat) : Int)), (iz x143), (iz x144), (.lst a0), (iz (((List.length a0) : Nat) : Int)), (iz (((List.length a0) : Nat) : Int)), (.bool (decide ((((List.length a0) : Nat) : Int) < 3))), bf, (iz (((List.length a0) : Nat) : Int)), (.bool (decide ((((List.length a0) : Nat) : Int) > 8))), (.bool (decide ((((List.length a0) : Nat) : Int) > 8))), bf, (.lst a0), (.bool b0), bf, (iz (((List.length a0) : Nat) : Int)), (iz x145), (.bool b146), (iz x147), (iz x148), (iz x149), (.bool b150), (iz x151), v152, (iz x153), v154, (.agg [(iz x156), (iz x157)]), v158, (iz x159), v160, (.agg [(iz x162), (iz x163)]), (.bool b164), (.bool b165), v166, v167, v168, v169, v170, (.bool b171), v172, v173], []⟩ = k2R b142) (b87 : Bool) (x88 x89 : Int) (b90 : Bool) (x91 : Int) (v92 : AV) (x93 : Int) (v94 : AV) (x96 x97 : Int) (v98 : AV) (x99 : Int) (v100 : AV) (x102 x103 : Int) (b104 b105 : Bool) (v106 v107 v108 v109 v110 : AV) (b111 : Bool) (v112 : AV) : r53E1 C0 d a0 b0 k2 x7 v31 ⟨[(.lst a0), tz, (.bool b87), (iz (((List.length a0) : Nat) : Int)), (iz x7), (iz x88), (.lst a0), (iz (((List.length a0) : Nat) : Int)), (iz (((List.length a0) : Nat) : Int)), (.bool (decide ((((List.length a0) : Nat) : Int) < 3))), bf, (iz (((List.length a0) : Nat) : Int)), (.bool (decide ((((List.length a0) : Nat) : Int) > 8))), (.bool (decide ((((List.length a0) : Nat) : Int) > 8))), bf, (.lst a0), (.bool b0), bf, (iz (((List.length a0) : Nat) : Int)), (iz x7), bt, (iz x7), (iz x7), (iz x89), (.bool b90), (iz x91), v92, (iz x93), v94, (.agg [(iz x96), (iz x97)]), v98, (iz x99), v100, (.agg [(iz x102), (iz x103)]), (.bool b104), (.bool b105), v106, v107, v108, v109, v110, (.bool b111), v112, v31], []⟩ = E53_1 d a0 x7 k2N k2R b87 := by
  try dsimp only at hk2N
  try dsimp only at hk2R
  unfold r53E1; refine Eq.trans (pl_len (by rfl)) ?_; (iterate 2 (refine yt yS ?_)); refine yt yB ?_; (iterate 2 (refine yt yS ?_)); refine yt yI ?_; (iterate 17 (refine yt yS ?_)); refine yt yI ?_; refine yt yB ?_; refine yt yI ?_; refine yt yA ?_; refine yt yI ?_; refine yt yA ?_; refine yt yG ?_; (iterate 2 (refine yt yI ?_)); refine yt yA ?_; refine yt yI ?_; refine yt yA ?_; refine yt yG ?_; (iterate 2 (refine yt yI ?_)); (iterate 2 (refine yt yB ?_)); (iterate 5 (refine yt yA ?_)); refine yt yB ?_; refine yt yA ?_; refine yt yS ?_; refine Eq.trans (pl_sameH) ?_
  first | (simp only [hk2N, hk2R] <;> rfl) | rfl
noncomputable def L53_1 (d : Nat) (a0 : List AV) (x7 : Int) (k2N : Int → Ans) (k2R : Bool → Ans) : Nat → Int → Ans
  | 0, _ => none
  | n + 1, x37 =>
  cnd (decide (x37 < x7))
   (cnd (decide (0 ≤ x7))
   (C0.agg 2 a0[(Int.toNat x7)]? fun l57 =>
   C0.int .i64 l57[0]? fun x58 =>
   C0.int .i64 l57[1]? fun x59 =>
   cnd (decide (0 ≤ x37))
   (C0.agg 2 a0[(Int.toNat x37)]? fun l60 =>
   C0.int .i64 l60[0]? fun x61 =>
   C0.int .i64 l60[1]? fun x62 =>
   cnd (xor false ((x58 == x61) && ((x59 == x62) && true)))
   (E53_1 d a0 x7 k2N k2R false)
   (C0.bool (pcall M d 66 [(.lst a0), (iz x37), (iz x7)]) fun b63 =>
   cnd (!b63)
   (E53_1 d a0 x7 k2N k2R false)
   (L53_1 d a0 x7 k2N k2R n (IntKind.wrap .i64 (x37 + 1)))))
   (none))
   (none))
   (X53_1_0 d a0 x7 k2N k2R)
theorem it53_1 (d : Nat) (a0 : List AV) (b0 : Bool) (k2 : Ex → St → Ans) (x7 : Int) (v31 : AV) (k2N : Int → Ans) (k2R : Bool → Ans) (hk2N : ∀ (b4 : Bool) (v5 v6 : AV) (x7 : Int) (v8 v9 v10 v11 v12 v13 v14 v15 v16 v17 v18 v19 v20 v21 v22 v23 v24 v25 v26 v27 v28 v29 v30 v31 : AV), k2 .normal ⟨[(.lst a0), tz, (.bool b4), (iz (((List.length a0) : Nat) : Int)), v5, v6, (.lst a0), (iz (((List.length a0) : Nat) : Int)), (iz (((List.length a0) : Nat) : Int)), (.bool (decide ((((List.length a0) : Nat) : Int) < 3))), bf, (iz (((List.length a0) : Nat) : Int)), (.bool (decide ((((List.length a0) : Nat) : Int) > 8))), (.bool (decide ((((List.length a0) : Nat) : Int) > 8))), bf, (.lst a0), (.bool b0), bf, (iz (((List.length a0) : Nat) : Int)), (iz x7), v8, v9, v10, v11, v12, v13, v14, v15, v16, v17, v18, v19, v20, v21, v22, v23, v24, v25, v26, v27, v28, v29, v30, v31], []⟩ = k2N x7) (hk2R : ∀ (b142 : Bool) (x143 x144 x145 : Int) (b146 : Bool) (x147 x148 x149 : Int) (b150 : Bool) (x151 : Int) (v152 : AV) (x153 : Int) (v154 : AV) (x156 x157 : Int) (v158 : AV) (x159 : Int) (v160 : AV) (x162 x163 : Int) (b164 b165 : Bool) (v166 v167 v168 v169 v170 : AV) (b171 : Bool) (v172 v173 : AV), k2 .ret ⟨[(.lst a0), tz, (.bool b142), (iz (((List.length a0) : Nat) : Int)), (iz x143), (iz x144), (.lst a0), (iz (((List.length a0) : Nat) : Int)), (iz (((List.length a0) : Nat) : Int)), (.bool (decide ((((List.length a0) : Nat) : Int) < 3))), bf, (iz (((List.length a0) : Nat) : Int)), (.bool (decide ((((List.length a0) : Nat) : Int) > 8))), (.bool (decide ((((List.length a0) : Nat) : Int) > 8))), bf, (.lst a0), (.bool b0), bf, (iz (((List.length a0) : Nat) : Int)), (iz x145), (.bool b146), (iz x147), (iz x148), (iz x149), (.bool b150), (iz x151), v152, (iz x153), v154, (.agg [(iz x156), (iz x157)]), v158, (iz x159), v160, (.agg [(iz x162), (iz x163)]), (.bool b164), (.bool b165), v166, v167, v168, v169, v170, (.bool b171), v172, v173], []⟩ = k2R b142) : ∀ (n : Nat) (b35 : Bool) (v36 : AV) (x37 : Int) (v38 v39 v40 v41 v42 v43 v44 v45 v46 v47 v48 v49 v50 v51 v52 v53 v54 v55 v56 : AV), C0.iter (r53R1 C0 d a0 b0 k2 x7 v31) n ⟨[(.lst a0), tz, (.bool b35), (iz (((List.length a0) : Nat) : Int)), (iz x7), v36, (.lst a0), (iz (((List.length a0) : Nat) : Int)), (iz (((List.length a0) : Nat) : Int)), (.bool (decide ((((List.length a0) : Nat) : Int) < 3))), bf, (iz (((List.length a0) : Nat) : Int)), (.bool (decide ((((List.length a0) : Nat) : Int) > 8))), (.bool (decide ((((List.length a0) : Nat) : Int) > 8))), bf, (.lst a0), (.bool b0), bf, (iz (((List.length a0) : Nat) : Int)), (iz x7), bt, (iz x7), (iz x7), (iz x37), v38, v39, v40, v41, v42, v43, v44, v45, v46, v47, v48, v49, v50, v51, v52, v53, v54, v55, v56, v31], []⟩ [2] [r53X1_0 C0 d a0 b0 k2 x7 v31] (r53E1 C0 d a0 b0 k2 x7 v31) = L53_1 d a0 x7 k2N k2R n x37 := by
  generalize hR : r53R1 C0 d a0 b0 k2 x7 v31 = R
  intro n
  induction n with
  | zero => intros; rfl
  | succ n ih =>
    intro b35 v36 x37 v38 v39 v40 v41 v42 v43 v44 v45 v46 v47 v48 v49 v50 v51 v52 v53 v54 v55 v56
    simp only [it_ret] at ih
    rw [it_ret, xiter_s]
    refine Eq.trans (congrFun (congrFun hR.symm _) _) ?_
    unfold r53R1
    refine Eq.trans (pl_len (by rfl)) ?_; (iterate 2 (refine yt yS ?_)); refine yt yB ?_; (iterate 2 (refine yt yS ?_)); refine yt yA ?_; (iterate 17 (refine yt yS ?_)); refine yt yI ?_; (iterate 19 (refine yt yA ?_)); refine yt yS ?_; refine Eq.trans (pl_sameH) ?_
    simp only [L53_1, kIter_n, kIter_x, kIter_r, kOut_x, kOut_r, xgo_hit, xgo_miss, ih, X53_1_0_ok d a0 b0 k2 x7 v31 k2N k2R hk2N hk2R, E53_1_ok d a0 b0 k2 x7 v31 k2N k2R hk2N hk2R]
noncomputable def X53_0_0 (d : Nat) (a0 : List AV)  : Ans :=
  some bt
theorem X53_0_0_ok (d : Nat) (a0 : List AV) (b0 b114 : Bool) (v115 v116 : AV) (x117 : Int) (b118 : Bool) (v119 v120 v121 v122 v123 v124 v125 v126 v127 v128 v129 v130 v131 v132 v133 v134 v135 v136 v137 v138 v139 v140 v141 : AV) : r53X0_0 C0 d a0 b0 ⟨[(.lst a0), tz, (.bool b114), (iz (((List.length a0) : Nat) : Int)), v115, v116, (.lst a0), (iz (((List.length a0) : Nat) : Int)), (iz (((List.length a0) : Nat) : Int)), (.bool (decide ((((List.length a0) : Nat) : Int) < 3))), bf, (iz (((List.length a0) : Nat) : Int)), (.bool (decide ((((List.length a0) : Nat) : Int) > 8))), (.bool (decide ((((List.length a0) : Nat) : Int) > 8))), bf, (.lst a0), (.bool b0), bf, (iz (((List.length a0) : Nat) : Int)), (iz x117), (.bool b118), v119, v120, v121, v122, v123, v124, v125, v126, v127, v128, v129, v130, v131, v132, v133, v134, v135, v136, v137, v138, v139, v140, v141], []⟩ = X53_0_0 d a0  := by
  unfold r53X0_0; refine Eq.trans (pl_len (by rfl)) ?_; (iterate 2 (refine yt yS ?_)); refine yt yB ?_; refine yt yS ?_; (iterate 2 (refine yt yA ?_)); (iterate 13 (refine yt yS ?_)); refine yt yI ?_; refine yt yB ?_; (iterate 23 (refine yt yA ?_)); refine Eq.trans (pl_sameH) ?_
  rfl
noncomputable def E53_0 (d : Nat) (a0 : List AV) (b142 : Bool) : Ans :=
  some (.bool b142)
theorem E53_0_ok (d : Nat) (a0 : List AV) (b0 b142 : Bool) (x143 x144 x145 : Int) (b146 : Bool) (x147 x148 x149 : Int) (b150 : Bool) (x151 : Int) (v152 : AV) (x153 : Int) (v154 : AV) (x156 x157 : Int) (v158 : AV) (x159 : Int) (v160 : AV) (x162 x163 : Int) (b164 b165 : Bool) (v166 v167 v168 v169 v170 : AV) (b171 : Bool) (v172 v173 : AV) : r53E0 C0 d a0 b0 ⟨[(.lst a0), tz, (.bool b142), (iz (((List.length a0) : Nat) : Int)), (iz x143), (iz x144), (.lst a0), (iz (((List.length a0) : Nat) : Int)), (iz (((List.length a0) : Nat) : Int)), (.bool (decide ((((List.length a0) : Nat) : Int) < 3))), bf, (iz (((List.length a0) : Nat) : Int)), (.bool (decide ((((List.length a0) : Nat) : Int) > 8))), (.bool (decide ((((List.length a0) : Nat) : Int) > 8))), bf, (.lst a0), (.bool b0), bf, (iz (((List.length a0) : Nat) : Int)), (iz x145), (.bool b146), (iz x147), (iz x148), (iz x149), (.bool b150), (iz x151), v152, (iz x153), v154, (.agg [(iz x156), (iz x157)]), v158, (iz x159), v160, (.agg [(iz x162), (iz x163)]), (.bool b164), (.bool b165), v166, v167, v168, v169, v170, (.bool b171), v172, v173], []⟩ = E53_0 d a0 b142 := by
  unfold r53E0; refine Eq.trans (pl_len (by rfl)) ?_; (iterate 2 (refine yt yS ?_)); refine yt yB ?_; refine yt yS ?_; (iterate 2 (refine yt yI ?_)); (iterate 13 (refine yt yS ?_)); refine yt yI ?_; refine yt yB ?_; (iterate 3 (refine yt yI ?_)); refine yt yB ?_; refine yt yI ?_; refine yt yA ?_; refine yt yI ?_; refine yt yA ?_; refine yt yG ?_; (iterate 2 (refine yt yI ?_)); refine yt yA ?_; refine yt yI ?_; refine yt yA ?_; refine yt yG ?_; (iterate 2 (refine yt yI ?_)); (iterate 2 (refine yt yB ?_)); (iterate 5 (refine yt yA ?_)); refine yt yB ?_; (iterate 2 (refine yt yA ?_)); refine Eq.trans (pl_sameH) ?_
  rfl
noncomputable def L53_0 (d : Nat) (a0 : List AV) : Nat → Int → Ans
  | 0, _ => none
  | n + 1, x7 =>
  cnd (decide (x7 < (((List.length a0) : Nat) : Int)))
   (L53_1 d a0 x7 (fun x7 => L53_0 d a0 n x7) (fun b142 => E53_0 d a0 b142) 1000000000000000000 0)
   (X53_0_0 d a0)
theorem it53_0 (d : Nat) (a0 : List AV) (b0 : Bool)   : ∀ (n : Nat) (b4 : Bool) (v5 v6 : AV) (x7 : Int) (v8 v9 v10 v11 v12 v13 v14 v15 v16 v17 v18 v19 v20 v21 v22 v23 v24 v25 v26 v27 v28 v29 v30 v31 : AV), C0.iter (r53R0 C0 d a0 b0) n ⟨[(.lst a0), tz, (.bool b4), (iz (((List.length a0) : Nat) : Int)), v5, v6, (.lst a0), (iz (((List.length a0) : Nat) : Int)), (iz (((List.length a0) : Nat) : Int)), (.bool (decide ((((List.length a0) : Nat) : Int) < 3))), bf, (iz (((List.length a0) : Nat) : Int)), (.bool (decide ((((List.length a0) : Nat) : Int) > 8))), (.bool (decide ((((List.length a0) : Nat) : Int) > 8))), bf, (.lst a0), (.bool b0), bf, (iz (((List.length a0) : Nat) : Int)), (iz x7), v8, v9, v10, v11, v12, v13, v14, v15, v16, v17, v18, v19, v20, v21, v22, v23, v24, v25, v26, v27, v28, v29, v30, v31], []⟩ [0] [r53X0_0 C0 d a0 b0] (r53E0 C0 d a0 b0) = L53_0 d a0 n x7 := by
  generalize hR : r53R0 C0 d a0 b0 = R
  intro n
  induction n with
  | zero => intros; rfl
  | succ n ih =>
    intro b4 v5 v6 x7 v8 v9 v10 v11 v12 v13 v14 v15 v16 v17 v18 v19 v20 v21 v22 v23 v24 v25 v26 v27 v28 v29 v30 v31
    simp only [it_ret] at ih
    rw [it_ret, xiter_s]
    refine Eq.trans (congrFun (congrFun hR.symm _) _) ?_
    unfold r53R0
    refine Eq.trans (pl_len (by rfl)) ?_; (iterate 2 (refine yt yS ?_)); refine yt yB ?_; refine yt yS ?_; (iterate 2 (refine yt yA ?_)); (iterate 13 (refine yt yS ?_)); refine yt yI ?_; (iterate 24 (refine yt yA ?_)); refine Eq.trans (pl_sameH) ?_
    have I0 := it53_1 d a0 b0 (kIter R n (kOut [0] [r53X0_0 C0 d a0 b0] (r53E0 C0 d a0 b0))) x7 v31 (fun x7 => L53_0 d a0 n x7) (fun b142 => E53_0 d a0 b142) (fun b4 v5 v6 x7 v8 v9 v10 v11 v12 v13 v14 v15 v16 v17 v18 v19 v20 v21 v22 v23 v24 v25 v26 v27 v28 v29 v30 v31 => ih b4 v5 v6 x7 v8 v9 v10 v11 v12 v13 v14 v15 v16 v17 v18 v19 v20 v21 v22 v23 v24 v25 v26 v27 v28 v29 v30 v31) (fun b142 x143 x144 x145 b146 x147 x148 x149 b150 x151 v152 x153 v154 x156 x157 v158 x159 v160 x162 x163 b164 b165 v166 v167 v168 v169 v170 b171 v172 v173 => E53_0_ok d a0 b0   b142 x143 x144 x145 b146 x147 x148 x149 b150 x151 v152 x153 v154 x156 x157 v158 x159 v160 x162 x163 b164 b165 v166 v167 v168 v169 v170 b171 v172 v173)
    try dsimp only at I0
    simp only [L53_0, kIter_n, kIter_x, kIter_r, kOut_x, kOut_r, xgo_hit, xgo_miss, ih, I0, X53_0_0_ok d a0 b0  , E53_0_ok d a0 b0  ]
/-- apogee/poly.Simple -/
theorem q53 (d : Nat) (a0 : List AV) : xcall C0 M unr d 53 [(.lst a0)] =
  cnd (decide ((((List.length a0) : Nat) : Int) < 3))
   (some bf)
   (cnd (decide ((((List.length a0) : Nat) : Int) > 8))
   (some bf)
   (C0.bool (pcall M d 54 [(.lst a0), (.fn 65 [] [])]) fun b0 =>
   cnd b0
   (some bf)
   (L53_0 d a0 1000000000000000000 0))) := (r53 C0 d a0).trans (by simp only [it53_0])
noncomputable def X67f65_0_0 (d : Nat) (a0 : List AV)  : Ans :=
  some (iz (-1))
theorem X67f65_0_0_ok (d : Nat) (a0 : List AV) (x21 : Int) (v22 : AV) (x23 : Int) (v24 v25 v26 v27 v28 v29 v30 v31 v32 v33 : AV) : r67f65X0_0 C0 d a0 ⟨[(.lst a0), (.fn 65 [] []), tz, tz, (iz x21), v22, (.lst a0), (iz (((List.length a0) : Nat) : Int)), (iz x23), v24, v25, v26, v27, v28, v29, v30, v31, v32, v33], []⟩ = X67f65_0_0 d a0  := by
  unfold r67f65X0_0; refine Eq.trans (pl_len (by rfl)) ?_; (iterate 4 (refine yt yS ?_)); refine yt yI ?_; refine yt yA ?_; (iterate 2 (refine yt yS ?_)); refine yt yI ?_; (iterate 10 (refine yt yA ?_)); refine Eq.trans (pl_sameH) ?_
  rfl
noncomputable def E67f65_0 (d : Nat) (a0 : List AV) (x34 : Int) : Ans :=
  some (iz x34)
theorem E67f65_0_ok (d : Nat) (a0 : List AV) (x34 x35 x36 : Int) (v37 : AV) (x38 : Int) (v39 v40 : AV) (x41 : Int) (v42 : AV) (x44 x45 : Int) (b46 : Bool) (x47 : Int) (v48 : AV) : r67f65E0 C0 d a0 ⟨[(.lst a0), (.fn 65 [] []), tz, tz, (iz x34), (iz x35), (.lst a0), (iz (((List.length a0) : Nat) : Int)), (iz x36), v37, (iz x38), v39, v40, (iz x41), v42, (.agg [(iz x44), (iz x45)]), (.bool b46), (iz x47), v48], []⟩ = E67f65_0 d a0 x34 := by
  unfold r67f65E0; refine Eq.trans (pl_len (by rfl)) ?_; (iterate 4 (refine yt yS ?_)); (iterate 2 (refine yt yI ?_)); (iterate 2 (refine yt yS ?_)); refine yt yI ?_; refine yt yA ?_; refine yt yI ?_; (iterate 2 (refine yt yA ?_)); refine yt yI ?_; refine yt yA ?_; refine yt yG ?_; (iterate 2 (refine yt yI ?_)); refine yt yB ?_; refine yt yI ?_; refine yt yA ?_; refine Eq.trans (pl_sameH) ?_
  rfl
noncomputable def L67f65_0 (d : Nat) (a0 : List AV) : Nat → Int → Ans
  | 0, _ => none
  | n + 1, x5 =>
  cnd (decide (x5 < (((List.length a0) : Nat) : Int)))
   (cnd (decide (0 ≤ x5))
   (C0.agg 2 a0[(Int.toNat x5)]? fun l16 =>
   C0.int .i64 l16[0]? fun x17 =>
   C0.int .i64 l16[1]? fun x18 =>
   C0.bool (pcall M d 65 [(.agg [(iz x17), (iz x18)])]) fun b19 =>
   cnd b19
   (E67f65_0 d a0 x5)
   (L67f65_0 d a0 n (IntKind.wrap .i64 (x5 + 1))))
   (none))
   (X67f65_0_0 d a0)
theorem it67f65_0 (d : Nat) (a0 : List AV)   : ∀ (n : Nat) (x3 : Int) (v4 : AV) (x5 : Int) (v6 v7 v8 v9 v10 v11 v12 v13 v14 v15 : AV), C0.iter (r67f65R0 C0 d a0) n ⟨[(.lst a0), (.fn 65 [] []), tz, tz, (iz x3), v4, (.lst a0), (iz (((List.length a0) : Nat) : Int)), (iz x5), v6, v7, v8, v9, v10, v11, v12, v13, v14, v15], []⟩ [0] [r67f65X0_0 C0 d a0] (r67f65E0 C0 d a0) = L67f65_0 d a0 n x5 := by
  generalize hR : r67f65R0 C0 d a0 = R
  intro n
  induction n with
  | zero => intros; rfl
  | succ n ih =>
    intro x3 v4 x5 v6 v7 v8 v9 v10 v11 v12 v13 v14 v15
    simp only [it_ret] at ih
    rw [it_ret, xiter_s]
    refine Eq.trans (congrFun (congrFun hR.symm _) _) ?_
    unfold r67f65R0
    refine Eq.trans (pl_len (by rfl)) ?_; (iterate 4 (refine yt yS ?_)); refine yt yI ?_; refine yt yA ?_; (iterate 2 (refine yt yS ?_)); refine yt yI ?_; (iterate 10 (refine yt yA ?_)); refine Eq.trans (pl_sameH) ?_
    simp only [L67f65_0, kIter_n, kIter_x, kIter_r, kOut_x, kOut_r, xgo_hit, xgo_miss, ih, X67f65_0_0_ok d a0  , E67f65_0_ok d a0  ]
/-- slices.IndexFunc[[]apogee/api.Point,apogee/api.Point] -/
theorem q67f65 (d : Nat) (a0 : List AV) (a1 : AV) : xcall C0 M unr d 67 [(.lst a0), (.fn 65 [] [])] =
  L67f65_0 d a0 1000000000000000000 0 := (r67f65 C0 d a0 a1).trans (by simp only [it67f65_0])
noncomputable def X67f55_0_0 (d : Nat) (a0 : List AV)  : Ans :=
  some (iz (-1))
theorem X67f55_0_0_ok (d : Nat) (a0 : List AV) (x21 : Int) (v22 : AV) (x23 : Int) (v24 v25 v26 v27 v28 v29 v30 v31 v32 v33 : AV) : r67f55X0_0 C0 d a0 ⟨[(.lst a0), (.fn 55 [] []), tz, tz, (iz x21), v22, (.lst a0), (iz (((List.length a0) : Nat) : Int)), (iz x23), v24, v25, v26, v27, v28, v29, v30, v31, v32, v33], []⟩ = X67f55_0_0 d a0  := by
  unfold r67f55X0_0; refine Eq.trans (pl_len (by rfl)) ?_; (iterate 4 (refine yt yS ?_)); refine yt yI ?_; refine yt yA ?_; (iterate 2 (refine yt yS ?_)); refine yt yI ?_; (iterate 10 (refine yt yA ?_)); refine Eq.trans (pl_sameH) ?_
  rfl
noncomputable def E67f55_0 (d : Nat) (a0 : List AV) (x34 : Int) : Ans :=
  some (iz x34)
theorem E67f55_0_ok (d : Nat) (a0 : List AV) (x34 x35 x36 : Int) (v37 : AV) (x38 : Int) (v39 v40 : AV) (x41 : Int) (v42 : AV) (x44 x45 : Int) (b46 : Bool) (x47 : Int) (v48 : AV) : r67f55E0 C0 d a0 ⟨[(.lst a0), (.fn 55 [] []), tz, tz, (iz x34), (iz x35), (.lst a0), (iz (((List.length a0) : Nat) : Int)), (iz x36), v37, (iz x38), v39, v40, (iz x41), v42, (.agg [(iz x44), (iz x45)]), (.bool b46), (iz x47), v48], []⟩ = E67f55_0 d a0 x34 := by
  unfold r67f55E0; refine Eq.trans (pl_len (by rfl)) ?_; (iterate 4 (refine yt yS ?_)); (iterate 2 (refine yt yI ?_)); (iterate 2 (refine yt yS ?_)); refine yt yI ?_; refine yt yA ?_; refine yt yI ?_; (iterate 2 (refine yt yA ?_)); refine yt yI ?_; refine yt yA ?_; refine yt yG ?_; (iterate 2 (refine yt yI ?_)); refine yt yB ?_; refine yt yI ?_; refine yt yA ?_; refine Eq.trans (pl_sameH) ?_
  rfl
noncomputable def L67f55_0 (d : Nat) (a0 : List AV) : Nat → Int → Ans
  | 0, _ => none
  | n + 1, x5 =>
  cnd (decide (x5 < (((List.length a0) : Nat) : Int)))
   (cnd (decide (0 ≤ x5))
   (C0.agg 2 a0[(Int.toNat x5)]? fun l16 =>
   C0.int .i64 l16[0]? fun x17 =>
   C0.int .i64 l16[1]? fun x18 =>
   C0.bool (pcall M d 55 [(.agg [(iz x17), (iz x18)])]) fun b19 =>
   cnd b19
   (E67f55_0 d a0 x5)
   (L67f55_0 d a0 n (IntKind.wrap .i64 (x5 + 1))))
   (none))
   (X67f55_0_0 d a0)
theorem it67f55_0 (d : Nat) (a0 : List AV)   : ∀ (n : Nat) (x3 : Int) (v4 : AV) (x5 : Int) (v6 v7 v8 v9 v10 v11 v12 v13 v14 v15 : AV), C0.iter (r67f55R0 C0 d a0) n ⟨[(.lst a0), (.fn 55 [] []), tz, tz, (iz x3), v4, (.lst a0), (iz (((List.length a0) : Nat) : Int)), (iz x5), v6, v7, v8, v9, v10, v11, v12, v13, v14, v15], []⟩ [0] [r67f55X0_0 C0 d a0] (r67f55E0 C0 d a0) = L67f55_0 d a0 n x5 := by
  generalize hR : r67f55R0 C0 d a0 = R
  intro n
  induction n with
  | zero => intros; rfl
  | succ n ih =>
    intro x3 v4 x5 v6 v7 v8 v9 v10 v11 v12 v13 v14 v15
    simp only [it_ret] at ih
    rw [it_ret, xiter_s]
    refine Eq.trans (congrFun (congrFun hR.symm _) _) ?_
    unfold r67f55R0
    refine Eq.trans (pl_len (by rfl)) ?_; (iterate 4 (refine yt yS ?_)); refine yt yI ?_; refine yt yA ?_; (iterate 2 (refine yt yS ?_)); refine yt yI ?_; (iterate 10 (refine yt yA ?_)); refine Eq.trans (pl_sameH) ?_
    simp only [L67f55_0, kIter_n, kIter_x, kIter_r, kOut_x, kOut_r, xgo_hit, xgo_miss, ih, X67f55_0_0_ok d a0  , E67f55_0_ok d a0  ]
/-- slices.IndexFunc[[]apogee/api.Point,apogee/api.Point] -/
theorem q67f55 (d : Nat) (a0 : List AV) (a1 : AV) : xcall C0 M unr d 67 [(.lst a0), (.fn 55 [] [])] =
  L67f55_0 d a0 1000000000000000000 0 := (r67f55 C0 d a0 a1).trans (by simp only [it67f55_0])
end Go.Proofs.Ytmlpinajheacjaa.AE

namespace Go.Proofs.Ytmlpinajheacjaa.AE
set_option linter.unusedVariables false
set_option linter.unusedSimpArgs false
set_option linter.constructorNameAsVariable false
open Go Go.Proofs.Ytmlpinajheacjaa.Geo
/-- The i-th corner. -/
def vv (ps : List Pt) (i : Nat) : Pt := ps.getD i (0, 0)
theorem vv_at {ps : List Pt} {i : Nat} (h : i < ps.length) : (ps.map pt)[((i : Nat) : Int).toNat]? = some (pt (vv ps i)) := by
  simp [vv, List.getD_eq_getElem?_getD, h]
theorem pmap_len (ps : List Pt) : ((ps.map pt).length : Nat) = ps.length := by simp
def nx (ps : List Pt) (i : Nat) : Nat := (i + 1) % ps.length
theorem nx_lt {ps : List Pt} {i : Nat} (h : i < ps.length) : nx ps i < ps.length := Nat.mod_lt _ (by omega)
theorem nx_int {ps : List Pt} {i : Nat} (h : i < ps.length) (hl : ps.length ≤ 140737488355328) : Int.tmod (IntKind.wrap .i64 ((i : Int) + 1)) (((ps.map pt).length : Nat) : Int) = ((nx ps i : Nat) : Int) := by
  rw [pmap_len, i64_small (by omega) (by omega), Int.tmod_eq_emod_of_nonneg (by omega)]
  simp [nx]
theorem s60 (d : Nat) (ps : List Pt) (i : Nat) (h : i < ps.length) (hl : ps.length ≤ 140737488355328) : pcall M (d + 1) 60 [.lst (ps.map pt), .int .i64 i] = some (.tup [pt (vv ps i), pt (vv ps (nx ps i))]) := told (r60 C0 d _ _) (by
  rw [decide_eq_true (by omega), cnd_t, vv_at h]
  refine Eq.trans (pl_agg (by rfl) (by rfl)) ?_; refine Eq.trans (pl_int (by rfl)) ?_; refine Eq.trans (pl_int (by rfl)) ?_
  rw [decide_eq_false (by rw [pmap_len]; omega), cnd_f, nx_int h hl, decide_eq_true (by omega), cnd_t, vv_at (nx_lt h)]
  refine Eq.trans (pl_agg (by rfl) (by rfl)) ?_; refine Eq.trans (pl_int (by rfl)) ?_; refine Eq.trans (pl_int (by rfl)) ?_
  rfl)
theorem s42 (d : Nat) (ps : List Pt) (i : Nat) (h : i < ps.length) (hl : ps.length ≤ 140737488355328) : pcall M (d + 1) 42 [.lst (ps.map pt), .int .i64 i] = some (pt (vv ps (nx ps i))) := told (r42 C0 d _ _) (by
  rw [decide_eq_false (by rw [pmap_len]; omega), cnd_f, nx_int h hl, decide_eq_true (by omega), cnd_t, vv_at (nx_lt h)]
  refine Eq.trans (pl_agg (by rfl) (by rfl)) ?_; refine Eq.trans (pl_int (by rfl)) ?_; refine Eq.trans (pl_int (by rfl)) ?_
  rfl)
/-- May two edges be, of those that begin at k and i? -/
def apartB (ps : List Pt) (k i : Nat) : Bool :=
  if nx ps k = i then !onB (vv ps (nx ps i)) (vv ps k) (vv ps (nx ps k)) && !onB (vv ps k) (vv ps i) (vv ps (nx ps i))
  else if nx ps i = k then !onB (vv ps i) (vv ps k) (vv ps (nx ps k)) && !onB (vv ps (nx ps k)) (vv ps i) (vv ps (nx ps i))
  else !meetB (vv ps k) (vv ps (nx ps k)) (vv ps i) (vv ps (nx ps i))
theorem cast_beq (a b : Nat) : (((a : Nat) : Int) == ((b : Nat) : Int)) = decide (a = b) := by
  by_cases h : a = b
  · subst h; simp
  · rw [decide_eq_false h]; simp; omega
theorem s66 (d : Nat) (ps : List Pt) (k i : Nat) (hk : k < ps.length) (hi : i < ps.length) (hl : ps.length ≤ 140737488355328) :
    pcall M (d + 10) 66 [.lst (ps.map pt), .int .i64 k, .int .i64 i] = some (.bool (apartB ps k i)) := told (r66 C0 (d + 9) _ _ _) (by
  refine Eq.trans (pl_tup (s60 (d + 8) ps k hk hl) (by rfl)) ?_
  refine Eq.trans (pl_agg (by rfl) (by rfl)) ?_; refine Eq.trans (pl_int (by rfl)) ?_; refine Eq.trans (pl_int (by rfl)) ?_; refine Eq.trans (pl_agg (by rfl) (by rfl)) ?_; refine Eq.trans (pl_int (by rfl)) ?_; refine Eq.trans (pl_int (by rfl)) ?_
  refine Eq.trans (pl_tup (s60 (d + 8) ps i hi hl) (by rfl)) ?_
  refine Eq.trans (pl_agg (by rfl) (by rfl)) ?_; refine Eq.trans (pl_int (by rfl)) ?_; refine Eq.trans (pl_int (by rfl)) ?_; refine Eq.trans (pl_agg (by rfl) (by rfl)) ?_; refine Eq.trans (pl_int (by rfl)) ?_; refine Eq.trans (pl_int (by rfl)) ?_
  rw [decide_eq_false (by rw [pmap_len]; omega), cnd_f, cnd_f, nx_int hk hl, nx_int hi hl, cast_beq, cast_beq]
  have o := fun p q r => s61 (d + 1) p q r
  have m := s75 d (vv ps k) (vv ps (nx ps k)) (vv ps i) (vv ps (nx ps i))
  simp only [pt] at o m
  unfold apartB
  by_cases h1 : nx ps k = i
  · rw [decide_eq_true h1, cnd_t, if_pos h1, o, o, C0_bool, C0_bool]
    cases onB (vv ps (nx ps i)) (vv ps k) (vv ps (nx ps k)) <;> rfl
  · rw [decide_eq_false h1, cnd_f, if_neg h1]
    by_cases h2 : nx ps i = k
    · rw [decide_eq_true h2, cnd_t, if_pos h2, o, o, C0_bool, C0_bool]
      cases onB (vv ps i) (vv ps k) (vv ps (nx ps k)) <;> rfl
    · rw [decide_eq_false h2, cnd_f, if_neg h2, m, C0_bool])
def pairB (ps : List Pt) (k i : Nat) : Bool := !decide (vv ps i = vv ps k) && apartB ps k i
/-- Does it hold of i, and of the next ones? -/
def upAll (f : Nat → Bool) : Nat → Nat → Bool
  | 0, _ => true
  | m + 1, i => f i && upAll f m (i + 1)
theorem upAll_iff (f : Nat → Bool) : ∀ (m i : Nat), upAll f m i = true ↔ ∀ j, i ≤ j → j < i + m → f j = true
  | 0, i => by simp only [upAll]; exact ⟨fun _ j h1 h2 => by omega, fun _ => trivial⟩
  | m + 1, i => by
    simp only [upAll, Bool.and_eq_true, upAll_iff f m (i + 1)]
    constructor
    · rintro ⟨h, h'⟩ j h1 h2
      by_cases hj : j = i
      · subst hj; exact h
      · exact h' j (by omega) (by omega)
    · intro h
      exact ⟨h i (Nat.le_refl _) (by omega), fun j h1 h2 => h j (by omega) (by omega)⟩
theorem pt_beq (p q : Pt) : (xor false ((p.1 == q.1) && ((p.2 == q.2) && true))) = decide (p = q) := by
  rw [Bool.false_xor, Bool.and_true, Bool.eq_iff_iff, Bool.and_eq_true, beq_iff_eq, beq_iff_eq, decide_eq_true_iff]
  exact ⟨fun h => Prod.ext h.1 h.2, fun h => by rw [h]; exact ⟨rfl, rfl⟩⟩
theorem simple1 (d : Nat) (ps : List Pt) (i : Nat) (hi : i < ps.length) (hl : ps.length ≤ 140737488355328) (kN : Int → Ans) (kR : Bool → Ans) : ∀ (m k f : Nat), k + m = i → m < f →
    L53_1 (d + 10) (ps.map pt) (i : Nat) kN kR f (k : Nat) = bif upAll (fun k => pairB ps k i) m k then kN ((i + 1 : Nat) : Int) else kR false := by
  intro m
  induction m with
  | zero =>
    intro k f hk hf
    obtain ⟨f, rfl⟩ : ∃ g, f = g + 1 := ⟨f - 1, by omega⟩
    rw [L53_1, decide_eq_false (by omega), cnd_f, X53_1_0, i64_small (by omega) (by omega)]; rfl
  | succ m ih =>
    intro k f hk hf
    obtain ⟨f, rfl⟩ : ∃ g, f = g + 1 := ⟨f - 1, by omega⟩
    rw [L53_1, decide_eq_true (by omega), cnd_t, decide_eq_true (by omega), cnd_t, vv_at hi]
    refine Eq.trans (pl_agg (by rfl) (by rfl)) ?_; refine Eq.trans (pl_int (by rfl)) ?_; refine Eq.trans (pl_int (by rfl)) ?_
    rw [decide_eq_true (by omega), cnd_t, vv_at (show k < ps.length by omega)]
    refine Eq.trans (pl_agg (by rfl) (by rfl)) ?_; refine Eq.trans (pl_int (by rfl)) ?_; refine Eq.trans (pl_int (by rfl)) ?_
    rw [pt_beq, s66 d ps k i (by omega) hi hl]
    simp only [upAll, pairB]
    by_cases he : vv ps i = vv ps k
    · rw [decide_eq_true he, cnd_t]; rfl
    · rw [decide_eq_false he, cnd_f, C0_bool]
      cases apartB ps k i
      · rfl
      · refine Eq.trans (pl_f (by rfl)) ?_
        rw [show IntKind.wrap .i64 ((k : Int) + 1) = ((k + 1 : Nat) : Int) by rw [i64_small (by omega) (by omega)]; rfl, ih (k + 1) f (by omega) (by omega)]
        simp only [Bool.not_false, Bool.true_and]
        rfl
theorem simple0 (d : Nat) (ps : List Pt) (hl : ps.length ≤ 140737488355328) : ∀ (m i f : Nat), i + m = ps.length → m < f →
    L53_0 (d + 10) (ps.map pt) f (i : Nat) = some (.bool (upAll (fun i => upAll (fun k => pairB ps k i) i 0) m i)) := by
  intro m
  induction m with
  | zero =>
    intro i f hk hf
    obtain ⟨f, rfl⟩ : ∃ g, f = g + 1 := ⟨f - 1, by omega⟩
    rw [L53_0, decide_eq_false (by rw [pmap_len]; omega), cnd_f]; rfl
  | succ m ih =>
    intro i f hk hf
    obtain ⟨f, rfl⟩ : ∃ g, f = g + 1 := ⟨f - 1, by omega⟩
    rw [L53_0, decide_eq_true (by rw [pmap_len]; omega), cnd_t]
    refine (simple1 d ps i (by omega) hl _ _ i 0 _ (by omega) (by omega)).trans ?_
    rw [ih (i + 1) f (by omega) (by omega)]
    simp only [upAll]
    cases upAll (fun k => pairB ps k i) i 0 <;> rfl
/-- Two rows of pairs are one. -/
theorem pairs_two (g : Nat → Nat → Bool) (n : Nat) : upAll (fun i => upAll (fun k => g k i) i 0) n 0 = upAll (fun k => upAll (fun i => g k i) (n - k - 1) (k + 1)) n 0 := by
  rw [Bool.eq_iff_iff]
  simp only [upAll_iff]
  constructor
  · intro h k _ h2 i h3 h4; exact h i (by omega) (by omega) k (by omega) (by omega)
  · intro h i _ h2 k h3 h4; exact h k (by omega) (by omega) i (by omega) (by omega)
end Go.Proofs.Ytmlpinajheacjaa.AE

namespace Go.Proofs.Ytmlpinajheacjaa.AE
set_option linter.unusedVariables false
set_option linter.unusedSimpArgs false
set_option linter.constructorNameAsVariable false
open Go Go.Proofs.Ytmlpinajheacjaa.Geo
def fiG (g : Pt → Bool) : List Pt → Int → Int
  | [], _ => -1
  | p :: l, i => bif g p then i else fiG g l (i + 1)
theorem fiG_any (g : Pt → Bool) (ps : List Pt) : ∀ i : Int, 0 ≤ i → decide (fiG g ps i ≥ 0) = ps.any g := by
  induction ps with
  | nil => intro i hi; simp [fiG]
  | cons p l ih =>
    intro i hi
    have h := ih (i + 1) (by omega)
    have e : ∀ b : Bool, decide ((bif b then i else fiG g l (i + 1)) ≥ 0) = (b || l.any g) := fun b => by
      match b with
      | false => exact h
      | true => exact decide_eq_true hi
    exact e (g p)
theorem s67f65 (d : Nat) (g : Pt → Bool) (ps : List Pt) (hl : ps.length ≤ 140737488355328) (hg : ∀ p ∈ ps, pcall M d 65 [pt p] = some (.bool (g p))) : ∀ (l2 : List Pt) (i f : Nat), ps.drop i = l2 → l2.length < f →
    L67f65_0 d (ps.map pt) f (i : Nat) = some (.int .i64 (fiG g l2 (i : Nat))) := by
  intro l2
  induction l2 with
  | nil =>
    intro i f hd hf
    obtain ⟨f, rfl⟩ : ∃ m, f = m + 1 := ⟨f - 1, by omega⟩
    have : ps.length ≤ i := List.drop_eq_nil_iff.mp hd
    rw [L67f65_0, decide_eq_false (by rw [pmap_len]; omega), cnd_f]; rfl
  | cons p l2 ih =>
    intro i f hd hf
    obtain ⟨f, rfl⟩ : ∃ m, f = m + 1 := ⟨f - 1, by simp at hf; omega⟩
    have hi : i < ps.length := by
      rcases Nat.lt_or_ge i ps.length with h | h
      · exact h
      · rw [List.drop_eq_nil_of_le h] at hd; cases hd
    have hp : ps[i] = p := by have := List.drop_eq_getElem_cons hi; rw [hd] at this; exact (List.cons.inj this).1.symm
    have hd2 : ps.drop (i + 1) = l2 := by have := List.drop_eq_getElem_cons hi; rw [hd] at this; exact (List.cons.inj this).2.symm
    have hg' := hg ps[i] (List.getElem_mem _)
    simp only [pt] at hg'
    rw [L67f65_0, decide_eq_true (by rw [pmap_len]; omega), cnd_t, decide_eq_true (by omega), cnd_t, pts_at hi]
    refine Eq.trans (pl_agg (by rfl) (by rfl)) ?_; refine Eq.trans (pl_int (by rfl)) ?_; refine Eq.trans (pl_int (by rfl)) ?_
    rw [hg', C0_bool, hp]
    simp only [fiG]
    cases g p
    · refine Eq.trans (pl_f (by rfl)) ?_
      rw [show IntKind.wrap .i64 ((i : Int) + 1) = ((i + 1 : Nat) : Int) by rw [IntKind.wrap_i64]; omega]
      exact (ih (i + 1) f hd2 (by simp at hf; omega)).trans (by simp)
    · rfl
theorem s54f65 (d : Nat) (g : Pt → Bool) (ps : List Pt) (hl : ps.length ≤ 140737488355328) (hg : ∀ p ∈ ps, pcall M d 65 [pt p] = some (.bool (g p))) :
    pcall M (d + 2) 54 [.lst (ps.map pt), .fn 65 [] []] = some (.bool (ps.any g)) := told (r54f65 C0 (d + 1) _ .nilp) (by
  have h : pcall M (d + 1) 67 [.lst (ps.map pt), .fn 65 [] []] = some (.int .i64 (fiG g ps 0)) :=
    told (q67f65 d (ps.map pt) .nilp) (s67f65 d g ps hl hg ps 0 _ rfl (by omega))
  rw [h, C0_int, fiG_any g ps 0 (by decide)])
theorem s67f55 (d : Nat) (g : Pt → Bool) (ps : List Pt) (hl : ps.length ≤ 140737488355328) (hg : ∀ p ∈ ps, pcall M d 55 [pt p] = some (.bool (g p))) : ∀ (l2 : List Pt) (i f : Nat), ps.drop i = l2 → l2.length < f →
    L67f55_0 d (ps.map pt) f (i : Nat) = some (.int .i64 (fiG g l2 (i : Nat))) := by
  intro l2
  induction l2 with
  | nil =>
    intro i f hd hf
    obtain ⟨f, rfl⟩ : ∃ m, f = m + 1 := ⟨f - 1, by omega⟩
    have : ps.length ≤ i := List.drop_eq_nil_iff.mp hd
    rw [L67f55_0, decide_eq_false (by rw [pmap_len]; omega), cnd_f]; rfl
  | cons p l2 ih =>
    intro i f hd hf
    obtain ⟨f, rfl⟩ : ∃ m, f = m + 1 := ⟨f - 1, by simp at hf; omega⟩
    have hi : i < ps.length := by
      rcases Nat.lt_or_ge i ps.length with h | h
      · exact h
      · rw [List.drop_eq_nil_of_le h] at hd; cases hd
    have hp : ps[i] = p := by have := List.drop_eq_getElem_cons hi; rw [hd] at this; exact (List.cons.inj this).1.symm
    have hd2 : ps.drop (i + 1) = l2 := by have := List.drop_eq_getElem_cons hi; rw [hd] at this; exact (List.cons.inj this).2.symm
    have hg' := hg ps[i] (List.getElem_mem _)
    simp only [pt] at hg'
    rw [L67f55_0, decide_eq_true (by rw [pmap_len]; omega), cnd_t, decide_eq_true (by omega), cnd_t, pts_at hi]
    refine Eq.trans (pl_agg (by rfl) (by rfl)) ?_; refine Eq.trans (pl_int (by rfl)) ?_; refine Eq.trans (pl_int (by rfl)) ?_
    rw [hg', C0_bool, hp]
    simp only [fiG]
    cases g p
    · refine Eq.trans (pl_f (by rfl)) ?_
      rw [show IntKind.wrap .i64 ((i : Int) + 1) = ((i + 1 : Nat) : Int) by rw [IntKind.wrap_i64]; omega]
      exact (ih (i + 1) f hd2 (by simp at hf; omega)).trans (by simp)
    · rfl
theorem s54f55 (d : Nat) (g : Pt → Bool) (ps : List Pt) (hl : ps.length ≤ 140737488355328) (hg : ∀ p ∈ ps, pcall M d 55 [pt p] = some (.bool (g p))) :
    pcall M (d + 2) 54 [.lst (ps.map pt), .fn 55 [] []] = some (.bool (ps.any g)) := told (r54f55 C0 (d + 1) _ .nilp) (by
  have h : pcall M (d + 1) 67 [.lst (ps.map pt), .fn 55 [] []] = some (.int .i64 (fiG g ps 0)) :=
    told (q67f55 d (ps.map pt) .nilp) (s67f55 d g ps hl hg ps 0 _ rfl (by omega))
  rw [h, C0_int, fiG_any g ps 0 (by decide)])
theorem s65 (d : Nat) (p : Pt) : pcall M (d + 3) 65 [pt p] = some (.bool (!okb p)) := told (r65 C0 (d + 2) _ _) (by
  have := s49 d p
  simp only [pt] at this
  rw [this, C0_bool]; rfl)
/-- Is a corner too far? -/
def farB (p : Pt) : Bool := !decide (-1073741824 ≤ p.1 ∧ p.1 ≤ 1073741824 ∧ -1073741824 ≤ p.2 ∧ p.2 ≤ 1073741824)
theorem s55 (d : Nat) (p : Pt) (h : OkP p) : pcall M (d + 1) 55 [pt p] = some (.bool (farB p)) := told (r55 C0 d _ _) (by
  obtain ⟨⟨h1, h2⟩, h3, h4⟩ := h
  rw [i64_small (n := 0 - p.1) (by omega) (by omega), i64_small (n := 0 - p.2) (by omega) (by omega)]
  congr 2
  rw [Bool.eq_iff_iff]
  unfold farB
  simp only [decide_eq_true_iff, Bool.not_eq_true', decide_eq_false_iff_not]
  split <;> split <;> split <;> omega)
def allPairs (ps : List Pt) : Bool := upAll (fun i => upAll (fun k => pairB ps k i) i 0) ps.length 0
def simpleB (ps : List Pt) : Bool := decide (3 ≤ ps.length) && (decide (ps.length ≤ 8) && (ps.all okb && allPairs ps))
def rightB (ps : List Pt) : Bool := simpleB ps && !ps.any farB
theorem any_not (ps : List Pt) : (ps.any fun p => !okb p) = !ps.all okb := by
  induction ps with
  | nil => rfl
  | cons p l ih => simp only [List.any_cons, List.all_cons, ih, Bool.not_and]
theorem s53 (d : Nat) (ps : List Pt) (hl : ps.length ≤ 140737488355328) : pcall M (d + 11) 53 [.lst (ps.map pt)] = some (.bool (simpleB ps)) := told (q53 (d + 10) _) (by
  have hc := s54f65 (d + 8) (fun p => !okb p) ps hl (fun p _ => s65 (d + 5) p)
  have h0 := simple0 d ps hl ps.length 0 1000000000000000000 (by omega) (by omega)
  rw [hc, C0_bool, any_not, pmap_len, show (0 : Int) = ((0 : Nat) : Int) from rfl, h0]
  unfold simpleB
  by_cases h1 : 3 ≤ ps.length
  · rw [decide_eq_false (by omega), cnd_f, decide_eq_true h1]
    by_cases h2 : ps.length ≤ 8
    · rw [decide_eq_false (by omega), cnd_f, decide_eq_true h2]
      cases ps.all okb <;> rfl
    · rw [decide_eq_true (by omega), cnd_t, decide_eq_false h2]; rfl
  · rw [decide_eq_true (by omega), cnd_t, decide_eq_false h1]; rfl)
theorem simple_ok {ps : List Pt} (h : simpleB ps = true) : 3 ≤ ps.length ∧ ps.length ≤ 8 ∧ ∀ p ∈ ps, OkP p := by
  unfold simpleB at h
  simp only [Bool.and_eq_true, decide_eq_true_iff, List.all_eq_true, okb_t] at h
  exact ⟨h.1, h.2.1, h.2.2.1⟩
theorem s38 (d : Nat) (ps : List Pt) (hl : ps.length ≤ 140737488355328) : pcall M (d + 12) 38 [.lst (ps.map pt)] = some (.bool (rightB ps)) := told (r38 C0 (d + 11) _) (by
  rw [s53 d ps hl, C0_bool]
  unfold rightB
  cases hs : simpleB ps
  · rfl
  · have hc := s54f55 (d + 9) farB ps hl (fun p hp => s55 (d + 8) p ((simple_ok hs).2.2 p hp))
    rw [hc, cnd_t, C0_bool]; rfl)
end Go.Proofs.Ytmlpinajheacjaa.AE

namespace Go.Proofs.Ytmlpinajheacjaa.AE
set_option linter.unusedVariables false
set_option linter.unusedSimpArgs false
set_option linter.constructorNameAsVariable false
open Go Go.Proofs.Ytmlpinajheacjaa.Geo
theorem nx_up {ps : List Pt} {k i : Nat} (hk : k < i) (hi : i < ps.length) : nx ps k = k + 1 := Nat.mod_eq_of_lt (by omega)
theorem nx_back {ps : List Pt} {k i : Nat} (hk : k < i) (hi : i < ps.length) : nx ps i = k ↔ k = 0 ∧ i = ps.length - 1 := by
  unfold nx
  by_cases h : i + 1 = ps.length
  · rw [h, Nat.mod_self]; omega
  · rw [Nat.mod_eq_of_lt (by omega)]; omega
theorem rsimple2 (d : Nat) (ps : List Pt) (k : Nat) (hl : ps.length ≤ 140737488355328) (kN : Int → Heap → Ans) (kR : Bool → Heap → Ans) (rN rR : Ans) (hN : ∀ H, kN ((k + 1 : Nat) : Int) H = rN) (hR : ∀ H, kR false H = rR) :
    ∀ (m i f : Nat) (H : Heap), i + m = ps.length → m < f → k < i →
    L28_2 (d + 7) (ps.map pt) (ps.length : Nat) (k : Nat) kN kR f (i : Nat) H = bif upAll (fun i => pairB ps k i) m i then rN else rR := by
  intro m
  induction m with
  | zero =>
    intro i f H hi hf hk
    obtain ⟨f, rfl⟩ : ∃ g, f = g + 1 := ⟨f - 1, by omega⟩
    rw [L28_2, decide_eq_false (by omega), cnd_f, X28_2_0, i64_small (by omega) (by omega)]
    exact hN H
  | succ m ih =>
    intro i f H hi hf hk
    obtain ⟨f, rfl⟩ : ∃ g, f = g + 1 := ⟨f - 1, by omega⟩
    have hkl : k < ps.length := by omega
    have hil : i < ps.length := by omega
    have o := fun p q r => s43 (d + 1) p q r
    have mt := s44 d (vv ps k) (vv ps (nx ps k)) (vv ps i) (vv ps (nx ps i))
    simp only [pt] at o mt
    have w1 : IntKind.wrap .i64 ((i : Int) + 1) = ((i + 1 : Nat) : Int) := by rw [i64_small (by omega) (by omega)]; rfl
    have w2 : IntKind.wrap .i64 ((k : Int) + 1) = ((k + 1 : Nat) : Int) := by rw [i64_small (by omega) (by omega)]; rfl
    have w3 : IntKind.wrap .i64 ((ps.length : Int) - 1) = ((ps.length - 1 : Nat) : Int) := by rw [i64_small (by omega) (by omega)]; omega
    rw [L28_2, decide_eq_true (by omega), cnd_t]
    refine Eq.trans (ix_lst (by omega) (vv_at hkl) (by rfl)) ?_
    refine Eq.trans (hop_eq (by rfl)) ?_; refine Eq.trans (pl_agg (by rfl) (by rfl)) ?_; refine Eq.trans (pl_int (by rfl)) ?_; refine Eq.trans (pl_int (by rfl)) ?_
    refine Eq.trans (snp_free (by rfl)) ?_
    refine Eq.trans (pl_agg (s42 (d + 6) ps k hkl hl) (by rfl)) ?_
    refine Eq.trans (pl_int (by rfl)) ?_; refine Eq.trans (pl_int (by rfl)) ?_; refine Eq.trans (pl_len (by rfl)) ?_
    refine Eq.trans (ix_lst (by omega) (vv_at hil) (by rfl)) ?_
    refine Eq.trans (hop_eq (by rfl)) ?_; refine Eq.trans (pl_agg (by rfl) (by rfl)) ?_; refine Eq.trans (pl_int (by rfl)) ?_; refine Eq.trans (pl_int (by rfl)) ?_
    refine Eq.trans (snp_free (by rfl)) ?_
    refine Eq.trans (pl_agg (s42 (d + 6) ps i hil hl) (by rfl)) ?_
    refine Eq.trans (pl_int (by rfl)) ?_; refine Eq.trans (pl_int (by rfl)) ?_; refine Eq.trans (pl_len (by rfl)) ?_
    refine Eq.trans al_n ?_; refine Eq.trans al_s ?_; refine Eq.trans al_s ?_; refine Eq.trans al_s ?_
    refine Eq.trans (C0_disj (by rfl)) ?_
    refine Eq.trans (st_s (by rfl) (by rfl) (by rfl)) ?_
    refine Eq.trans (C0_disj (by rfl)) ?_
    refine Eq.trans (st_s (by rfl) (by rfl) (by rfl)) ?_; refine Eq.trans (st_s (by rfl) (by rfl) (by rfl)) ?_; refine Eq.trans (st_s (by rfl) (by rfl) (by rfl)) ?_; refine Eq.trans (ld_s (by rfl) (by rfl) (by rfl)) ?_; refine Eq.trans (pl_agg (by rfl) (by rfl)) ?_; refine Eq.trans (pl_int (by rfl)) ?_; refine Eq.trans (pl_int (by rfl)) ?_; refine Eq.trans (ld_s (by rfl) (by rfl) (by rfl)) ?_; refine Eq.trans (pl_agg (by rfl) (by rfl)) ?_; refine Eq.trans (pl_int (by rfl)) ?_; refine Eq.trans (pl_int (by rfl)) ?_
    rw [pt_beq, w1, w2, w3, cast_beq, cast_beq, show ((k : Int) == 0) = decide (k = 0) from cast_beq k 0]
    simp only [upAll, pairB, apartB]
    by_cases he : vv ps i = vv ps k
    · rw [decide_eq_true he.symm, cnd_t, decide_eq_true he]; exact hR _
    · rw [decide_eq_false (fun h => he h.symm), cnd_f, decide_eq_false he]
      by_cases h1 : i = k + 1
      · rw [decide_eq_true h1, cnd_t, if_pos (by rw [nx_up hk hil, h1])]
        refine Eq.trans (ld_s (by rfl) (by rfl) (by rfl)) ?_; refine Eq.trans (pl_agg (by rfl) (by rfl)) ?_; refine Eq.trans (pl_int (by rfl)) ?_; refine Eq.trans (pl_int (by rfl)) ?_; refine Eq.trans (ld_s (by rfl) (by rfl) (by rfl)) ?_; refine Eq.trans (pl_agg (by rfl) (by rfl)) ?_; refine Eq.trans (pl_int (by rfl)) ?_; refine Eq.trans (pl_int (by rfl)) ?_; refine Eq.trans (ld_s (by rfl) (by rfl) (by rfl)) ?_; refine Eq.trans (pl_agg (by rfl) (by rfl)) ?_; refine Eq.trans (pl_int (by rfl)) ?_; refine Eq.trans (pl_int (by rfl)) ?_
        refine Eq.trans (pl_bool (o (vv ps (nx ps i)) (vv ps k) (vv ps (nx ps k)))) ?_
        cases onB (vv ps (nx ps i)) (vv ps k) (vv ps (nx ps k))
        · refine Eq.trans (pl_f (by rfl)) ?_; refine Eq.trans (ld_s (by rfl) (by rfl) (by rfl)) ?_; refine Eq.trans (pl_agg (by rfl) (by rfl)) ?_; refine Eq.trans (pl_int (by rfl)) ?_; refine Eq.trans (pl_int (by rfl)) ?_; refine Eq.trans (ld_s (by rfl) (by rfl) (by rfl)) ?_; refine Eq.trans (pl_agg (by rfl) (by rfl)) ?_; refine Eq.trans (pl_int (by rfl)) ?_; refine Eq.trans (pl_int (by rfl)) ?_; refine Eq.trans (ld_s (by rfl) (by rfl) (by rfl)) ?_; refine Eq.trans (pl_agg (by rfl) (by rfl)) ?_; refine Eq.trans (pl_int (by rfl)) ?_; refine Eq.trans (pl_int (by rfl)) ?_
          refine Eq.trans (pl_bool (o (vv ps k) (vv ps i) (vv ps (nx ps i)))) ?_
          cases onB (vv ps k) (vv ps i) (vv ps (nx ps i))
          · refine Eq.trans (pl_f (by rfl)) ?_
            exact ih (i + 1) f _ (by omega) (by omega) (by omega)
          · exact hR _
        · exact hR _
      · rw [decide_eq_false h1, cnd_f, if_neg (by rw [nx_up hk hil]; omega)]
        by_cases h2 : k = 0
        · rw [decide_eq_true h2, cnd_t]
          by_cases h3 : i = ps.length - 1
          · rw [decide_eq_true h3, cnd_t, if_pos ((nx_back hk hil).mpr ⟨h2, h3⟩)]
            refine Eq.trans (ld_s (by rfl) (by rfl) (by rfl)) ?_; refine Eq.trans (pl_agg (by rfl) (by rfl)) ?_; refine Eq.trans (pl_int (by rfl)) ?_; refine Eq.trans (pl_int (by rfl)) ?_; refine Eq.trans (ld_s (by rfl) (by rfl) (by rfl)) ?_; refine Eq.trans (pl_agg (by rfl) (by rfl)) ?_; refine Eq.trans (pl_int (by rfl)) ?_; refine Eq.trans (pl_int (by rfl)) ?_; refine Eq.trans (ld_s (by rfl) (by rfl) (by rfl)) ?_; refine Eq.trans (pl_agg (by rfl) (by rfl)) ?_; refine Eq.trans (pl_int (by rfl)) ?_; refine Eq.trans (pl_int (by rfl)) ?_
            refine Eq.trans (pl_bool (o (vv ps i) (vv ps k) (vv ps (nx ps k)))) ?_
            cases onB (vv ps i) (vv ps k) (vv ps (nx ps k))
            · refine Eq.trans (pl_f (by rfl)) ?_; refine Eq.trans (ld_s (by rfl) (by rfl) (by rfl)) ?_; refine Eq.trans (pl_agg (by rfl) (by rfl)) ?_; refine Eq.trans (pl_int (by rfl)) ?_; refine Eq.trans (pl_int (by rfl)) ?_; refine Eq.trans (ld_s (by rfl) (by rfl) (by rfl)) ?_; refine Eq.trans (pl_agg (by rfl) (by rfl)) ?_; refine Eq.trans (pl_int (by rfl)) ?_; refine Eq.trans (pl_int (by rfl)) ?_; refine Eq.trans (ld_s (by rfl) (by rfl) (by rfl)) ?_; refine Eq.trans (pl_agg (by rfl) (by rfl)) ?_; refine Eq.trans (pl_int (by rfl)) ?_; refine Eq.trans (pl_int (by rfl)) ?_
              refine Eq.trans (pl_bool (o (vv ps (nx ps k)) (vv ps i) (vv ps (nx ps i)))) ?_
              cases onB (vv ps (nx ps k)) (vv ps i) (vv ps (nx ps i))
              · refine Eq.trans (pl_f (by rfl)) ?_
                exact ih (i + 1) f _ (by omega) (by omega) (by omega)
              · exact hR _
            · exact hR _
          · rw [decide_eq_false h3, cnd_f, if_neg (fun h => h3 ((nx_back hk hil).mp h).2)]
            refine Eq.trans (ld_s (by rfl) (by rfl) (by rfl)) ?_; refine Eq.trans (pl_agg (by rfl) (by rfl)) ?_; refine Eq.trans (pl_int (by rfl)) ?_; refine Eq.trans (pl_int (by rfl)) ?_; refine Eq.trans (ld_s (by rfl) (by rfl) (by rfl)) ?_; refine Eq.trans (pl_agg (by rfl) (by rfl)) ?_; refine Eq.trans (pl_int (by rfl)) ?_; refine Eq.trans (pl_int (by rfl)) ?_; refine Eq.trans (ld_s (by rfl) (by rfl) (by rfl)) ?_; refine Eq.trans (pl_agg (by rfl) (by rfl)) ?_; refine Eq.trans (pl_int (by rfl)) ?_; refine Eq.trans (pl_int (by rfl)) ?_; refine Eq.trans (ld_s (by rfl) (by rfl) (by rfl)) ?_; refine Eq.trans (pl_agg (by rfl) (by rfl)) ?_; refine Eq.trans (pl_int (by rfl)) ?_; refine Eq.trans (pl_int (by rfl)) ?_
            refine Eq.trans (pl_bool mt) ?_
            cases meetB (vv ps k) (vv ps (nx ps k)) (vv ps i) (vv ps (nx ps i))
            · refine Eq.trans (pl_f (by rfl)) ?_
              exact ih (i + 1) f _ (by omega) (by omega) (by omega)
            · exact hR _
        · rw [decide_eq_false h2, cnd_f, if_neg (fun h => h2 ((nx_back hk hil).mp h).1)]
          refine Eq.trans (ld_s (by rfl) (by rfl) (by rfl)) ?_; refine Eq.trans (pl_agg (by rfl) (by rfl)) ?_; refine Eq.trans (pl_int (by rfl)) ?_; refine Eq.trans (pl_int (by rfl)) ?_; refine Eq.trans (ld_s (by rfl) (by rfl) (by rfl)) ?_; refine Eq.trans (pl_agg (by rfl) (by rfl)) ?_; refine Eq.trans (pl_int (by rfl)) ?_; refine Eq.trans (pl_int (by rfl)) ?_; refine Eq.trans (ld_s (by rfl) (by rfl) (by rfl)) ?_; refine Eq.trans (pl_agg (by rfl) (by rfl)) ?_; refine Eq.trans (pl_int (by rfl)) ?_; refine Eq.trans (pl_int (by rfl)) ?_; refine Eq.trans (ld_s (by rfl) (by rfl) (by rfl)) ?_; refine Eq.trans (pl_agg (by rfl) (by rfl)) ?_; refine Eq.trans (pl_int (by rfl)) ?_; refine Eq.trans (pl_int (by rfl)) ?_
          refine Eq.trans (pl_bool mt) ?_
          cases meetB (vv ps k) (vv ps (nx ps k)) (vv ps i) (vv ps (nx ps i))
          · refine Eq.trans (pl_f (by rfl)) ?_
            exact ih (i + 1) f _ (by omega) (by omega) (by omega)
          · exact hR _
theorem rsimple1 (d : Nat) (ps : List Pt) (hl : ps.length ≤ 140737488355328) : ∀ (m k f : Nat) (H : Heap), k + m = ps.length → m < f →
    L28_1 (d + 7) (ps.map pt) (ps.length : Nat) f (k : Nat) H = some (.bool (upAll (fun k => upAll (fun i => pairB ps k i) (ps.length - k - 1) (k + 1)) m k)) := by
  intro m
  induction m with
  | zero =>
    intro k f H hk hf
    obtain ⟨f, rfl⟩ : ∃ g, f = g + 1 := ⟨f - 1, by omega⟩
    rw [L28_1, decide_eq_false (by omega), cnd_f]; rfl
  | succ m ih =>
    intro k f H hk hf
    obtain ⟨f, rfl⟩ : ∃ g, f = g + 1 := ⟨f - 1, by omega⟩
    rw [L28_1, decide_eq_true (by omega), cnd_t, show IntKind.wrap .i64 ((k : Int) + 1) = ((k + 1 : Nat) : Int) by rw [i64_small (by omega) (by omega)]; rfl]
    refine (rsimple2 d ps k hl _ _ _ (some (.bool false)) (fun H => ih (k + 1) f H (by omega) (by omega)) (fun H => rfl) (ps.length - k - 1) (k + 1) _ H (by omega) (by omega) (by omega)).trans ?_
    simp only [upAll]
    cases upAll (fun i => pairB ps k i) (ps.length - k - 1) (k + 1) <;> rfl
theorem rsimple0 (d : Nat) (ps : List Pt) (hl : ps.length ≤ 140737488355328) : ∀ (l2 : List Pt) (i f : Nat) (H : Heap), ps.drop i = l2 → l2.length < f →
    L28_0 (d + 7) (ps.map pt) (ps.length : Nat) f (i : Nat) H = some (.bool (l2.all okb && allPairs ps)) := by
  intro l2
  induction l2 with
  | nil =>
    intro i f H hd hf
    obtain ⟨f, rfl⟩ : ∃ m, f = m + 1 := ⟨f - 1, by omega⟩
    have : ps.length ≤ i := List.drop_eq_nil_iff.mp hd
    rw [L28_0, decide_eq_false (by omega), cnd_f, X28_0_0]
    refine (rsimple1 d ps hl ps.length 0 1000000000000000000 H (by omega) (by omega)).trans ?_
    unfold allPairs
    rw [pairs_two]; rfl
  | cons p l2 ih =>
    intro i f H hd hf
    obtain ⟨f, rfl⟩ : ∃ m, f = m + 1 := ⟨f - 1, by simp at hf; omega⟩
    have hi : i < ps.length := by
      rcases Nat.lt_or_ge i ps.length with h | h
      · exact h
      · rw [List.drop_eq_nil_of_le h] at hd; cases hd
    have hp : ps[i] = p := by have := List.drop_eq_getElem_cons hi; rw [hd] at this; exact (List.cons.inj this).1.symm
    have hd2 : ps.drop (i + 1) = l2 := by have := List.drop_eq_getElem_cons hi; rw [hd] at this; exact (List.cons.inj this).2.symm
    have hr := s41 (d + 6) ps[i]
    simp only [pt] at hr
    rw [L28_0, decide_eq_true (by omega), cnd_t]
    refine Eq.trans (ix_lst (by omega) (pts_at hi) (by rfl)) ?_
    refine Eq.trans (hop_eq (by rfl)) ?_; refine Eq.trans (pl_agg (by rfl) (by rfl)) ?_; refine Eq.trans (pl_int (by rfl)) ?_; refine Eq.trans (pl_int (by rfl)) ?_
    rw [hr, C0_bool, hp, List.all_cons]
    change cnd (!okb p) _ _ = _
    cases okb p
    · rfl
    · refine Eq.trans (pl_f (by rfl)) ?_
      rw [show IntKind.wrap .i64 ((i : Int) + 1) = ((i + 1 : Nat) : Int) by rw [IntKind.wrap_i64]; omega, ih (i + 1) f _ hd2 (by simp at hf; omega), Bool.true_and]
theorem s28 (d : Nat) (ps : List Pt) (hl : ps.length ≤ 140737488355328) : pcall M (d + 8) 28 [.lst (ps.map pt)] = some (.bool (simpleB ps)) := told (q28 (d + 7) _) (by
  refine Eq.trans (hop_eq (by rfl)) ?_; refine Eq.trans (pl_int (by rfl)) ?_
  have h0 := rsimple0 d ps hl ps 0 1000000000000000000 [] rfl (by omega)
  rw [pmap_len]
  unfold simpleB
  by_cases h1 : 3 ≤ ps.length
  · rw [decide_eq_false (by omega), cnd_f, decide_eq_true h1]
    by_cases h2 : ps.length ≤ 8
    · rw [decide_eq_false (by omega), cnd_f, decide_eq_true h2]
      exact h0
    · rw [decide_eq_true (by omega), cnd_t, decide_eq_false h2]; rfl
  · rw [decide_eq_true (by omega), cnd_t, decide_eq_false h1]; rfl)
theorem rright0 (d : Nat) (ps : List Pt) (h8 : ps.length ≤ 8) : ∀ (l2 : List Pt) (i f : Nat), ps.drop i = l2 → l2.length < f →
    L18_0 (d + 8) (ps.map pt) f (i : Nat) = some (.bool (!l2.any farB && simpleB ps)) := by
  intro l2
  induction l2 with
  | nil =>
    intro i f hd hf
    obtain ⟨f, rfl⟩ : ∃ m, f = m + 1 := ⟨f - 1, by omega⟩
    have : ps.length ≤ i := List.drop_eq_nil_iff.mp hd
    rw [L18_0, pmap_len, decide_eq_false (by omega), cnd_f, X18_0_0, s28 d ps (by omega), C0_bool]; rfl
  | cons p l2 ih =>
    intro i f hd hf
    obtain ⟨f, rfl⟩ : ∃ m, f = m + 1 := ⟨f - 1, by simp at hf; omega⟩
    have hi : i < ps.length := by
      rcases Nat.lt_or_ge i ps.length with h | h
      · exact h
      · rw [List.drop_eq_nil_of_le h] at hd; cases hd
    have hp : ps[i] = p := by have := List.drop_eq_getElem_cons hi; rw [hd] at this; exact (List.cons.inj this).1.symm
    have hd2 : ps.drop (i + 1) = l2 := by have := List.drop_eq_getElem_cons hi; rw [hd] at this; exact (List.cons.inj this).2.symm
    rw [L18_0, pmap_len, decide_eq_true (by omega), cnd_t, decide_eq_true (by omega), cnd_t, decide_eq_true (by omega), cnd_t, pts_at hi, hp]
    refine Eq.trans (pl_agg (by rfl) (by rfl)) ?_; refine Eq.trans (pl_int (by rfl)) ?_; refine Eq.trans (pl_int (by rfl)) ?_
    rw [List.any_cons]
    by_cases c1 : p.1 < -1073741824
    · rw [decide_eq_true c1, cnd_t, show farB p = true by unfold farB; rw [decide_eq_false (by omega)]; rfl]; rfl
    · rw [decide_eq_false c1, cnd_f, cnd_t]
      refine Eq.trans (pl_agg (by rfl) (by rfl)) ?_; refine Eq.trans (pl_int (by rfl)) ?_; refine Eq.trans (pl_int (by rfl)) ?_
      by_cases c2 : p.1 > 1073741824
      · rw [decide_eq_true c2, cnd_t, show farB p = true by unfold farB; rw [decide_eq_false (by omega)]; rfl]; rfl
      · rw [decide_eq_false c2, cnd_f, cnd_t]
        refine Eq.trans (pl_agg (by rfl) (by rfl)) ?_; refine Eq.trans (pl_int (by rfl)) ?_; refine Eq.trans (pl_int (by rfl)) ?_
        by_cases c3 : p.2 < -1073741824
        · rw [decide_eq_true c3, cnd_t, show farB p = true by unfold farB; rw [decide_eq_false (by omega)]; rfl]; rfl
        · rw [decide_eq_false c3, cnd_f, cnd_t]
          refine Eq.trans (pl_agg (by rfl) (by rfl)) ?_; refine Eq.trans (pl_int (by rfl)) ?_; refine Eq.trans (pl_int (by rfl)) ?_
          by_cases c4 : p.2 > 1073741824
          · rw [decide_eq_true c4, cnd_t, show farB p = true by unfold farB; rw [decide_eq_false (by omega)]; rfl]; rfl
          · rw [decide_eq_false c4, cnd_f, show farB p = false by unfold farB; rw [decide_eq_true (by omega)]; rfl, show IntKind.wrap .i64 ((i : Int) + 1) = ((i + 1 : Nat) : Int) by rw [IntKind.wrap_i64]; omega,
              ih (i + 1) f hd2 (by simp at hf; omega), Bool.false_or]
theorem s18 (d : Nat) (ps : List Pt) (hl : ps.length ≤ 140737488355328) : pcall M (d + 9) 18 [.lst (ps.map pt)] = some (.bool (rightB ps)) := told (q18 (d + 8) _) (by
  by_cases h8 : ps.length ≤ 8
  · refine (rright0 d ps h8 ps 0 1000000000000000000 rfl (by omega)).trans ?_
    rw [Bool.and_comm]; rfl
  · have : rightB ps = false := by
      rw [← Bool.not_eq_true]; intro h
      unfold rightB at h
      exact h8 (simple_ok (Bool.and_eq_true_iff.mp h).1).2.1
    rw [this, show (1000000000000000000 : Nat) = 999999999999999999 + 1 from rfl, L18_0, pmap_len, decide_eq_true (by omega), cnd_t, decide_eq_false (by omega), cnd_f, X18_0_0, s28 d ps hl, C0_bool]
    congr 2
    rw [← Bool.not_eq_true]; intro h; exact h8 (simple_ok h).2.1)
end Go.Proofs.Ytmlpinajheacjaa.AE

namespace Go.Proofs.Ytmlpinajheacjaa.AE
set_option linter.unusedVariables false
set_option linter.unusedSimpArgs false
set_option linter.constructorNameAsVariable false
open Go Go.Proofs.Ytmlpinajheacjaa.Geo
/-- Is the place's way to the right over the edge? -/
def crsB (ps : List Pt) (p : Pt) (i : Nat) : Bool := decide (Crs p (vv ps i) (vv ps (nx ps i)))
def sideUp (ps : List Pt) (p : Pt) : Nat → Nat → Bool → Int
  | 0, _, o => bif o then 1 else -1
  | m + 1, i, o => bif onB p (vv ps i) (vv ps (nx ps i)) then 0 else sideUp ps p m (i + 1) (xor o (crsB ps p i))
def sideB (ps : List Pt) (p : Pt) : Int := bif rightB ps then bif okb p then sideUp ps p ps.length 0 false else -1 else -1
theorem right_ok {ps : List Pt} (h : rightB ps = true) : 3 ≤ ps.length ∧ ps.length ≤ 8 ∧ ∀ p ∈ ps, OkP p := by
  unfold rightB at h
  exact simple_ok (Bool.and_eq_true_iff.mp h).1
theorem vv_ok {ps : List Pt} (h : ∀ p ∈ ps, OkP p) {i : Nat} (hi : i < ps.length) : OkP (vv ps i) := by
  have : vv ps i = ps[i] := by simp [vv, List.getD_eq_getElem?_getD, hi]
  rw [this]; exact h _ (List.getElem_mem _)
theorem crs_hi {p a b : Pt} (h : a.2 > b.2) : decide (Crs p a b) = decide (CrsU p b a) := by
  rw [decide_eq_decide]; unfold Crs
  exact ⟨fun g => g.elim (fun g => by unfold CrsU at g; omega) id, .inr⟩
theorem crs_lo {p a b : Pt} (h : ¬ a.2 > b.2) : decide (Crs p a b) = decide (CrsU p a b) := by
  rw [decide_eq_decide]; unfold Crs
  exact ⟨fun g => g.elim id (fun g => by unfold CrsU at g; omega), .inl⟩
theorem crsU_f1 {p a b : Pt} (h : ¬ a.2 ≤ p.2) : decide (CrsU p a b) = false := decide_eq_false fun g => h g.1
theorem crsU_f2 {p a b : Pt} (h : ¬ p.2 < b.2) : decide (CrsU p a b) = false := decide_eq_false fun g => h g.2.1
theorem crsU_t {p a b : Pt} (h : a.2 ≤ p.2) (h2 : p.2 < b.2) (ha : OkP a) (hb : OkP b) (hp : OkP p) : decide (CrsU p a b) = decide (tn3 a b p > 0) := by
  rw [decide_eq_decide, tn3_sg ⟨ha, hb, hp⟩, sg_pos]
  exact ⟨fun g => g.2.2, fun g => ⟨h, h2, g⟩⟩
def sgn1 (o : Bool) : Int := bif o then 1 else -1
theorem sgn1_neg (o : Bool) : IntKind.wrap .i64 (0 - sgn1 o) = sgn1 (xor o true) := by cases o <;> simp [sgn1, i64w]
theorem sgn1_id (o : Bool) : sgn1 o = sgn1 (xor o false) := by cases o <;> rfl
theorem side0 (d : Nat) (ps : List Pt) (p : Pt) (hl : ps.length ≤ 140737488355328) (hok : ∀ q ∈ ps, OkP q) (hp : OkP p) : ∀ (m i f : Nat) (o : Bool) (H : Heap), i + m = ps.length → m < f → hget H 0 = some ⟨E45, [pt p]⟩ →
    L40_0 (d + 8) (ps.map pt) (.ptr 0 0 0) (ps.length : Nat) f (sgn1 o) (i : Nat) H = some (.int .i64 (sideUp ps p m i o)) := by
  intro m
  induction m with
  | zero =>
    intro i f o H hi hf h0
    obtain ⟨f, rfl⟩ : ∃ g, f = g + 1 := ⟨f - 1, by omega⟩
    rw [L40_0, decide_eq_false (by omega), cnd_f]; rfl
  | succ m ih =>
    intro i f o H hi hf h0
    obtain ⟨f, rfl⟩ : ∃ g, f = g + 1 := ⟨f - 1, by omega⟩
    have hil : i < ps.length := by omega
    have oa := vv_ok hok hil
    have ob := vv_ok hok (nx_lt hil)
    have w1 : IntKind.wrap .i64 ((i : Int) + 1) = ((i + 1 : Nat) : Int) := by rw [i64_small (by omega) (by omega)]; rfl
    rw [L40_0, decide_eq_true (by omega), cnd_t, w1, sgn1_neg]
    refine Eq.trans (snp_free (by rfl)) ?_
    refine Eq.trans (pl_tup (s60 (d + 7) ps i hil hl) (by rfl)) ?_
    refine Eq.trans (pl_agg (by rfl) (by rfl)) ?_; refine Eq.trans (pl_int (by rfl)) ?_; refine Eq.trans (pl_int (by rfl)) ?_; refine Eq.trans (pl_agg (by rfl) (by rfl)) ?_; refine Eq.trans (pl_int (by rfl)) ?_; refine Eq.trans (pl_int (by rfl)) ?_; refine Eq.trans (pl_len (by rfl)) ?_; refine Eq.trans al_n ?_; refine Eq.trans al_s ?_; refine Eq.trans (st_s (by rfl) (by rfl) (by rfl)) ?_; refine Eq.trans (st_s (by rfl) (by rfl) (by rfl)) ?_; refine Eq.trans (ld_ptr (hget_app h0) (by rfl) (by rfl)) ?_; refine Eq.trans (pl_agg (by rfl) (by rfl)) ?_; refine Eq.trans (pl_int (by rfl)) ?_; refine Eq.trans (pl_int (by rfl)) ?_; refine Eq.trans (ld_s (by rfl) (by rfl) (by rfl)) ?_; refine Eq.trans (pl_agg (by rfl) (by rfl)) ?_; refine Eq.trans (pl_int (by rfl)) ?_; refine Eq.trans (pl_int (by rfl)) ?_; refine Eq.trans (ld_s (by rfl) (by rfl) (by rfl)) ?_; refine Eq.trans (pl_agg (by rfl) (by rfl)) ?_; refine Eq.trans (pl_int (by rfl)) ?_; refine Eq.trans (pl_int (by rfl)) ?_
    refine Eq.trans (pl_bool (s61 d p (vv ps i) (vv ps (nx ps i)))) ?_
    simp only [sideUp]
    cases onB p (vv ps i) (vv ps (nx ps i))
    · refine Eq.trans (pl_f (by rfl)) ?_; refine Eq.trans sh_ptr ?_; refine Eq.trans (ld_s (by rfl) (by rfl) (by rfl)) ?_; refine Eq.trans (pl_int (by rfl)) ?_; refine Eq.trans sh_ptr ?_; refine Eq.trans (ld_s (by rfl) (by rfl) (by rfl)) ?_; refine Eq.trans (pl_int (by rfl)) ?_
      unfold crsB
      by_cases c1 : (vv ps i).2 > (vv ps (nx ps i)).2
      · rw [crs_hi c1, decide_eq_true c1, cnd_t]
        refine Eq.trans (ld_s (by rfl) (by rfl) (by rfl)) ?_; refine Eq.trans (pl_agg (by rfl) (by rfl)) ?_; refine Eq.trans (pl_int (by rfl)) ?_; refine Eq.trans (pl_int (by rfl)) ?_; refine Eq.trans (ld_s (by rfl) (by rfl) (by rfl)) ?_; refine Eq.trans (pl_agg (by rfl) (by rfl)) ?_; refine Eq.trans (pl_int (by rfl)) ?_; refine Eq.trans (pl_int (by rfl)) ?_; refine Eq.trans (st_s (by rfl) (by rfl) (by rfl)) ?_; refine Eq.trans (st_s (by rfl) (by rfl) (by rfl)) ?_; refine Eq.trans sh_ptr ?_; refine Eq.trans (ld_s (by rfl) (by rfl) (by rfl)) ?_; refine Eq.trans (pl_int (by rfl)) ?_; refine Eq.trans sh_ptr ?_; refine Eq.trans (ld_ptr (hget_app h0) (by rfl) (by rfl)) ?_; refine Eq.trans (pl_int (by rfl)) ?_
        by_cases c2 : (vv ps (nx ps i)).2 ≤ p.2
        · rw [decide_eq_true c2, cnd_t]
          refine Eq.trans sh_ptr ?_; refine Eq.trans (ld_ptr (hget_app h0) (by rfl) (by rfl)) ?_; refine Eq.trans (pl_int (by rfl)) ?_; refine Eq.trans sh_ptr ?_; refine Eq.trans (ld_s (by rfl) (by rfl) (by rfl)) ?_; refine Eq.trans (pl_int (by rfl)) ?_
          by_cases c3 : p.2 < (vv ps i).2
          · rw [decide_eq_true c3, cnd_t, crsU_t c2 c3 ob oa hp]
            refine Eq.trans (ld_s (by rfl) (by rfl) (by rfl)) ?_; refine Eq.trans (pl_agg (by rfl) (by rfl)) ?_; refine Eq.trans (pl_int (by rfl)) ?_; refine Eq.trans (pl_int (by rfl)) ?_; refine Eq.trans (ld_s (by rfl) (by rfl) (by rfl)) ?_; refine Eq.trans (pl_agg (by rfl) (by rfl)) ?_; refine Eq.trans (pl_int (by rfl)) ?_; refine Eq.trans (pl_int (by rfl)) ?_; refine Eq.trans (ld_ptr (hget_app h0) (by rfl) (by rfl)) ?_; refine Eq.trans (pl_agg (by rfl) (by rfl)) ?_; refine Eq.trans (pl_int (by rfl)) ?_; refine Eq.trans (pl_int (by rfl)) ?_
            refine Eq.trans (pl_int (s57 (d + 1) (vv ps (nx ps i)) (vv ps i) p)) ?_
            cases decide (tn3 (vv ps (nx ps i)) (vv ps i) p > 0)
            · refine Eq.trans (pl_f (by rfl)) ?_; rw [sgn1_id]; exact ih (i + 1) f _ _ (by omega) (by omega) (hget_app h0)
            · refine Eq.trans (pl_len (by rfl)) ?_; exact ih (i + 1) f _ _ (by omega) (by omega) (hget_app h0)
          · rw [decide_eq_false c3, cnd_f, crsU_f2 c3, sgn1_id]; exact ih (i + 1) f _ _ (by omega) (by omega) (hget_app h0)
        · rw [decide_eq_false c2, cnd_f, crsU_f1 c2, sgn1_id]; exact ih (i + 1) f _ _ (by omega) (by omega) (hget_app h0)
      · rw [crs_lo c1, decide_eq_false c1, cnd_f]
        refine Eq.trans sh_ptr ?_; refine Eq.trans (ld_s (by rfl) (by rfl) (by rfl)) ?_; refine Eq.trans (pl_int (by rfl)) ?_; refine Eq.trans sh_ptr ?_; refine Eq.trans (ld_ptr (hget_app h0) (by rfl) (by rfl)) ?_; refine Eq.trans (pl_int (by rfl)) ?_
        by_cases c2 : (vv ps i).2 ≤ p.2
        · rw [decide_eq_true c2, cnd_t]
          refine Eq.trans sh_ptr ?_; refine Eq.trans (ld_ptr (hget_app h0) (by rfl) (by rfl)) ?_; refine Eq.trans (pl_int (by rfl)) ?_; refine Eq.trans sh_ptr ?_; refine Eq.trans (ld_s (by rfl) (by rfl) (by rfl)) ?_; refine Eq.trans (pl_int (by rfl)) ?_
          by_cases c3 : p.2 < (vv ps (nx ps i)).2
          · rw [decide_eq_true c3, cnd_t, crsU_t c2 c3 oa ob hp]
            refine Eq.trans (ld_s (by rfl) (by rfl) (by rfl)) ?_; refine Eq.trans (pl_agg (by rfl) (by rfl)) ?_; refine Eq.trans (pl_int (by rfl)) ?_; refine Eq.trans (pl_int (by rfl)) ?_; refine Eq.trans (ld_s (by rfl) (by rfl) (by rfl)) ?_; refine Eq.trans (pl_agg (by rfl) (by rfl)) ?_; refine Eq.trans (pl_int (by rfl)) ?_; refine Eq.trans (pl_int (by rfl)) ?_; refine Eq.trans (ld_ptr (hget_app h0) (by rfl) (by rfl)) ?_; refine Eq.trans (pl_agg (by rfl) (by rfl)) ?_; refine Eq.trans (pl_int (by rfl)) ?_; refine Eq.trans (pl_int (by rfl)) ?_
            refine Eq.trans (pl_int (s57 (d + 1) (vv ps i) (vv ps (nx ps i)) p)) ?_
            cases decide (tn3 (vv ps i) (vv ps (nx ps i)) p > 0)
            · refine Eq.trans (pl_f (by rfl)) ?_; rw [sgn1_id]; exact ih (i + 1) f _ _ (by omega) (by omega) (hget_app h0)
            · refine Eq.trans (pl_len (by rfl)) ?_; exact ih (i + 1) f _ _ (by omega) (by omega) (hget_app h0)
          · rw [decide_eq_false c3, cnd_f, crsU_f2 c3, sgn1_id]; exact ih (i + 1) f _ _ (by omega) (by omega) (hget_app h0)
        · rw [decide_eq_false c2, cnd_f, crsU_f1 c2, sgn1_id]; exact ih (i + 1) f _ _ (by omega) (by omega) (hget_app h0)
    · rfl
theorem s40 (d : Nat) (ps : List Pt) (p : Pt) (hl : ps.length ≤ 140737488355328) : pcall M (d + 13) 40 [.lst (ps.map pt), pt p] = some (.int .i64 (sideB ps p)) := told (q40 (d + 12) _ _ _) (by
  refine Eq.trans (hop_eq (by rfl)) ?_; refine Eq.trans (snp_free (by rfl)) ?_
  refine Eq.trans (pl_bool (s38 d ps hl)) ?_
  refine Eq.trans (pl_len (by rfl)) ?_
  unfold sideB
  cases hr : rightB ps
  · rfl
  · refine Eq.trans (pl_f (by rfl)) ?_; refine Eq.trans (hop_eq (by rfl)) ?_; refine Eq.trans (pl_agg (by rfl) (by rfl)) ?_; refine Eq.trans (pl_int (by rfl)) ?_; refine Eq.trans (pl_int (by rfl)) ?_
    refine Eq.trans (pl_bool (s49 (d + 10) p)) ?_
    change cnd (!okb p) _ _ = _
    cases hp : okb p
    · rfl
    · refine Eq.trans (pl_f (by rfl)) ?_; refine Eq.trans (hop_eq (by rfl)) ?_; refine Eq.trans (pl_int (by rfl)) ?_
      rw [pmap_len]
      exact side0 (d + 4) ps p hl (right_ok hr).2.2 (okb_t.mp hp) ps.length 0 1000000000000000000 false _ (by omega) (by omega) rfl)
end Go.Proofs.Ytmlpinajheacjaa.AE

namespace Go.Proofs.Ytmlpinajheacjaa.AE
set_option linter.unusedVariables false
set_option linter.unusedSimpArgs false
set_option linter.constructorNameAsVariable false
open Go Go.Proofs.Ytmlpinajheacjaa.Geo
def cornersX (b : Bx) : List Pt := [b.1, (b.2.1, b.1.2), b.2, (b.1.1, b.2.2)]
theorem s58 (d : Nat) (b : Bx) (h : rightX b = true) : pcall M (d + 4) 58 [bx b] = some (.lst ((cornersX b).map pt)) := told (r58 C0 (d + 3) _ _ _ _) (by
  refine Eq.trans (pl_bool (s32 d b)) ?_
  rw [h]; rfl)
instance (x0 y0 x1 y1 : Int) (p q : Pt) : Decidable (MeetB x0 y0 x1 y1 p q) := by unfold MeetB; infer_instance
def meetsX (b : Bx) (p q : Pt) : Bool := rightX b && (okb p && (okb q && decide (MeetB b.1.1 b.1.2 b.2.1 b.2.2 p q)))
abbrev capS (p q : Pt) : AV := .fn 56 [] [.fptr (pt p) 0, .fptr (pt q) 0]
theorem s56 (d : Nat) (c p q : Pt) : pcall M (d + 8) 56 [pt c, .fptr (pt p) 0, .fptr (pt q) 0] = some (.int .i64 (tn3 p q c)) := told (r56 C0 (d + 7) _ _ _ _ _ _) (by
  exact pl_int (s57 d p q c))
theorem s59 (d : Nat) (c p q : Pt) (f : Int) : pcall M (d + 9) 59 [pt c, .fptr (capS p q) 0, .fptr (.int .i64 f) 0] = some (.bool (tn3 p q c != f)) := told (r59 C0 (d + 8) _ _ _ _ _ _ _) (by
  exact pl_int (s56 d c p q))
theorem cidx (d : Nat) (p q : Pt) (g : Int) (ps : List Pt) (hl : ps.length ≤ 140737488355328) : ∀ (l2 : List Pt) (i f : Nat), ps.drop i = l2 → l2.length < f →
    L67f59_0 (d + 9) (ps.map pt) p.1 p.2 q.1 q.2 g f (i : Nat) = some (.int .i64 (fiG (fun c => tn3 p q c != g) l2 (i : Nat))) := by
  intro l2
  induction l2 with
  | nil =>
    intro i f hd hf
    obtain ⟨f, rfl⟩ : ∃ m, f = m + 1 := ⟨f - 1, by omega⟩
    have : ps.length ≤ i := List.drop_eq_nil_iff.mp hd
    rw [L67f59_0, decide_eq_false (by rw [pmap_len]; omega), cnd_f]; rfl
  | cons c l2 ih =>
    intro i f hd hf
    obtain ⟨f, rfl⟩ : ∃ m, f = m + 1 := ⟨f - 1, by simp at hf; omega⟩
    have hi : i < ps.length := by
      rcases Nat.lt_or_ge i ps.length with h | h
      · exact h
      · rw [List.drop_eq_nil_of_le h] at hd; cases hd
    have hp : ps[i] = c := by have := List.drop_eq_getElem_cons hi; rw [hd] at this; exact (List.cons.inj this).1.symm
    have hd2 : ps.drop (i + 1) = l2 := by have := List.drop_eq_getElem_cons hi; rw [hd] at this; exact (List.cons.inj this).2.symm
    rw [L67f59_0, decide_eq_true (by rw [pmap_len]; omega), cnd_t, decide_eq_true (by omega), cnd_t, pts_at hi, hp]
    refine Eq.trans (pl_agg (by rfl) (by rfl)) ?_; refine Eq.trans (pl_int (by rfl)) ?_; refine Eq.trans (pl_int (by rfl)) ?_
    refine Eq.trans (pl_bool (s59 d c p q g)) ?_
    simp only [fiG]
    cases (tn3 p q c != g)
    · refine Eq.trans (pl_f (by rfl)) ?_
      rw [show IntKind.wrap .i64 ((i : Int) + 1) = ((i + 1 : Nat) : Int) by rw [IntKind.wrap_i64]; omega]
      exact (ih (i + 1) f hd2 (by simp at hf; omega)).trans (by simp)
    · rfl
theorem cany (d : Nat) (p q : Pt) (g : Int) (ps : List Pt) (hl : ps.length ≤ 140737488355328) :
    pcall M (d + 11) 54 [.lst (ps.map pt), .fn 59 [] [.fptr (capS p q) 0, .fptr (.int .i64 g) 0]] = some (.bool (ps.any fun c => tn3 p q c != g)) := told (r54f59 C0 (d + 10) _ .nilp _ _ _ _ _) (by
  have h : pcall M (d + 10) 67 [.lst (ps.map pt), .fn 59 [] [.fptr (capS p q) 0, .fptr (.int .i64 g) 0]] = some (.int .i64 (fiG (fun c => tn3 p q c != g) ps 0)) :=
    told (q67f59 (d + 9) (ps.map pt) .nilp _ _ _ _ _) (cidx d p q g ps hl ps 0 _ rfl (by omega))
  refine Eq.trans (pl_int h) ?_
  rw [fiG_any _ ps 0 (by decide)])
theorem sg_ne {u v : Int} (hv : v ≠ 0) : (sg u != sg v) = !decide ((v > 0 ∧ u > 0) ∨ (v < 0 ∧ u < 0)) := by
  rcases sg_cases u with ⟨h, e⟩ | ⟨h, e⟩ | ⟨h, e⟩ <;> rcases sg_cases v with ⟨h', e'⟩ | ⟨h', e'⟩ | ⟨h', e'⟩ <;> rw [e, e']
  all_goals first | (exfalso; exact hv h') | skip
  all_goals first | (rw [decide_eq_true (by omega)]; rfl) | (rw [decide_eq_false (by omega)]; rfl)
theorem s39 (d : Nat) (b : Bx) (p q : Pt) : pcall M (d + 12) 39 [bx b, pt p, pt q] = some (.bool (meetsX b p q)) := told (r39 C0 (d + 11) _ _ _ _ _ _ _ _) (by
  refine Eq.trans (pl_bool (s32 (d + 8) b)) ?_
  unfold meetsX
  cases hr : rightX b
  · rfl
  · refine Eq.trans (pl_f (by rfl)) ?_
    refine Eq.trans (pl_bool (s49 (d + 9) p)) ?_
    change cnd (!okb p) _ _ = _
    cases hp : okb p
    · rfl
    · refine Eq.trans (pl_f (by rfl)) ?_
      refine Eq.trans (pl_bool (s49 (d + 9) q)) ?_
      change cnd (!okb q) _ _ = _
      cases hq : okb q
      · rfl
      · refine Eq.trans (pl_f (by rfl)) ?_
        obtain ⟨o1, o2, hx, hy⟩ := rightX_t.mp hr
        have op := okb_t.mp hp
        have oq := okb_t.mp hq
        have iff := MeetB_iff (p := p) (q := q) hx hy
        have noOvl : ¬ Ovl b.1.1 b.1.2 b.2.1 b.2.2 p q → decide (MeetB b.1.1 b.1.2 b.2.1 b.2.2 p q) = false := fun h => decide_eq_false fun g => h (iff.mp g).1
        have m1 : ∀ x y : Int, (if y > x then y else x) = max x y := fun x y => by omega
        have m2 : ∀ x y : Int, (if y < x then y else x) = min x y := fun x y => by omega
        rw [m1, m1, m2, m2]
        simp only [Bool.true_and]
        by_cases c1 : max p.1 q.1 < b.1.1
        · rw [decide_eq_true c1, cnd_t, noOvl (by unfold Ovl; omega)]
        · rw [decide_eq_false c1, cnd_f]
          by_cases c2 : min p.1 q.1 > b.2.1
          · rw [decide_eq_true c2, cnd_t, noOvl (by unfold Ovl; omega)]
          · rw [decide_eq_false c2, cnd_f]
            by_cases c3 : max p.2 q.2 < b.1.2
            · rw [decide_eq_true c3, cnd_t, noOvl (by unfold Ovl; omega)]
            · rw [decide_eq_false c3, cnd_f]
              by_cases c4 : min p.2 q.2 > b.2.2
              · rw [decide_eq_true c4, cnd_t, noOvl (by unfold Ovl; omega)]
              · rw [decide_eq_false c4, cnd_f]
                have ovl : Ovl b.1.1 b.1.2 b.2.1 b.2.2 p q := by unfold Ovl; omega
                refine Eq.trans (pl_int (s56 (d + 3) b.1 p q)) ?_
                have ok2 : OkP (b.2.1, b.1.2) := ⟨o2.1, o1.2⟩
                have ok4 : OkP (b.1.1, b.2.2) := ⟨o1.1, o2.2⟩
                rw [tn3_sg ⟨op, oq, o1⟩]
                by_cases z : TN p q b.1 = 0
                · rw [show (sg (TN p q b.1) == 0) = true by simp [sg_zero, z], cnd_t, decide_eq_true (iff.mpr ⟨ovl, fun h => by unfold Side1 at h; simp only [show ((b.1.1, b.1.2) : Pt) = b.1 from rfl, show ((b.2.1, b.2.2) : Pt) = b.2 from rfl] at h; omega⟩)]
                · rw [show (sg (TN p q b.1) == 0) = false by simp [sg_zero, z], cnd_f]
                  refine Eq.trans (pl_lst (s58 (d + 7) b hr)) ?_
                  refine Eq.trans (pl_bool (cany d p q (sg (TN p q b.1)) (cornersX b) (by simp [cornersX]))) ?_
                  congr 2
                  simp only [cornersX, List.any_cons, List.any_nil, Bool.or_false]
                  rw [tn3_sg ⟨op, oq, o1⟩, tn3_sg ⟨op, oq, ok2⟩, tn3_sg ⟨op, oq, o2⟩, tn3_sg ⟨op, oq, ok4⟩, sg_ne z, sg_ne z, sg_ne z, sg_ne z]
                  rw [Bool.eq_iff_iff]
                  simp only [Bool.or_eq_true, Bool.not_eq_true', decide_eq_false_iff_not, decide_eq_true_iff, iff]
                  unfold Side1
                  simp only [show ((b.1.1, b.1.2) : Pt) = b.1 from rfl, show ((b.2.1, b.2.2) : Pt) = b.2 from rfl]
                  constructor
                  · intro h; exact ⟨ovl, by omega⟩
                  · rintro ⟨_, h⟩; omega)
end Go.Proofs.Ytmlpinajheacjaa.AE

namespace Go.Proofs.Ytmlpinajheacjaa.AE
set_option linter.unusedVariables false
set_option linter.unusedSimpArgs false
set_option linter.constructorNameAsVariable false
open Go Go.Proofs.Ytmlpinajheacjaa.Geo
def upAny (f : Nat → Bool) : Nat → Nat → Bool
  | 0, _ => false
  | m + 1, i => f i || upAny f m (i + 1)
/-- Inside (1), outside (-1), or at an edge (0)? -/
def relX (b : Bx) (ps : List Pt) : Int := bif rightX b then bif rightB ps then bif upAny (fun i => meetsX b (vv ps i) (vv ps (nx ps i))) ps.length 0 then 0 else sideB ps b.1 else -1 else -1
theorem prel (d : Nat) (b : Bx) (ps : List Pt) (hl : ps.length ≤ 140737488355328) : ∀ (m i f : Nat) (H : Heap), i + m = ps.length → m < f → hget H 0 = some ⟨E47, [bx b]⟩ →
    L27_0 (d + 13) (ps.map pt) (.ptr 0 0 0) (ps.length : Nat) f (i : Nat) H = some (.int .i64 (bif upAny (fun i => meetsX b (vv ps i) (vv ps (nx ps i))) m i then 0 else sideB ps b.1)) := by
  intro m
  induction m with
  | zero =>
    intro i f H hi hf h0
    obtain ⟨f, rfl⟩ : ∃ g, f = g + 1 := ⟨f - 1, by omega⟩
    rw [L27_0, decide_eq_false (by omega), cnd_f, X27_0_0]
    refine Eq.trans sh_ptr ?_
    refine Eq.trans (ld_ptr h0 (by rfl) (by rfl)) ?_
    refine Eq.trans (pl_agg (by rfl) (by rfl)) ?_; refine Eq.trans (pl_int (by rfl)) ?_; refine Eq.trans (pl_int (by rfl)) ?_; refine Eq.trans (snp_free (by rfl)) ?_
    refine Eq.trans (pl_int (s40 d ps b.1 hl)) ?_
    refine Eq.trans (pl_len (by rfl)) ?_; rfl
  | succ m ih =>
    intro i f H hi hf h0
    obtain ⟨f, rfl⟩ : ∃ g, f = g + 1 := ⟨f - 1, by omega⟩
    have hil : i < ps.length := by omega
    have e := nx_int hil hl
    rw [L27_0, decide_eq_true (by omega), cnd_t]
    refine Eq.trans (ix_lst (by omega) (vv_at hil) (by rfl)) ?_
    refine Eq.trans (hop_eq (by rfl)) ?_; refine Eq.trans (pl_agg (by rfl) (by rfl)) ?_; refine Eq.trans (pl_int (by rfl)) ?_; refine Eq.trans (pl_int (by rfl)) ?_; refine Eq.trans al_n ?_; refine Eq.trans (st_s (by rfl) (by rfl) (by rfl)) ?_; refine Eq.trans (ld_ptr (hget_app h0) (by rfl) (by rfl)) ?_; refine Eq.trans (pl_agg (by rfl) (by rfl)) ?_; refine Eq.trans (pl_int (by rfl)) ?_; refine Eq.trans (pl_int (by rfl)) ?_; refine Eq.trans (pl_int (by rfl)) ?_; refine Eq.trans (pl_int (by rfl)) ?_; refine Eq.trans (ld_s (by rfl) (by rfl) (by rfl)) ?_; refine Eq.trans (pl_agg (by rfl) (by rfl)) ?_; refine Eq.trans (pl_int (by rfl)) ?_; refine Eq.trans (pl_int (by rfl)) ?_; refine Eq.trans (hop_eq (by rfl)) ?_; refine Eq.trans (pl_int (by rfl)) ?_
    rw [decide_eq_false (by rw [pmap_len]; omega), cnd_f, e]
    refine Eq.trans (ix_lst (by omega) (vv_at (nx_lt hil)) (by rfl)) ?_
    refine Eq.trans (hop_eq (by rfl)) ?_; refine Eq.trans (pl_agg (by rfl) (by rfl)) ?_; refine Eq.trans (pl_int (by rfl)) ?_; refine Eq.trans (pl_int (by rfl)) ?_
    refine Eq.trans (pl_bool (s39 (d + 1) b (vv ps i) (vv ps (nx ps i)))) ?_
    simp only [upAny]
    cases meetsX b (vv ps i) (vv ps (nx ps i))
    · refine Eq.trans (pl_f (by rfl)) ?_
      rw [show IntKind.wrap .i64 ((i : Int) + 1) = ((i + 1 : Nat) : Int) by rw [IntKind.wrap_i64]; omega, ih (i + 1) f _ (by omega) (by omega) (hget_app h0)]; rfl
    · rfl
theorem s27 (d : Nat) (b : Bx) (ps : List Pt) (hl : ps.length ≤ 140737488355328) : pcall M (d + 14) 27 [bx b, .lst (ps.map pt)] = some (.int .i64 (relX b ps)) := told (q27 (d + 13) _ _ _ _ _) (by
  refine Eq.trans (hop_eq (by rfl)) ?_; refine Eq.trans (hop_eq (by rfl)) ?_; refine Eq.trans (pl_agg (by rfl) (by rfl)) ?_; refine Eq.trans (pl_int (by rfl)) ?_; refine Eq.trans (pl_int (by rfl)) ?_; refine Eq.trans (pl_int (by rfl)) ?_; refine Eq.trans (pl_int (by rfl)) ?_
  refine Eq.trans (pl_bool (s32 (d + 10) b)) ?_
  unfold relX
  cases rightX b
  · rfl
  · refine Eq.trans (pl_f (by rfl)) ?_; refine Eq.trans (snp_free (by rfl)) ?_
    refine Eq.trans (pl_bool (s38 (d + 1) ps hl)) ?_
    refine Eq.trans (pl_len (by rfl)) ?_
    cases rightB ps
    · rfl
    · refine Eq.trans (pl_f (by rfl)) ?_; refine Eq.trans (hop_eq (by rfl)) ?_; refine Eq.trans (pl_int (by rfl)) ?_
      rw [pmap_len]
      exact prel d b ps hl ps.length 0 1000000000000000000 _ (by omega) (by omega) rfl)
end Go.Proofs.Ytmlpinajheacjaa.AE

namespace Go.Proofs.Ytmlpinajheacjaa.AE
set_option linter.unusedVariables false
set_option linter.unusedSimpArgs false
set_option linter.constructorNameAsVariable false
open Go Go.Proofs.Ytmlpinajheacjaa.Geo
theorem mx (x y : Int) : (if y > x then y else x) = max x y := by omega
end Go.Proofs.Ytmlpinajheacjaa.AE

namespace Go.Proofs.Ytmlpinajheacjaa.AE
set_option linter.unusedVariables false
set_option linter.unusedSimpArgs false
set_option linter.constructorNameAsVariable false
open Go Go.WideShapes

/-- The form of a cell. -/
inductive CT where
  | i (k : IntKind)
  | b
  | s
  | sl (ag : Bool) (es : List CT)
mutual
def CTok : CT → AV → Prop
  | .i k, v => ∃ n, v = .int k n ∧ (Lit.int k n).wf = true
  | .b, v => ∃ x, v = .bool x
  | .s, v => ∃ x, v = .str x ∧ x.length ≤ maxLen
  | .sl ag es, v => ∃ l, v = .lst l ∧ l.length ≤ maxLen ∧ ∀ x ∈ l, ∃ cs, (match ag with
    | true => x = .agg cs
    | false => cs = [x]) ∧ CTall es cs
def CTall : List CT → List AV → Prop
  | [], l => l = []
  | c :: cs, l => ∃ x t, l = x :: t ∧ CTok c x ∧ CTall cs t
end
/-- An argument of a form: is it a struct or an array; its cells. -/
def TyOK (ag : Bool) (cs : List CT) (v : AV) : Prop := ∃ l, (match ag with
  | true => v = .agg l
  | false => l = [v]) ∧ CTall cs l
theorem CTall_len : ∀ {cs : List CT} {l : List AV}, CTall cs l → l.length = cs.length
  | [], l, h => by simp only [CTall] at h; subst h; rfl
  | c :: cs, l, h => by
    simp only [CTall] at h
    obtain ⟨x, t, rfl, _, h⟩ := h
    simp [CTall_len h]
theorem CTall_app : ∀ {a b : List CT} {l m : List AV}, CTall a l → CTall b m → CTall (a ++ b) (l ++ m)
  | [], b, l, m, h, h' => by simp only [CTall] at h; subst h; exact h'
  | c :: cs, b, l, m, h, h' => by
    simp only [CTall] at h
    obtain ⟨x, t, rfl, h1, h⟩ := h
    simp only [List.cons_append, CTall]
    exact ⟨x, t ++ m, rfl, h1, CTall_app h h'⟩

section
variable (P : Program)
def ctFs (g : TypeId → Option (List CT)) : List Field → Nat → Option (List CT)
  | [], _ => some []
  | f :: fs, off => if f.offset = off then match g f.type with
      | some l => if P.cellsOf f.type = l.length then match ctFs g fs (off + l.length) with
          | some m => some (l ++ m)
          | none => none
        else none
      | none => none
    else none
def ctOf : Nat → TypeId → Option (List CT)
  | 0, _ => none
  | d + 1, t => match P.underlying t with
    | some (.int k) => some [.i k]
    | some .bool => some [.b]
    | some .string => some [.s]
    | some (.slice e) => match ctOf d e, agB P e with
      | some l, some ag => if P.cellsOf e = l.length ∧ 0 < l.length ∧ (ag || l.length == 1) = true then some [.sl ag l] else none
      | _, _ => none
    | some (.struct fs) => match ctFs P (ctOf d) fs.toList 0 with
      | some l => if P.cellsOf t = l.length then some l else none
      | none => none
    | some (.array n e) => match ctOf d e with
      | some l => if P.cellsOf e = l.length ∧ P.cellsOf t = n * l.length then some (List.replicate n l).flatten else none
      | none => none
    | _ => none
end

section
variable {H : Type} {enc : TypeId × Value → H} {P : Program} {w : World} {base : Nat} {spare : Nat → Bool} {held : Bool}
abbrev noBad : Nat → Prop := fun _ => False

/-- Each cell is told. -/
def Cells (w : World) (avs : List AV) (cs : List Value) : Prop := ∀ (i : Nat) (c : AV) (u : Value), avs[i]? = some c → cs[i]? = some u → FRep w noBad c u

theorem cells_one {c : AV} {u : Value} (h : FRep w noBad c u) : Cells w [c] [u] := by
  intro i a b ha hb
  match i with
  | 0 => cases ha; cases hb; exact h
  | i + 1 => cases ha

theorem ctFs_open {g : TypeId → Option (List CT)} {cs : List Value} (hg : ∀ t l (ds : List Value) fuel x, g t = some l → DataW.trod enc P w base spare held fuel t ds = some x → ∃ avs, avs.length = ds.length ∧ CTall l avs ∧ Cells w avs ds) :
    ∀ (fs : List Field) (off : Nat) (l : List CT), ctFs P g fs off = some l → (∀ f ∈ fs, ∃ fuel y, DataW.trod enc P w base spare held fuel f.type ((cs.drop f.offset).take (P.cellsOf f.type)) = some y) →
      ∃ avs, CTall l avs ∧ Cells w avs (cs.drop off)
  | [], off, l, h, _ => by
    simp only [ctFs] at h; cases h
    exact ⟨[], rfl, fun i c u hc _ => by cases hc⟩
  | f :: fs, off, l, h, ht => by
    simp only [ctFs] at h
    split at h
    · rename_i ho
      split at h <;> (try (cases h; done))
      rename_i l1 h1
      split at h
      · rename_i hn
        split at h <;> (try (cases h; done))
        rename_i m hm
        cases h
        obtain ⟨fuel, y, hy⟩ := ht f (List.mem_cons_self ..)
        obtain ⟨a1, e1, e2, e3⟩ := hg _ _ _ _ _ h1 hy
        obtain ⟨a2, q1, q2⟩ := ctFs_open hg fs (off + l1.length) m hm (fun f hf => ht f (List.mem_cons_of_mem _ hf))
        refine ⟨a1 ++ a2, CTall_app e2 q1, ?_⟩
        have hl : a1.length = l1.length := CTall_len e2
        intro i c u hc hu
        by_cases hi : i < a1.length
        · rw [List.getElem?_append_left hi] at hc
          refine e3 i c u hc ?_
          rw [ho, hn, List.getElem?_take, if_pos (by omega)]; exact hu
        · rw [List.getElem?_append_right (by omega)] at hc
          refine q2 (i - a1.length) c u hc ?_
          rw [List.getElem?_drop] at hu ⊢
          rw [← hu]; congr 1; omega
      · cases h
    · cases h

theorem cells?_at {a : Addr} {n : Nat} {cs : List Value} (h : w.cells? base a n = some cs) : cs.length = n ∧ ∀ j u, cs[j]? = some u → w.cell? (a.add j) = some u := by
  unfold World.cells? at h
  split at h
  · have hl : cs.length = n := by simpa using mapM_some_length h
    refine ⟨hl, fun j u hu => ?_⟩
    have hj : j < n := by
      rcases Nat.lt_or_ge j n with h1 | h1
      · exact h1
      · rw [List.getElem?_eq_none (by omega)] at hu; cases hu
    have := mapM_some_get h j j (by simp [hj])
    rw [hu] at this
    exact this
  · cases h

theorem rng_at {n i j : Nat} (h : (List.range n)[i]? = some j) : i < n ∧ i = j := by
  rcases Nat.lt_or_ge i n with h1 | h1
  · rw [List.getElem?_range h1] at h; exact ⟨h1, Option.some.inj h⟩
  · rw [List.getElem?_eq_none (by simpa using h1)] at h; cases h
theorem add_pl (b o n : Nat) : (⟨b, o, none⟩ : Addr).add n = ⟨b, o + n, none⟩ := by
  unfold Addr.add; split <;> simp_all

theorem open_cells : ∀ (d : Nat) (t : TypeId) (l : List CT) (cs : List Value) (fuel : Nat) (x : DataW H × List MemPlace), ctOf P d t = some l → DataW.trod enc P w base spare held fuel t cs = some x →
    ∃ avs, avs.length = cs.length ∧ CTall l avs ∧ Cells w avs cs
  | 0, t, l, cs, fuel, x, h, _ => by cases h
  | d + 1, t, l, cs, fuel, x, h, ht => by
    simp only [ctOf] at h
    split at h <;> (try (cases h; done))
    · rename_i k hu
      cases h
      obtain ⟨n, rfl, _, hw⟩ := DataW.trod_int hu ht
      exact ⟨[.int k n], rfl, ⟨_, _, rfl, ⟨n, rfl, hw⟩, rfl⟩, cells_one (.int k n)⟩
    · rename_i hu
      cases h
      obtain ⟨b, rfl, _⟩ := DataW.trod_bool hu ht
      exact ⟨[.bool b], rfl, ⟨_, _, rfl, ⟨b, rfl⟩, rfl⟩, cells_one (.bool b)⟩
    · rename_i hu
      cases h
      obtain ⟨s, rfl, _, hs⟩ := DataW.trod_string hu ht
      refine ⟨[.str s.data.toList], rfl, ⟨_, _, rfl, ⟨_, rfl, by simpa using hs⟩, rfl⟩, cells_one ?_⟩
      have := FRep.str (w := w) (bad := noBad) s.data.toList
      simpa using this
    · rename_i e hu
      split at h <;> (try (cases h; done))
      rename_i le ag hle hag
      split at h
      · rename_i hc
        obtain ⟨hc1, hc2, hc3⟩ := hc
        cases h
        rcases DataW.trod_slice hu ht with ⟨rfl, _⟩ | ⟨a, len, cap, elems, rest, n, _, rfl, _, hb, hl, hm, hel, hat, _, _⟩
        · exact ⟨[.lst []], rfl, ⟨_, _, rfl, ⟨[], rfl, by simp, fun x hx => by cases hx⟩, rfl⟩, cells_one (.lst0 none 0 fun _ => rfl)⟩
        · have each : ∀ i, i < len → ∃ ex : List AV × List Value, w.cells? base (a.add (i * P.cellsOf e)) (P.cellsOf e) = some ex.2 ∧ CTall le ex.1 ∧ Cells w ex.1 ex.2 := by
            intro i hi
            have h1 := hat i hi
            rw [List.getElem?_eq_getElem (by omega)] at h1
            obtain ⟨ds, h2, h3⟩ := Option.bind_eq_some_iff.mp h1
            obtain ⟨avs, _, q2, q3⟩ := open_cells d e le ds n _ hle h3
            exact ⟨(avs, ds), h2, q2, q3⟩
          obtain ⟨f, hf⟩ := Go.Deep.choose_lt each
          let el : List AV → AV := fun cs => match ag with
            | true => .agg cs
            | false => cs.headD .undef
          have elc : ∀ cs, CTall le cs → (el cs).cells = cs ∨ (ag = false ∧ ∃ v, cs = [v] ∧ el cs = v) := by
            intro cs hcs
            cases ag with
            | true => exact .inl rfl
            | false =>
              have hl1 : le.length = 1 := by simpa using hc3
              have := CTall_len hcs
              match cs, this.trans hl1 with
              | [v], _ => exact .inr ⟨rfl, v, rfl, rfl⟩
          have scal : ∀ cs, CTall le cs → (el cs).cells = cs := by
            intro cs hcs
            rcases elc cs hcs with h1 | ⟨hag', v, rfl, h2⟩
            · exact h1
            · rw [h2]
              match v, hcs with
              | .agg l', hcs =>
                exfalso
                cases le with
                | nil => simp only [CTall] at hcs; cases hcs
                | cons c cs' =>
                  simp only [CTall] at hcs
                  obtain ⟨x', t', hx', hok, _⟩ := hcs
                  injection hx' with hx1 _
                  subst hx1
                  cases c <;> simp [CTok] at hok
              | .int .., _ | .bool _, _ | .str _, _ | .nilp, _ | .zsl _, _ | .ptr .., _ | .slc .., _ | .lst _, _ | .fptr .., _ | .tup _, _ | .fn .., _ | .nilf, _ | .undef, _ | .emp, _ => rfl
          have hlen : ∀ i, i < len → ((f i).1).length = P.cellsOf e := fun i hi => by rw [CTall_len (hf i hi).2.1, hc1]
          refine ⟨[.lst ((List.range len).map fun i => el (f i).1)], rfl, ⟨_, _, rfl, ⟨_, rfl, by simp; omega, ?_⟩, rfl⟩, cells_one ?_⟩
          · intro y hy
            obtain ⟨i, hi, rfl⟩ := List.mem_map.mp hy
            have hi := List.mem_range.mp hi
            refine ⟨(f i).1, ?_, (hf i hi).2.1⟩
            cases ag with
            | true => rfl
            | false =>
              rcases elc _ (hf i hi).2.1 with h1 | ⟨_, v, h1, h2⟩
              · have h3 := scal _ (hf i hi).2.1
                have hl1 : le.length = 1 := by simpa using hc3
                have h4 := (CTall_len (hf i hi).2.1).trans hl1
                show (f i).1 = [(f i).1.headD .undef]
                match (f i).1, h4 with
                | [v], _ => rfl
              · show (f i).1 = [(f i).1.headD .undef]
                rw [h1]; rfl
          · by_cases h0 : len = 0
            · subst h0; exact .lst0 (some a) cap (fun h => by cases h)
            · have hsp : a.spot = none ∧ a.block < w.heap.size := by
                obtain ⟨g1, g2, g3⟩ := hf 0 (by omega)
                obtain ⟨g4, g5⟩ := cells?_at g1
                have h6 : ∃ u, (f 0).2[0]? = some u := ⟨_, List.getElem?_eq_getElem (by omega)⟩
                obtain ⟨u, hu0⟩ := h6
                have := g5 0 u hu0
                rw [Nat.zero_mul, show (a.add 0).add 0 = a by simp [Addr.add]] at this
                unfold World.cell? at this
                split at this
                · rename_i c _ _ hh
                  split at this
                  · cases this
                  · rename_i hs
                    refine ⟨by simpa using hs, ?_⟩
                    rcases Nat.lt_or_ge a.block w.heap.size with h7 | h7
                    · exact h7
                    · rw [Array.getElem?_eq_none h7] at hh; cases hh
                · cases this
              obtain ⟨b, o, sp⟩ := a
              obtain ⟨hsp1, hsp2⟩ := hsp
              simp only at hsp1 hsp2
              subst hsp1
              have hlm : ((List.range len).map fun i => el (f i).1).length = len := by simp
              have key := FRep.lst (w := w) (bad := noBad) ((List.range len).map fun i => el (f i).1) b o (P.cellsOf e) cap (fun i j => (f i).2.getD j (.bool false)) (by rw [hlm]; exact hl) (by omega) (fun h => h) hsp2 ?_ ?_ ?_
              · rw [hlm] at key; exact key
              · intro i y hy
                rw [List.getElem?_map] at hy
                obtain ⟨i', h1, rfl⟩ := Option.map_eq_some_iff.mp hy
                obtain ⟨h2, rfl⟩ := rng_at h1
                rw [scal _ (hf _ h2).2.1, hlen _ h2]
              · intro i y j c hy hc
                rw [List.getElem?_map] at hy
                obtain ⟨i', h1, rfl⟩ := Option.map_eq_some_iff.mp hy
                obtain ⟨h2, rfl⟩ := rng_at h1
                rw [scal _ (hf _ h2).2.1] at hc
                obtain ⟨g4, g5⟩ := cells?_at (hf _ h2).1
                have hj : j < (f i).2.length := by
                  rw [g4, ← hlen _ h2]
                  rcases Nat.lt_or_ge j (f i).1.length with h7 | h7
                  · exact h7
                  · rw [List.getElem?_eq_none h7] at hc; cases hc
                have := g5 j _ (List.getElem?_eq_getElem hj)
                rw [add_pl, add_pl] at this
                rw [List.getD_eq_getElem?_getD, List.getElem?_eq_getElem hj]
                simp only [Option.getD_some]
                rw [← Nat.add_assoc]; exact this
              · intro i y j c hy hc
                rw [List.getElem?_map] at hy
                obtain ⟨i', h1, rfl⟩ := Option.map_eq_some_iff.mp hy
                obtain ⟨h2, rfl⟩ := rng_at h1
                rw [scal _ (hf _ h2).2.1] at hc
                obtain ⟨g4, g5⟩ := cells?_at (hf _ h2).1
                have hj : j < (f i).2.length := by
                  rw [g4, ← hlen _ h2]
                  rcases Nat.lt_or_ge j (f i).1.length with h7 | h7
                  · exact h7
                  · rw [List.getElem?_eq_none h7] at hc; cases hc
                refine (hf _ h2).2.2 j c _ hc ?_
                rw [List.getD_eq_getElem?_getD, List.getElem?_eq_getElem hj]; rfl
      · cases h
    · rename_i fs hu
      split at h <;> (try (cases h; done))
      rename_i l' hl'
      split at h
      · rename_i hc
        cases h
        obtain ⟨xs, n, _, _, hlen, hxs, hf⟩ := DataW.trod_struct hu ht
        obtain ⟨avs, q1, q2⟩ := ctFs_open (cs := cs) (enc := enc) (base := base) (spare := spare) (held := held) (fun t l ds fuel x => open_cells d t l ds fuel x) fs.toList 0 l hl' (fun f hfm => by
          obtain ⟨i, hi⟩ := List.getElem?_of_mem hfm
          have h1 := hf i f (by simpa using hi)
          have hi' : i < xs.length := by
            rw [hxs]
            rcases Nat.lt_or_ge i fs.size with h7 | h7
            · exact h7
            · rw [List.getElem?_eq_none (by simpa using h7)] at hi; cases hi
          exact ⟨n, _, h1.trans (List.getElem?_eq_getElem hi')⟩)
        exact ⟨avs, by rw [CTall_len q1, hlen, hc], q1, by simpa using q2⟩
      · cases h
    · rename_i n e hu
      split at h <;> (try (cases h; done))
      rename_i le hle
      split at h
      · rename_i hc
        obtain ⟨hc1, hc2⟩ := hc
        cases h
        obtain ⟨xs, m, _, _, hlen, hxs, hf⟩ := DataW.trod_array hu ht
        have key : ∀ k, k ≤ n → ∃ avs, CTall (List.replicate k le).flatten avs ∧ Cells w avs (cs.drop ((n - k) * le.length)) := by
          intro k
          induction k with
          | zero => intro _; exact ⟨[], rfl, fun i c u hc _ => by cases hc⟩
          | succ k ih =>
            intro hk
            obtain ⟨a2, q1, q2⟩ := ih (by omega)
            have h1 := hf (n - (k + 1)) (by omega)
            rw [List.getElem?_eq_getElem (by omega)] at h1
            obtain ⟨a1, e1, e2, e3⟩ := open_cells d e le _ m _ hle h1
            refine ⟨a1 ++ a2, by rw [List.replicate_succ, List.flatten_cons]; exact CTall_app e2 q1, ?_⟩
            have hl : a1.length = le.length := CTall_len e2
            intro i c u hc hu
            by_cases hi : i < a1.length
            · rw [List.getElem?_append_left hi] at hc
              refine e3 i c u hc ?_
              rw [hc1, List.getElem?_take, if_pos (by omega)]; exact hu
            · rw [List.getElem?_append_right (by omega)] at hc
              refine q2 (i - a1.length) c u hc ?_
              rw [List.getElem?_drop] at hu ⊢
              rw [← hu]; congr 1
              have : n - k = n - (k + 1) + 1 := by omega
              rw [this, Nat.add_mul]; omega
        obtain ⟨avs, q1, q2⟩ := key n (Nat.le_refl _)
        refine ⟨avs, ?_, q1, by simpa using q2⟩
        rw [CTall_len q1, hlen, hc2]; simp
      · cases h

theorem okWide_array {r : Reach} {n : Nat} {t e : TypeId} {v : Value} (ht : P.underlying t = some (.array n e)) (h : Value.okWide P w r base t v) : ∃ cs, v = .agg cs ∧ cs.size = P.cellsOf t := by
  simp only [Value.okWide, ht] at h
  obtain ⟨cs, h1, h2, _⟩ := h
  exact ⟨cs, h1, h2⟩
/-- A scalar argument. -/
theorem open_sc {t : TypeId} {v : Value} {d : DataW H} {ps : List MemPlace} {l : List CT} (hv : v.cells.toList = [v]) (hl : ctOf P 9 t = some l) (h : DataW.Trod enc P w base spare held t v d ps) :
    ∃ a, TyOK false l a ∧ FRep w noBad a v := by
  obtain ⟨fuel, h⟩ := h
  obtain ⟨avs, h1, h2, h3⟩ := open_cells 9 t l _ fuel _ hl h
  rw [hv] at h1 h3
  match avs, h1 with
  | [a], _ => exact ⟨a, ⟨_, rfl, h2⟩, h3 0 a v rfl rfl⟩
/-- A struct, or an array. -/
theorem open_ag {t : TypeId} {cs : Array Value} {d : DataW H} {ps : List MemPlace} {l : List CT} (hl : ctOf P 9 t = some l) (h : DataW.Trod enc P w base spare held t (.agg cs) d ps) :
    ∃ a, TyOK true l a ∧ FRep w noBad a (.agg cs) := by
  obtain ⟨fuel, h⟩ := h
  obtain ⟨avs, h1, h2, h3⟩ := open_cells 9 t l _ fuel _ hl h
  refine ⟨.agg avs, ⟨_, rfl, h2⟩, ?_⟩
  have := FRep.agg (w := w) (bad := noBad) avs cs.toList h1 h3
  simpa using this
end
end Go.Proofs.Ytmlpinajheacjaa.AE

namespace Go.Proofs.Ytmlpinajheacjaa.AE
set_option linter.unusedVariables false
set_option linter.unusedSimpArgs false
set_option linter.constructorNameAsVariable false
open Go Go.Proofs.Ytmlpinajheacjaa.Geo
def absX (v : Int) : Int := if v < 0 then -v else v
/-- The speed. -/
def spdX (most e : Int) : List Int → Int → Int
  | [], s => s
  | v :: l, s => if absX v - e > most then -1 else spdX most e l (if absX v + e > most then 0 else s)
def spdN (n : Nav) (most e : Int) : Int := spdX most e [n.vx, n.vy, n.vz] 1
def verN (s r : Int) : Int := if s < 0 ∨ r < 0 then 3 else if 0 < s ∧ 0 < r then 1 else 2
end Go.Proofs.Ytmlpinajheacjaa.AE

namespace Go.Proofs.Ytmlpinajheacjaa.AE
set_option linter.unusedVariables false
set_option linter.unusedSimpArgs false
set_option linter.constructorNameAsVariable false
open Go

noncomputable section
variable {α : Type}
def foN (m : Nat) (K : Nat → α) : α := Nat.rec (motive := fun _ => α) (K 0) (fun p _ => K (Nat.succ p)) m
theorem foN_eq (m : Nat) (K : Nat → α) : foN m K = K m := by cases m <;> rfl
def foI (n : Int) (K : Int → α) : α := match n with
  | .ofNat m => foN m fun m => K (.ofNat m)
  | .negSucc m => foN m fun m => K (.negSucc m)
theorem foI_eq (n : Int) (K : Int → α) : foI n K = K n := by cases n <;> simp only [foI, foN_eq]
def foB (b : Bool) (K : Bool → α) : α := match b with
  | true => K true
  | false => K false
theorem foB_eq (b : Bool) (K : Bool → α) : foB b K = K b := by cases b <;> rfl
def foY (b : UInt8) (K : UInt8 → α) : α := foN b.toNat fun n => K (UInt8.ofNat n)
theorem foY_eq (b : UInt8) (K : UInt8 → α) : foY b K = K b := by unfold foY; rw [foN_eq]; congr 1; simp
/-- A list's elements, one by one. -/
def foL {β : Type} (f : β → (β → α) → α) : List β → (List β → α) → α
  | [], K => K []
  | x :: l, K => f x fun x => foL f l fun l => K (x :: l)
theorem foL_eq {β : Type} {f : β → (β → α) → α} (h : ∀ x K, f x K = K x) : ∀ (l : List β) (K : List β → α), foL f l K = K l
  | [], K => rfl
  | x :: l, K => by simp only [foL, h, foL_eq h l]
def foS {β : Type} : List β → (List β → α) → α
  | [], K => K []
  | x :: l, K => foS l fun l => K (x :: l)
theorem foS_eq {β : Type} : ∀ (l : List β) (K : List β → α), foS l K = K l
  | [], K => rfl
  | x :: l, K => by simp only [foS, foS_eq l]
def foV : Nat → AV → (AV → α) → α
  | 0, v, K => K v
  | d + 1, v, K => match v with
    | .int k n => foI n fun n => K (.int k n)
    | .bool b => foB b fun b => K (.bool b)
    | .str s => foL foY s fun s => K (.str s)
    | .zsl b => foB b fun b => K (.zsl b)
    | .ptr a b c => foN a fun a => foN b fun b => foN c fun c => K (.ptr a b c)
    | .slc a b c => foN a fun a => foN b fun b => foN c fun c => K (.slc a b c)
    | .lst l => foL (foV d) l fun l => K (.lst l)
    | .fptr v j => foV d v fun v => foN j fun j => K (.fptr v j)
    | .agg l => foL (foV d) l fun l => K (.agg l)
    | .tup l => foL (foV d) l fun l => K (.tup l)
    | .fn g a b => foN g fun g => foL (foV d) a fun a => foL (foV d) b fun b => K (.fn g a b)
    | v => K v
theorem foV_eq : ∀ (d : Nat) (v : AV) (K : AV → α), foV d v K = K v
  | 0, v, K => rfl
  | d + 1, v, K => by
    have ih : ∀ (v : AV) (K : AV → α), foV d v K = K v := foV_eq d
    cases v <;> simp only [foV, foI_eq, foB_eq, foN_eq, foL_eq foY_eq, foL_eq ih, ih]
def foBlk (b : Option Blk) (K : Option Blk → α) : α := match b with
  | none => K none
  | some ⟨e, els⟩ => foL (foV 12) els fun els => K (some ⟨e, els⟩)
theorem foBlk_eq (b : Option Blk) (K : Option Blk → α) : foBlk b K = K b := by
  match b with
  | none => rfl
  | some ⟨e, els⟩ => simp only [foBlk, foL_eq (foV_eq 12)]
def foH (H : Heap) (K : Heap → α) : α := foL foBlk H K
theorem foH_eq (H : Heap) (K : Heap → α) : foH H K = K H := foL_eq foBlk_eq H K

/-- Operations that may change memory. -/
def wrH : IOp → Bool
  | .box .. | .alloc .. | .mkrow .. | .store .. | .s2b .. | .mkslice .. | .call .. | .app .. => true
  | _ => false
def foW (o : IOp) (H : Heap) (K : Heap → α) : α := match wrH o with
  | true => foH H K
  | false => K H
theorem foW_eq (o : IOp) (H : Heap) (K : Heap → α) : foW o H K = K H := by unfold foW; cases wrH o <;> simp only [foH_eq]

def runOpsF (call : CallF) : List IOper → List AV → Heap → Option St
  | [], env, H => some ⟨env, H⟩
  | o :: l, env, H => match want env o.guard with
    | some true => match aop call (evO env) H o.op with
      | some (v, H) => foV 12 v fun v => foW o.op H fun H => foS (put env o.dst v) fun env => runOpsF call l env H
      | none => none
    | some false => foS (put env o.dst (.tup [])) fun env => runOpsF call l env H
    | none => none
theorem runOpsF_eq (call : CallF) : ∀ (l : List IOper) (env : List AV) (H : Heap), runOpsF call l env H = runOps call l ⟨env, H⟩
  | [], env, H => rfl
  | o :: l, env, H => by
    simp only [runOpsF, runOps, foV_eq, foW_eq, foS_eq, runOpsF_eq call l]
    rfl
def runOpsDF (call : CallF) : List (IOper × List Nat) → Nat → List (Nat × Nat) → List AV → Heap → Option St
  | [], _, _, env, H => some ⟨env, H⟩
  | (o, chk) :: l, i, log, env, H => match want env o.guard with
    | some true =>
      foS (touch (evO env) H o.op) fun tc =>
      if log.all (fun p => !(chk.contains p.1) || !(tc.contains p.2)) then
        match aop call (evO env) H o.op with
        | some (v, H) => foV 12 v fun v => foW o.op H fun H => foS (put env o.dst v) fun env => foN i fun i => foS (log ++ tc.map fun id => (i, id)) fun log => runOpsDF call l (i + 1) log env H
        | none => none
      else none
    | some false => foS (put env o.dst (.tup [])) fun env => runOpsDF call l (i + 1) log env H
    | none => none
theorem runOpsDF_eq (call : CallF) : ∀ (l : List (IOper × List Nat)) (i : Nat) (log : List (Nat × Nat)) (env : List AV) (H : Heap), runOpsDF call l i log env H = runOpsD call l i log ⟨env, H⟩
  | [], _, _, env, H => rfl
  | (o, chk) :: l, i, log, env, H => by
    simp only [runOpsDF, runOpsD, foV_eq, foW_eq, foS_eq, foN_eq, runOpsDF_eq call l]
    rfl
def execF (call callP : CallF) (fu : Nat) : IC → St → Option (Ex × St)
  | .skip, s => some (.normal, s)
  | .regD ops, s => match s with
    | ⟨env, H⟩ => match runOpsDF callP ops 0 [] env H with
      | some s' => some (.normal, s')
      | none => none
  | .reg ops, s => match s with
    | ⟨env, H⟩ => match runOpsF call ops env H with
      | some s' => some (.normal, s')
      | none => none
  | .seq a b, s => match execF call callP fu a s with
    | some (.normal, s') => execF call callP fu b s'
    | r => r
  | .cond c a b, s => match evO s.env c with
    | .bool t => bif t then execF call callP fu a s else execF call callP fu b s
    | _ => none
  | .block id a, s => match execF call callP fu a s with
    | some (.exit i, s') => if i = id then some (.normal, s') else some (.exit i, s')
    | r => r
  | .loop a, s => iter (execF call callP fu a) fu s
  | .exit id, s => some (.exit id, s)
  | .ret, s => some (.ret, s)
theorem execF_eq (call callP : CallF) (fu : Nat) : ∀ c, execF call callP fu c = exec call callP fu c
  | .skip => by funext s; rfl
  | .regD ops => by funext ⟨env, H⟩; simp only [execF, exec, runOpsDF_eq]; rfl
  | .reg ops => by funext ⟨env, H⟩; simp only [execF, exec, runOpsF_eq]; rfl
  | .seq a b => by funext s; simp only [execF, exec, execF_eq call callP fu a, execF_eq call callP fu b]; rfl
  | .cond c a b => by funext s; simp only [execF, exec, execF_eq call callP fu a, execF_eq call callP fu b]; rfl
  | .block id a => by funext s; simp only [execF, exec, execF_eq call callP fu a]; rfl
  | .loop a => by funext s; simp only [execF, exec, execF_eq call callP fu a]
  | .exit id => by funext s; rfl
  | .ret => by funext s; rfl
def runFnF (call callP : CallF) (fu : Nat) (fn : AFn) (args : List AV) (H : Heap) : Option (AV × Heap) :=
  foL (foV 12) args fun args => foS (args ++ List.replicate (fn.ntmps - args.length) (.tup [])) fun env => match execF call callP fu fn.body ⟨env, H⟩ with
  | some (.normal, s) | some (.ret, s) => match resAll s fn.results with
    | some vs => some (packRes vs, s.H)
    | none => none
  | _ => none
theorem runFnF_eq : runFnF = runFn := by
  funext call callP fu fn args H
  simp only [runFnF, runFn, foL_eq (foV_eq 12), foS_eq, execF_eq]
  rfl
def callIF (M : Mod) (pc : FuncId → List AV → Option AV) : Nat → CallF
  | 0 => callP M pc
  | n + 1 => fun g args H =>
    match M.ext g with
    | some e => extCall e g args H
    | none => if M.inl g then (match emptyR M pc g args with
      | some v => some (v, H)
      | none => match M.code g with
        | some fn => runFnF (callIF M pc n) (callP M pc) M.fu fn args H
        | none => none) else pureCall pc g args H
theorem callIF_eq (M : Mod) (pc : FuncId → List AV → Option AV) : ∀ n, callIF M pc n = callI M pc n
  | 0 => rfl
  | n + 1 => by funext g args H; simp only [callIF, callI, callIF_eq M pc n, runFnF_eq]; rfl
def pcallF (M : Mod) : Nat → FuncId → List AV → Option AV
  | 0 => fun _ _ => none
  | d + 1 => fun g args => match M.code g with
    | none => none
    | some fn => match runFnF (callIF M (pcallF M d) IDEPTH) (callP M (pcallF M d)) M.fu fn args [] with
      | some (v, H') => foV 12 (snap DEPTH H' v) some
      | none => none
theorem pcallF_eq (M : Mod) : ∀ d, pcallF M d = pcall M d
  | 0 => rfl
  | d + 1 => by funext g args; simp only [pcallF, pcall, pcallF_eq M d, runFnF_eq, callIF_eq, foV_eq]; rfl
theorem ran {M : Mod} {d : Nat} {g : FuncId} {args : List AV} {r : AV} (h : pcallF M d g args = some r) : pcall M d g args = some r := by rw [← pcallF_eq]; exact h
end
end Go.Proofs.Ytmlpinajheacjaa.AE

namespace Go.Proofs.Ytmlpinajheacjaa.AE
set_option linter.unusedVariables false
set_option linter.unusedSimpArgs false
set_option linter.constructorNameAsVariable false
open Go
def In126 (x : Int) : Prop := -85070591730234615865843651857942052864 ≤ x ∧ x ≤ 85070591730234615865843651857942052864
theorem hiw_div {x : Int} (h : -170141183460469231731687303715884105728 ≤ x) (h' : x < 170141183460469231731687303715884105728) : hiw x = x / 18446744073709551616 := by
  unfold hiw; rw [i64_small (by omega) (by omega)]
theorem sub64_e (x y c : Int) (hx : 0 ≤ x) (hy : 0 ≤ y) (hy' : y < 18446744073709551616) (hc : 0 ≤ c) (hc' : c ≤ 1) : sub64E [.int .u64 x, .int .u64 y, .int .u64 c] = some (.tup [.int .u64 ((x - y - c) % 18446744073709551616), .int .u64 (if x < y + c then 1 else 0)]) := by
  simp [sub64E, hx, hy, hc, hc', hy']
theorem wsub (d : Nat) (x y : Int) (hx : In126 x) (hy : In126 y) (hz : In126 (x - y)) : pcall M (d + 1) 36 [wd x, wd y] = some (.tup [wd (x - y), .bool true]) := told (r36 C0 d _ _ _ _) (by
  unfold In126 at hx hy hz
  have l0 := low_rng x
  have l1 := low_rng y
  have hhx := hiw_div (x := x) (by omega) (by omega)
  have hhy := hiw_div (x := y) (by omega) (by omega)
  have hs := hiw_div (x := x - y) (by omega) (by omega)
  rw [sub64_e _ _ _ l0.1 l1.1 l1.2 (by decide) (by decide), C0_tup2]
  simp only [at0, at1, C0_int]
  rw [sub64_e _ _ _ (by rw [u64w]; omega) (by rw [u64w]; omega) (by rw [u64w]; omega) (by omega) (by omega), C0_tup2]
  simp only [at0, at1, C0_int, Int.sub_zero, Int.add_zero]
  have e1 : (low x - low y) % 18446744073709551616 = low (x - y) := by unfold low; omega
  have e2 : IntKind.wrap .i64 ((IntKind.wrap .u64 (hiw x) - IntKind.wrap .u64 (hiw y) - (if low x < low y then 1 else 0)) % 18446744073709551616) = hiw (x - y) := by
    rw [u64w, u64w, i64w, hs, hhx, hhy]
    unfold low
    omega
  rw [e1, e2]
  have b1 := bits_rng_i64 .xor (hiw x) (hiw y)
  have b2 := bits_rng_i64 .xor (hiw x) (hiw (x - y))
  have r1 := hiw_rng x
  have r2 := hiw_rng y
  have r3 := hiw_rng (x - y)
  have key : ¬ Go.bits .and .i64 (Go.bits .xor .i64 (hiw x) (hiw y)) (Go.bits .xor .i64 (hiw x) (hiw (x - y))) < 0 := by
    rw [bits_and_sgn _ _ b1.1 b1.2 b2.1 b2.2, bits_xor_sgn _ _ r1.1 r1.2 r2.1 r2.2, bits_xor_sgn _ _ r1.1 r1.2 r3.1 r3.2, hhx, hhy, hs]
    omega
  rw [decide_eq_false key, cnd_f])
end Go.Proofs.Ytmlpinajheacjaa.AE

namespace Go.Proofs.Ytmlpinajheacjaa.AE
set_option linter.unusedVariables false
set_option linter.unusedSimpArgs false
set_option linter.constructorNameAsVariable false
open Go
set_option maxRecDepth 100000
/-- apogee/verdict.Of -/
theorem r10 (C : Cb) (d : Nat) (a0 a1 a2 a3 a4 a5 a6 a7 : Int) (a8 : List AV) (a9 a10 a11 a12 a13 : Int) : xcall C M unr d 10 [(.agg [(iz a0), (iz a1), (iz a2), (iz a3), (iz a4), (iz a5), (iz a6), (iz a7)]), (.agg [(.lst a8), (iz a9), (iz a10), (iz a11), (iz a12)]), (iz a13)] =
 C.tup 2 (pcall M d 20 [(.agg [(iz a0), (iz a1), (iz a2), (iz a3), (iz a4), (iz a5), (iz a6), (iz a7)]), (iz a9), (iz a13)]) fun l0 =>
 C.agg 4 l0[0]? fun l1 =>
 C.int .i64 l1[0]? fun x2 =>
 C.int .i64 l1[1]? fun x3 =>
 C.int .i64 l1[2]? fun x4 =>
 C.int .i64 l1[3]? fun x5 =>
 C.bool l0[1]? fun b6 =>
 cnd (!b6)
 (some (iz 4))
 (C.int .i64 (pcall M d 16 [(.agg [(iz a0), (iz a1), (iz a2), (iz a3), (iz a4), (iz a5), (iz a6), (iz a7)]), (iz a10), (iz a13)]) fun x7 =>
 C.int .i64 (pcall M d 17 [(.agg [(iz a0), (iz a1), (iz a2), (iz a3), (iz a4), (iz a5), (iz a6), (iz a7)]), (.agg [(.lst a8), (iz a9), (iz a10), (iz a11), (iz a12)]), (iz a13)]) fun x8 =>
 cnd (decide (x7 < 0))
 (some (iz 3))
 (cnd (decide (x8 < 0))
 (some (iz 3))
 (cnd (decide (x7 > 0))
 (cnd (decide (x8 > 0))
 (some (iz 1))
 (some (iz 2)))
 (some (iz 2))))) := by kernel_rfl
/-- apogee/verdict.Speed -/
theorem r16 (C : Cb) (d : Nat) (a0 a1 a2 a3 a4 a5 a6 a7 a8 a9 : Int) : xcall C M unr d 16 [(.agg [(iz a0), (iz a1), (iz a2), (iz a3), (iz a4), (iz a5), (iz a6), (iz a7)]), (iz a8), (iz a9)] =
 C.tup 2 (pcall M d 24 [(iz a5)]) fun l0 =>
 C.int .i64 l0[0]? fun x1 =>
 C.bool l0[1]? fun b2 =>
 C.tup 2 (pcall M d 25 [(iz x1), (iz a9)]) fun l3 =>
 C.int .i64 l3[0]? fun x4 =>
 C.bool l3[1]? fun b5 =>
 cnd (!b2)
 (some (iz (-1)))
 (cnd (!b5)
 (some (iz (-1)))
 (cnd (decide (x4 > a8))
 (some (iz (-1)))
 (C.tup 2 (pcall M d 26 [(iz x1), (iz a9)]) fun l6 =>
 C.int .i64 l6[0]? fun x7 =>
 C.bool l6[1]? fun b8 =>
 cnd (!b8)
 (C.tup 2 (pcall M d 24 [(iz a6)]) fun l9 =>
 C.int .i64 l9[0]? fun x10 =>
 C.bool l9[1]? fun b11 =>
 C.tup 2 (pcall M d 25 [(iz x10), (iz a9)]) fun l12 =>
 C.int .i64 l12[0]? fun x13 =>
 C.bool l12[1]? fun b14 =>
 cnd (!b11)
 (some (iz (-1)))
 (cnd (!b14)
 (some (iz (-1)))
 (cnd (decide (x13 > a8))
 (some (iz (-1)))
 (C.tup 2 (pcall M d 26 [(iz x10), (iz a9)]) fun l15 =>
 C.int .i64 l15[0]? fun x16 =>
 C.bool l15[1]? fun b17 =>
 cnd (!b17)
 (C.tup 2 (pcall M d 24 [(iz a7)]) fun l18 =>
 C.int .i64 l18[0]? fun x19 =>
 C.bool l18[1]? fun b20 =>
 C.tup 2 (pcall M d 25 [(iz x19), (iz a9)]) fun l21 =>
 C.int .i64 l21[0]? fun x22 =>
 C.bool l21[1]? fun b23 =>
 cnd (!b20)
 (some (iz (-1)))
 (cnd (!b23)
 (some (iz (-1)))
 (cnd (decide (x22 > a8))
 (some (iz (-1)))
 (C.tup 2 (pcall M d 26 [(iz x19), (iz a9)]) fun l24 =>
 C.int .i64 l24[0]? fun x25 =>
 C.bool l24[1]? fun b26 =>
 cnd (!b26)
 (some (iz 0))
 (cnd (decide (x25 > a8))
 (some (iz 0))
 (some (iz 0)))))))
 (cnd (decide (x16 > a8))
 (C.tup 2 (pcall M d 24 [(iz a7)]) fun l27 =>
 C.int .i64 l27[0]? fun x28 =>
 C.bool l27[1]? fun b29 =>
 C.tup 2 (pcall M d 25 [(iz x28), (iz a9)]) fun l30 =>
 C.int .i64 l30[0]? fun x31 =>
 C.bool l30[1]? fun b32 =>
 cnd (!b29)
 (some (iz (-1)))
 (cnd (!b32)
 (some (iz (-1)))
 (cnd (decide (x31 > a8))
 (some (iz (-1)))
 (C.tup 2 (pcall M d 26 [(iz x28), (iz a9)]) fun l33 =>
 C.int .i64 l33[0]? fun x34 =>
 C.bool l33[1]? fun b35 =>
 cnd (!b35)
 (some (iz 0))
 (cnd (decide (x34 > a8))
 (some (iz 0))
 (some (iz 0)))))))
 (C.tup 2 (pcall M d 24 [(iz a7)]) fun l36 =>
 C.int .i64 l36[0]? fun x37 =>
 C.bool l36[1]? fun b38 =>
 C.tup 2 (pcall M d 25 [(iz x37), (iz a9)]) fun l39 =>
 C.int .i64 l39[0]? fun x40 =>
 C.bool l39[1]? fun b41 =>
 cnd (!b38)
 (some (iz (-1)))
 (cnd (!b41)
 (some (iz (-1)))
 (cnd (decide (x40 > a8))
 (some (iz (-1)))
 (C.tup 2 (pcall M d 26 [(iz x37), (iz a9)]) fun l42 =>
 C.int .i64 l42[0]? fun x43 =>
 C.bool l42[1]? fun b44 =>
 cnd (!b44)
 (some (iz 0))
 (cnd (decide (x43 > a8))
 (some (iz 0))
 (some (iz 0))))))))))))
 (cnd (decide (x7 > a8))
 (C.tup 2 (pcall M d 24 [(iz a6)]) fun l45 =>
 C.int .i64 l45[0]? fun x46 =>
 C.bool l45[1]? fun b47 =>
 C.tup 2 (pcall M d 25 [(iz x46), (iz a9)]) fun l48 =>
 C.int .i64 l48[0]? fun x49 =>
 C.bool l48[1]? fun b50 =>
 cnd (!b47)
 (some (iz (-1)))
 (cnd (!b50)
 (some (iz (-1)))
 (cnd (decide (x49 > a8))
 (some (iz (-1)))
 (C.tup 2 (pcall M d 26 [(iz x46), (iz a9)]) fun l51 =>
 C.int .i64 l51[0]? fun x52 =>
 C.bool l51[1]? fun b53 =>
 cnd (!b53)
 (C.tup 2 (pcall M d 24 [(iz a7)]) fun l54 =>
 C.int .i64 l54[0]? fun x55 =>
 C.bool l54[1]? fun b56 =>
 C.tup 2 (pcall M d 25 [(iz x55), (iz a9)]) fun l57 =>
 C.int .i64 l57[0]? fun x58 =>
 C.bool l57[1]? fun b59 =>
 cnd (!b56)
 (some (iz (-1)))
 (cnd (!b59)
 (some (iz (-1)))
 (cnd (decide (x58 > a8))
 (some (iz (-1)))
 (C.tup 2 (pcall M d 26 [(iz x55), (iz a9)]) fun l60 =>
 C.int .i64 l60[0]? fun x61 =>
 C.bool l60[1]? fun b62 =>
 cnd (!b62)
 (some (iz 0))
 (cnd (decide (x61 > a8))
 (some (iz 0))
 (some (iz 0)))))))
 (cnd (decide (x52 > a8))
 (C.tup 2 (pcall M d 24 [(iz a7)]) fun l63 =>
 C.int .i64 l63[0]? fun x64 =>
 C.bool l63[1]? fun b65 =>
 C.tup 2 (pcall M d 25 [(iz x64), (iz a9)]) fun l66 =>
 C.int .i64 l66[0]? fun x67 =>
 C.bool l66[1]? fun b68 =>
 cnd (!b65)
 (some (iz (-1)))
 (cnd (!b68)
 (some (iz (-1)))
 (cnd (decide (x67 > a8))
 (some (iz (-1)))
 (C.tup 2 (pcall M d 26 [(iz x64), (iz a9)]) fun l69 =>
 C.int .i64 l69[0]? fun x70 =>
 C.bool l69[1]? fun b71 =>
 cnd (!b71)
 (some (iz 0))
 (cnd (decide (x70 > a8))
 (some (iz 0))
 (some (iz 0)))))))
 (C.tup 2 (pcall M d 24 [(iz a7)]) fun l72 =>
 C.int .i64 l72[0]? fun x73 =>
 C.bool l72[1]? fun b74 =>
 C.tup 2 (pcall M d 25 [(iz x73), (iz a9)]) fun l75 =>
 C.int .i64 l75[0]? fun x76 =>
 C.bool l75[1]? fun b77 =>
 cnd (!b74)
 (some (iz (-1)))
 (cnd (!b77)
 (some (iz (-1)))
 (cnd (decide (x76 > a8))
 (some (iz (-1)))
 (C.tup 2 (pcall M d 26 [(iz x73), (iz a9)]) fun l78 =>
 C.int .i64 l78[0]? fun x79 =>
 C.bool l78[1]? fun b80 =>
 cnd (!b80)
 (some (iz 0))
 (cnd (decide (x79 > a8))
 (some (iz 0))
 (some (iz 0))))))))))))
 (C.tup 2 (pcall M d 24 [(iz a6)]) fun l81 =>
 C.int .i64 l81[0]? fun x82 =>
 C.bool l81[1]? fun b83 =>
 C.tup 2 (pcall M d 25 [(iz x82), (iz a9)]) fun l84 =>
 C.int .i64 l84[0]? fun x85 =>
 C.bool l84[1]? fun b86 =>
 cnd (!b83)
 (some (iz (-1)))
 (cnd (!b86)
 (some (iz (-1)))
 (cnd (decide (x85 > a8))
 (some (iz (-1)))
 (C.tup 2 (pcall M d 26 [(iz x82), (iz a9)]) fun l87 =>
 C.int .i64 l87[0]? fun x88 =>
 C.bool l87[1]? fun b89 =>
 cnd (!b89)
 (C.tup 2 (pcall M d 24 [(iz a7)]) fun l90 =>
 C.int .i64 l90[0]? fun x91 =>
 C.bool l90[1]? fun b92 =>
 C.tup 2 (pcall M d 25 [(iz x91), (iz a9)]) fun l93 =>
 C.int .i64 l93[0]? fun x94 =>
 C.bool l93[1]? fun b95 =>
 cnd (!b92)
 (some (iz (-1)))
 (cnd (!b95)
 (some (iz (-1)))
 (cnd (decide (x94 > a8))
 (some (iz (-1)))
 (C.tup 2 (pcall M d 26 [(iz x91), (iz a9)]) fun l96 =>
 C.int .i64 l96[0]? fun x97 =>
 C.bool l96[1]? fun b98 =>
 cnd (!b98)
 (some (iz 0))
 (cnd (decide (x97 > a8))
 (some (iz 0))
 (some (iz 0)))))))
 (cnd (decide (x88 > a8))
 (C.tup 2 (pcall M d 24 [(iz a7)]) fun l99 =>
 C.int .i64 l99[0]? fun x100 =>
 C.bool l99[1]? fun b101 =>
 C.tup 2 (pcall M d 25 [(iz x100), (iz a9)]) fun l102 =>
 C.int .i64 l102[0]? fun x103 =>
 C.bool l102[1]? fun b104 =>
 cnd (!b101)
 (some (iz (-1)))
 (cnd (!b104)
 (some (iz (-1)))
 (cnd (decide (x103 > a8))
 (some (iz (-1)))
 (C.tup 2 (pcall M d 26 [(iz x100), (iz a9)]) fun l105 =>
 C.int .i64 l105[0]? fun x106 =>
 C.bool l105[1]? fun b107 =>
 cnd (!b107)
 (some (iz 0))
 (cnd (decide (x106 > a8))
 (some (iz 0))
 (some (iz 0)))))))
 (C.tup 2 (pcall M d 24 [(iz a7)]) fun l108 =>
 C.int .i64 l108[0]? fun x109 =>
 C.bool l108[1]? fun b110 =>
 C.tup 2 (pcall M d 25 [(iz x109), (iz a9)]) fun l111 =>
 C.int .i64 l111[0]? fun x112 =>
 C.bool l111[1]? fun b113 =>
 cnd (!b110)
 (some (iz (-1)))
 (cnd (!b113)
 (some (iz (-1)))
 (cnd (decide (x112 > a8))
 (some (iz (-1)))
 (C.tup 2 (pcall M d 26 [(iz x109), (iz a9)]) fun l114 =>
 C.int .i64 l114[0]? fun x115 =>
 C.bool l114[1]? fun b116 =>
 cnd (!b116)
 (some (iz 0))
 (cnd (decide (x115 > a8))
 (some (iz 0))
 (some (iz 1)))))))))))))))) := by kernel_rfl
/-- apogee/verdict.Place -/
theorem r17 (C : Cb) (d : Nat) (a0 a1 a2 a3 a4 a5 a6 a7 : Int) (a8 : List AV) (a9 a10 a11 a12 a13 : Int) : xcall C M unr d 17 [(.agg [(iz a0), (iz a1), (iz a2), (iz a3), (iz a4), (iz a5), (iz a6), (iz a7)]), (.agg [(.lst a8), (iz a9), (iz a10), (iz a11), (iz a12)]), (iz a13)] =
 C.tup 2 (pcall M d 20 [(.agg [(iz a0), (iz a1), (iz a2), (iz a3), (iz a4), (iz a5), (iz a6), (iz a7)]), (iz a9), (iz a13)]) fun l0 =>
 C.agg 4 l0[0]? fun l1 =>
 C.int .i64 l1[0]? fun x2 =>
 C.int .i64 l1[1]? fun x3 =>
 C.int .i64 l1[2]? fun x4 =>
 C.int .i64 l1[3]? fun x5 =>
 C.bool l0[1]? fun b6 =>
 cnd (!b6)
 (some (iz 0))
 (C.int .i64 (pcall M d 27 [(.agg [(iz x2), (iz x3), (iz x4), (iz x5)]), (.lst a8)]) fun x7 =>
 some (iz x7)) := by kernel_rfl
end Go.Proofs.Ytmlpinajheacjaa.AE

namespace Go.Proofs.Ytmlpinajheacjaa.AE
set_option linter.unusedVariables false
set_option linter.unusedSimpArgs false
set_option linter.constructorNameAsVariable false
open Go
set_option maxRecDepth 100000
/-- apogee/apogeeref13.RightPhase -/
theorem r7 (C : Cb) (d : Nat) (a0 : List AV) (a1 a2 a3 a4 : Int) : xcall C M unr d 7 [(.agg [(.lst a0), (iz a1), (iz a2), (iz a3), (iz a4)])] =
 C.bool (pcall M d 18 [(.lst a0)]) fun b0 =>
 cnd b0
 (C.bool (pcall M d 19 [(iz a1), (iz 1), (iz 100)]) fun b1 =>
 cnd b1
 (C.bool (pcall M d 19 [(iz a2), (iz 1), (iz 65536)]) fun b2 =>
 cnd b2
 (C.bool (pcall M d 19 [(iz a3), (iz 1), (iz 1000000)]) fun b3 =>
 cnd b3
 (C.bool (pcall M d 19 [(iz a4), (iz 0), (iz 1073741824)]) fun b4 =>
 some (.bool b4))
 (some bf))
 (some bf))
 (some bf))
 (some bf) := by kernel_rfl
/-- apogee/apogeeref13.within -/
theorem r19 (C : Cb) (d : Nat) (a0 a1 a2 : Int) : xcall C M unr d 19 [(iz a0), (iz a1), (iz a2)] =
 cnd (decide (a0 ≥ a1))
 (some (.bool (decide (a0 ≤ a2))))
 (some bf) := by kernel_rfl
end Go.Proofs.Ytmlpinajheacjaa.AE

namespace Go.Proofs.Ytmlpinajheacjaa.AE
set_option linter.unusedVariables false
set_option linter.unusedSimpArgs false
set_option linter.constructorNameAsVariable false
open Go Go.Proofs.Ytmlpinajheacjaa.Geo
attribute [local irreducible] pcall C0
set_option maxRecDepth 100000
theorem sub_fit (d : Nat) (x y : Int) (h1 : -4611686018427387904 ≤ x) (h2 : x ≤ 4611686018427387904) (h3 : -2305843009213693952 ≤ y) (h4 : y ≤ 2305843009213693952) : pcall M (d + 4) 25 [.int .i64 x, .int .i64 y] = some (.tup [.int .i64 (x - y), .bool true]) := told (r25 C0 (d + 3) _ _) (by
  refine Eq.trans (pl_agg (s34 (d + 2) x (by omega) (by omega)) (by rfl)) ?_
  repeat with_reducible first | refine tt sh_ptr ?_ | refine tt sh_fptr ?_ | refine tt w2 ?_ | refine tt w3 ?_ | refine tt w8 ?_ | refine tt w9 ?_ | refine tt wf ?_ | refine tt wg ?_ | refine tt wh ?_ | refine tt wi ?_ | refine tt wj ?_ | refine tt wk ?_ | refine tt wl ?_ | refine tt wn ?_ | refine tt c_ort ?_ | refine tt c_nt ?_ | refine tt c_nf ?_ | refine tt (cnd_t _ _) ?_ | refine tt (cnd_f _ _) ?_ | refine tt w6 ?_ | refine tt w4 ?_ | refine tt w5 ?_ | refine tt w7 ?_ | refine tt wm ?_ | refine tt wo ?_ | refine tt wx ?_ | refine tt nil_ptr ?_ | refine tt len_lst ?_ | refine tt len_zsl ?_
  refine Eq.trans (pl_agg (s34 (d + 2) y (by omega) (by omega)) (by rfl)) ?_
  repeat with_reducible first | refine tt sh_ptr ?_ | refine tt sh_fptr ?_ | refine tt w2 ?_ | refine tt w3 ?_ | refine tt w8 ?_ | refine tt w9 ?_ | refine tt wf ?_ | refine tt wg ?_ | refine tt wh ?_ | refine tt wi ?_ | refine tt wj ?_ | refine tt wk ?_ | refine tt wl ?_ | refine tt wn ?_ | refine tt c_ort ?_ | refine tt c_nt ?_ | refine tt c_nf ?_ | refine tt (cnd_t _ _) ?_ | refine tt (cnd_f _ _) ?_ | refine tt w6 ?_ | refine tt w4 ?_ | refine tt w5 ?_ | refine tt w7 ?_ | refine tt wm ?_ | refine tt wo ?_ | refine tt wx ?_ | refine tt nil_ptr ?_ | refine tt len_lst ?_ | refine tt len_zsl ?_
  refine Eq.trans (pl_tup (wsub (d + 2) x y (by unfold In126; omega) (by unfold In126; omega) (by unfold In126; omega)) (by rfl)) ?_
  repeat with_reducible first | refine tt sh_ptr ?_ | refine tt sh_fptr ?_ | refine tt w2 ?_ | refine tt w3 ?_ | refine tt w8 ?_ | refine tt w9 ?_ | refine tt wf ?_ | refine tt wg ?_ | refine tt wh ?_ | refine tt wi ?_ | refine tt wj ?_ | refine tt wk ?_ | refine tt wl ?_ | refine tt wn ?_ | refine tt c_ort ?_ | refine tt c_nt ?_ | refine tt c_nf ?_ | refine tt (cnd_t _ _) ?_ | refine tt (cnd_f _ _) ?_ | refine tt w6 ?_ | refine tt w4 ?_ | refine tt w5 ?_ | refine tt w7 ?_ | refine tt wm ?_ | refine tt wo ?_ | refine tt wx ?_ | refine tt nil_ptr ?_ | refine tt len_lst ?_ | refine tt len_zsl ?_
  have q := s33 d (x - y) (by omega) (by omega)
  rw [show fitB (x - y) = true from decide_eq_true (by omega), if_pos rfl] at q
  refine Eq.trans (pl_tup q (by rfl)) ?_
  repeat with_reducible first | refine tt sh_ptr ?_ | refine tt sh_fptr ?_ | refine tt w2 ?_ | refine tt w3 ?_ | refine tt w8 ?_ | refine tt w9 ?_ | refine tt wf ?_ | refine tt wg ?_ | refine tt wh ?_ | refine tt wi ?_ | refine tt wj ?_ | refine tt wk ?_ | refine tt wl ?_ | refine tt wn ?_ | refine tt c_ort ?_ | refine tt c_nt ?_ | refine tt c_nf ?_ | refine tt (cnd_t _ _) ?_ | refine tt (cnd_f _ _) ?_ | refine tt w6 ?_ | refine tt w4 ?_ | refine tt w5 ?_ | refine tt w7 ?_ | refine tt wm ?_ | refine tt wo ?_ | refine tt wx ?_ | refine tt nil_ptr ?_ | refine tt len_lst ?_ | refine tt len_zsl ?_
  rfl)
theorem wneg (d : Nat) (x : Int) (h1 : -4611686018427387904 ≤ x) (h2 : x ≤ 4611686018427387904) : pcall M (d + 2) 35 [wd x] = some (.tup [wd (0 - x), .bool true]) := told (r35 C0 (d + 1) _ _) (by
  have q := wsub d 0 x (by unfold In126; omega) (by unfold In126; omega) (by unfold In126; omega)
  rw [show wd 0 = .agg [.int .i64 0, .int .u64 0] by kernel_rfl] at q
  refine Eq.trans (pl_tup q (by rfl)) ?_
  repeat with_reducible first | refine tt sh_ptr ?_ | refine tt sh_fptr ?_ | refine tt w2 ?_ | refine tt w3 ?_ | refine tt w8 ?_ | refine tt w9 ?_ | refine tt wf ?_ | refine tt wg ?_ | refine tt wh ?_ | refine tt wi ?_ | refine tt wj ?_ | refine tt wk ?_ | refine tt wl ?_ | refine tt wn ?_ | refine tt c_ort ?_ | refine tt c_nt ?_ | refine tt c_nf ?_ | refine tt (cnd_t _ _) ?_ | refine tt (cnd_f _ _) ?_ | refine tt w6 ?_ | refine tt w4 ?_ | refine tt w5 ?_ | refine tt w7 ?_ | refine tt wm ?_ | refine tt wo ?_ | refine tt wx ?_ | refine tt nil_ptr ?_ | refine tt len_lst ?_ | refine tt len_zsl ?_
  rfl)
theorem absS (d : Nat) (x : Int) (h1 : -4611686018427387904 ≤ x) (h2 : x ≤ 4611686018427387904) : pcall M (d + 4) 24 [.int .i64 x] = some (.tup [.int .i64 (absX x), .bool true]) := told (r24 C0 (d + 3) _) (by
  unfold absX
  by_cases h : x < 0
  · rw [decide_eq_true h, cnd_t, if_pos h]
    refine Eq.trans (pl_agg (s34 (d + 2) x (by omega) (by omega)) (by rfl)) ?_
    repeat with_reducible first | refine tt sh_ptr ?_ | refine tt sh_fptr ?_ | refine tt w2 ?_ | refine tt w3 ?_ | refine tt w8 ?_ | refine tt w9 ?_ | refine tt wf ?_ | refine tt wg ?_ | refine tt wh ?_ | refine tt wi ?_ | refine tt wj ?_ | refine tt wk ?_ | refine tt wl ?_ | refine tt wn ?_ | refine tt c_ort ?_ | refine tt c_nt ?_ | refine tt c_nf ?_ | refine tt (cnd_t _ _) ?_ | refine tt (cnd_f _ _) ?_ | refine tt w6 ?_ | refine tt w4 ?_ | refine tt w5 ?_ | refine tt w7 ?_ | refine tt wm ?_ | refine tt wo ?_ | refine tt wx ?_ | refine tt nil_ptr ?_ | refine tt len_lst ?_ | refine tt len_zsl ?_
    refine Eq.trans (pl_tup (wneg (d + 1) x h1 h2) (by rfl)) ?_
    repeat with_reducible first | refine tt sh_ptr ?_ | refine tt sh_fptr ?_ | refine tt w2 ?_ | refine tt w3 ?_ | refine tt w8 ?_ | refine tt w9 ?_ | refine tt wf ?_ | refine tt wg ?_ | refine tt wh ?_ | refine tt wi ?_ | refine tt wj ?_ | refine tt wk ?_ | refine tt wl ?_ | refine tt wn ?_ | refine tt c_ort ?_ | refine tt c_nt ?_ | refine tt c_nf ?_ | refine tt (cnd_t _ _) ?_ | refine tt (cnd_f _ _) ?_ | refine tt w6 ?_ | refine tt w4 ?_ | refine tt w5 ?_ | refine tt w7 ?_ | refine tt wm ?_ | refine tt wo ?_ | refine tt wx ?_ | refine tt nil_ptr ?_ | refine tt len_lst ?_ | refine tt len_zsl ?_
    have q := s33 d (0 - x) (by omega) (by omega)
    rw [show fitB (0 - x) = true from decide_eq_true (by omega), if_pos rfl, show 0 - x = -x by omega] at q
    rw [show (0 : Int) - x = -x by omega]
    refine Eq.trans (pl_tup q (by rfl)) ?_
    repeat with_reducible first | refine tt sh_ptr ?_ | refine tt sh_fptr ?_ | refine tt w2 ?_ | refine tt w3 ?_ | refine tt w8 ?_ | refine tt w9 ?_ | refine tt wf ?_ | refine tt wg ?_ | refine tt wh ?_ | refine tt wi ?_ | refine tt wj ?_ | refine tt wk ?_ | refine tt wl ?_ | refine tt wn ?_ | refine tt c_ort ?_ | refine tt c_nt ?_ | refine tt c_nf ?_ | refine tt (cnd_t _ _) ?_ | refine tt (cnd_f _ _) ?_ | refine tt w6 ?_ | refine tt w4 ?_ | refine tt w5 ?_ | refine tt w7 ?_ | refine tt wm ?_ | refine tt wo ?_ | refine tt wx ?_ | refine tt nil_ptr ?_ | refine tt len_lst ?_ | refine tt len_zsl ?_
    rfl
  · rw [decide_eq_false h, cnd_f, if_neg h])
theorem s19 (d : Nat) (n a b : Int) : pcall M (d + 1) 19 [.int .i64 n, .int .i64 a, .int .i64 b] = some (.bool (decide (a ≤ n ∧ n ≤ b))) := told (r19 C0 d _ _ _) (by
  by_cases h : n ≥ a
  · rw [decide_eq_true h, cnd_t]; congr 2; rw [decide_eq_decide]; omega
  · rw [decide_eq_false h, cnd_f, decide_eq_false (by omega)])
abbrev ph (ps : List Pt) (g v m u : Int) : AV := .agg [.lst (ps.map pt), .int .i64 g, .int .i64 v, .int .i64 m, .int .i64 u]
def RightPh (ps : List Pt) (g v m u : Int) : Prop := rightB ps = true ∧ (1 ≤ g ∧ g ≤ 100) ∧ (1 ≤ v ∧ v ≤ 65536) ∧ (1 ≤ m ∧ m ≤ 1000000) ∧ (0 ≤ u ∧ u ≤ 1073741824)
instance (ps : List Pt) (g v m u : Int) : Decidable (RightPh ps g v m u) := by unfold RightPh; infer_instance
end Go.Proofs.Ytmlpinajheacjaa.AE

namespace Go.Proofs.Ytmlpinajheacjaa.AE
set_option linter.unusedVariables false
set_option linter.unusedSimpArgs false
set_option linter.constructorNameAsVariable false
open Go Go.Proofs.Ytmlpinajheacjaa.Geo
attribute [local irreducible] pcall C0
set_option maxRecDepth 100000
theorem s22 (d : Nat) (z v g : Int) : pcall M (d + 1) 22 [.int .i64 z, .int .i64 v, .int .i64 g] = some (.bool (decide (May z v g))) := told (r22 C0 d _ _ _) (by
  by_cases h1 : z ≥ -2147483648
  · rw [decide_eq_true h1, cnd_t]
    by_cases h2 : z ≤ 2147483648
    · rw [decide_eq_true h2, cnd_t]
      by_cases h3 : v ≥ -131072
      · rw [decide_eq_true h3, cnd_t]
        by_cases h4 : v ≤ 131072
        · rw [decide_eq_true h4, cnd_t]
          by_cases h5 : g ≥ 1
          · rw [decide_eq_true h5, cnd_t]; congr 2; rw [decide_eq_decide]; unfold May; omega
          · rw [decide_eq_false h5, cnd_f, decide_eq_false (by unfold May; omega)]
        · rw [decide_eq_false h4, cnd_f, decide_eq_false (by unfold May; omega)]
      · rw [decide_eq_false h3, cnd_f, decide_eq_false (by unfold May; omega)]
    · rw [decide_eq_false h2, cnd_f, decide_eq_false (by unfold May; omega)]
  · rw [decide_eq_false h1, cnd_f, decide_eq_false (by unfold May; omega)])
instance (n : Nav) (g e : Int) : Decidable (MayB n g e) := by unfold MayB; infer_instance
theorem s14 (d : Nat) (n : Nav) (g e : Int) : pcall M (d + 2) 14 [nv n, .int .i64 g, .int .i64 e] = some (.bool (decide (MayB n g e))) := told (r14 C0 (d + 1) _ _ _ _ _ _ _ _ _ _) (by
  rw [show IntKind.wrap .i64 (0 - 2147483648) = -2147483648 by kernel_rfl]
  by_cases h0 : n.x < -2147483648
  · rw [decide_eq_true h0, cnd_t, decide_eq_false (fun h => by unfold MayB May MayN at h; omega)]
  rw [decide_eq_false h0, cnd_f]
  by_cases h1 : n.x > 2147483648
  · rw [decide_eq_true h1, cnd_t, decide_eq_false (fun h => by unfold MayB May MayN at h; omega)]
  rw [decide_eq_false h1, cnd_f]
  by_cases h2 : n.y < -2147483648
  · rw [decide_eq_true h2, cnd_t, decide_eq_false (fun h => by unfold MayB May MayN at h; omega)]
  rw [decide_eq_false h2, cnd_f]
  by_cases h3 : n.y > 2147483648
  · rw [decide_eq_true h3, cnd_t, decide_eq_false (fun h => by unfold MayB May MayN at h; omega)]
  rw [decide_eq_false h3, cnd_f]
  by_cases h4 : n.vx < -131072
  · rw [decide_eq_true h4, cnd_t, decide_eq_false (fun h => by unfold MayB May MayN at h; omega)]
  rw [decide_eq_false h4, cnd_f]
  by_cases h5 : n.vx > 131072
  · rw [decide_eq_true h5, cnd_t, decide_eq_false (fun h => by unfold MayB May MayN at h; omega)]
  rw [decide_eq_false h5, cnd_f]
  by_cases h6 : n.vy < -131072
  · rw [decide_eq_true h6, cnd_t, decide_eq_false (fun h => by unfold MayB May MayN at h; omega)]
  rw [decide_eq_false h6, cnd_f]
  by_cases h7 : n.vy > 131072
  · rw [decide_eq_true h7, cnd_t, decide_eq_false (fun h => by unfold MayB May MayN at h; omega)]
  rw [decide_eq_false h7, cnd_f]
  by_cases h8 : e < 0
  · rw [decide_eq_true h8, cnd_t, decide_eq_false (fun h => by unfold MayB May MayN at h; omega)]
  rw [decide_eq_false h8, cnd_f]
  by_cases h9 : e > 2048
  · rw [decide_eq_true h9, cnd_t, decide_eq_false (fun h => by unfold MayB May MayN at h; omega)]
  rw [decide_eq_false h9, cnd_f]
  refine Eq.trans (pl_bool (s22 d n.z n.vz g)) ?_
  congr 2; rw [decide_eq_decide]; unfold MayB MayN
  exact ⟨fun h => ⟨h, by omega, by omega⟩, fun h => h.1⟩)
theorem s16 (d : Nat) (n : Nav) (most e : Int) (hv : MayN n) (hz : -131072 ≤ n.vz ∧ n.vz ≤ 131072) (e0 : 0 ≤ e) (e1 : e ≤ 2048) : pcall M (d + 6) 16 [nv n, .int .i64 most, .int .i64 e] = some (.int .i64 (spdN n most e)) := told (r16 C0 (d + 5) _ _ _ _ _ _ _ _ _ _) (by
  unfold MayN at hv
  have ax : -131072 ≤ absX n.vx ∧ absX n.vx ≤ 131072 := by unfold absX; omega
  have ay : -131072 ≤ absX n.vy ∧ absX n.vy ≤ 131072 := by unfold absX; omega
  have az : -131072 ≤ absX n.vz ∧ absX n.vz ≤ 131072 := by unfold absX; omega
  have X := absS (d + 1) n.vx (by omega) (by omega)
  have Y := absS (d + 1) n.vy (by omega) (by omega)
  have Z := absS (d + 1) n.vz (by omega) (by omega)
  have SX := sub_fit (d + 1) (absX n.vx) e (by omega) (by omega) (by omega) (by omega)
  have SY := sub_fit (d + 1) (absX n.vy) e (by omega) (by omega) (by omega) (by omega)
  have SZ := sub_fit (d + 1) (absX n.vz) e (by omega) (by omega) (by omega) (by omega)
  have AX := add_fit (d + 1) (absX n.vx) e (by omega) (by omega) (by omega) (by omega)
  have AY := add_fit (d + 1) (absX n.vy) e (by omega) (by omega) (by omega) (by omega)
  have AZ := add_fit (d + 1) (absX n.vz) e (by omega) (by omega) (by omega) (by omega)
  unfold spdN
  simp only [spdX]
  simp only [X, Y, Z, SX, SY, SZ, AX, AY, AZ, C0_tup2, at0, at1, C0_int, C0_bool, Bool.not_true, cnd_f]
  generalize absX n.vx = a at *
  generalize absX n.vy = b at *
  generalize absX n.vz = c at *
  by_cases h1 : a - e > most <;> by_cases h2 : a + e > most <;> by_cases h3 : b - e > most <;> by_cases h4 : b + e > most <;> by_cases h5 : c - e > most <;> by_cases h6 : c + e > most <;> simp [cnd, h1, h2, h3, h4, h5, h6])
theorem ofI (d : Nat) (n : Nav) (ps : List Pt) (g v m u e : Int) (hl : ps.length ≤ 140737488355328) (h : MayB n g e) : ∃ lo hi, pcall M (d + 16) 10 [nv n, ph ps g v m u, .int .i64 e] = some (.int .i64 (verN (spdN n v e) (relX (boxN n e lo (hi + 2)) ps))) ∧ Falls (n.z - e) (n.vz - e) g lo ∧ Falls (n.z + e) (n.vz + e) g hi := by
  obtain ⟨lo, hi, q, f1, f2⟩ := boxI (d + 7) n g e h
  obtain ⟨lo', hi', q', f3, f4⟩ := boxI (d + 6) n g e h
  have h1 := falls_one f3 f1; have h2 := falls_one f4 f2
  subst h1 h2
  have hr := box_right h f1 f2
  rw [hr] at q q'
  have pl : pcall M (d + 15) 17 [nv n, ph ps g v m u, .int .i64 e] = some (.int .i64 (relX (boxN n e lo' (hi' + 2)) ps)) := told (r17 C0 (d + 14) _ _ _ _ _ _ _ _ _ _ _ _ _ _) (by
    refine Eq.trans (pl_tup q' (by rfl)) ?_
    repeat with_reducible first | refine tt sh_ptr ?_ | refine tt sh_fptr ?_ | refine tt w2 ?_ | refine tt w3 ?_ | refine tt w8 ?_ | refine tt w9 ?_ | refine tt wf ?_ | refine tt wg ?_ | refine tt wh ?_ | refine tt wi ?_ | refine tt wj ?_ | refine tt wk ?_ | refine tt wl ?_ | refine tt wn ?_ | refine tt c_ort ?_ | refine tt c_nt ?_ | refine tt c_nf ?_ | refine tt (cnd_t _ _) ?_ | refine tt (cnd_f _ _) ?_ | refine tt w6 ?_ | refine tt w4 ?_ | refine tt w5 ?_ | refine tt w7 ?_ | refine tt wm ?_ | refine tt wo ?_ | refine tt wx ?_ | refine tt nil_ptr ?_ | refine tt len_lst ?_ | refine tt len_zsl ?_
    exact pl_int (s27 d (boxN n e lo' (hi' + 2)) ps hl))
  refine ⟨lo', hi', told (r10 C0 (d + 15) _ _ _ _ _ _ _ _ _ _ _ _ _ _) ?_, f1, f2⟩
  refine Eq.trans (pl_tup q (by rfl)) ?_
  repeat with_reducible first | refine tt sh_ptr ?_ | refine tt sh_fptr ?_ | refine tt w2 ?_ | refine tt w3 ?_ | refine tt w8 ?_ | refine tt w9 ?_ | refine tt wf ?_ | refine tt wg ?_ | refine tt wh ?_ | refine tt wi ?_ | refine tt wj ?_ | refine tt wk ?_ | refine tt wl ?_ | refine tt wn ?_ | refine tt c_ort ?_ | refine tt c_nt ?_ | refine tt c_nf ?_ | refine tt (cnd_t _ _) ?_ | refine tt (cnd_f _ _) ?_ | refine tt w6 ?_ | refine tt w4 ?_ | refine tt w5 ?_ | refine tt w7 ?_ | refine tt wm ?_ | refine tt wo ?_ | refine tt wx ?_ | refine tt nil_ptr ?_ | refine tt len_lst ?_ | refine tt len_zsl ?_
  refine Eq.trans (pl_int (s16 (d + 9) n v e h.2.2 (by have := h.1; unfold May at this; omega) h.2.1.1 h.2.1.2)) ?_
  refine Eq.trans (pl_int pl) ?_
  generalize spdN n v e = s
  generalize relX (boxN n e lo' (hi' + 2)) ps = r
  unfold verN
  by_cases h1 : s < 0 <;> by_cases h2 : r < 0 <;> by_cases h3 : 0 < s <;> by_cases h4 : 0 < r <;> simp [cnd, h1, h2, h3, h4]
theorem ofI_no (d : Nat) (n : Nav) (ps : List Pt) (g v m u e : Int) (h : ¬ MayB n g e) : pcall M (d + 16) 10 [nv n, ph ps g v m u, .int .i64 e] = some (.int .i64 4) := told (r10 C0 (d + 15) _ _ _ _ _ _ _ _ _ _ _ _ _ _) (by
  refine Eq.trans (pl_tup (boxI_no (d + 7) n g e h) (by rfl)) ?_
  repeat with_reducible first | refine tt sh_ptr ?_ | refine tt sh_fptr ?_ | refine tt w2 ?_ | refine tt w3 ?_ | refine tt w8 ?_ | refine tt w9 ?_ | refine tt wf ?_ | refine tt wg ?_ | refine tt wh ?_ | refine tt wi ?_ | refine tt wj ?_ | refine tt wk ?_ | refine tt wl ?_ | refine tt wn ?_ | refine tt c_ort ?_ | refine tt c_nt ?_ | refine tt c_nf ?_ | refine tt (cnd_t _ _) ?_ | refine tt (cnd_f _ _) ?_ | refine tt w6 ?_ | refine tt w4 ?_ | refine tt w5 ?_ | refine tt w7 ?_ | refine tt wm ?_ | refine tt wo ?_ | refine tt wx ?_ | refine tt nil_ptr ?_ | refine tt len_lst ?_ | refine tt len_zsl ?_
  rfl)
end Go.Proofs.Ytmlpinajheacjaa.AE

namespace Go.Proofs.Ytmlpinajheacjaa.AE
set_option linter.unusedVariables false
set_option linter.unusedSimpArgs false
set_option linter.constructorNameAsVariable false
open Go Go.Proofs.Ytmlpinajheacjaa.Geo
set_option maxRecDepth 100000
def sqP : List Pt := [(-1000, -1000), (1000, -1000), (1000, 1000), (-1000, 1000)]
theorem phaseI (d : Nat) : pcall M (d + 8) 15 [] = some (ph sqP 1 200 5 100) := ran (by kernel_rfl)
theorem falls_of {z v g t : Int} (hz : 0 ≤ z) (hg : 1 ≤ g) (t0 : 0 ≤ t) (t1 : t ≤ 1000000) (a : 0 ≤ A z v g t) (b : A z v g (t + 1) < 0) : Falls z v g t := by
  have e : ∀ s, A z v g s = 2 * z + s * (2 * v - g * s) := fun s => by unfold A; grind
  have mono : ∀ s r, 0 ≤ s → s ≤ r → 0 ≤ A z v g r → 0 ≤ A z v g s := by
    intro s r h0 h1 h2
    rw [e] at h2 ⊢
    have k : g * s ≤ g * r := Int.mul_le_mul_of_nonneg_left h1 (by omega)
    rcases Int.le_total 0 (2 * v - g * s) with c | c
    · have := Int.mul_nonneg h0 c; omega
    · have k1 : s * (2 * v - g * r) ≤ s * (2 * v - g * s) := Int.mul_le_mul_of_nonneg_left (by omega) h0
      have k2 : r * (2 * v - g * r) ≤ s * (2 * v - g * r) := Int.mul_le_mul_of_nonpos_right h1 (by omega)
      omega
  refine ⟨t0, t1, fun h => by omega, fun _ s hs => ⟨fun h => ?_, fun h => mono s t hs h a⟩⟩
  by_cases c : s ≤ t
  · exact c
  · have := mono (t + 1) s (by omega) (by omega) h; omega
def nV0 : Nav := ⟨0, 0, 0, 0, 100, 3, 0, 0⟩
theorem fV0l : Falls 98 (-2) 1 12 := falls_of (by omega) (by omega) (by omega) (by omega) (by decide) (by decide)
theorem fV0h : Falls 102 2 1 16 := falls_of (by omega) (by omega) (by omega) (by omega) (by decide) (by decide)
theorem oV0 : pcall M 39 10 [nv nV0, ph sqP 1 200 5 100, .int .i64 2] = some (.int .i64 1) := by
  obtain ⟨lo, hi, q, f1, f2⟩ := ofI 23 nV0 sqP 1 200 5 100 2 (by decide) (by decide)
  have h1 := falls_one f1 fV0l; have h2 := falls_one f2 fV0h
  subst h1 h2
  rw [show verN (spdN nV0 200 2) (relX (boxN nV0 2 12 (16 + 2)) sqP) = 1 by kernel_rfl] at q
  exact q
def nV1 : Nav := ⟨0, 0, 0, 0, 100, 250, 0, 0⟩
theorem fV1l : Falls 98 (-2) 1 12 := falls_of (by omega) (by omega) (by omega) (by omega) (by decide) (by decide)
theorem fV1h : Falls 102 2 1 16 := falls_of (by omega) (by omega) (by omega) (by omega) (by decide) (by decide)
theorem oV1 : pcall M 39 10 [nv nV1, ph sqP 1 200 5 100, .int .i64 2] = some (.int .i64 3) := by
  obtain ⟨lo, hi, q, f1, f2⟩ := ofI 23 nV1 sqP 1 200 5 100 2 (by decide) (by decide)
  have h1 := falls_one f1 fV1l; have h2 := falls_one f2 fV1h
  subst h1 h2
  rw [show verN (spdN nV1 200 2) (relX (boxN nV1 2 12 (16 + 2)) sqP) = 3 by kernel_rfl] at q
  exact q
def nV2 : Nav := ⟨0, 0, 5000, 0, 0, 0, 0, 0⟩
theorem fV2l : Falls (-2) (-2) 1 0 := falls_neg (by omega)
theorem fV2h : Falls 2 2 1 4 := falls_of (by omega) (by omega) (by omega) (by omega) (by decide) (by decide)
theorem oV2 : pcall M 39 10 [nv nV2, ph sqP 1 200 5 100, .int .i64 2] = some (.int .i64 3) := by
  obtain ⟨lo, hi, q, f1, f2⟩ := ofI 23 nV2 sqP 1 200 5 100 2 (by decide) (by decide)
  have h1 := falls_one f1 fV2l; have h2 := falls_one f2 fV2h
  subst h1 h2
  rw [show verN (spdN nV2 200 2) (relX (boxN nV2 2 0 (4 + 2)) sqP) = 3 by kernel_rfl] at q
  exact q
def nV3 : Nav := ⟨0, 0, 1000, 0, 0, 0, 0, 0⟩
theorem fV3l : Falls (-2) (-2) 1 0 := falls_neg (by omega)
theorem fV3h : Falls 2 2 1 4 := falls_of (by omega) (by omega) (by omega) (by omega) (by decide) (by decide)
theorem oV3 : pcall M 39 10 [nv nV3, ph sqP 1 200 5 100, .int .i64 2] = some (.int .i64 2) := by
  obtain ⟨lo, hi, q, f1, f2⟩ := ofI 23 nV3 sqP 1 200 5 100 2 (by decide) (by decide)
  have h1 := falls_one f1 fV3l; have h2 := falls_one f2 fV3h
  subst h1 h2
  rw [show verN (spdN nV3 200 2) (relX (boxN nV3 2 0 (4 + 2)) sqP) = 2 by kernel_rfl] at q
  exact q
def nV4 : Nav := ⟨0, 0, 0, 0, 0, 200, 0, 0⟩
theorem fV4l : Falls (-2) (-2) 1 0 := falls_neg (by omega)
theorem fV4h : Falls 2 2 1 4 := falls_of (by omega) (by omega) (by omega) (by omega) (by decide) (by decide)
theorem oV4 : pcall M 39 10 [nv nV4, ph sqP 1 200 5 100, .int .i64 2] = some (.int .i64 2) := by
  obtain ⟨lo, hi, q, f1, f2⟩ := ofI 23 nV4 sqP 1 200 5 100 2 (by decide) (by decide)
  have h1 := falls_one f1 fV4l; have h2 := falls_one f2 fV4h
  subst h1 h2
  rw [show verN (spdN nV4 200 2) (relX (boxN nV4 2 0 (4 + 2)) sqP) = 2 by kernel_rfl] at q
  exact q
theorem placeV : pcall M 39 17 [nv ⟨0, 0, 0, 0, 0, 0, 0, 0⟩, ph sqP 1 200 5 100, .int .i64 0] = some (.int .i64 1) := by
  obtain ⟨lo, hi, q, f1, f2⟩ := boxI 30 ⟨0, 0, 0, 0, 0, 0, 0, 0⟩ 1 0 (by decide)
  have f : Falls 0 0 1 0 := falls_of (by omega) (by omega) (by omega) (by omega) (by decide) (by decide)
  have h1 := falls_one f1 f; have h2 := falls_one f2 f
  subst h1 h2
  refine told (r17 C0 38 _ _ _ _ _ _ _ _ _ _ _ _ _ _) ?_
  refine Eq.trans (pl_tup q (by rfl)) ?_
  rw [show boxN ⟨0, 0, 0, 0, 0, 0, 0, 0⟩ 0 0 (0 + 2) = ((0, 0), (0, 0)) by kernel_rfl, show rightX ((0, 0), (0, 0)) = true by kernel_rfl]
  repeat with_reducible first | refine tt sh_ptr ?_ | refine tt sh_fptr ?_ | refine tt w2 ?_ | refine tt w3 ?_ | refine tt w8 ?_ | refine tt w9 ?_ | refine tt wf ?_ | refine tt wg ?_ | refine tt wh ?_ | refine tt wi ?_ | refine tt wj ?_ | refine tt wk ?_ | refine tt wl ?_ | refine tt wn ?_ | refine tt c_ort ?_ | refine tt c_nt ?_ | refine tt c_nf ?_ | refine tt (cnd_t _ _) ?_ | refine tt (cnd_f _ _) ?_ | refine tt w6 ?_ | refine tt w4 ?_ | refine tt w5 ?_ | refine tt w7 ?_ | refine tt wm ?_ | refine tt wo ?_ | refine tt wx ?_ | refine tt nil_ptr ?_ | refine tt len_lst ?_ | refine tt len_zsl ?_
  refine Eq.trans (pl_int (s27 24 ((0, 0), (0, 0)) sqP (by decide))) ?_
  rw [show relX ((0, 0), (0, 0)) sqP = 1 by kernel_rfl]
theorem speedV : pcall M 39 16 [nv ⟨0, 0, 0, 0, 0, 0, 0, -203⟩, .int .i64 200, .int .i64 2] = some (.int .i64 (-1)) := by
  have q := s16 33 ⟨0, 0, 0, 0, 0, 0, 0, -203⟩ 200 2 (by decide) (by decide) (by omega) (by omega)
  rw [show spdN ⟨0, 0, 0, 0, 0, 0, 0, -203⟩ 200 2 = -1 by kernel_rfl] at q
  exact q
theorem awake : pcall M 40 6 [] = some (.bool true) := told (r6 C0 39) (by
  refine Eq.trans (pl_agg (phaseI 31) (by rfl)) ?_
  repeat with_reducible first | refine tt sh_ptr ?_ | refine tt sh_fptr ?_ | refine tt w2 ?_ | refine tt w3 ?_ | refine tt w8 ?_ | refine tt w9 ?_ | refine tt wf ?_ | refine tt wg ?_ | refine tt wh ?_ | refine tt wi ?_ | refine tt wj ?_ | refine tt wk ?_ | refine tt wl ?_ | refine tt wn ?_ | refine tt c_ort ?_ | refine tt c_nt ?_ | refine tt c_nf ?_ | refine tt (cnd_t _ _) ?_ | refine tt (cnd_f _ _) ?_ | refine tt w6 ?_ | refine tt w4 ?_ | refine tt w5 ?_ | refine tt w7 ?_ | refine tt wm ?_ | refine tt wo ?_ | refine tt wx ?_ | refine tt nil_ptr ?_ | refine tt len_lst ?_ | refine tt len_zsl ?_
  refine Eq.trans (pl_int oV0) ?_
  refine Eq.trans (pl_len (by rfl)) ?_
  refine Eq.trans (pl_int oV1) ?_
  refine Eq.trans (pl_len (by rfl)) ?_
  refine Eq.trans (pl_int oV2) ?_
  refine Eq.trans (pl_len (by rfl)) ?_
  refine Eq.trans (pl_int oV3) ?_
  refine Eq.trans (pl_len (by rfl)) ?_
  refine Eq.trans (pl_int oV4) ?_
  refine Eq.trans (pl_len (by rfl)) ?_
  refine Eq.trans (pl_int (ofI_no 23 ⟨0, 0, 1099511627776, 0, 0, 0, 0, 0⟩ sqP 1 200 5 100 2 (by decide))) ?_
  refine Eq.trans (pl_len (by rfl)) ?_
  refine Eq.trans (pl_int speedV) ?_
  refine Eq.trans (pl_len (by rfl)) ?_
  refine Eq.trans (pl_int placeV) ?_
  refine Eq.trans (pl_len (by rfl)) ?_
  kernel_rfl)
end Go.Proofs.Ytmlpinajheacjaa.AE

namespace Go.Proofs.Ytmlpinajheacjaa.AE
set_option linter.unusedVariables false
set_option linter.unusedSimpArgs false
set_option linter.constructorNameAsVariable false
open Go Go.RowKit

theorem frl_nil {w : World} {bad : Nat → Prop} : ∀ (i : Nat) (c : AV) (u : Value), ([] : List AV)[i]? = some c → ([] : List Value)[i]? = some u → FRep w bad c u := fun _ _ _ h => by cases h
theorem frl_cons {w : World} {bad : Nat → Prop} {c0 : AV} {u0 : Value} {cs : List AV} {us : List Value} (h0 : FRep w bad c0 u0) (h : ∀ (i : Nat) (c : AV) (u : Value), cs[i]? = some c → us[i]? = some u → FRep w bad c u) :
    ∀ (i : Nat) (c : AV) (u : Value), (c0 :: cs)[i]? = some c → (u0 :: us)[i]? = some u → FRep w bad c u
  | 0, c, u, hc, hu => by cases hc; cases hu; exact h0
  | i + 1, c, u, hc, hu => h i c u hc hu
theorem law_calls {d : Nat} {g : FuncId} {args : List AV} {vs : List Value} (h : pcall M d g args = some (.bool true)) (W : World) (hl : args.length = vs.length)
    (hr : ∀ (i : Nat) (c : AV) (u : Value), args[i]? = some c → vs[i]? = some u → FRep W (fun _ => False) c u) : Calls Try.prog g vs.toArray W fun e W' => e = .returned (.bool true) ∧ Below W.heap.size W W' := by
  refine (pcall_law modOK d g args _ h W (fun _ => False) vs (fun _ h => h.elim) hl hr).mono ?_
  rintro e W' ⟨cv, rfl, hf, hb⟩
  cases hf
  exact ⟨rfl, hb⟩
end Go.Proofs.Ytmlpinajheacjaa.AE
