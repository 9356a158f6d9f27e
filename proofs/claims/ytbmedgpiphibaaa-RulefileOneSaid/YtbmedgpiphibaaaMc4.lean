/- The texts that the seat's laws need, part 4. No conditions. -/
import Derived.ChangeArms
import Derived.WideShapes
import Derived.OpenShut
import Derived.Deep.Slices
import Derived.Test.YtbmedgpiphibaaaMc3
namespace Go.Proofs.Ytbmedgpiphibaaa.AE
set_option linter.unusedVariables false
set_option linter.unusedSimpArgs false
set_option linter.constructorNameAsVariable false
open Go
set_option maxRecDepth 100000
set_option maxHeartbeats 0
noncomputable def X35_0_0 (d:Nat) (a0:List AV) :Ans :=
 C0.bool (pcall M d 45 [(.lst a0)]) fun b102 =>
  some (.bool b102)
theorem X35_0_0_ok (d:Nat) (a0:List AV) (b59:Bool) (x60 x61:Int) (v62:AV) (x63:Int) (b64 b65:Bool) (v66 v67 v68:AV) (b69:Bool) (v70 v71 v72 v73 v74 v75 v76 v77 v78 v79 v80 v81 v82 v83 v84 v85 v86 v87 v88 v89 v90 v91 v92 v93 v94 v95 v96 v97 v98 v99 v100 v101:AV):r35X0_0 C0 d a0 ⟨[(.lst a0),tz,(.bool b59),(iz x60),(iz x61),v62,(iz x63),(.bool b64),(.bool b65),v66,v67,v68,(.bool b69),v70,v71,v72,v73,v74,v75,v76,v77,v78,v79,v80,v81,v82,v83,v84,v85,v86,v87,v88,v89,v90,v91,v92,v93,v94,v95,v96,v97,v98,v99,v100,v101,tz,tz],[]⟩=X35_0_0 d a0 :=by
 unfold r35X0_0; refine Eq.trans (pl_len (by rfl)) ?_; refine yt ySs ?_; refine yt yB ?_; (iterate 2 (refine yt yI ?_)); refine yt yA ?_; refine yt yI ?_; (iterate 2 (refine yt yB ?_)); refine yt yAs ?_; refine yt yB ?_; refine yt yAs ?_; refine yt ySs ?_; refine Eq.trans (pl_sameH) ?_
 rfl
noncomputable def E35_0 (d:Nat) (a0:List AV) (b103:Bool):Ans :=
 some (.bool b103)
theorem E35_0_ok (d:Nat) (a0:List AV) (b103:Bool) (x104 x105:Int) (v106:AV) (x107:Int) (b108 b109:Bool) (v110 v111 v112:AV) (b113:Bool) (v114 v115 v116:AV) (x117:Int) (v118 v119:AV) (x120:Int) (b121 b122:Bool) (v123 v124 v125 v126 v127 v128:AV) (b129 b130:Bool) (v131 v132 v133 v134 v135 v136:AV) (b137 b138:Bool) (v139 v140 v141 v142 v143 v144:AV) (b145:Bool):r35E0 C0 d a0 ⟨[(.lst a0),tz,(.bool b103),(iz x104),(iz x105),v106,(iz x107),(.bool b108),(.bool b109),v110,v111,v112,(.bool b113),v114,v115,v116,(iz x117),v118,v119,(iz x120),(.bool b121),(.bool b122),v123,v124,v125,v126,v127,v128,(.bool b129),(.bool b130),v131,v132,v133,v134,v135,v136,(.bool b137),(.bool b138),v139,v140,v141,v142,v143,v144,(.bool b145),tz,tz],[]⟩=E35_0 d a0 b103:=by
 unfold r35E0; refine Eq.trans (pl_len (by rfl)) ?_; refine yt ySs ?_; refine yt yB ?_; (iterate 2 (refine yt yI ?_)); refine yt yA ?_; refine yt yI ?_; (iterate 2 (refine yt yB ?_)); refine yt yAs ?_; refine yt yB ?_; refine yt yAs ?_; refine yt yI ?_; refine yt yAs ?_; refine yt yI ?_; (iterate 2 (refine yt yB ?_)); refine yt yAs ?_; (iterate 2 (refine yt yB ?_)); refine yt yAs ?_; (iterate 2 (refine yt yB ?_)); refine yt yAs ?_; refine yt yB ?_; refine yt ySs ?_; refine Eq.trans (pl_sameH) ?_
 rfl
noncomputable def L35_0 (d:Nat) (a0:List AV):Nat→Int→Ans
 | 0,_=>none
 | n+1,x4 =>
 cnd (decide (x4 < (((List.length a0):Nat):Int)))
  (cnd (decide ((((List.length a0):Nat):Int)≤8))
  (cnd (decide ((0:Int)≤x4))
  (C0.agg 2 a0[(Int.toNat x4)]? fun l46 =>
  C0.int .i64 l46[0]? fun x47 =>
  C0.int .i64 l46[1]? fun x48 =>
  cnd (decide (x47 < (-1073741824)))
  (E35_0 d a0 false)
  (cnd (decide ((0:Int)≤x4))
  (C0.agg 2 a0[(Int.toNat x4)]? fun l49 =>
  C0.int .i64 l49[0]? fun x50 =>
  C0.int .i64 l49[1]? fun x51 =>
  cnd (decide (x50 > 1073741824))
  (E35_0 d a0 false)
  (cnd (decide ((0:Int)≤x4))
  (C0.agg 2 a0[(Int.toNat x4)]? fun l52 =>
  C0.int .i64 l52[0]? fun x53 =>
  C0.int .i64 l52[1]? fun x54 =>
  cnd (decide (x54 < (-1073741824)))
  (E35_0 d a0 false)
  (cnd (decide ((0:Int)≤x4))
  (C0.agg 2 a0[(Int.toNat x4)]? fun l55 =>
  C0.int .i64 l55[0]? fun x56 =>
  C0.int .i64 l55[1]? fun x57 =>
  cnd (decide (x57 > 1073741824))
  (E35_0 d a0 false)
  (L35_0 d a0 n (IntKind.wrap .i64 (x4+1))))
  (none)))
  (none)))
  (none)))
  (none))
  (X35_0_0 d a0))
  (X35_0_0 d a0)
theorem L35_0_s (d:Nat) (a0:List AV) (n:Nat) (x4:Int):L35_0 d a0 (n+1) x4=(cnd (decide (x4 < (((List.length a0):Nat):Int)))
 (cnd (decide ((((List.length a0):Nat):Int)≤8))
 (cnd (decide ((0:Int)≤x4))
 (C0.agg 2 a0[(Int.toNat x4)]? fun l46 =>
 C0.int .i64 l46[0]? fun x47 =>
 C0.int .i64 l46[1]? fun x48 =>
 cnd (decide (x47 < (-1073741824)))
 (E35_0 d a0 false)
 (cnd (decide ((0:Int)≤x4))
 (C0.agg 2 a0[(Int.toNat x4)]? fun l49 =>
 C0.int .i64 l49[0]? fun x50 =>
 C0.int .i64 l49[1]? fun x51 =>
 cnd (decide (x50 > 1073741824))
 (E35_0 d a0 false)
 (cnd (decide ((0:Int)≤x4))
 (C0.agg 2 a0[(Int.toNat x4)]? fun l52 =>
 C0.int .i64 l52[0]? fun x53 =>
 C0.int .i64 l52[1]? fun x54 =>
 cnd (decide (x54 < (-1073741824)))
 (E35_0 d a0 false)
 (cnd (decide ((0:Int)≤x4))
 (C0.agg 2 a0[(Int.toNat x4)]? fun l55 =>
 C0.int .i64 l55[0]? fun x56 =>
 C0.int .i64 l55[1]? fun x57 =>
 cnd (decide (x57 > 1073741824))
 (E35_0 d a0 false)
 (L35_0 d a0 n (IntKind.wrap .i64 (x4+1))))
 (none)))
 (none)))
 (none)))
 (none))
 (X35_0_0 d a0))
 (X35_0_0 d a0)):=by kernel_rfl
theorem it35_0 (d:Nat) (a0:List AV)  :∀ (n:Nat) (b3:Bool) (x4:Int) (v5 v6 v7 v8 v9 v10 v11 v12 v13 v14 v15 v16 v17 v18 v19 v20 v21 v22 v23 v24 v25 v26 v27 v28 v29 v30 v31 v32 v33 v34 v35 v36 v37 v38 v39 v40 v41 v42 v43 v44 v45:AV),C0.iter (r35R0 C0 d a0) n ⟨[(.lst a0),tz,(.bool b3),(iz x4),v5,v6,v7,v8,v9,v10,v11,v12,v13,v14,v15,v16,v17,v18,v19,v20,v21,v22,v23,v24,v25,v26,v27,v28,v29,v30,v31,v32,v33,v34,v35,v36,v37,v38,v39,v40,v41,v42,v43,v44,v45,tz,tz],[]⟩ [0] [r35X0_0 C0 d a0] (r35E0 C0 d a0)=L35_0 d a0 n x4:=by
 generalize hR:r35R0 C0 d a0=R
 intro n
 induction n with
 | zero=>intros; rfl
 | succ n ih =>
   intro b3 x4 v5 v6 v7 v8 v9 v10 v11 v12 v13 v14 v15 v16 v17 v18 v19 v20 v21 v22 v23 v24 v25 v26 v27 v28 v29 v30 v31 v32 v33 v34 v35 v36 v37 v38 v39 v40 v41 v42 v43 v44 v45
   simp only [it_ret] at ih
   rw [it_ret,xiter_s]
   refine Eq.trans (congrFun (congrFun hR.symm _) _) ?_
   unfold r35R0
   refine Eq.trans (pl_len (by rfl)) ?_; refine yt ySs ?_; refine yt yB ?_; refine yt yI ?_; refine yt yAs ?_; (iterate 32 (refine yt yA ?_)); refine yt ySs ?_; refine Eq.trans (pl_sameH) ?_
   simp only [kIter_n,kIter_x,kIter_r,kOut_x,kOut_r,xgo_hit,xgo_miss,ih,X35_0_0_ok d a0  ,E35_0_ok d a0  ]
   exact (L35_0_s d a0 n x4).symm
theorem q35 (d:Nat) (a0:List AV):xcall C0 M unr d 35 [(.lst a0)] =
 L35_0 d a0 10000000000000000000 0:=(r35 C0 d a0).trans (by simp only [it35_0])
noncomputable def X45_2_0 (d:Nat) (a0:List AV) (x2 x45:Int) (k42N:Int→Heap→Ans) (k42R:Bool→Heap→Ans) (H:Heap):Ans :=
 k42N (IntKind.wrap .i64 (x45+1)) H
theorem X45_2_0_ok (d:Nat) (a0:List AV) (x2 x29 x30 x31:Int) (b32:Bool) (v33 v34 v35 v36 v37 v38 v39 v40:AV) (k42:Ex→St→Ans) (x45:Int) (v54 v55:AV) (k42N:Int→Heap→Ans) (k42R:Bool→Heap→Ans) (hk42N:∀ (b44:Bool) (x45:Int) (v46 v47 v48 v49 v50 v51 v52 v53 v54 v55 v56 v57 v58 v59 v60 v61 v62 v63 v64 v65 v66 v67 v68 v69 v70 v71 v72 v73 v74 v75 v76 v77 v78 v79 v80 v81 v82 v83 v84 v85 v86 v87 v88 v89 v90 v91 v92 v93 v94 v95 v96 v97 v98 v99 v100 v101 v102 v103 v104 v105 v106 v107 v108 v109 v110 v111 v112 v113 v114 v115 v116 v117 v118 v119 v120:AV) (H:Heap),k42 .normal ⟨[(.lst a0),tz,(bz b44),(iz x2),(iz x29),(iz x45),v46,v47,v48,v49,v50,(.lst a0),(iz x2),(iz x2),(bz (decide (x2 < 3))),bf,(iz x2),(bz (decide (x2 > 8))),bf,(iz x30),(iz x31),(bz b32),v33,v34,v35,v36,v37,v38,v39,v40,v51,v52,v53,v54,v55,v56,v57,v58,v59,v60,v61,v62,v63,v64,v65,v66,v67,v68,v69,v70,v71,v72,v73,v74,v75,v76,v77,v78,v79,v80,v81,v82,v83,v84,v85,v86,v87,v88,v89,v90,v91,v92,v93,v94,v95,v96,v97,v98,v99,v100,v101,v102,v103,v104,v105,v106,v107,v108,v109,v110,v111,v112,v113,v114,v115,v116,v117,v118,v119,v120],H⟩=k42N x45 H) (hk42R:∀ (b578:Bool) (x579 x580:Int) (v581 v582 v583 v584:AV) (x585 x586:Int) (b587:Bool) (v588 v589:AV) (x590 x591 x592 x593:Int) (b594:Bool) (v595 v596 v597:AV) (x598:Int) (v599:AV) (x601 x602:Int) (v603:AV) (x604 x606 x607:Int) (v608:AV) (x609:Int) (v610:AV) (x612 x613:Int) (v614:AV) (x615 x617 x618:Int) (b619:Bool) (x621 x622 x624 x625:Int) (b626:Bool) (v627 v628 v629 v630 v631 v632 v633 v634 v635 v636 v637 v638 v639 v640 v641 v642 v643 v644 v645 v646 v647 v648 v649 v650 v651 v652 v653 v654 v655 v656 v657 v658 v659 v660 v661 v662 v663 v664 v665 v666:AV) (H:Heap),k42 .ret ⟨[(.lst a0),tz,(bz b578),(iz x2),(iz x29),(iz x579),(iz x580),v581,v582,v583,v584,(.lst a0),(iz x2),(iz x2),(bz (decide (x2 < 3))),bf,(iz x2),(bz (decide (x2 > 8))),bf,(iz x30),(iz x31),(bz b32),v33,v34,v35,v36,v37,v38,v39,v40,(iz x585),(iz x586),(bz b587),v588,v589,(iz x590),(iz x591),(iz x592),(iz x593),(bz b594),v595,v596,v597,(iz x598),v599,(.agg [(iz x601),(iz x602)]),v603,(iz x604),(.agg [(iz x606),(iz x607)]),v608,(iz x609),v610,(.agg [(iz x612),(iz x613)]),v614,(iz x615),(.agg [(iz x617),(iz x618)]),(bz b619),(.agg [(iz x621),(iz x622)]),(.agg [(iz x624),(iz x625)]),(bz b626),v627,v628,v629,v630,v631,v632,v633,v634,v635,v636,v637,v638,v639,v640,v641,v642,v643,v644,v645,v646,v647,v648,v649,v650,v651,v652,v653,v654,v655,v656,v657,v658,v659,v660,v661,v662,v663,v664,v665,v666],H⟩=k42R b578 H) (b350:Bool) (x351:Int) (v352 v353 v354 v355:AV) (x356 x357:Int) (b358:Bool) (v359 v360 v361 v362 v363 v364 v365 v366 v367 v368 v369 v370 v371 v372 v373 v374 v375 v376 v377 v378 v379 v380 v381 v382 v383 v384 v385 v386 v387 v388 v389 v390 v391 v392 v393 v394 v395 v396 v397 v398 v399 v400 v401 v402 v403 v404 v405 v406 v407 v408 v409 v410 v411 v412 v413 v414 v415 v416 v417 v418:AV) (H:Heap):r45X2_0 C0 d a0 x2 x29 x30 x31 b32 v33 v34 v35 v36 v37 v38 v39 v40 k42 x45 v54 v55 ⟨[(.lst a0),tz,(bz b350),(iz x2),(iz x29),(iz x45),(iz x351),v352,v353,v354,v355,(.lst a0),(iz x2),(iz x2),(bz (decide (x2 < 3))),bf,(iz x2),(bz (decide (x2 > 8))),bf,(iz x30),(iz x31),(bz b32),v33,v34,v35,v36,v37,v38,v39,v40,(iz x45),(iz x2),bt,v54,v55,(iz x45),(iz (IntKind.wrap .i64 (x45+1))),(iz x356),(iz x357),(bz b358),v359,v360,v361,v362,v363,v364,v365,v366,v367,v368,v369,v370,v371,v372,v373,v374,v375,v376,v377,v378,v379,v380,v381,v382,v383,v384,v385,v386,v387,v388,v389,v390,v391,v392,v393,v394,v395,v396,v397,v398,v399,v400,v401,v402,v403,v404,v405,v406,v407,v408,v409,v410,v411,v412,v413,v414,v415,v416,v417,v418],H⟩=X45_2_0 d a0 x2 x45 k42N k42R H:=by
 try dsimp only at hk42N
 try dsimp only at hk42R
 unfold r45X2_0; refine Eq.trans (pl_len (by rfl)) ?_; refine yt ySs ?_; refine yt yB ?_; refine yt ySs ?_; refine yt yI ?_; (iterate 4 (refine yt yA ?_)); refine yt ySs ?_; (iterate 2 (refine yt yI ?_)); refine yt yB ?_; (iterate 60 (refine yt yA ?_))
 first | (simp only [hk42N,hk42R] <;> rfl) | rfl
noncomputable def E45_2 (d:Nat) (a0:List AV) (x2 x45:Int) (k42N:Int→Heap→Ans) (k42R:Bool→Heap→Ans) (b419:Bool) (H:Heap):Ans :=
 k42R b419 H
theorem E45_2_ok (d:Nat) (a0:List AV) (x2 x29 x30 x31:Int) (b32:Bool) (v33 v34 v35 v36 v37 v38 v39 v40:AV) (k42:Ex→St→Ans) (x45:Int) (v54 v55:AV) (k42N:Int→Heap→Ans) (k42R:Bool→Heap→Ans) (hk42N:∀ (b44:Bool) (x45:Int) (v46 v47 v48 v49 v50 v51 v52 v53 v54 v55 v56 v57 v58 v59 v60 v61 v62 v63 v64 v65 v66 v67 v68 v69 v70 v71 v72 v73 v74 v75 v76 v77 v78 v79 v80 v81 v82 v83 v84 v85 v86 v87 v88 v89 v90 v91 v92 v93 v94 v95 v96 v97 v98 v99 v100 v101 v102 v103 v104 v105 v106 v107 v108 v109 v110 v111 v112 v113 v114 v115 v116 v117 v118 v119 v120:AV) (H:Heap),k42 .normal ⟨[(.lst a0),tz,(bz b44),(iz x2),(iz x29),(iz x45),v46,v47,v48,v49,v50,(.lst a0),(iz x2),(iz x2),(bz (decide (x2 < 3))),bf,(iz x2),(bz (decide (x2 > 8))),bf,(iz x30),(iz x31),(bz b32),v33,v34,v35,v36,v37,v38,v39,v40,v51,v52,v53,v54,v55,v56,v57,v58,v59,v60,v61,v62,v63,v64,v65,v66,v67,v68,v69,v70,v71,v72,v73,v74,v75,v76,v77,v78,v79,v80,v81,v82,v83,v84,v85,v86,v87,v88,v89,v90,v91,v92,v93,v94,v95,v96,v97,v98,v99,v100,v101,v102,v103,v104,v105,v106,v107,v108,v109,v110,v111,v112,v113,v114,v115,v116,v117,v118,v119,v120],H⟩=k42N x45 H) (hk42R:∀ (b578:Bool) (x579 x580:Int) (v581 v582 v583 v584:AV) (x585 x586:Int) (b587:Bool) (v588 v589:AV) (x590 x591 x592 x593:Int) (b594:Bool) (v595 v596 v597:AV) (x598:Int) (v599:AV) (x601 x602:Int) (v603:AV) (x604 x606 x607:Int) (v608:AV) (x609:Int) (v610:AV) (x612 x613:Int) (v614:AV) (x615 x617 x618:Int) (b619:Bool) (x621 x622 x624 x625:Int) (b626:Bool) (v627 v628 v629 v630 v631 v632 v633 v634 v635 v636 v637 v638 v639 v640 v641 v642 v643 v644 v645 v646 v647 v648 v649 v650 v651 v652 v653 v654 v655 v656 v657 v658 v659 v660 v661 v662 v663 v664 v665 v666:AV) (H:Heap),k42 .ret ⟨[(.lst a0),tz,(bz b578),(iz x2),(iz x29),(iz x579),(iz x580),v581,v582,v583,v584,(.lst a0),(iz x2),(iz x2),(bz (decide (x2 < 3))),bf,(iz x2),(bz (decide (x2 > 8))),bf,(iz x30),(iz x31),(bz b32),v33,v34,v35,v36,v37,v38,v39,v40,(iz x585),(iz x586),(bz b587),v588,v589,(iz x590),(iz x591),(iz x592),(iz x593),(bz b594),v595,v596,v597,(iz x598),v599,(.agg [(iz x601),(iz x602)]),v603,(iz x604),(.agg [(iz x606),(iz x607)]),v608,(iz x609),v610,(.agg [(iz x612),(iz x613)]),v614,(iz x615),(.agg [(iz x617),(iz x618)]),(bz b619),(.agg [(iz x621),(iz x622)]),(.agg [(iz x624),(iz x625)]),(bz b626),v627,v628,v629,v630,v631,v632,v633,v634,v635,v636,v637,v638,v639,v640,v641,v642,v643,v644,v645,v646,v647,v648,v649,v650,v651,v652,v653,v654,v655,v656,v657,v658,v659,v660,v661,v662,v663,v664,v665,v666],H⟩=k42R b578 H) (b419:Bool) (x420:Int) (v421 v422 v423 v424:AV) (x425 x426:Int) (b427:Bool) (v428 v429 v430:AV) (x431:Int) (v432:AV) (x434 x435:Int) (v436:AV) (x437 x439 x440:Int) (v441:AV) (x442:Int) (v443:AV) (x445 x446:Int) (v447:AV) (x448 x450 x451:Int) (b452:Bool) (x454 x455 x457 x458:Int) (b459:Bool) (v460 v461 v462 v463 v464 v465 v466 v467 v468 v469 v470 v471 v472 v473 v474 v475 v476 v477 v478 v479 v480 v481 v482 v483 v484 v485 v486 v487 v488 v489 v490 v491 v492 v493 v494 v495 v496 v497 v498 v499:AV) (H:Heap):r45E2 C0 d a0 x2 x29 x30 x31 b32 v33 v34 v35 v36 v37 v38 v39 v40 k42 x45 v54 v55 ⟨[(.lst a0),tz,(bz b419),(iz x2),(iz x29),(iz x45),(iz x420),v421,v422,v423,v424,(.lst a0),(iz x2),(iz x2),(bz (decide (x2 < 3))),bf,(iz x2),(bz (decide (x2 > 8))),bf,(iz x30),(iz x31),(bz b32),v33,v34,v35,v36,v37,v38,v39,v40,(iz x45),(iz x2),bt,v54,v55,(iz x45),(iz (IntKind.wrap .i64 (x45+1))),(iz x425),(iz x426),(bz b427),v428,v429,v430,(iz x431),v432,(.agg [(iz x434),(iz x435)]),v436,(iz x437),(.agg [(iz x439),(iz x440)]),v441,(iz x442),v443,(.agg [(iz x445),(iz x446)]),v447,(iz x448),(.agg [(iz x450),(iz x451)]),(bz b452),(.agg [(iz x454),(iz x455)]),(.agg [(iz x457),(iz x458)]),(bz b459),v460,v461,v462,v463,v464,v465,v466,v467,v468,v469,v470,v471,v472,v473,v474,v475,v476,v477,v478,v479,v480,v481,v482,v483,v484,v485,v486,v487,v488,v489,v490,v491,v492,v493,v494,v495,v496,v497,v498,v499],H⟩=E45_2 d a0 x2 x45 k42N k42R b419 H:=by
 try dsimp only at hk42N
 try dsimp only at hk42R
 unfold r45E2; refine Eq.trans (pl_len (by rfl)) ?_; refine yt ySs ?_; refine yt yB ?_; refine yt ySs ?_; refine yt yI ?_; (iterate 4 (refine yt yA ?_)); refine yt ySs ?_; (iterate 2 (refine yt yI ?_)); refine yt yB ?_; (iterate 3 (refine yt yA ?_)); refine yt yI ?_; refine yt yA ?_; refine yt yG ?_; (iterate 2 (refine yt yI ?_)); refine yt yA ?_; refine yt yI ?_; refine yt yG ?_; (iterate 2 (refine yt yI ?_)); refine yt yA ?_; refine yt yI ?_; refine yt yA ?_; refine yt yG ?_; (iterate 2 (refine yt yI ?_)); refine yt yA ?_; refine yt yI ?_; refine yt yG ?_; (iterate 2 (refine yt yI ?_)); refine yt yB ?_; refine yt yG ?_; (iterate 2 (refine yt yI ?_)); refine yt yG ?_; (iterate 2 (refine yt yI ?_)); refine yt yB ?_; (iterate 40 (refine yt yA ?_))
 first | (simp only [hk42N,hk42R] <;> rfl) | rfl
noncomputable def L45_2 (d:Nat) (a0:List AV) (x2 x45:Int) (k42N:Int→Heap→Ans) (k42R:Bool→Heap→Ans):Nat→Int→Heap→Ans
 | 0,_,_=>none
 | n+1,x125,H =>
 cnd (decide (x125 < x2))
  (C0.hop H (.ixAS .any 2 (.v (.lst a0)) (.v (iz x45))) fun v193 h194 =>
  C0.hop h194 (.load true 2 (.v v193)) fun v195 h196 =>
  C0.agg 2 (some v195) fun l197 =>
  C0.int .i64 l197[0]? fun x198 =>
  C0.int .i64 l197[1]? fun x199 =>
  C0.snp h196 [(.lst a0),(iz x45)] fun l200 b201 =>
  C0.agg 2 (pcall M d 49 l200) fun l202 =>
  C0.int .i64 l202[0]? fun x203 =>
  C0.int .i64 l202[1]? fun x204 =>
  cnd (b201 || true)
  (C0.hop h196 (.ixAS .any 2 (.v (.lst a0)) (.v (iz x125))) fun v205 h206 =>
  C0.hop h206 (.load true 2 (.v v205)) fun v207 h208 =>
  C0.agg 2 (some v207) fun l209 =>
  C0.int .i64 l209[0]? fun x210 =>
  C0.int .i64 l209[1]? fun x211 =>
  C0.snp h208 [(.lst a0),(iz x125)] fun l212 b213 =>
  C0.agg 2 (pcall M d 49 l212) fun l214 =>
  C0.int .i64 l214[0]? fun x215 =>
  C0.int .i64 l214[1]? fun x216 =>
  cnd (b213 || true)
  (C0.hop h208 (.alloc E50) fun v217 h218 =>
  C0.hop h218 (.alloc E50) fun v219 h220 =>
  C0.hop h220 (.alloc E50) fun v221 h222 =>
  C0.hop h222 (.alloc E50) fun v223 h224 =>
  C0.disj (.addr v205) (.addr v217) <|
  C0.hop h224 (.store 2 (.v v217) (.v (.agg [(iz x198),(iz x199)]))) fun v225 h226 =>
  C0.disj (.addr v205) (.addr v219) <|
  C0.hop h226 (.store 2 (.v v219) (.v (.agg [(iz x203),(iz x204)]))) fun v227 h228 =>
  C0.hop h228 (.store 2 (.v v221) (.v (.agg [(iz x210),(iz x211)]))) fun v229 h230 =>
  C0.hop h230 (.store 2 (.v v223) (.v (.agg [(iz x215),(iz x216)]))) fun v231 h232 =>
  C0.hop h232 (.load true 2 (.v v217)) fun v233 h234 =>
  C0.agg 2 (some v233) fun l235 =>
  C0.int .i64 l235[0]? fun x236 =>
  C0.int .i64 l235[1]? fun x237 =>
  C0.hop h234 (.load true 2 (.v v221)) fun v238 h239 =>
  C0.agg 2 (some v238) fun l240 =>
  C0.int .i64 l240[0]? fun x241 =>
  C0.int .i64 l240[1]? fun x242 =>
  cnd (xor false ((x236 == x241) && ((x237 == x242) && true)))
  (E45_2 d a0 x2 x45 k42N k42R false h239)
  (cnd (x125 == (IntKind.wrap .i64 (x45+1)))
  (C0.hop h239 (.load true 2 (.v v223)) fun v243 h244 =>
  C0.agg 2 (some v243) fun l245 =>
  C0.int .i64 l245[0]? fun x246 =>
  C0.int .i64 l245[1]? fun x247 =>
  C0.hop h244 (.load true 2 (.v v217)) fun v248 h249 =>
  C0.agg 2 (some v248) fun l250 =>
  C0.int .i64 l250[0]? fun x251 =>
  C0.int .i64 l250[1]? fun x252 =>
  C0.hop h249 (.load true 2 (.v v219)) fun v253 h254 =>
  C0.agg 2 (some v253) fun l255 =>
  C0.int .i64 l255[0]? fun x256 =>
  C0.int .i64 l255[1]? fun x257 =>
  C0.bool (pcall M d 50 [(.agg [(iz x246),(iz x247)]),(.agg [(iz x251),(iz x252)]),(.agg [(iz x256),(iz x257)])]) fun b258 =>
  cnd b258
  (E45_2 d a0 x2 x45 k42N k42R false h254)
  (C0.hop h254 (.load true 2 (.v v217)) fun v259 h260 =>
  C0.agg 2 (some v259) fun l261 =>
  C0.int .i64 l261[0]? fun x262 =>
  C0.int .i64 l261[1]? fun x263 =>
  C0.hop h260 (.load true 2 (.v v221)) fun v264 h265 =>
  C0.agg 2 (some v264) fun l266 =>
  C0.int .i64 l266[0]? fun x267 =>
  C0.int .i64 l266[1]? fun x268 =>
  C0.hop h265 (.load true 2 (.v v223)) fun v269 h270 =>
  C0.agg 2 (some v269) fun l271 =>
  C0.int .i64 l271[0]? fun x272 =>
  C0.int .i64 l271[1]? fun x273 =>
  C0.bool (pcall M d 50 [(.agg [(iz x262),(iz x263)]),(.agg [(iz x267),(iz x268)]),(.agg [(iz x272),(iz x273)])]) fun b274 =>
  cnd b274
  (E45_2 d a0 x2 x45 k42N k42R false h270)
  (L45_2 d a0 x2 x45 k42N k42R n (IntKind.wrap .i64 (x125+1)) h270)))
  (cnd (x45 == 0)
  (cnd (x125 == (IntKind.wrap .i64 (x2 - 1)))
  (C0.hop h239 (.load true 2 (.v v221)) fun v275 h276 =>
  C0.agg 2 (some v275) fun l277 =>
  C0.int .i64 l277[0]? fun x278 =>
  C0.int .i64 l277[1]? fun x279 =>
  C0.hop h276 (.load true 2 (.v v217)) fun v280 h281 =>
  C0.agg 2 (some v280) fun l282 =>
  C0.int .i64 l282[0]? fun x283 =>
  C0.int .i64 l282[1]? fun x284 =>
  C0.hop h281 (.load true 2 (.v v219)) fun v285 h286 =>
  C0.agg 2 (some v285) fun l287 =>
  C0.int .i64 l287[0]? fun x288 =>
  C0.int .i64 l287[1]? fun x289 =>
  C0.bool (pcall M d 50 [(.agg [(iz x278),(iz x279)]),(.agg [(iz x283),(iz x284)]),(.agg [(iz x288),(iz x289)])]) fun b290 =>
  cnd b290
  (E45_2 d a0 x2 x45 k42N k42R false h286)
  (C0.hop h286 (.load true 2 (.v v219)) fun v291 h292 =>
  C0.agg 2 (some v291) fun l293 =>
  C0.int .i64 l293[0]? fun x294 =>
  C0.int .i64 l293[1]? fun x295 =>
  C0.hop h292 (.load true 2 (.v v221)) fun v296 h297 =>
  C0.agg 2 (some v296) fun l298 =>
  C0.int .i64 l298[0]? fun x299 =>
  C0.int .i64 l298[1]? fun x300 =>
  C0.hop h297 (.load true 2 (.v v223)) fun v301 h302 =>
  C0.agg 2 (some v301) fun l303 =>
  C0.int .i64 l303[0]? fun x304 =>
  C0.int .i64 l303[1]? fun x305 =>
  C0.bool (pcall M d 50 [(.agg [(iz x294),(iz x295)]),(.agg [(iz x299),(iz x300)]),(.agg [(iz x304),(iz x305)])]) fun b306 =>
  cnd b306
  (E45_2 d a0 x2 x45 k42N k42R false h302)
  (L45_2 d a0 x2 x45 k42N k42R n (IntKind.wrap .i64 (x125+1)) h302)))
  (C0.hop h239 (.load true 2 (.v v217)) fun v307 h308 =>
  C0.agg 2 (some v307) fun l309 =>
  C0.int .i64 l309[0]? fun x310 =>
  C0.int .i64 l309[1]? fun x311 =>
  C0.hop h308 (.load true 2 (.v v219)) fun v312 h313 =>
  C0.agg 2 (some v312) fun l314 =>
  C0.int .i64 l314[0]? fun x315 =>
  C0.int .i64 l314[1]? fun x316 =>
  C0.hop h313 (.load true 2 (.v v221)) fun v317 h318 =>
  C0.agg 2 (some v317) fun l319 =>
  C0.int .i64 l319[0]? fun x320 =>
  C0.int .i64 l319[1]? fun x321 =>
  C0.hop h318 (.load true 2 (.v v223)) fun v322 h323 =>
  C0.agg 2 (some v322) fun l324 =>
  C0.int .i64 l324[0]? fun x325 =>
  C0.int .i64 l324[1]? fun x326 =>
  C0.bool (pcall M d 51 [(.agg [(iz x310),(iz x311)]),(.agg [(iz x315),(iz x316)]),(.agg [(iz x320),(iz x321)]),(.agg [(iz x325),(iz x326)])]) fun b327 =>
  cnd b327
  (E45_2 d a0 x2 x45 k42N k42R false h323)
  (L45_2 d a0 x2 x45 k42N k42R n (IntKind.wrap .i64 (x125+1)) h323)))
  (C0.hop h239 (.load true 2 (.v v217)) fun v328 h329 =>
  C0.agg 2 (some v328) fun l330 =>
  C0.int .i64 l330[0]? fun x331 =>
  C0.int .i64 l330[1]? fun x332 =>
  C0.hop h329 (.load true 2 (.v v219)) fun v333 h334 =>
  C0.agg 2 (some v333) fun l335 =>
  C0.int .i64 l335[0]? fun x336 =>
  C0.int .i64 l335[1]? fun x337 =>
  C0.hop h334 (.load true 2 (.v v221)) fun v338 h339 =>
  C0.agg 2 (some v338) fun l340 =>
  C0.int .i64 l340[0]? fun x341 =>
  C0.int .i64 l340[1]? fun x342 =>
  C0.hop h339 (.load true 2 (.v v223)) fun v343 h344 =>
  C0.agg 2 (some v343) fun l345 =>
  C0.int .i64 l345[0]? fun x346 =>
  C0.int .i64 l345[1]? fun x347 =>
  C0.bool (pcall M d 51 [(.agg [(iz x331),(iz x332)]),(.agg [(iz x336),(iz x337)]),(.agg [(iz x341),(iz x342)]),(.agg [(iz x346),(iz x347)])]) fun b348 =>
  cnd b348
  (E45_2 d a0 x2 x45 k42N k42R false h344)
  (L45_2 d a0 x2 x45 k42N k42R n (IntKind.wrap .i64 (x125+1)) h344)))))
  (none))
  (none))
  (X45_2_0 d a0 x2 x45 k42N k42R H)
theorem L45_2_s (d:Nat) (a0:List AV) (x2 x45:Int) (k42N:Int→Heap→Ans) (k42R:Bool→Heap→Ans) (n:Nat) (x125:Int) (H:Heap):L45_2 d a0 x2 x45 k42N k42R (n+1) x125 H=(cnd (decide (x125 < x2))
 (C0.hop H (.ixAS .any 2 (.v (.lst a0)) (.v (iz x45))) fun v193 h194 =>
 C0.hop h194 (.load true 2 (.v v193)) fun v195 h196 =>
 C0.agg 2 (some v195) fun l197 =>
 C0.int .i64 l197[0]? fun x198 =>
 C0.int .i64 l197[1]? fun x199 =>
 C0.snp h196 [(.lst a0),(iz x45)] fun l200 b201 =>
 C0.agg 2 (pcall M d 49 l200) fun l202 =>
 C0.int .i64 l202[0]? fun x203 =>
 C0.int .i64 l202[1]? fun x204 =>
 cnd (b201 || true)
 (C0.hop h196 (.ixAS .any 2 (.v (.lst a0)) (.v (iz x125))) fun v205 h206 =>
 C0.hop h206 (.load true 2 (.v v205)) fun v207 h208 =>
 C0.agg 2 (some v207) fun l209 =>
 C0.int .i64 l209[0]? fun x210 =>
 C0.int .i64 l209[1]? fun x211 =>
 C0.snp h208 [(.lst a0),(iz x125)] fun l212 b213 =>
 C0.agg 2 (pcall M d 49 l212) fun l214 =>
 C0.int .i64 l214[0]? fun x215 =>
 C0.int .i64 l214[1]? fun x216 =>
 cnd (b213 || true)
 (C0.hop h208 (.alloc E50) fun v217 h218 =>
 C0.hop h218 (.alloc E50) fun v219 h220 =>
 C0.hop h220 (.alloc E50) fun v221 h222 =>
 C0.hop h222 (.alloc E50) fun v223 h224 =>
 C0.disj (.addr v205) (.addr v217) <|
 C0.hop h224 (.store 2 (.v v217) (.v (.agg [(iz x198),(iz x199)]))) fun v225 h226 =>
 C0.disj (.addr v205) (.addr v219) <|
 C0.hop h226 (.store 2 (.v v219) (.v (.agg [(iz x203),(iz x204)]))) fun v227 h228 =>
 C0.hop h228 (.store 2 (.v v221) (.v (.agg [(iz x210),(iz x211)]))) fun v229 h230 =>
 C0.hop h230 (.store 2 (.v v223) (.v (.agg [(iz x215),(iz x216)]))) fun v231 h232 =>
 C0.hop h232 (.load true 2 (.v v217)) fun v233 h234 =>
 C0.agg 2 (some v233) fun l235 =>
 C0.int .i64 l235[0]? fun x236 =>
 C0.int .i64 l235[1]? fun x237 =>
 C0.hop h234 (.load true 2 (.v v221)) fun v238 h239 =>
 C0.agg 2 (some v238) fun l240 =>
 C0.int .i64 l240[0]? fun x241 =>
 C0.int .i64 l240[1]? fun x242 =>
 cnd (xor false ((x236 == x241) && ((x237 == x242) && true)))
 (E45_2 d a0 x2 x45 k42N k42R false h239)
 (cnd (x125 == (IntKind.wrap .i64 (x45+1)))
 (C0.hop h239 (.load true 2 (.v v223)) fun v243 h244 =>
 C0.agg 2 (some v243) fun l245 =>
 C0.int .i64 l245[0]? fun x246 =>
 C0.int .i64 l245[1]? fun x247 =>
 C0.hop h244 (.load true 2 (.v v217)) fun v248 h249 =>
 C0.agg 2 (some v248) fun l250 =>
 C0.int .i64 l250[0]? fun x251 =>
 C0.int .i64 l250[1]? fun x252 =>
 C0.hop h249 (.load true 2 (.v v219)) fun v253 h254 =>
 C0.agg 2 (some v253) fun l255 =>
 C0.int .i64 l255[0]? fun x256 =>
 C0.int .i64 l255[1]? fun x257 =>
 C0.bool (pcall M d 50 [(.agg [(iz x246),(iz x247)]),(.agg [(iz x251),(iz x252)]),(.agg [(iz x256),(iz x257)])]) fun b258 =>
 cnd b258
 (E45_2 d a0 x2 x45 k42N k42R false h254)
 (C0.hop h254 (.load true 2 (.v v217)) fun v259 h260 =>
 C0.agg 2 (some v259) fun l261 =>
 C0.int .i64 l261[0]? fun x262 =>
 C0.int .i64 l261[1]? fun x263 =>
 C0.hop h260 (.load true 2 (.v v221)) fun v264 h265 =>
 C0.agg 2 (some v264) fun l266 =>
 C0.int .i64 l266[0]? fun x267 =>
 C0.int .i64 l266[1]? fun x268 =>
 C0.hop h265 (.load true 2 (.v v223)) fun v269 h270 =>
 C0.agg 2 (some v269) fun l271 =>
 C0.int .i64 l271[0]? fun x272 =>
 C0.int .i64 l271[1]? fun x273 =>
 C0.bool (pcall M d 50 [(.agg [(iz x262),(iz x263)]),(.agg [(iz x267),(iz x268)]),(.agg [(iz x272),(iz x273)])]) fun b274 =>
 cnd b274
 (E45_2 d a0 x2 x45 k42N k42R false h270)
 (L45_2 d a0 x2 x45 k42N k42R n (IntKind.wrap .i64 (x125+1)) h270)))
 (cnd (x45 == 0)
 (cnd (x125 == (IntKind.wrap .i64 (x2 - 1)))
 (C0.hop h239 (.load true 2 (.v v221)) fun v275 h276 =>
 C0.agg 2 (some v275) fun l277 =>
 C0.int .i64 l277[0]? fun x278 =>
 C0.int .i64 l277[1]? fun x279 =>
 C0.hop h276 (.load true 2 (.v v217)) fun v280 h281 =>
 C0.agg 2 (some v280) fun l282 =>
 C0.int .i64 l282[0]? fun x283 =>
 C0.int .i64 l282[1]? fun x284 =>
 C0.hop h281 (.load true 2 (.v v219)) fun v285 h286 =>
 C0.agg 2 (some v285) fun l287 =>
 C0.int .i64 l287[0]? fun x288 =>
 C0.int .i64 l287[1]? fun x289 =>
 C0.bool (pcall M d 50 [(.agg [(iz x278),(iz x279)]),(.agg [(iz x283),(iz x284)]),(.agg [(iz x288),(iz x289)])]) fun b290 =>
 cnd b290
 (E45_2 d a0 x2 x45 k42N k42R false h286)
 (C0.hop h286 (.load true 2 (.v v219)) fun v291 h292 =>
 C0.agg 2 (some v291) fun l293 =>
 C0.int .i64 l293[0]? fun x294 =>
 C0.int .i64 l293[1]? fun x295 =>
 C0.hop h292 (.load true 2 (.v v221)) fun v296 h297 =>
 C0.agg 2 (some v296) fun l298 =>
 C0.int .i64 l298[0]? fun x299 =>
 C0.int .i64 l298[1]? fun x300 =>
 C0.hop h297 (.load true 2 (.v v223)) fun v301 h302 =>
 C0.agg 2 (some v301) fun l303 =>
 C0.int .i64 l303[0]? fun x304 =>
 C0.int .i64 l303[1]? fun x305 =>
 C0.bool (pcall M d 50 [(.agg [(iz x294),(iz x295)]),(.agg [(iz x299),(iz x300)]),(.agg [(iz x304),(iz x305)])]) fun b306 =>
 cnd b306
 (E45_2 d a0 x2 x45 k42N k42R false h302)
 (L45_2 d a0 x2 x45 k42N k42R n (IntKind.wrap .i64 (x125+1)) h302)))
 (C0.hop h239 (.load true 2 (.v v217)) fun v307 h308 =>
 C0.agg 2 (some v307) fun l309 =>
 C0.int .i64 l309[0]? fun x310 =>
 C0.int .i64 l309[1]? fun x311 =>
 C0.hop h308 (.load true 2 (.v v219)) fun v312 h313 =>
 C0.agg 2 (some v312) fun l314 =>
 C0.int .i64 l314[0]? fun x315 =>
 C0.int .i64 l314[1]? fun x316 =>
 C0.hop h313 (.load true 2 (.v v221)) fun v317 h318 =>
 C0.agg 2 (some v317) fun l319 =>
 C0.int .i64 l319[0]? fun x320 =>
 C0.int .i64 l319[1]? fun x321 =>
 C0.hop h318 (.load true 2 (.v v223)) fun v322 h323 =>
 C0.agg 2 (some v322) fun l324 =>
 C0.int .i64 l324[0]? fun x325 =>
 C0.int .i64 l324[1]? fun x326 =>
 C0.bool (pcall M d 51 [(.agg [(iz x310),(iz x311)]),(.agg [(iz x315),(iz x316)]),(.agg [(iz x320),(iz x321)]),(.agg [(iz x325),(iz x326)])]) fun b327 =>
 cnd b327
 (E45_2 d a0 x2 x45 k42N k42R false h323)
 (L45_2 d a0 x2 x45 k42N k42R n (IntKind.wrap .i64 (x125+1)) h323)))
 (C0.hop h239 (.load true 2 (.v v217)) fun v328 h329 =>
 C0.agg 2 (some v328) fun l330 =>
 C0.int .i64 l330[0]? fun x331 =>
 C0.int .i64 l330[1]? fun x332 =>
 C0.hop h329 (.load true 2 (.v v219)) fun v333 h334 =>
 C0.agg 2 (some v333) fun l335 =>
 C0.int .i64 l335[0]? fun x336 =>
 C0.int .i64 l335[1]? fun x337 =>
 C0.hop h334 (.load true 2 (.v v221)) fun v338 h339 =>
 C0.agg 2 (some v338) fun l340 =>
 C0.int .i64 l340[0]? fun x341 =>
 C0.int .i64 l340[1]? fun x342 =>
 C0.hop h339 (.load true 2 (.v v223)) fun v343 h344 =>
 C0.agg 2 (some v343) fun l345 =>
 C0.int .i64 l345[0]? fun x346 =>
 C0.int .i64 l345[1]? fun x347 =>
 C0.bool (pcall M d 51 [(.agg [(iz x331),(iz x332)]),(.agg [(iz x336),(iz x337)]),(.agg [(iz x341),(iz x342)]),(.agg [(iz x346),(iz x347)])]) fun b348 =>
 cnd b348
 (E45_2 d a0 x2 x45 k42N k42R false h344)
 (L45_2 d a0 x2 x45 k42N k42R n (IntKind.wrap .i64 (x125+1)) h344)))))
 (none))
 (none))
 (X45_2_0 d a0 x2 x45 k42N k42R H)):=by kernel_rfl
theorem it45_2 (d:Nat) (a0:List AV) (x2 x29 x30 x31:Int) (b32:Bool) (v33 v34 v35 v36 v37 v38 v39 v40:AV) (k42:Ex→St→Ans) (x45:Int) (v54 v55:AV) (k42N:Int→Heap→Ans) (k42R:Bool→Heap→Ans) (hk42N:∀ (b44:Bool) (x45:Int) (v46 v47 v48 v49 v50 v51 v52 v53 v54 v55 v56 v57 v58 v59 v60 v61 v62 v63 v64 v65 v66 v67 v68 v69 v70 v71 v72 v73 v74 v75 v76 v77 v78 v79 v80 v81 v82 v83 v84 v85 v86 v87 v88 v89 v90 v91 v92 v93 v94 v95 v96 v97 v98 v99 v100 v101 v102 v103 v104 v105 v106 v107 v108 v109 v110 v111 v112 v113 v114 v115 v116 v117 v118 v119 v120:AV) (H:Heap),k42 .normal ⟨[(.lst a0),tz,(bz b44),(iz x2),(iz x29),(iz x45),v46,v47,v48,v49,v50,(.lst a0),(iz x2),(iz x2),(bz (decide (x2 < 3))),bf,(iz x2),(bz (decide (x2 > 8))),bf,(iz x30),(iz x31),(bz b32),v33,v34,v35,v36,v37,v38,v39,v40,v51,v52,v53,v54,v55,v56,v57,v58,v59,v60,v61,v62,v63,v64,v65,v66,v67,v68,v69,v70,v71,v72,v73,v74,v75,v76,v77,v78,v79,v80,v81,v82,v83,v84,v85,v86,v87,v88,v89,v90,v91,v92,v93,v94,v95,v96,v97,v98,v99,v100,v101,v102,v103,v104,v105,v106,v107,v108,v109,v110,v111,v112,v113,v114,v115,v116,v117,v118,v119,v120],H⟩=k42N x45 H) (hk42R:∀ (b578:Bool) (x579 x580:Int) (v581 v582 v583 v584:AV) (x585 x586:Int) (b587:Bool) (v588 v589:AV) (x590 x591 x592 x593:Int) (b594:Bool) (v595 v596 v597:AV) (x598:Int) (v599:AV) (x601 x602:Int) (v603:AV) (x604 x606 x607:Int) (v608:AV) (x609:Int) (v610:AV) (x612 x613:Int) (v614:AV) (x615 x617 x618:Int) (b619:Bool) (x621 x622 x624 x625:Int) (b626:Bool) (v627 v628 v629 v630 v631 v632 v633 v634 v635 v636 v637 v638 v639 v640 v641 v642 v643 v644 v645 v646 v647 v648 v649 v650 v651 v652 v653 v654 v655 v656 v657 v658 v659 v660 v661 v662 v663 v664 v665 v666:AV) (H:Heap),k42 .ret ⟨[(.lst a0),tz,(bz b578),(iz x2),(iz x29),(iz x579),(iz x580),v581,v582,v583,v584,(.lst a0),(iz x2),(iz x2),(bz (decide (x2 < 3))),bf,(iz x2),(bz (decide (x2 > 8))),bf,(iz x30),(iz x31),(bz b32),v33,v34,v35,v36,v37,v38,v39,v40,(iz x585),(iz x586),(bz b587),v588,v589,(iz x590),(iz x591),(iz x592),(iz x593),(bz b594),v595,v596,v597,(iz x598),v599,(.agg [(iz x601),(iz x602)]),v603,(iz x604),(.agg [(iz x606),(iz x607)]),v608,(iz x609),v610,(.agg [(iz x612),(iz x613)]),v614,(iz x615),(.agg [(iz x617),(iz x618)]),(bz b619),(.agg [(iz x621),(iz x622)]),(.agg [(iz x624),(iz x625)]),(bz b626),v627,v628,v629,v630,v631,v632,v633,v634,v635,v636,v637,v638,v639,v640,v641,v642,v643,v644,v645,v646,v647,v648,v649,v650,v651,v652,v653,v654,v655,v656,v657,v658,v659,v660,v661,v662,v663,v664,v665,v666],H⟩=k42R b578 H):∀ (n:Nat) (b124:Bool) (x125:Int) (v126 v127 v128 v129 v130 v131 v132 v133 v134 v135 v136 v137 v138 v139 v140 v141 v142 v143 v144 v145 v146 v147 v148 v149 v150 v151 v152 v153 v154 v155 v156 v157 v158 v159 v160 v161 v162 v163 v164 v165 v166 v167 v168 v169 v170 v171 v172 v173 v174 v175 v176 v177 v178 v179 v180 v181 v182 v183 v184 v185 v186 v187 v188 v189 v190 v191 v192:AV) (H:Heap),C0.iter (r45R2 C0 d a0 x2 x29 x30 x31 b32 v33 v34 v35 v36 v37 v38 v39 v40 k42 x45 v54 v55) n ⟨[(.lst a0),tz,(bz b124),(iz x2),(iz x29),(iz x45),(iz x125),v126,v127,v128,v129,(.lst a0),(iz x2),(iz x2),(bz (decide (x2 < 3))),bf,(iz x2),(bz (decide (x2 > 8))),bf,(iz x30),(iz x31),(bz b32),v33,v34,v35,v36,v37,v38,v39,v40,(iz x45),(iz x2),bt,v54,v55,(iz x45),(iz (IntKind.wrap .i64 (x45+1))),v130,v131,v132,v133,v134,v135,v136,v137,v138,v139,v140,v141,v142,v143,v144,v145,v146,v147,v148,v149,v150,v151,v152,v153,v154,v155,v156,v157,v158,v159,v160,v161,v162,v163,v164,v165,v166,v167,v168,v169,v170,v171,v172,v173,v174,v175,v176,v177,v178,v179,v180,v181,v182,v183,v184,v185,v186,v187,v188,v189,v190,v191,v192],H⟩ [4] [r45X2_0 C0 d a0 x2 x29 x30 x31 b32 v33 v34 v35 v36 v37 v38 v39 v40 k42 x45 v54 v55] (r45E2 C0 d a0 x2 x29 x30 x31 b32 v33 v34 v35 v36 v37 v38 v39 v40 k42 x45 v54 v55)=L45_2 d a0 x2 x45 k42N k42R n x125 H:=by
 generalize hR:r45R2 C0 d a0 x2 x29 x30 x31 b32 v33 v34 v35 v36 v37 v38 v39 v40 k42 x45 v54 v55=R
 intro n
 induction n with
 | zero=>intros; rfl
 | succ n ih =>
   intro b124 x125 v126 v127 v128 v129 v130 v131 v132 v133 v134 v135 v136 v137 v138 v139 v140 v141 v142 v143 v144 v145 v146 v147 v148 v149 v150 v151 v152 v153 v154 v155 v156 v157 v158 v159 v160 v161 v162 v163 v164 v165 v166 v167 v168 v169 v170 v171 v172 v173 v174 v175 v176 v177 v178 v179 v180 v181 v182 v183 v184 v185 v186 v187 v188 v189 v190 v191 v192 H
   simp only [it_ret] at ih
   rw [it_ret,xiter_s]
   refine Eq.trans (congrFun (congrFun hR.symm _) _) ?_
   unfold r45R2
   refine Eq.trans (pl_len (by rfl)) ?_; refine yt ySs ?_; refine yt yB ?_; refine yt ySs ?_; refine yt yI ?_; (iterate 4 (refine yt yA ?_)); refine yt ySs ?_; refine yt yAs ?_; (iterate 60 (refine yt yA ?_))
   simp only [kIter_n,kIter_x,kIter_r,kOut_x,kOut_r,xgo_hit,xgo_miss,ih,X45_2_0_ok d a0 x2 x29 x30 x31 b32 v33 v34 v35 v36 v37 v38 v39 v40 k42 x45 v54 v55 k42N k42R hk42N hk42R,E45_2_ok d a0 x2 x29 x30 x31 b32 v33 v34 v35 v36 v37 v38 v39 v40 k42 x45 v54 v55 k42N k42R hk42N hk42R]
   exact (L45_2_s d a0 x2 x45 k42N k42R n x125 H).symm
noncomputable def X45_1_0 (d:Nat) (a0:List AV) (x2:Int) (H:Heap):Ans :=
 C0.fin H bt
theorem X45_1_0_ok (d:Nat) (a0:List AV) (x2 x29 x30 x31:Int) (b32:Bool) (v33 v34 v35 v36 v37 v38 v39 v40:AV) (b501:Bool) (x502:Int) (v503 v504 v505 v506 v507:AV) (x508 x509:Int) (b510:Bool) (v511 v512 v513 v514 v515 v516 v517 v518 v519 v520 v521 v522 v523 v524 v525 v526 v527 v528 v529 v530 v531 v532 v533 v534 v535 v536 v537 v538 v539 v540 v541 v542 v543 v544 v545 v546 v547 v548 v549 v550 v551 v552 v553 v554 v555 v556 v557 v558 v559 v560 v561 v562 v563 v564 v565 v566 v567 v568 v569 v570 v571 v572 v573 v574 v575 v576 v577:AV) (H:Heap):r45X1_0 C0 d a0 x2 x29 x30 x31 b32 v33 v34 v35 v36 v37 v38 v39 v40 ⟨[(.lst a0),tz,(bz b501),(iz x2),(iz x29),(iz x502),v503,v504,v505,v506,v507,(.lst a0),(iz x2),(iz x2),(bz (decide (x2 < 3))),bf,(iz x2),(bz (decide (x2 > 8))),bf,(iz x30),(iz x31),(bz b32),v33,v34,v35,v36,v37,v38,v39,v40,(iz x508),(iz x509),(bz b510),v511,v512,v513,v514,v515,v516,v517,v518,v519,v520,v521,v522,v523,v524,v525,v526,v527,v528,v529,v530,v531,v532,v533,v534,v535,v536,v537,v538,v539,v540,v541,v542,v543,v544,v545,v546,v547,v548,v549,v550,v551,v552,v553,v554,v555,v556,v557,v558,v559,v560,v561,v562,v563,v564,v565,v566,v567,v568,v569,v570,v571,v572,v573,v574,v575,v576,v577],H⟩=X45_1_0 d a0 x2 H:=by
 unfold r45X1_0; refine Eq.trans (pl_len (by rfl)) ?_; refine yt ySs ?_; refine yt yB ?_; refine yt ySs ?_; refine yt yI ?_; refine yt yAs ?_; refine yt ySs ?_; (iterate 2 (refine yt yI ?_)); refine yt yB ?_; refine yt yAs ?_
 rfl
noncomputable def E45_1 (d:Nat) (a0:List AV) (x2:Int) (b578:Bool) (H:Heap):Ans :=
 C0.fin H (.bool b578)
theorem E45_1_ok (d:Nat) (a0:List AV) (x2 x29 x30 x31:Int) (b32:Bool) (v33 v34 v35 v36 v37 v38 v39 v40:AV) (b578:Bool) (x579 x580:Int) (v581 v582 v583 v584:AV) (x585 x586:Int) (b587:Bool) (v588 v589:AV) (x590 x591 x592 x593:Int) (b594:Bool) (v595 v596 v597:AV) (x598:Int) (v599:AV) (x601 x602:Int) (v603:AV) (x604 x606 x607:Int) (v608:AV) (x609:Int) (v610:AV) (x612 x613:Int) (v614:AV) (x615 x617 x618:Int) (b619:Bool) (x621 x622 x624 x625:Int) (b626:Bool) (v627 v628 v629 v630 v631 v632 v633 v634 v635 v636 v637 v638 v639 v640 v641 v642 v643 v644 v645 v646 v647 v648 v649 v650 v651 v652 v653 v654 v655 v656 v657 v658 v659 v660 v661 v662 v663 v664 v665 v666:AV) (H:Heap):r45E1 C0 d a0 x2 x29 x30 x31 b32 v33 v34 v35 v36 v37 v38 v39 v40 ⟨[(.lst a0),tz,(bz b578),(iz x2),(iz x29),(iz x579),(iz x580),v581,v582,v583,v584,(.lst a0),(iz x2),(iz x2),(bz (decide (x2 < 3))),bf,(iz x2),(bz (decide (x2 > 8))),bf,(iz x30),(iz x31),(bz b32),v33,v34,v35,v36,v37,v38,v39,v40,(iz x585),(iz x586),(bz b587),v588,v589,(iz x590),(iz x591),(iz x592),(iz x593),(bz b594),v595,v596,v597,(iz x598),v599,(.agg [(iz x601),(iz x602)]),v603,(iz x604),(.agg [(iz x606),(iz x607)]),v608,(iz x609),v610,(.agg [(iz x612),(iz x613)]),v614,(iz x615),(.agg [(iz x617),(iz x618)]),(bz b619),(.agg [(iz x621),(iz x622)]),(.agg [(iz x624),(iz x625)]),(bz b626),v627,v628,v629,v630,v631,v632,v633,v634,v635,v636,v637,v638,v639,v640,v641,v642,v643,v644,v645,v646,v647,v648,v649,v650,v651,v652,v653,v654,v655,v656,v657,v658,v659,v660,v661,v662,v663,v664,v665,v666],H⟩=E45_1 d a0 x2 b578 H:=by
 unfold r45E1; refine Eq.trans (pl_len (by rfl)) ?_; refine yt ySs ?_; refine yt yB ?_; refine yt ySs ?_; (iterate 2 (refine yt yI ?_)); refine yt yAs ?_; refine yt ySs ?_; (iterate 2 (refine yt yI ?_)); refine yt yB ?_; refine yt yAs ?_; (iterate 4 (refine yt yI ?_)); refine yt yB ?_; refine yt yAs ?_; refine yt yI ?_; refine yt yA ?_; refine yt yG ?_; (iterate 2 (refine yt yI ?_)); refine yt yA ?_; refine yt yI ?_; refine yt yG ?_; (iterate 2 (refine yt yI ?_)); refine yt yA ?_; refine yt yI ?_; refine yt yA ?_; refine yt yG ?_; (iterate 2 (refine yt yI ?_)); refine yt yA ?_; refine yt yI ?_; refine yt yG ?_; (iterate 2 (refine yt yI ?_)); refine yt yB ?_; refine yt yG ?_; (iterate 2 (refine yt yI ?_)); refine yt yG ?_; (iterate 2 (refine yt yI ?_)); refine yt yB ?_; refine yt yAs ?_
 rfl
noncomputable def L45_1 (d:Nat) (a0:List AV) (x2:Int):Nat→Int→Heap→Ans
 | 0,_,_=>none
 | n+1,x45,H =>
 cnd (decide (x45 < x2))
  (L45_2 d a0 x2 x45 (fun x45 H=>L45_1 d a0 x2 n x45 H) (fun b578 H=>E45_1 d a0 x2 b578 H) 10000000000000000000 (IntKind.wrap .i64 (x45+1)) H)
  (X45_1_0 d a0 x2 H)
theorem L45_1_s (d:Nat) (a0:List AV) (x2:Int) (n:Nat) (x45:Int) (H:Heap):L45_1 d a0 x2 (n+1) x45 H=(cnd (decide (x45 < x2))
 (L45_2 d a0 x2 x45 (fun x45 H=>L45_1 d a0 x2 n x45 H) (fun b578 H=>E45_1 d a0 x2 b578 H) 10000000000000000000 (IntKind.wrap .i64 (x45+1)) H)
 (X45_1_0 d a0 x2 H)):=by kernel_rfl
theorem it45_1 (d:Nat) (a0:List AV) (x2 x29 x30 x31:Int) (b32:Bool) (v33 v34 v35 v36 v37 v38 v39 v40:AV)  :∀ (n:Nat) (b44:Bool) (x45:Int) (v46 v47 v48 v49 v50 v51 v52 v53 v54 v55 v56 v57 v58 v59 v60 v61 v62 v63 v64 v65 v66 v67 v68 v69 v70 v71 v72 v73 v74 v75 v76 v77 v78 v79 v80 v81 v82 v83 v84 v85 v86 v87 v88 v89 v90 v91 v92 v93 v94 v95 v96 v97 v98 v99 v100 v101 v102 v103 v104 v105 v106 v107 v108 v109 v110 v111 v112 v113 v114 v115 v116 v117 v118 v119 v120:AV) (H:Heap),C0.iter (r45R1 C0 d a0 x2 x29 x30 x31 b32 v33 v34 v35 v36 v37 v38 v39 v40) n ⟨[(.lst a0),tz,(bz b44),(iz x2),(iz x29),(iz x45),v46,v47,v48,v49,v50,(.lst a0),(iz x2),(iz x2),(bz (decide (x2 < 3))),bf,(iz x2),(bz (decide (x2 > 8))),bf,(iz x30),(iz x31),(bz b32),v33,v34,v35,v36,v37,v38,v39,v40,v51,v52,v53,v54,v55,v56,v57,v58,v59,v60,v61,v62,v63,v64,v65,v66,v67,v68,v69,v70,v71,v72,v73,v74,v75,v76,v77,v78,v79,v80,v81,v82,v83,v84,v85,v86,v87,v88,v89,v90,v91,v92,v93,v94,v95,v96,v97,v98,v99,v100,v101,v102,v103,v104,v105,v106,v107,v108,v109,v110,v111,v112,v113,v114,v115,v116,v117,v118,v119,v120],H⟩ [2] [r45X1_0 C0 d a0 x2 x29 x30 x31 b32 v33 v34 v35 v36 v37 v38 v39 v40] (r45E1 C0 d a0 x2 x29 x30 x31 b32 v33 v34 v35 v36 v37 v38 v39 v40)=L45_1 d a0 x2 n x45 H:=by
 generalize hR:r45R1 C0 d a0 x2 x29 x30 x31 b32 v33 v34 v35 v36 v37 v38 v39 v40=R
 intro n
 induction n with
 | zero=>intros; rfl
 | succ n ih =>
   intro b44 x45 v46 v47 v48 v49 v50 v51 v52 v53 v54 v55 v56 v57 v58 v59 v60 v61 v62 v63 v64 v65 v66 v67 v68 v69 v70 v71 v72 v73 v74 v75 v76 v77 v78 v79 v80 v81 v82 v83 v84 v85 v86 v87 v88 v89 v90 v91 v92 v93 v94 v95 v96 v97 v98 v99 v100 v101 v102 v103 v104 v105 v106 v107 v108 v109 v110 v111 v112 v113 v114 v115 v116 v117 v118 v119 v120 H
   simp only [it_ret] at ih
   rw [it_ret,xiter_s]
   refine Eq.trans (congrFun (congrFun hR.symm _) _) ?_
   unfold r45R1
   refine Eq.trans (pl_len (by rfl)) ?_; refine yt ySs ?_; refine yt yB ?_; refine yt ySs ?_; refine yt yI ?_; (iterate 5 (refine yt yA ?_)); refine yt ySs ?_; refine yt yAs ?_; (iterate 67 (refine yt yA ?_))
   have I0:=it45_2 d a0 x2 x29 x30 x31 b32 v33 v34 v35 v36 v37 v38 v39 v40 (kIter R n (kOut [2] [r45X1_0 C0 d a0 x2 x29 x30 x31 b32 v33 v34 v35 v36 v37 v38 v39 v40] (r45E1 C0 d a0 x2 x29 x30 x31 b32 v33 v34 v35 v36 v37 v38 v39 v40))) x45 v54 v55 (fun x45 H=>L45_1 d a0 x2 n x45 H) (fun b578 H=>E45_1 d a0 x2 b578 H) (fun b44 x45 v46 v47 v48 v49 v50 v51 v52 v53 v54 v55 v56 v57 v58 v59 v60 v61 v62 v63 v64 v65 v66 v67 v68 v69 v70 v71 v72 v73 v74 v75 v76 v77 v78 v79 v80 v81 v82 v83 v84 v85 v86 v87 v88 v89 v90 v91 v92 v93 v94 v95 v96 v97 v98 v99 v100 v101 v102 v103 v104 v105 v106 v107 v108 v109 v110 v111 v112 v113 v114 v115 v116 v117 v118 v119 v120 H=>ih b44 x45 v46 v47 v48 v49 v50 v51 v52 v53 v54 v55 v56 v57 v58 v59 v60 v61 v62 v63 v64 v65 v66 v67 v68 v69 v70 v71 v72 v73 v74 v75 v76 v77 v78 v79 v80 v81 v82 v83 v84 v85 v86 v87 v88 v89 v90 v91 v92 v93 v94 v95 v96 v97 v98 v99 v100 v101 v102 v103 v104 v105 v106 v107 v108 v109 v110 v111 v112 v113 v114 v115 v116 v117 v118 v119 v120 H) (fun b578 x579 x580 v581 v582 v583 v584 x585 x586 b587 v588 v589 x590 x591 x592 x593 b594 v595 v596 v597 x598 v599 x601 x602 v603 x604 x606 x607 v608 x609 v610 x612 x613 v614 x615 x617 x618 b619 x621 x622 x624 x625 b626 v627 v628 v629 v630 v631 v632 v633 v634 v635 v636 v637 v638 v639 v640 v641 v642 v643 v644 v645 v646 v647 v648 v649 v650 v651 v652 v653 v654 v655 v656 v657 v658 v659 v660 v661 v662 v663 v664 v665 v666 H=>E45_1_ok d a0 x2 x29 x30 x31 b32 v33 v34 v35 v36 v37 v38 v39 v40   b578 x579 x580 v581 v582 v583 v584 x585 x586 b587 v588 v589 x590 x591 x592 x593 b594 v595 v596 v597 x598 v599 x601 x602 v603 x604 x606 x607 v608 x609 v610 x612 x613 v614 x615 x617 x618 b619 x621 x622 x624 x625 b626 v627 v628 v629 v630 v631 v632 v633 v634 v635 v636 v637 v638 v639 v640 v641 v642 v643 v644 v645 v646 v647 v648 v649 v650 v651 v652 v653 v654 v655 v656 v657 v658 v659 v660 v661 v662 v663 v664 v665 v666 H)
   try dsimp only at I0
   simp only [kIter_n,kIter_x,kIter_r,kOut_x,kOut_r,xgo_hit,xgo_miss,ih,I0,X45_1_0_ok d a0 x2 x29 x30 x31 b32 v33 v34 v35 v36 v37 v38 v39 v40  ,E45_1_ok d a0 x2 x29 x30 x31 b32 v33 v34 v35 v36 v37 v38 v39 v40  ]
   exact (L45_1_s d a0 x2 n x45 H).symm
noncomputable def X45_0_0 (d:Nat) (a0:List AV) (x2:Int) (H:Heap):Ans :=
 L45_1 d a0 x2 10000000000000000000 0 H
theorem X45_0_0_ok (d:Nat) (a0:List AV) (x2:Int) (b28:Bool) (x29 x30 x31:Int) (b32:Bool) (v33 v34 v35 v36 v37 v38 v39 v40:AV) (H:Heap):r45X0_0 C0 d a0 x2 ⟨[(.lst a0),tz,(bz b28),(iz x2),(iz x29),tz,tz,tz,tz,tz,tz,(.lst a0),(iz x2),(iz x2),(bz (decide (x2 < 3))),bf,(iz x2),(bz (decide (x2 > 8))),bf,(iz x30),(iz x31),(bz b32),v33,v34,v35,v36,v37,v38,v39,v40,tz,tz,tz,tz,tz,tz,tz,tz,tz,tz,tz,tz,tz,tz,tz,tz,tz,tz,tz,tz,tz,tz,tz,tz,tz,tz,tz,tz,tz,tz,tz,tz,tz,tz,tz,tz,tz,tz,tz,tz,tz,tz,tz,tz,tz,tz,tz,tz,tz,tz,tz,tz,tz,tz,tz,tz,tz,tz,tz,tz,tz,tz,tz,tz,tz,tz,tz,tz,tz,tz],H⟩=X45_0_0 d a0 x2 H:=by
 unfold r45X0_0; refine Eq.trans (pl_len (by rfl)) ?_; refine yt ySs ?_; refine yt yB ?_; refine yt yS ?_; refine yt yI ?_; refine yt ySs ?_; (iterate 2 (refine yt yI ?_)); refine yt yB ?_; (iterate 8 (refine yt yA ?_)); refine yt ySs ?_
 first | (simp only [it45_1] <;> rfl) | rfl
noncomputable def E45_0 (d:Nat) (a0:List AV) (x2:Int) (b667:Bool) (H:Heap):Ans :=
 C0.fin H (.bool b667)
theorem E45_0_ok (d:Nat) (a0:List AV) (x2:Int) (b667:Bool) (x668 x669 x670:Int) (b671:Bool) (v672 v673 v674:AV) (x675:Int) (v676:AV) (x678 x679:Int) (b680 b681:Bool) (H:Heap):r45E0 C0 d a0 x2 ⟨[(.lst a0),tz,(bz b667),(iz x2),(iz x668),tz,tz,tz,tz,tz,tz,(.lst a0),(iz x2),(iz x2),(bz (decide (x2 < 3))),bf,(iz x2),(bz (decide (x2 > 8))),bf,(iz x669),(iz x670),(bz b671),v672,v673,v674,(iz x675),v676,(.agg [(iz x678),(iz x679)]),(bz b680),(bz b681),tz,tz,tz,tz,tz,tz,tz,tz,tz,tz,tz,tz,tz,tz,tz,tz,tz,tz,tz,tz,tz,tz,tz,tz,tz,tz,tz,tz,tz,tz,tz,tz,tz,tz,tz,tz,tz,tz,tz,tz,tz,tz,tz,tz,tz,tz,tz,tz,tz,tz,tz,tz,tz,tz,tz,tz,tz,tz,tz,tz,tz,tz,tz,tz,tz,tz,tz,tz,tz,tz],H⟩=E45_0 d a0 x2 b667 H:=by
 unfold r45E0; refine Eq.trans (pl_len (by rfl)) ?_; refine yt ySs ?_; refine yt yB ?_; refine yt yS ?_; refine yt yI ?_; refine yt ySs ?_; (iterate 2 (refine yt yI ?_)); refine yt yB ?_; refine yt yAs ?_; refine yt yI ?_; refine yt yA ?_; refine yt yG ?_; (iterate 2 (refine yt yI ?_)); (iterate 2 (refine yt yB ?_)); refine yt ySs ?_
 rfl
noncomputable def L45_0 (d:Nat) (a0:List AV) (x2:Int):Nat→Int→Heap→Ans
 | 0,_,_=>none
 | n+1,x7,H =>
 cnd (decide (x7 < x2))
  (C0.hop H (.ixAS .any 2 (.v (.lst a0)) (.v (iz x7))) fun v19 h20 =>
  C0.hop h20 (.load true 2 (.v v19)) fun v21 h22 =>
  C0.agg 2 (some v21) fun l23 =>
  C0.int .i64 l23[0]? fun x24 =>
  C0.int .i64 l23[1]? fun x25 =>
  C0.bool (pcall M d 48 [(.agg [(iz x24),(iz x25)])]) fun b26 =>
  cnd (!b26)
  (E45_0 d a0 x2 false h22)
  (L45_0 d a0 x2 n (IntKind.wrap .i64 (x7+1)) h22))
  (X45_0_0 d a0 x2 H)
theorem L45_0_s (d:Nat) (a0:List AV) (x2:Int) (n:Nat) (x7:Int) (H:Heap):L45_0 d a0 x2 (n+1) x7 H=(cnd (decide (x7 < x2))
 (C0.hop H (.ixAS .any 2 (.v (.lst a0)) (.v (iz x7))) fun v19 h20 =>
 C0.hop h20 (.load true 2 (.v v19)) fun v21 h22 =>
 C0.agg 2 (some v21) fun l23 =>
 C0.int .i64 l23[0]? fun x24 =>
 C0.int .i64 l23[1]? fun x25 =>
 C0.bool (pcall M d 48 [(.agg [(iz x24),(iz x25)])]) fun b26 =>
 cnd (!b26)
 (E45_0 d a0 x2 false h22)
 (L45_0 d a0 x2 n (IntKind.wrap .i64 (x7+1)) h22))
 (X45_0_0 d a0 x2 H)):=by kernel_rfl
theorem it45_0 (d:Nat) (a0:List AV) (x2:Int)  :∀ (n:Nat) (b6:Bool) (x7:Int) (v8 v9 v10 v11 v12 v13 v14 v15 v16 v17 v18:AV) (H:Heap),C0.iter (r45R0 C0 d a0 x2) n ⟨[(.lst a0),tz,(bz b6),(iz x2),(iz x7),tz,tz,tz,tz,tz,tz,(.lst a0),(iz x2),(iz x2),(bz (decide (x2 < 3))),bf,(iz x2),(bz (decide (x2 > 8))),bf,v8,v9,v10,v11,v12,v13,v14,v15,v16,v17,v18,tz,tz,tz,tz,tz,tz,tz,tz,tz,tz,tz,tz,tz,tz,tz,tz,tz,tz,tz,tz,tz,tz,tz,tz,tz,tz,tz,tz,tz,tz,tz,tz,tz,tz,tz,tz,tz,tz,tz,tz,tz,tz,tz,tz,tz,tz,tz,tz,tz,tz,tz,tz,tz,tz,tz,tz,tz,tz,tz,tz,tz,tz,tz,tz,tz,tz,tz,tz,tz,tz],H⟩ [0] [r45X0_0 C0 d a0 x2] (r45E0 C0 d a0 x2)=L45_0 d a0 x2 n x7 H:=by
 generalize hR:r45R0 C0 d a0 x2=R
 intro n
 induction n with
 | zero=>intros; rfl
 | succ n ih =>
   intro b6 x7 v8 v9 v10 v11 v12 v13 v14 v15 v16 v17 v18 H
   simp only [it_ret] at ih
   rw [it_ret,xiter_s]
   refine Eq.trans (congrFun (congrFun hR.symm _) _) ?_
   unfold r45R0
   refine Eq.trans (pl_len (by rfl)) ?_; refine yt ySs ?_; refine yt yB ?_; refine yt yS ?_; refine yt yI ?_; refine yt ySs ?_; refine yt yAs ?_; (iterate 8 (refine yt yA ?_)); refine yt ySs ?_
   simp only [kIter_n,kIter_x,kIter_r,kOut_x,kOut_r,xgo_hit,xgo_miss,ih,X45_0_0_ok d a0 x2  ,E45_0_ok d a0 x2  ]
   exact (L45_0_s d a0 x2 n x7 H).symm
theorem q45 (d:Nat) (a0:List AV):xcall C0 M unr d 45 [(.lst a0)] =
 C0.hop [] (.bk .lenV [(.v (.lst a0))]) fun v0 h1 =>
 C0.int .i64 (some v0) fun x2 =>
 cnd (decide (x2 < 3))
  (C0.fin h1 bf)
  (cnd (decide (x2 > 8))
  (C0.fin h1 bf)
  (L45_0 d a0 x2 10000000000000000000 0 h1)):=(r45 C0 d a0).trans (by simp only [it45_0])
noncomputable def X52_1_0 (d:Nat) (a0:List AV) (x7:Int) (k2N:Int→Ans) (k2R:Bool→Ans) :Ans :=
 k2N (IntKind.wrap .i64 (x7+1))
theorem X52_1_0_ok (d:Nat) (a0:List AV) (b0:Bool) (k2:Ex→St→Ans) (x7:Int) (v31:AV) (k2N:Int→Ans) (k2R:Bool→Ans) (hk2N:∀ (b4:Bool) (v5 v6:AV) (x7:Int) (v8 v9 v10 v11 v12 v13 v14 v15 v16 v17 v18 v19 v20 v21 v22 v23 v24 v25 v26 v27 v28 v29 v30 v31:AV),k2 .normal ⟨[(.lst a0),tz,(.bool b4),(iz (((List.length a0):Nat):Int)),v5,v6,(.lst a0),(iz (((List.length a0):Nat):Int)),(iz (((List.length a0):Nat):Int)),(.bool (decide ((((List.length a0):Nat):Int) < 3))),bf,(iz (((List.length a0):Nat):Int)),(.bool (decide ((((List.length a0):Nat):Int) > 8))),(.bool (decide ((((List.length a0):Nat):Int) > 8))),bf,(.lst a0),(.bool b0),bf,(iz (((List.length a0):Nat):Int)),(iz x7),v8,v9,v10,v11,v12,v13,v14,v15,v16,v17,v18,v19,v20,v21,v22,v23,v24,v25,v26,v27,v28,v29,v30,v31],[]⟩=k2N x7) (hk2R:∀ (b142:Bool) (x143 x144 x145:Int) (b146:Bool) (x147 x148 x149:Int) (b150:Bool) (x151:Int) (v152:AV) (x153:Int) (v154:AV) (x156 x157:Int) (v158:AV) (x159:Int) (v160:AV) (x162 x163:Int) (b164 b165:Bool) (v166 v167 v168 v169 v170:AV) (b171:Bool) (v172 v173:AV),k2 .ret ⟨[(.lst a0),tz,(.bool b142),(iz (((List.length a0):Nat):Int)),(iz x143),(iz x144),(.lst a0),(iz (((List.length a0):Nat):Int)),(iz (((List.length a0):Nat):Int)),(.bool (decide ((((List.length a0):Nat):Int) < 3))),bf,(iz (((List.length a0):Nat):Int)),(.bool (decide ((((List.length a0):Nat):Int) > 8))),(.bool (decide ((((List.length a0):Nat):Int) > 8))),bf,(.lst a0),(.bool b0),bf,(iz (((List.length a0):Nat):Int)),(iz x145),(.bool b146),(iz x147),(iz x148),(iz x149),(.bool b150),(iz x151),v152,(iz x153),v154,(.agg [(iz x156),(iz x157)]),v158,(iz x159),v160,(.agg [(iz x162),(iz x163)]),(.bool b164),(.bool b165),v166,v167,v168,v169,v170,(.bool b171),v172,v173],[]⟩=k2R b142) (b65:Bool) (v66:AV) (x67:Int) (b68:Bool) (v69 v70 v71 v72 v73 v74 v75 v76 v77 v78 v79 v80 v81 v82 v83 v84 v85 v86:AV):r52X1_0 C0 d a0 b0 k2 x7 v31 ⟨[(.lst a0),tz,(.bool b65),(iz (((List.length a0):Nat):Int)),(iz x7),v66,(.lst a0),(iz (((List.length a0):Nat):Int)),(iz (((List.length a0):Nat):Int)),(.bool (decide ((((List.length a0):Nat):Int) < 3))),bf,(iz (((List.length a0):Nat):Int)),(.bool (decide ((((List.length a0):Nat):Int) > 8))),(.bool (decide ((((List.length a0):Nat):Int) > 8))),bf,(.lst a0),(.bool b0),bf,(iz (((List.length a0):Nat):Int)),(iz x7),bt,(iz x7),(iz x7),(iz x67),(.bool b68),v69,v70,v71,v72,v73,v74,v75,v76,v77,v78,v79,v80,v81,v82,v83,v84,v85,v86,v31],[]⟩=X52_1_0 d a0 x7 k2N k2R :=by
 try dsimp only at hk2N
 try dsimp only at hk2R
 unfold r52X1_0; refine Eq.trans (pl_len (by rfl)) ?_; refine yt ySs ?_; refine yt yB ?_; refine yt ySs ?_; refine yt yA ?_; refine yt ySs ?_; refine yt yI ?_; refine yt yB ?_; (iterate 18 (refine yt yA ?_)); refine yt yS ?_; refine Eq.trans (pl_sameH) ?_
 first | (simp only [hk2N,hk2R] <;> rfl) | rfl
noncomputable def E52_1 (d:Nat) (a0:List AV) (x7:Int) (k2N:Int→Ans) (k2R:Bool→Ans) (b87:Bool):Ans :=
 k2R b87
theorem E52_1_ok (d:Nat) (a0:List AV) (b0:Bool) (k2:Ex→St→Ans) (x7:Int) (v31:AV) (k2N:Int→Ans) (k2R:Bool→Ans) (hk2N:∀ (b4:Bool) (v5 v6:AV) (x7:Int) (v8 v9 v10 v11 v12 v13 v14 v15 v16 v17 v18 v19 v20 v21 v22 v23 v24 v25 v26 v27 v28 v29 v30 v31:AV),k2 .normal ⟨[(.lst a0),tz,(.bool b4),(iz (((List.length a0):Nat):Int)),v5,v6,(.lst a0),(iz (((List.length a0):Nat):Int)),(iz (((List.length a0):Nat):Int)),(.bool (decide ((((List.length a0):Nat):Int) < 3))),bf,(iz (((List.length a0):Nat):Int)),(.bool (decide ((((List.length a0):Nat):Int) > 8))),(.bool (decide ((((List.length a0):Nat):Int) > 8))),bf,(.lst a0),(.bool b0),bf,(iz (((List.length a0):Nat):Int)),(iz x7),v8,v9,v10,v11,v12,v13,v14,v15,v16,v17,v18,v19,v20,v21,v22,v23,v24,v25,v26,v27,v28,v29,v30,v31],[]⟩=k2N x7) (hk2R:∀ (b142:Bool) (x143 x144 x145:Int) (b146:Bool) (x147 x148 x149:Int) (b150:Bool) (x151:Int) (v152:AV) (x153:Int) (v154:AV) (x156 x157:Int) (v158:AV) (x159:Int) (v160:AV) (x162 x163:Int) (b164 b165:Bool) (v166 v167 v168 v169 v170:AV) (b171:Bool) (v172 v173:AV),k2 .ret ⟨[(.lst a0),tz,(.bool b142),(iz (((List.length a0):Nat):Int)),(iz x143),(iz x144),(.lst a0),(iz (((List.length a0):Nat):Int)),(iz (((List.length a0):Nat):Int)),(.bool (decide ((((List.length a0):Nat):Int) < 3))),bf,(iz (((List.length a0):Nat):Int)),(.bool (decide ((((List.length a0):Nat):Int) > 8))),(.bool (decide ((((List.length a0):Nat):Int) > 8))),bf,(.lst a0),(.bool b0),bf,(iz (((List.length a0):Nat):Int)),(iz x145),(.bool b146),(iz x147),(iz x148),(iz x149),(.bool b150),(iz x151),v152,(iz x153),v154,(.agg [(iz x156),(iz x157)]),v158,(iz x159),v160,(.agg [(iz x162),(iz x163)]),(.bool b164),(.bool b165),v166,v167,v168,v169,v170,(.bool b171),v172,v173],[]⟩=k2R b142) (b87:Bool) (x88 x89:Int) (b90:Bool) (x91:Int) (v92:AV) (x93:Int) (v94:AV) (x96 x97:Int) (v98:AV) (x99:Int) (v100:AV) (x102 x103:Int) (b104 b105:Bool) (v106 v107 v108 v109 v110:AV) (b111:Bool) (v112:AV):r52E1 C0 d a0 b0 k2 x7 v31 ⟨[(.lst a0),tz,(.bool b87),(iz (((List.length a0):Nat):Int)),(iz x7),(iz x88),(.lst a0),(iz (((List.length a0):Nat):Int)),(iz (((List.length a0):Nat):Int)),(.bool (decide ((((List.length a0):Nat):Int) < 3))),bf,(iz (((List.length a0):Nat):Int)),(.bool (decide ((((List.length a0):Nat):Int) > 8))),(.bool (decide ((((List.length a0):Nat):Int) > 8))),bf,(.lst a0),(.bool b0),bf,(iz (((List.length a0):Nat):Int)),(iz x7),bt,(iz x7),(iz x7),(iz x89),(.bool b90),(iz x91),v92,(iz x93),v94,(.agg [(iz x96),(iz x97)]),v98,(iz x99),v100,(.agg [(iz x102),(iz x103)]),(.bool b104),(.bool b105),v106,v107,v108,v109,v110,(.bool b111),v112,v31],[]⟩=E52_1 d a0 x7 k2N k2R b87:=by
 try dsimp only at hk2N
 try dsimp only at hk2R
 unfold r52E1; refine Eq.trans (pl_len (by rfl)) ?_; refine yt ySs ?_; refine yt yB ?_; refine yt ySs ?_; refine yt yI ?_; refine yt ySs ?_; refine yt yI ?_; refine yt yB ?_; refine yt yI ?_; refine yt yA ?_; refine yt yI ?_; refine yt yA ?_; refine yt yG ?_; (iterate 2 (refine yt yI ?_)); refine yt yA ?_; refine yt yI ?_; refine yt yA ?_; refine yt yG ?_; (iterate 2 (refine yt yI ?_)); (iterate 2 (refine yt yB ?_)); (iterate 5 (refine yt yA ?_)); refine yt yB ?_; refine yt yA ?_; refine yt yS ?_; refine Eq.trans (pl_sameH) ?_
 first | (simp only [hk2N,hk2R] <;> rfl) | rfl
noncomputable def L52_1 (d:Nat) (a0:List AV) (x7:Int) (k2N:Int→Ans) (k2R:Bool→Ans):Nat→Int→Ans
 | 0,_=>none
 | n+1,x37 =>
 cnd (decide (x37 < x7))
  (cnd (decide ((0:Int)≤x7))
  (C0.agg 2 a0[(Int.toNat x7)]? fun l57 =>
  C0.int .i64 l57[0]? fun x58 =>
  C0.int .i64 l57[1]? fun x59 =>
  cnd (decide ((0:Int)≤x37))
  (C0.agg 2 a0[(Int.toNat x37)]? fun l60 =>
  C0.int .i64 l60[0]? fun x61 =>
  C0.int .i64 l60[1]? fun x62 =>
  cnd (xor false ((x58 == x61) && ((x59 == x62) && true)))
  (E52_1 d a0 x7 k2N k2R false)
  (C0.bool (pcall M d 58 [(.lst a0),(iz x37),(iz x7)]) fun b63 =>
  cnd (!b63)
  (E52_1 d a0 x7 k2N k2R false)
  (L52_1 d a0 x7 k2N k2R n (IntKind.wrap .i64 (x37+1)))))
  (none))
  (none))
  (X52_1_0 d a0 x7 k2N k2R)
theorem L52_1_s (d:Nat) (a0:List AV) (x7:Int) (k2N:Int→Ans) (k2R:Bool→Ans) (n:Nat) (x37:Int):L52_1 d a0 x7 k2N k2R (n+1) x37=(cnd (decide (x37 < x7))
 (cnd (decide ((0:Int)≤x7))
 (C0.agg 2 a0[(Int.toNat x7)]? fun l57 =>
 C0.int .i64 l57[0]? fun x58 =>
 C0.int .i64 l57[1]? fun x59 =>
 cnd (decide ((0:Int)≤x37))
 (C0.agg 2 a0[(Int.toNat x37)]? fun l60 =>
 C0.int .i64 l60[0]? fun x61 =>
 C0.int .i64 l60[1]? fun x62 =>
 cnd (xor false ((x58 == x61) && ((x59 == x62) && true)))
 (E52_1 d a0 x7 k2N k2R false)
 (C0.bool (pcall M d 58 [(.lst a0),(iz x37),(iz x7)]) fun b63 =>
 cnd (!b63)
 (E52_1 d a0 x7 k2N k2R false)
 (L52_1 d a0 x7 k2N k2R n (IntKind.wrap .i64 (x37+1)))))
 (none))
 (none))
 (X52_1_0 d a0 x7 k2N k2R)):=by kernel_rfl
theorem it52_1 (d:Nat) (a0:List AV) (b0:Bool) (k2:Ex→St→Ans) (x7:Int) (v31:AV) (k2N:Int→Ans) (k2R:Bool→Ans) (hk2N:∀ (b4:Bool) (v5 v6:AV) (x7:Int) (v8 v9 v10 v11 v12 v13 v14 v15 v16 v17 v18 v19 v20 v21 v22 v23 v24 v25 v26 v27 v28 v29 v30 v31:AV),k2 .normal ⟨[(.lst a0),tz,(.bool b4),(iz (((List.length a0):Nat):Int)),v5,v6,(.lst a0),(iz (((List.length a0):Nat):Int)),(iz (((List.length a0):Nat):Int)),(.bool (decide ((((List.length a0):Nat):Int) < 3))),bf,(iz (((List.length a0):Nat):Int)),(.bool (decide ((((List.length a0):Nat):Int) > 8))),(.bool (decide ((((List.length a0):Nat):Int) > 8))),bf,(.lst a0),(.bool b0),bf,(iz (((List.length a0):Nat):Int)),(iz x7),v8,v9,v10,v11,v12,v13,v14,v15,v16,v17,v18,v19,v20,v21,v22,v23,v24,v25,v26,v27,v28,v29,v30,v31],[]⟩=k2N x7) (hk2R:∀ (b142:Bool) (x143 x144 x145:Int) (b146:Bool) (x147 x148 x149:Int) (b150:Bool) (x151:Int) (v152:AV) (x153:Int) (v154:AV) (x156 x157:Int) (v158:AV) (x159:Int) (v160:AV) (x162 x163:Int) (b164 b165:Bool) (v166 v167 v168 v169 v170:AV) (b171:Bool) (v172 v173:AV),k2 .ret ⟨[(.lst a0),tz,(.bool b142),(iz (((List.length a0):Nat):Int)),(iz x143),(iz x144),(.lst a0),(iz (((List.length a0):Nat):Int)),(iz (((List.length a0):Nat):Int)),(.bool (decide ((((List.length a0):Nat):Int) < 3))),bf,(iz (((List.length a0):Nat):Int)),(.bool (decide ((((List.length a0):Nat):Int) > 8))),(.bool (decide ((((List.length a0):Nat):Int) > 8))),bf,(.lst a0),(.bool b0),bf,(iz (((List.length a0):Nat):Int)),(iz x145),(.bool b146),(iz x147),(iz x148),(iz x149),(.bool b150),(iz x151),v152,(iz x153),v154,(.agg [(iz x156),(iz x157)]),v158,(iz x159),v160,(.agg [(iz x162),(iz x163)]),(.bool b164),(.bool b165),v166,v167,v168,v169,v170,(.bool b171),v172,v173],[]⟩=k2R b142):∀ (n:Nat) (b35:Bool) (v36:AV) (x37:Int) (v38 v39 v40 v41 v42 v43 v44 v45 v46 v47 v48 v49 v50 v51 v52 v53 v54 v55 v56:AV),C0.iter (r52R1 C0 d a0 b0 k2 x7 v31) n ⟨[(.lst a0),tz,(.bool b35),(iz (((List.length a0):Nat):Int)),(iz x7),v36,(.lst a0),(iz (((List.length a0):Nat):Int)),(iz (((List.length a0):Nat):Int)),(.bool (decide ((((List.length a0):Nat):Int) < 3))),bf,(iz (((List.length a0):Nat):Int)),(.bool (decide ((((List.length a0):Nat):Int) > 8))),(.bool (decide ((((List.length a0):Nat):Int) > 8))),bf,(.lst a0),(.bool b0),bf,(iz (((List.length a0):Nat):Int)),(iz x7),bt,(iz x7),(iz x7),(iz x37),v38,v39,v40,v41,v42,v43,v44,v45,v46,v47,v48,v49,v50,v51,v52,v53,v54,v55,v56,v31],[]⟩ [2] [r52X1_0 C0 d a0 b0 k2 x7 v31] (r52E1 C0 d a0 b0 k2 x7 v31)=L52_1 d a0 x7 k2N k2R n x37:=by
 generalize hR:r52R1 C0 d a0 b0 k2 x7 v31=R
 intro n
 induction n with
 | zero=>intros; rfl
 | succ n ih =>
   intro b35 v36 x37 v38 v39 v40 v41 v42 v43 v44 v45 v46 v47 v48 v49 v50 v51 v52 v53 v54 v55 v56
   simp only [it_ret] at ih
   rw [it_ret,xiter_s]
   refine Eq.trans (congrFun (congrFun hR.symm _) _) ?_
   unfold r52R1
   refine Eq.trans (pl_len (by rfl)) ?_; refine yt ySs ?_; refine yt yB ?_; refine yt ySs ?_; refine yt yA ?_; refine yt ySs ?_; refine yt yI ?_; (iterate 19 (refine yt yA ?_)); refine yt yS ?_; refine Eq.trans (pl_sameH) ?_
   simp only [kIter_n,kIter_x,kIter_r,kOut_x,kOut_r,xgo_hit,xgo_miss,ih,X52_1_0_ok d a0 b0 k2 x7 v31 k2N k2R hk2N hk2R,E52_1_ok d a0 b0 k2 x7 v31 k2N k2R hk2N hk2R]
   exact (L52_1_s d a0 x7 k2N k2R n x37).symm
noncomputable def X52_0_0 (d:Nat) (a0:List AV) :Ans :=
 some bt
theorem X52_0_0_ok (d:Nat) (a0:List AV) (b0 b114:Bool) (v115 v116:AV) (x117:Int) (b118:Bool) (v119 v120 v121 v122 v123 v124 v125 v126 v127 v128 v129 v130 v131 v132 v133 v134 v135 v136 v137 v138 v139 v140 v141:AV):r52X0_0 C0 d a0 b0 ⟨[(.lst a0),tz,(.bool b114),(iz (((List.length a0):Nat):Int)),v115,v116,(.lst a0),(iz (((List.length a0):Nat):Int)),(iz (((List.length a0):Nat):Int)),(.bool (decide ((((List.length a0):Nat):Int) < 3))),bf,(iz (((List.length a0):Nat):Int)),(.bool (decide ((((List.length a0):Nat):Int) > 8))),(.bool (decide ((((List.length a0):Nat):Int) > 8))),bf,(.lst a0),(.bool b0),bf,(iz (((List.length a0):Nat):Int)),(iz x117),(.bool b118),v119,v120,v121,v122,v123,v124,v125,v126,v127,v128,v129,v130,v131,v132,v133,v134,v135,v136,v137,v138,v139,v140,v141],[]⟩=X52_0_0 d a0 :=by
 unfold r52X0_0; refine Eq.trans (pl_len (by rfl)) ?_; refine yt ySs ?_; refine yt yB ?_; refine yt yS ?_; refine yt yAs ?_; refine yt ySs ?_; refine yt yI ?_; refine yt yB ?_; refine yt yAs ?_; refine Eq.trans (pl_sameH) ?_
 rfl
noncomputable def E52_0 (d:Nat) (a0:List AV) (b142:Bool):Ans :=
 some (.bool b142)
theorem E52_0_ok (d:Nat) (a0:List AV) (b0 b142:Bool) (x143 x144 x145:Int) (b146:Bool) (x147 x148 x149:Int) (b150:Bool) (x151:Int) (v152:AV) (x153:Int) (v154:AV) (x156 x157:Int) (v158:AV) (x159:Int) (v160:AV) (x162 x163:Int) (b164 b165:Bool) (v166 v167 v168 v169 v170:AV) (b171:Bool) (v172 v173:AV):r52E0 C0 d a0 b0 ⟨[(.lst a0),tz,(.bool b142),(iz (((List.length a0):Nat):Int)),(iz x143),(iz x144),(.lst a0),(iz (((List.length a0):Nat):Int)),(iz (((List.length a0):Nat):Int)),(.bool (decide ((((List.length a0):Nat):Int) < 3))),bf,(iz (((List.length a0):Nat):Int)),(.bool (decide ((((List.length a0):Nat):Int) > 8))),(.bool (decide ((((List.length a0):Nat):Int) > 8))),bf,(.lst a0),(.bool b0),bf,(iz (((List.length a0):Nat):Int)),(iz x145),(.bool b146),(iz x147),(iz x148),(iz x149),(.bool b150),(iz x151),v152,(iz x153),v154,(.agg [(iz x156),(iz x157)]),v158,(iz x159),v160,(.agg [(iz x162),(iz x163)]),(.bool b164),(.bool b165),v166,v167,v168,v169,v170,(.bool b171),v172,v173],[]⟩=E52_0 d a0 b142:=by
 unfold r52E0; refine Eq.trans (pl_len (by rfl)) ?_; refine yt ySs ?_; refine yt yB ?_; refine yt yS ?_; (iterate 2 (refine yt yI ?_)); refine yt ySs ?_; refine yt yI ?_; refine yt yB ?_; (iterate 3 (refine yt yI ?_)); refine yt yB ?_; refine yt yI ?_; refine yt yA ?_; refine yt yI ?_; refine yt yA ?_; refine yt yG ?_; (iterate 2 (refine yt yI ?_)); refine yt yA ?_; refine yt yI ?_; refine yt yA ?_; refine yt yG ?_; (iterate 2 (refine yt yI ?_)); (iterate 2 (refine yt yB ?_)); refine yt yAs ?_; refine yt yB ?_; refine yt yAs ?_; refine Eq.trans (pl_sameH) ?_
 rfl
noncomputable def L52_0 (d:Nat) (a0:List AV):Nat→Int→Ans
 | 0,_=>none
 | n+1,x7 =>
 cnd (decide (x7 < (((List.length a0):Nat):Int)))
  (L52_1 d a0 x7 (fun x7=>L52_0 d a0 n x7) (fun b142=>E52_0 d a0 b142) 10000000000000000000 0)
  (X52_0_0 d a0)
theorem L52_0_s (d:Nat) (a0:List AV) (n:Nat) (x7:Int):L52_0 d a0 (n+1) x7=(cnd (decide (x7 < (((List.length a0):Nat):Int)))
 (L52_1 d a0 x7 (fun x7=>L52_0 d a0 n x7) (fun b142=>E52_0 d a0 b142) 10000000000000000000 0)
 (X52_0_0 d a0)):=by kernel_rfl
theorem it52_0 (d:Nat) (a0:List AV) (b0:Bool)  :∀ (n:Nat) (b4:Bool) (v5 v6:AV) (x7:Int) (v8 v9 v10 v11 v12 v13 v14 v15 v16 v17 v18 v19 v20 v21 v22 v23 v24 v25 v26 v27 v28 v29 v30 v31:AV),C0.iter (r52R0 C0 d a0 b0) n ⟨[(.lst a0),tz,(.bool b4),(iz (((List.length a0):Nat):Int)),v5,v6,(.lst a0),(iz (((List.length a0):Nat):Int)),(iz (((List.length a0):Nat):Int)),(.bool (decide ((((List.length a0):Nat):Int) < 3))),bf,(iz (((List.length a0):Nat):Int)),(.bool (decide ((((List.length a0):Nat):Int) > 8))),(.bool (decide ((((List.length a0):Nat):Int) > 8))),bf,(.lst a0),(.bool b0),bf,(iz (((List.length a0):Nat):Int)),(iz x7),v8,v9,v10,v11,v12,v13,v14,v15,v16,v17,v18,v19,v20,v21,v22,v23,v24,v25,v26,v27,v28,v29,v30,v31],[]⟩ [0] [r52X0_0 C0 d a0 b0] (r52E0 C0 d a0 b0)=L52_0 d a0 n x7:=by
 generalize hR:r52R0 C0 d a0 b0=R
 intro n
 induction n with
 | zero=>intros; rfl
 | succ n ih =>
   intro b4 v5 v6 x7 v8 v9 v10 v11 v12 v13 v14 v15 v16 v17 v18 v19 v20 v21 v22 v23 v24 v25 v26 v27 v28 v29 v30 v31
   simp only [it_ret] at ih
   rw [it_ret,xiter_s]
   refine Eq.trans (congrFun (congrFun hR.symm _) _) ?_
   unfold r52R0
   refine Eq.trans (pl_len (by rfl)) ?_; refine yt ySs ?_; refine yt yB ?_; refine yt yS ?_; (iterate 2 (refine yt yA ?_)); refine yt ySs ?_; refine yt yI ?_; (iterate 24 (refine yt yA ?_)); refine Eq.trans (pl_sameH) ?_
   have I0:=it52_1 d a0 b0 (kIter R n (kOut [0] [r52X0_0 C0 d a0 b0] (r52E0 C0 d a0 b0))) x7 v31 (fun x7=>L52_0 d a0 n x7) (fun b142=>E52_0 d a0 b142) (fun b4 v5 v6 x7 v8 v9 v10 v11 v12 v13 v14 v15 v16 v17 v18 v19 v20 v21 v22 v23 v24 v25 v26 v27 v28 v29 v30 v31=>ih b4 v5 v6 x7 v8 v9 v10 v11 v12 v13 v14 v15 v16 v17 v18 v19 v20 v21 v22 v23 v24 v25 v26 v27 v28 v29 v30 v31) (fun b142 x143 x144 x145 b146 x147 x148 x149 b150 x151 v152 x153 v154 x156 x157 v158 x159 v160 x162 x163 b164 b165 v166 v167 v168 v169 v170 b171 v172 v173=>E52_0_ok d a0 b0   b142 x143 x144 x145 b146 x147 x148 x149 b150 x151 v152 x153 v154 x156 x157 v158 x159 v160 x162 x163 b164 b165 v166 v167 v168 v169 v170 b171 v172 v173)
   try dsimp only at I0
   simp only [kIter_n,kIter_x,kIter_r,kOut_x,kOut_r,xgo_hit,xgo_miss,ih,I0,X52_0_0_ok d a0 b0  ,E52_0_ok d a0 b0  ]
   exact (L52_0_s d a0 n x7).symm
theorem q52 (d:Nat) (a0:List AV):xcall C0 M unr d 52 [(.lst a0)] =
 cnd (decide ((((List.length a0):Nat):Int) < 3))
  (some bf)
  (cnd (decide ((((List.length a0):Nat):Int) > 8))
  (some bf)
  (C0.bool (pcall M d 53 [(.lst a0),(.fn 56 [] [])]) fun b0 =>
  cnd b0
  (some bf)
  (L52_0 d a0 10000000000000000000 0))):=(r52 C0 d a0).trans (by simp only [it52_0])
noncomputable def X59f56_0_0 (d:Nat) (a0:List AV) :Ans :=
 some (iz (-1))
theorem X59f56_0_0_ok (d:Nat) (a0:List AV) (x21:Int) (v22:AV) (x23:Int) (v24 v25 v26 v27 v28 v29 v30 v31 v32 v33:AV):r59f56X0_0 C0 d a0 ⟨[(.lst a0),(.fn 56 [] []),tz,tz,(iz x21),v22,(.lst a0),(iz (((List.length a0):Nat):Int)),(iz x23),v24,v25,v26,v27,v28,v29,v30,v31,v32,v33],[]⟩=X59f56_0_0 d a0 :=by
 unfold r59f56X0_0; refine Eq.trans (pl_len (by rfl)) ?_; refine yt ySs ?_; refine yt yI ?_; refine yt yA ?_; refine yt ySs ?_; refine yt yI ?_; refine yt yAs ?_; refine Eq.trans (pl_sameH) ?_
 rfl
noncomputable def E59f56_0 (d:Nat) (a0:List AV) (x34:Int):Ans :=
 some (iz x34)
theorem E59f56_0_ok (d:Nat) (a0:List AV) (x34 x35 x36:Int) (v37:AV) (x38:Int) (v39 v40:AV) (x41:Int) (v42:AV) (x44 x45:Int) (b46:Bool) (x47:Int) (v48:AV):r59f56E0 C0 d a0 ⟨[(.lst a0),(.fn 56 [] []),tz,tz,(iz x34),(iz x35),(.lst a0),(iz (((List.length a0):Nat):Int)),(iz x36),v37,(iz x38),v39,v40,(iz x41),v42,(.agg [(iz x44),(iz x45)]),(.bool b46),(iz x47),v48],[]⟩=E59f56_0 d a0 x34:=by
 unfold r59f56E0; refine Eq.trans (pl_len (by rfl)) ?_; refine yt ySs ?_; (iterate 2 (refine yt yI ?_)); refine yt ySs ?_; refine yt yI ?_; refine yt yA ?_; refine yt yI ?_; refine yt yAs ?_; refine yt yI ?_; refine yt yA ?_; refine yt yG ?_; (iterate 2 (refine yt yI ?_)); refine yt yB ?_; refine yt yI ?_; refine yt yA ?_; refine Eq.trans (pl_sameH) ?_
 rfl
noncomputable def L59f56_0 (d:Nat) (a0:List AV):Nat→Int→Ans
 | 0,_=>none
 | n+1,x5 =>
 cnd (decide (x5 < (((List.length a0):Nat):Int)))
  (cnd (decide ((0:Int)≤x5))
  (C0.agg 2 a0[(Int.toNat x5)]? fun l16 =>
  C0.int .i64 l16[0]? fun x17 =>
  C0.int .i64 l16[1]? fun x18 =>
  C0.bool (pcall M d 56 [(.agg [(iz x17),(iz x18)])]) fun b19 =>
  cnd b19
  (E59f56_0 d a0 x5)
  (L59f56_0 d a0 n (IntKind.wrap .i64 (x5+1))))
  (none))
  (X59f56_0_0 d a0)
theorem L59f56_0_s (d:Nat) (a0:List AV) (n:Nat) (x5:Int):L59f56_0 d a0 (n+1) x5=(cnd (decide (x5 < (((List.length a0):Nat):Int)))
 (cnd (decide ((0:Int)≤x5))
 (C0.agg 2 a0[(Int.toNat x5)]? fun l16 =>
 C0.int .i64 l16[0]? fun x17 =>
 C0.int .i64 l16[1]? fun x18 =>
 C0.bool (pcall M d 56 [(.agg [(iz x17),(iz x18)])]) fun b19 =>
 cnd b19
 (E59f56_0 d a0 x5)
 (L59f56_0 d a0 n (IntKind.wrap .i64 (x5+1))))
 (none))
 (X59f56_0_0 d a0)):=by kernel_rfl
theorem it59f56_0 (d:Nat) (a0:List AV)  :∀ (n:Nat) (x3:Int) (v4:AV) (x5:Int) (v6 v7 v8 v9 v10 v11 v12 v13 v14 v15:AV),C0.iter (r59f56R0 C0 d a0) n ⟨[(.lst a0),(.fn 56 [] []),tz,tz,(iz x3),v4,(.lst a0),(iz (((List.length a0):Nat):Int)),(iz x5),v6,v7,v8,v9,v10,v11,v12,v13,v14,v15],[]⟩ [0] [r59f56X0_0 C0 d a0] (r59f56E0 C0 d a0)=L59f56_0 d a0 n x5:=by
 generalize hR:r59f56R0 C0 d a0=R
 intro n
 induction n with
 | zero=>intros; rfl
 | succ n ih =>
   intro x3 v4 x5 v6 v7 v8 v9 v10 v11 v12 v13 v14 v15
   simp only [it_ret] at ih
   rw [it_ret,xiter_s]
   refine Eq.trans (congrFun (congrFun hR.symm _) _) ?_
   unfold r59f56R0
   refine Eq.trans (pl_len (by rfl)) ?_; refine yt ySs ?_; refine yt yI ?_; refine yt yA ?_; refine yt ySs ?_; refine yt yI ?_; (iterate 10 (refine yt yA ?_)); refine Eq.trans (pl_sameH) ?_
   simp only [kIter_n,kIter_x,kIter_r,kOut_x,kOut_r,xgo_hit,xgo_miss,ih,X59f56_0_0_ok d a0  ,E59f56_0_ok d a0  ]
   exact (L59f56_0_s d a0 n x5).symm
theorem q59f56 (d:Nat) (a0:List AV) (a1:AV):xcall C0 M unr d 59 [(.lst a0),(.fn 56 [] [])] =
 L59f56_0 d a0 10000000000000000000 0:=(r59f56 C0 d a0 a1).trans (by simp only [it59f56_0])
noncomputable def X59f54_0_0 (d:Nat) (a0:List AV) :Ans :=
 some (iz (-1))
theorem X59f54_0_0_ok (d:Nat) (a0:List AV) (x21:Int) (v22:AV) (x23:Int) (v24 v25 v26 v27 v28 v29 v30 v31 v32 v33:AV):r59f54X0_0 C0 d a0 ⟨[(.lst a0),(.fn 54 [] []),tz,tz,(iz x21),v22,(.lst a0),(iz (((List.length a0):Nat):Int)),(iz x23),v24,v25,v26,v27,v28,v29,v30,v31,v32,v33],[]⟩=X59f54_0_0 d a0 :=by
 unfold r59f54X0_0; refine Eq.trans (pl_len (by rfl)) ?_; refine yt ySs ?_; refine yt yI ?_; refine yt yA ?_; refine yt ySs ?_; refine yt yI ?_; refine yt yAs ?_; refine Eq.trans (pl_sameH) ?_
 rfl
noncomputable def E59f54_0 (d:Nat) (a0:List AV) (x34:Int):Ans :=
 some (iz x34)
theorem E59f54_0_ok (d:Nat) (a0:List AV) (x34 x35 x36:Int) (v37:AV) (x38:Int) (v39 v40:AV) (x41:Int) (v42:AV) (x44 x45:Int) (b46:Bool) (x47:Int) (v48:AV):r59f54E0 C0 d a0 ⟨[(.lst a0),(.fn 54 [] []),tz,tz,(iz x34),(iz x35),(.lst a0),(iz (((List.length a0):Nat):Int)),(iz x36),v37,(iz x38),v39,v40,(iz x41),v42,(.agg [(iz x44),(iz x45)]),(.bool b46),(iz x47),v48],[]⟩=E59f54_0 d a0 x34:=by
 unfold r59f54E0; refine Eq.trans (pl_len (by rfl)) ?_; refine yt ySs ?_; (iterate 2 (refine yt yI ?_)); refine yt ySs ?_; refine yt yI ?_; refine yt yA ?_; refine yt yI ?_; refine yt yAs ?_; refine yt yI ?_; refine yt yA ?_; refine yt yG ?_; (iterate 2 (refine yt yI ?_)); refine yt yB ?_; refine yt yI ?_; refine yt yA ?_; refine Eq.trans (pl_sameH) ?_
 rfl
noncomputable def L59f54_0 (d:Nat) (a0:List AV):Nat→Int→Ans
 | 0,_=>none
 | n+1,x5 =>
 cnd (decide (x5 < (((List.length a0):Nat):Int)))
  (cnd (decide ((0:Int)≤x5))
  (C0.agg 2 a0[(Int.toNat x5)]? fun l16 =>
  C0.int .i64 l16[0]? fun x17 =>
  C0.int .i64 l16[1]? fun x18 =>
  C0.bool (pcall M d 54 [(.agg [(iz x17),(iz x18)])]) fun b19 =>
  cnd b19
  (E59f54_0 d a0 x5)
  (L59f54_0 d a0 n (IntKind.wrap .i64 (x5+1))))
  (none))
  (X59f54_0_0 d a0)
theorem L59f54_0_s (d:Nat) (a0:List AV) (n:Nat) (x5:Int):L59f54_0 d a0 (n+1) x5=(cnd (decide (x5 < (((List.length a0):Nat):Int)))
 (cnd (decide ((0:Int)≤x5))
 (C0.agg 2 a0[(Int.toNat x5)]? fun l16 =>
 C0.int .i64 l16[0]? fun x17 =>
 C0.int .i64 l16[1]? fun x18 =>
 C0.bool (pcall M d 54 [(.agg [(iz x17),(iz x18)])]) fun b19 =>
 cnd b19
 (E59f54_0 d a0 x5)
 (L59f54_0 d a0 n (IntKind.wrap .i64 (x5+1))))
 (none))
 (X59f54_0_0 d a0)):=by kernel_rfl
theorem it59f54_0 (d:Nat) (a0:List AV)  :∀ (n:Nat) (x3:Int) (v4:AV) (x5:Int) (v6 v7 v8 v9 v10 v11 v12 v13 v14 v15:AV),C0.iter (r59f54R0 C0 d a0) n ⟨[(.lst a0),(.fn 54 [] []),tz,tz,(iz x3),v4,(.lst a0),(iz (((List.length a0):Nat):Int)),(iz x5),v6,v7,v8,v9,v10,v11,v12,v13,v14,v15],[]⟩ [0] [r59f54X0_0 C0 d a0] (r59f54E0 C0 d a0)=L59f54_0 d a0 n x5:=by
 generalize hR:r59f54R0 C0 d a0=R
 intro n
 induction n with
 | zero=>intros; rfl
 | succ n ih =>
   intro x3 v4 x5 v6 v7 v8 v9 v10 v11 v12 v13 v14 v15
   simp only [it_ret] at ih
   rw [it_ret,xiter_s]
   refine Eq.trans (congrFun (congrFun hR.symm _) _) ?_
   unfold r59f54R0
   refine Eq.trans (pl_len (by rfl)) ?_; refine yt ySs ?_; refine yt yI ?_; refine yt yA ?_; refine yt ySs ?_; refine yt yI ?_; (iterate 10 (refine yt yA ?_)); refine Eq.trans (pl_sameH) ?_
   simp only [kIter_n,kIter_x,kIter_r,kOut_x,kOut_r,xgo_hit,xgo_miss,ih,X59f54_0_0_ok d a0  ,E59f54_0_ok d a0  ]
   exact (L59f54_0_s d a0 n x5).symm
theorem q59f54 (d:Nat) (a0:List AV) (a1:AV):xcall C0 M unr d 59 [(.lst a0),(.fn 54 [] [])] =
 L59f54_0 d a0 10000000000000000000 0:=(r59f54 C0 d a0 a1).trans (by simp only [it59f54_0])
end Go.Proofs.Ytbmedgpiphibaaa.AE

namespace Go.Proofs.Ytbmedgpiphibaaa.AE
set_option linter.unusedVariables false
set_option linter.unusedSimpArgs false
set_option linter.constructorNameAsVariable false
open Go Go.Proofs.Ytbmedgpiphibaaa.Geo
def vv (ps:List Pt) (i:Nat):Pt:=ps.getD i (0,0)
theorem vv_at {ps:List Pt} {i:Nat} (h:i < ps.length):(ps.map pt)[((i:Nat):Int).toNat]?=some (pt (vv ps i)):=by
 simp [vv,List.getD_eq_getElem?_getD,h]
theorem pmap_len (ps:List Pt):((ps.map pt).length:Nat)=ps.length:=by simp
def nx (ps:List Pt) (i:Nat):Nat:=(i+1) % ps.length
theorem nx_lt {ps:List Pt} {i:Nat} (h:i < ps.length):nx ps i < ps.length:=Nat.mod_lt _ (by omega)
theorem nx_int {ps:List Pt} {i:Nat} (h:i < ps.length) (hl:ps.length≤140737488355328):Int.tmod (IntKind.wrap .i64 ((i:Int)+1)) (((ps.map pt).length:Nat):Int)=((nx ps i:Nat):Int):=by
 rw [pmap_len,i64_small (by omega) (by omega),Int.tmod_eq_emod_of_nonneg (by omega)]
 simp [nx]
theorem s63 (d:Nat) (ps:List Pt) (i:Nat) (h:i < ps.length) (hl:ps.length≤140737488355328):pcall M (d+1) 63 [.lst (ps.map pt),.int .i64 i]=some (.tup [pt (vv ps i),pt (vv ps (nx ps i))]):=told (r63 C0 d _ _) (by
 rw [decide_eq_true (by omega),cnd_t,vv_at h]
 refine Eq.trans (pl_agg (by rfl) (by rfl)) ?_; refine Eq.trans (pl_int (by rfl)) ?_; refine Eq.trans (pl_int (by rfl)) ?_
 rw [decide_eq_false (by rw [pmap_len]; omega),cnd_f,nx_int h hl,decide_eq_true (by omega),cnd_t,vv_at (nx_lt h)]
 refine Eq.trans (pl_agg (by rfl) (by rfl)) ?_; refine Eq.trans (pl_int (by rfl)) ?_; refine Eq.trans (pl_int (by rfl)) ?_
 rfl)
theorem s49 (d:Nat) (ps:List Pt) (i:Nat) (h:i < ps.length) (hl:ps.length≤140737488355328):pcall M (d+1) 49 [.lst (ps.map pt),.int .i64 i]=some (pt (vv ps (nx ps i))):=told (r49 C0 d _ _) (by
 rw [decide_eq_false (by rw [pmap_len]; omega),cnd_f,nx_int h hl,decide_eq_true (by omega),cnd_t,vv_at (nx_lt h)]
 refine Eq.trans (pl_agg (by rfl) (by rfl)) ?_; refine Eq.trans (pl_int (by rfl)) ?_; refine Eq.trans (pl_int (by rfl)) ?_
 rfl)
def apartB (ps:List Pt) (k i:Nat):Bool :=
 if nx ps k=i then !onB (vv ps (nx ps i)) (vv ps k) (vv ps (nx ps k)) && !onB (vv ps k) (vv ps i) (vv ps (nx ps i))
 else if nx ps i=k then !onB (vv ps i) (vv ps k) (vv ps (nx ps k)) && !onB (vv ps (nx ps k)) (vv ps i) (vv ps (nx ps i))
 else !meetB (vv ps k) (vv ps (nx ps k)) (vv ps i) (vv ps (nx ps i))
theorem cast_beq (a b:Nat):(((a:Nat):Int) == ((b:Nat):Int))=decide (a=b):=by
 by_cases h:a=b
 ·subst h; simp
 ·rw [decide_eq_false h]; simp; omega
theorem s58 (d:Nat) (ps:List Pt) (k i:Nat) (hk:k < ps.length) (hi:i < ps.length) (hl:ps.length≤140737488355328) :
 pcall M (d+10) 58 [.lst (ps.map pt),.int .i64 k,.int .i64 i]=some (.bool (apartB ps k i)):=told (r58 C0 (d+9) _ _ _) (by
 refine Eq.trans (pl_tup (s63 (d+8) ps k hk hl) (by rfl)) ?_
 refine Eq.trans (pl_agg (by rfl) (by rfl)) ?_; refine Eq.trans (pl_int (by rfl)) ?_; refine Eq.trans (pl_int (by rfl)) ?_; refine Eq.trans (pl_agg (by rfl) (by rfl)) ?_; refine Eq.trans (pl_int (by rfl)) ?_; refine Eq.trans (pl_int (by rfl)) ?_
 refine Eq.trans (pl_tup (s63 (d+8) ps i hi hl) (by rfl)) ?_
 refine Eq.trans (pl_agg (by rfl) (by rfl)) ?_; refine Eq.trans (pl_int (by rfl)) ?_; refine Eq.trans (pl_int (by rfl)) ?_; refine Eq.trans (pl_agg (by rfl) (by rfl)) ?_; refine Eq.trans (pl_int (by rfl)) ?_; refine Eq.trans (pl_int (by rfl)) ?_
 rw [decide_eq_false (by rw [pmap_len]; omega),cnd_f,cnd_f,nx_int hk hl,nx_int hi hl,cast_beq,cast_beq]
 have o:=fun p q r=>s64 (d+1) p q r
 have m:=s65 d (vv ps k) (vv ps (nx ps k)) (vv ps i) (vv ps (nx ps i))
 simp only [pt] at o m
 unfold apartB
 by_cases h1:nx ps k=i
 ·rw [decide_eq_true h1,cnd_t,if_pos h1,o,o,C0_bool,C0_bool]
  cases onB (vv ps (nx ps i)) (vv ps k) (vv ps (nx ps k)) <;> rfl
 ·rw [decide_eq_false h1,cnd_f,if_neg h1]
  by_cases h2:nx ps i=k
  ·rw [decide_eq_true h2,cnd_t,if_pos h2,o,o,C0_bool,C0_bool]
   cases onB (vv ps i) (vv ps k) (vv ps (nx ps k)) <;> rfl
  ·rw [decide_eq_false h2,cnd_f,if_neg h2,m,C0_bool])
def pairB (ps:List Pt) (k i:Nat):Bool:=!decide (vv ps i=vv ps k) && apartB ps k i
def upAll (f:Nat→Bool):Nat→Nat→Bool
 | 0,_=>true
 | m+1,i=>f i && upAll f m (i+1)
theorem upAll_iff (f:Nat→Bool):∀ (m i:Nat),upAll f m i=true ↔ ∀ j,i≤j→j < i+m→f j=true
 | 0,i=>by simp only [upAll]; exact ⟨fun _ j h1 h2=>by omega,fun _=>trivial⟩
 | m+1,i=>by
   simp only [upAll,Bool.and_eq_true,upAll_iff f m (i+1)]
   constructor
   ·rintro ⟨h,h'⟩ j h1 h2
    by_cases hj:j=i
    ·subst hj; exact h
    ·exact h' j (by omega) (by omega)
   ·intro h
    exact ⟨h i (Nat.le_refl _) (by omega),fun j h1 h2=>h j (by omega) (by omega)⟩
theorem pt_beq (p q:Pt):(xor false ((p.1 == q.1) && ((p.2 == q.2) && true)))=decide (p=q):=by
 rw [Bool.false_xor,Bool.and_true,Bool.eq_iff_iff,Bool.and_eq_true,beq_iff_eq,beq_iff_eq,decide_eq_true_iff]
 exact ⟨fun h=>Prod.ext h.1 h.2,fun h=>by rw [h]; exact ⟨rfl,rfl⟩⟩
theorem simple1 (d:Nat) (ps:List Pt) (i:Nat) (hi:i < ps.length) (hl:ps.length≤140737488355328) (kN:Int→Ans) (kR:Bool→Ans):∀ (m k f:Nat),k+m=i→m < f →
 L52_1 (d+10) (ps.map pt) (i:Nat) kN kR f (k:Nat)=bif upAll (fun k=>pairB ps k i) m k then kN ((i+1:Nat):Int) else kR false:=by
 intro m
 induction m with
 | zero =>
   intro k f hk hf
   obtain ⟨f,rfl⟩:∃ g,f=g+1:=⟨f - 1,by omega⟩
   rw [L52_1,decide_eq_false (by omega),cnd_f,X52_1_0,i64_small (by omega) (by omega)]; rfl
 | succ m ih =>
   intro k f hk hf
   obtain ⟨f,rfl⟩:∃ g,f=g+1:=⟨f - 1,by omega⟩
   rw [L52_1,decide_eq_true (by omega),cnd_t,decide_eq_true (by omega),cnd_t,vv_at hi]
   refine Eq.trans (pl_agg (by rfl) (by rfl)) ?_; refine Eq.trans (pl_int (by rfl)) ?_; refine Eq.trans (pl_int (by rfl)) ?_
   rw [decide_eq_true (by omega),cnd_t,vv_at (show k < ps.length by omega)]
   refine Eq.trans (pl_agg (by rfl) (by rfl)) ?_; refine Eq.trans (pl_int (by rfl)) ?_; refine Eq.trans (pl_int (by rfl)) ?_
   rw [pt_beq,s58 d ps k i (by omega) hi hl]
   simp only [upAll,pairB]
   by_cases he:vv ps i=vv ps k
   ·rw [decide_eq_true he,cnd_t]; rfl
   ·rw [decide_eq_false he,cnd_f,C0_bool]
    cases apartB ps k i
    ·rfl
    ·refine Eq.trans (pl_f (by rfl)) ?_
     rw [show IntKind.wrap .i64 ((k:Int)+1)=((k+1:Nat):Int) by rw [i64_small (by omega) (by omega)]; rfl,ih (k+1) f (by omega) (by omega)]
     simp only [Bool.not_false,Bool.true_and]
     rfl
theorem simple0 (d:Nat) (ps:List Pt) (hl:ps.length≤140737488355328):∀ (m i f:Nat),i+m=ps.length→m < f →
 L52_0 (d+10) (ps.map pt) f (i:Nat)=some (.bool (upAll (fun i=>upAll (fun k=>pairB ps k i) i 0) m i)):=by
 intro m
 induction m with
 | zero =>
   intro i f hk hf
   obtain ⟨f,rfl⟩:∃ g,f=g+1:=⟨f - 1,by omega⟩
   rw [L52_0,decide_eq_false (by rw [pmap_len]; omega),cnd_f]; rfl
 | succ m ih =>
   intro i f hk hf
   obtain ⟨f,rfl⟩:∃ g,f=g+1:=⟨f - 1,by omega⟩
   rw [L52_0,decide_eq_true (by rw [pmap_len]; omega),cnd_t]
   refine (simple1 d ps i (by omega) hl _ _ i 0 _ (by omega) (by omega)).trans ?_
   rw [ih (i+1) f (by omega) (by omega)]
   simp only [upAll]
   cases upAll (fun k=>pairB ps k i) i 0 <;> rfl
theorem pairs_two (g:Nat→Nat→Bool) (n:Nat):upAll (fun i=>upAll (fun k=>g k i) i 0) n 0=upAll (fun k=>upAll (fun i=>g k i) (n - k - 1) (k+1)) n 0:=by
 rw [Bool.eq_iff_iff]
 simp only [upAll_iff]
 constructor
 ·intro h k _ h2 i h3 h4; exact h i (by omega) (by omega) k (by omega) (by omega)
 ·intro h i _ h2 k h3 h4; exact h k (by omega) (by omega) i (by omega) (by omega)
def fiG (g:Pt→Bool):List Pt→Int→Int
 | [],_=>-1
 | p::l,i=>bif g p then i else fiG g l (i+1)
theorem fiG_any (g:Pt→Bool) (ps:List Pt):∀ i:Int,0≤i→decide (fiG g ps i ≥ 0)=ps.any g:=by
 induction ps with
 | nil=>intro i hi; simp [fiG]
 | cons p l ih =>
   intro i hi
   have h:=ih (i+1) (by omega)
   have e:∀ b:Bool,decide ((bif b then i else fiG g l (i+1)) ≥ 0)=(b || l.any g):=fun b=>by
    match b with
    | false=>exact h
    | true=>exact decide_eq_true hi
   exact e (g p)
theorem s59f56 (d:Nat) (g:Pt→Bool) (ps:List Pt) (hl:ps.length≤140737488355328) (hg:∀ p ∈ ps,pcall M d 56 [pt p]=some (.bool (g p))):∀ (l2:List Pt) (i f:Nat),ps.drop i=l2→l2.length < f →
 L59f56_0 d (ps.map pt) f (i:Nat)=some (.int .i64 (fiG g l2 (i:Nat))):=by
 intro l2
 induction l2 with
 | nil =>
   intro i f hd hf
   obtain ⟨f,rfl⟩:∃ m,f=m+1:=⟨f - 1,by omega⟩
   have:ps.length≤i:=List.drop_eq_nil_iff.mp hd
   rw [L59f56_0,decide_eq_false (by rw [pmap_len]; omega),cnd_f]; rfl
 | cons p l2 ih =>
   intro i f hd hf
   obtain ⟨f,rfl⟩:∃ m,f=m+1:=⟨f - 1,by simp at hf; omega⟩
   have hi:i < ps.length:=by
    rcases Nat.lt_or_ge i ps.length with h | h
    ·exact h
    ·rw [List.drop_eq_nil_of_le h] at hd; cases hd
   have hp:ps[i]=p:=by have:=List.drop_eq_getElem_cons hi; rw [hd] at this; exact (List.cons.inj this).1.symm
   have hd2:ps.drop (i+1)=l2:=by have:=List.drop_eq_getElem_cons hi; rw [hd] at this; exact (List.cons.inj this).2.symm
   have hg':=hg ps[i] (List.getElem_mem _)
   simp only [pt] at hg'
   rw [L59f56_0,decide_eq_true (by rw [pmap_len]; omega),cnd_t,decide_eq_true (by omega),cnd_t,pts_at hi]
   refine Eq.trans (pl_agg (by rfl) (by rfl)) ?_; refine Eq.trans (pl_int (by rfl)) ?_; refine Eq.trans (pl_int (by rfl)) ?_
   rw [hg',C0_bool,hp]
   simp only [fiG]
   cases g p
   ·refine Eq.trans (pl_f (by rfl)) ?_
    rw [show IntKind.wrap .i64 ((i:Int)+1)=((i+1:Nat):Int) by rw [IntKind.wrap_i64]; omega]
    exact (ih (i+1) f hd2 (by simp at hf; omega)).trans (by simp)
   ·rfl
theorem s53f56 (d:Nat) (g:Pt→Bool) (ps:List Pt) (hl:ps.length≤140737488355328) (hg:∀ p ∈ ps,pcall M d 56 [pt p]=some (.bool (g p))) :
 pcall M (d+2) 53 [.lst (ps.map pt),.fn 56 [] []]=some (.bool (ps.any g)):=told (r53f56 C0 (d+1) _ .nilp) (by
 have h:pcall M (d+1) 59 [.lst (ps.map pt),.fn 56 [] []]=some (.int .i64 (fiG g ps 0)) :=
  told (q59f56 d (ps.map pt) .nilp) (s59f56 d g ps hl hg ps 0 _ rfl (by omega))
 rw [h,C0_int,fiG_any g ps 0 (by decide)])
theorem s59f54 (d:Nat) (g:Pt→Bool) (ps:List Pt) (hl:ps.length≤140737488355328) (hg:∀ p ∈ ps,pcall M d 54 [pt p]=some (.bool (g p))):∀ (l2:List Pt) (i f:Nat),ps.drop i=l2→l2.length < f →
 L59f54_0 d (ps.map pt) f (i:Nat)=some (.int .i64 (fiG g l2 (i:Nat))):=by
 intro l2
 induction l2 with
 | nil =>
   intro i f hd hf
   obtain ⟨f,rfl⟩:∃ m,f=m+1:=⟨f - 1,by omega⟩
   have:ps.length≤i:=List.drop_eq_nil_iff.mp hd
   rw [L59f54_0,decide_eq_false (by rw [pmap_len]; omega),cnd_f]; rfl
 | cons p l2 ih =>
   intro i f hd hf
   obtain ⟨f,rfl⟩:∃ m,f=m+1:=⟨f - 1,by simp at hf; omega⟩
   have hi:i < ps.length:=by
    rcases Nat.lt_or_ge i ps.length with h | h
    ·exact h
    ·rw [List.drop_eq_nil_of_le h] at hd; cases hd
   have hp:ps[i]=p:=by have:=List.drop_eq_getElem_cons hi; rw [hd] at this; exact (List.cons.inj this).1.symm
   have hd2:ps.drop (i+1)=l2:=by have:=List.drop_eq_getElem_cons hi; rw [hd] at this; exact (List.cons.inj this).2.symm
   have hg':=hg ps[i] (List.getElem_mem _)
   simp only [pt] at hg'
   rw [L59f54_0,decide_eq_true (by rw [pmap_len]; omega),cnd_t,decide_eq_true (by omega),cnd_t,pts_at hi]
   refine Eq.trans (pl_agg (by rfl) (by rfl)) ?_; refine Eq.trans (pl_int (by rfl)) ?_; refine Eq.trans (pl_int (by rfl)) ?_
   rw [hg',C0_bool,hp]
   simp only [fiG]
   cases g p
   ·refine Eq.trans (pl_f (by rfl)) ?_
    rw [show IntKind.wrap .i64 ((i:Int)+1)=((i+1:Nat):Int) by rw [IntKind.wrap_i64]; omega]
    exact (ih (i+1) f hd2 (by simp at hf; omega)).trans (by simp)
   ·rfl
theorem s53f54 (d:Nat) (g:Pt→Bool) (ps:List Pt) (hl:ps.length≤140737488355328) (hg:∀ p ∈ ps,pcall M d 54 [pt p]=some (.bool (g p))) :
 pcall M (d+2) 53 [.lst (ps.map pt),.fn 54 [] []]=some (.bool (ps.any g)):=told (r53f54 C0 (d+1) _ .nilp) (by
 have h:pcall M (d+1) 59 [.lst (ps.map pt),.fn 54 [] []]=some (.int .i64 (fiG g ps 0)) :=
  told (q59f54 d (ps.map pt) .nilp) (s59f54 d g ps hl hg ps 0 _ rfl (by omega))
 rw [h,C0_int,fiG_any g ps 0 (by decide)])
theorem s56 (d:Nat) (p:Pt):pcall M (d+3) 56 [pt p]=some (.bool (!okb p)):=told (r56 C0 (d+2) _ _) (by
 have:=s57 d p
 simp only [pt] at this
 rw [this,C0_bool]; rfl)
def farB (p:Pt):Bool:=!decide (-1073741824≤p.1∧p.1≤1073741824∧-1073741824≤p.2∧p.2≤1073741824)
theorem s54 (d:Nat) (p:Pt) (h:OkP p):pcall M (d+1) 54 [pt p]=some (.bool (farB p)):=told (r54 C0 d _ _) (by
 obtain ⟨⟨h1,h2⟩,h3,h4⟩:=h
 rw [i64_small (n:=0 - p.1) (by omega) (by omega),i64_small (n:=0 - p.2) (by omega) (by omega)]
 congr 2
 rw [Bool.eq_iff_iff]
 unfold farB
 simp only [decide_eq_true_iff,Bool.not_eq_true',decide_eq_false_iff_not]
 split <;> split <;> split <;> omega)
def allPairs (ps:List Pt):Bool:=upAll (fun i=>upAll (fun k=>pairB ps k i) i 0) ps.length 0
def simpleB (ps:List Pt):Bool:=decide (3≤ps.length) && (decide (ps.length≤8) && (ps.all okb && allPairs ps))
def rightB (ps:List Pt):Bool:=simpleB ps && !ps.any farB
theorem any_not (ps:List Pt):(ps.any fun p=>!okb p)=!ps.all okb:=by
 induction ps with
 | nil=>rfl
 | cons p l ih=>simp only [List.any_cons,List.all_cons,ih,Bool.not_and]
theorem s52 (d:Nat) (ps:List Pt) (hl:ps.length≤140737488355328):pcall M (d+11) 52 [.lst (ps.map pt)]=some (.bool (simpleB ps)):=told (q52 (d+10) _) (by
 have hc:=s53f56 (d+8) (fun p=>!okb p) ps hl (fun p _=>s56 (d+5) p)
 have h0:=simple0 d ps hl ps.length 0 10000000000000000000 (by omega) (by omega)
 rw [hc,C0_bool,any_not,pmap_len,show (0:Int)=((0:Nat):Int) from rfl,h0]
 unfold simpleB
 by_cases h1:3≤ps.length
 ·rw [decide_eq_false (by omega),cnd_f,decide_eq_true h1]
  by_cases h2:ps.length≤8
  ·rw [decide_eq_false (by omega),cnd_f,decide_eq_true h2]
   cases ps.all okb <;> rfl
  ·rw [decide_eq_true (by omega),cnd_t,decide_eq_false h2]; rfl
 ·rw [decide_eq_true (by omega),cnd_t,decide_eq_false h1]; rfl)
theorem simple_ok {ps:List Pt} (h:simpleB ps=true):3≤ps.length∧ps.length≤8∧∀ p ∈ ps,OkP p:=by
 unfold simpleB at h
 simp only [Bool.and_eq_true,decide_eq_true_iff,List.all_eq_true,okb_t] at h
 exact ⟨h.1,h.2.1,h.2.2.1⟩
theorem s47 (d:Nat) (ps:List Pt) (hl:ps.length≤140737488355328):pcall M (d+12) 47 [.lst (ps.map pt)]=some (.bool (rightB ps)):=told (r47 C0 (d+11) _) (by
 rw [s52 d ps hl,C0_bool]
 unfold rightB
 cases hs:simpleB ps
 ·rfl
 ·have hc:=s53f54 (d+9) farB ps hl (fun p hp=>s54 (d+8) p ((simple_ok hs).2.2 p hp))
  rw [hc,cnd_t,C0_bool]; rfl)
theorem nx_up {ps:List Pt} {k i:Nat} (hk:k < i) (hi:i < ps.length):nx ps k=k+1:=Nat.mod_eq_of_lt (by omega)
theorem nx_back {ps:List Pt} {k i:Nat} (hk:k < i) (hi:i < ps.length):nx ps i=k ↔ k=0∧i=ps.length - 1:=by
 unfold nx
 by_cases h:i+1=ps.length
 ·rw [h,Nat.mod_self]; omega
 ·rw [Nat.mod_eq_of_lt (by omega)]; omega
theorem rsimple2 (d:Nat) (ps:List Pt) (k:Nat) (hl:ps.length≤140737488355328) (kN:Int→Heap→Ans) (kR:Bool→Heap→Ans) (rN rR:Ans) (hN:∀ H,kN ((k+1:Nat):Int) H=rN) (hR:∀ H,kR false H=rR) :
 ∀ (m i f:Nat) (H:Heap),i+m=ps.length→m < f→k < i →
 L45_2 (d+7) (ps.map pt) (ps.length:Nat) (k:Nat) kN kR f (i:Nat) H=bif upAll (fun i=>pairB ps k i) m i then rN else rR:=by
 intro m
 induction m with
 | zero =>
   intro i f H hi hf hk
   obtain ⟨f,rfl⟩:∃ g,f=g+1:=⟨f - 1,by omega⟩
   rw [L45_2,decide_eq_false (by omega),cnd_f,X45_2_0,i64_small (by omega) (by omega)]
   exact hN H
 | succ m ih =>
   intro i f H hi hf hk
   obtain ⟨f,rfl⟩:∃ g,f=g+1:=⟨f - 1,by omega⟩
   have hkl:k < ps.length:=by omega
   have hil:i < ps.length:=by omega
   have o:=fun p q r=>s50 (d+1) p q r
   have mt:=s51 d (vv ps k) (vv ps (nx ps k)) (vv ps i) (vv ps (nx ps i))
   simp only [pt] at o mt
   have w1:IntKind.wrap .i64 ((i:Int)+1)=((i+1:Nat):Int):=by rw [i64_small (by omega) (by omega)]; rfl
   have w2:IntKind.wrap .i64 ((k:Int)+1)=((k+1:Nat):Int):=by rw [i64_small (by omega) (by omega)]; rfl
   have w3:IntKind.wrap .i64 ((ps.length:Int) - 1)=((ps.length - 1:Nat):Int):=by rw [i64_small (by omega) (by omega)]; omega
   rw [L45_2,decide_eq_true (by omega),cnd_t]
   refine Eq.trans (ix_lst (by omega) (vv_at hkl) (by rfl)) ?_
   refine Eq.trans (hop_eq (by rfl)) ?_; refine Eq.trans (pl_agg (by rfl) (by rfl)) ?_; refine Eq.trans (pl_int (by rfl)) ?_; refine Eq.trans (pl_int (by rfl)) ?_
   refine Eq.trans (snp_free (by rfl)) ?_
   refine Eq.trans (pl_agg (s49 (d+6) ps k hkl hl) (by rfl)) ?_
   refine Eq.trans (pl_int (by rfl)) ?_; refine Eq.trans (pl_int (by rfl)) ?_; refine Eq.trans (pl_len (by rfl)) ?_
   refine Eq.trans (ix_lst (by omega) (vv_at hil) (by rfl)) ?_
   refine Eq.trans (hop_eq (by rfl)) ?_; refine Eq.trans (pl_agg (by rfl) (by rfl)) ?_; refine Eq.trans (pl_int (by rfl)) ?_; refine Eq.trans (pl_int (by rfl)) ?_
   refine Eq.trans (snp_free (by rfl)) ?_
   refine Eq.trans (pl_agg (s49 (d+6) ps i hil hl) (by rfl)) ?_
   refine Eq.trans (pl_int (by rfl)) ?_; refine Eq.trans (pl_int (by rfl)) ?_; refine Eq.trans (pl_len (by rfl)) ?_
   refine Eq.trans al_n ?_; refine Eq.trans al_s ?_; refine Eq.trans al_s ?_; refine Eq.trans al_s ?_
   refine Eq.trans (C0_disj (by rfl)) ?_
   refine Eq.trans (st_s (by rfl) (by rfl) (by rfl)) ?_
   refine Eq.trans (C0_disj (by rfl)) ?_
   refine Eq.trans (st_s (by rfl) (by rfl) (by rfl)) ?_; refine Eq.trans (st_s (by rfl) (by rfl) (by rfl)) ?_; refine Eq.trans (st_s (by rfl) (by rfl) (by rfl)) ?_; refine Eq.trans (ld_s (by rfl) (by rfl) (by rfl)) ?_; refine Eq.trans (pl_agg (by rfl) (by rfl)) ?_; refine Eq.trans (pl_int (by rfl)) ?_; refine Eq.trans (pl_int (by rfl)) ?_; refine Eq.trans (ld_s (by rfl) (by rfl) (by rfl)) ?_; refine Eq.trans (pl_agg (by rfl) (by rfl)) ?_; refine Eq.trans (pl_int (by rfl)) ?_; refine Eq.trans (pl_int (by rfl)) ?_
   rw [pt_beq,w1,w2,w3,cast_beq,cast_beq,show ((k:Int) == 0)=decide (k=0) from cast_beq k 0]
   simp only [upAll,pairB,apartB]
   by_cases he:vv ps i=vv ps k
   ·rw [decide_eq_true he.symm,cnd_t,decide_eq_true he]; exact hR _
   ·rw [decide_eq_false (fun h=>he h.symm),cnd_f,decide_eq_false he]
    by_cases h1:i=k+1
    ·rw [decide_eq_true h1,cnd_t,if_pos (by rw [nx_up hk hil,h1])]
     refine Eq.trans (ld_s (by rfl) (by rfl) (by rfl)) ?_; refine Eq.trans (pl_agg (by rfl) (by rfl)) ?_; refine Eq.trans (pl_int (by rfl)) ?_; refine Eq.trans (pl_int (by rfl)) ?_; refine Eq.trans (ld_s (by rfl) (by rfl) (by rfl)) ?_; refine Eq.trans (pl_agg (by rfl) (by rfl)) ?_; refine Eq.trans (pl_int (by rfl)) ?_; refine Eq.trans (pl_int (by rfl)) ?_; refine Eq.trans (ld_s (by rfl) (by rfl) (by rfl)) ?_; refine Eq.trans (pl_agg (by rfl) (by rfl)) ?_; refine Eq.trans (pl_int (by rfl)) ?_; refine Eq.trans (pl_int (by rfl)) ?_
     refine Eq.trans (pl_bool (o (vv ps (nx ps i)) (vv ps k) (vv ps (nx ps k)))) ?_
     cases onB (vv ps (nx ps i)) (vv ps k) (vv ps (nx ps k))
     ·refine Eq.trans (pl_f (by rfl)) ?_; refine Eq.trans (ld_s (by rfl) (by rfl) (by rfl)) ?_; refine Eq.trans (pl_agg (by rfl) (by rfl)) ?_; refine Eq.trans (pl_int (by rfl)) ?_; refine Eq.trans (pl_int (by rfl)) ?_; refine Eq.trans (ld_s (by rfl) (by rfl) (by rfl)) ?_; refine Eq.trans (pl_agg (by rfl) (by rfl)) ?_; refine Eq.trans (pl_int (by rfl)) ?_; refine Eq.trans (pl_int (by rfl)) ?_; refine Eq.trans (ld_s (by rfl) (by rfl) (by rfl)) ?_; refine Eq.trans (pl_agg (by rfl) (by rfl)) ?_; refine Eq.trans (pl_int (by rfl)) ?_; refine Eq.trans (pl_int (by rfl)) ?_
      refine Eq.trans (pl_bool (o (vv ps k) (vv ps i) (vv ps (nx ps i)))) ?_
      cases onB (vv ps k) (vv ps i) (vv ps (nx ps i))
      ·refine Eq.trans (pl_f (by rfl)) ?_
       exact ih (i+1) f _ (by omega) (by omega) (by omega)
      ·exact hR _
     ·exact hR _
    ·rw [decide_eq_false h1,cnd_f,if_neg (by rw [nx_up hk hil]; omega)]
     by_cases h2:k=0
     ·rw [decide_eq_true h2,cnd_t]
      by_cases h3:i=ps.length - 1
      ·rw [decide_eq_true h3,cnd_t,if_pos ((nx_back hk hil).mpr ⟨h2,h3⟩)]
       refine Eq.trans (ld_s (by rfl) (by rfl) (by rfl)) ?_; refine Eq.trans (pl_agg (by rfl) (by rfl)) ?_; refine Eq.trans (pl_int (by rfl)) ?_; refine Eq.trans (pl_int (by rfl)) ?_; refine Eq.trans (ld_s (by rfl) (by rfl) (by rfl)) ?_; refine Eq.trans (pl_agg (by rfl) (by rfl)) ?_; refine Eq.trans (pl_int (by rfl)) ?_; refine Eq.trans (pl_int (by rfl)) ?_; refine Eq.trans (ld_s (by rfl) (by rfl) (by rfl)) ?_; refine Eq.trans (pl_agg (by rfl) (by rfl)) ?_; refine Eq.trans (pl_int (by rfl)) ?_; refine Eq.trans (pl_int (by rfl)) ?_
       refine Eq.trans (pl_bool (o (vv ps i) (vv ps k) (vv ps (nx ps k)))) ?_
       cases onB (vv ps i) (vv ps k) (vv ps (nx ps k))
       ·refine Eq.trans (pl_f (by rfl)) ?_; refine Eq.trans (ld_s (by rfl) (by rfl) (by rfl)) ?_; refine Eq.trans (pl_agg (by rfl) (by rfl)) ?_; refine Eq.trans (pl_int (by rfl)) ?_; refine Eq.trans (pl_int (by rfl)) ?_; refine Eq.trans (ld_s (by rfl) (by rfl) (by rfl)) ?_; refine Eq.trans (pl_agg (by rfl) (by rfl)) ?_; refine Eq.trans (pl_int (by rfl)) ?_; refine Eq.trans (pl_int (by rfl)) ?_; refine Eq.trans (ld_s (by rfl) (by rfl) (by rfl)) ?_; refine Eq.trans (pl_agg (by rfl) (by rfl)) ?_; refine Eq.trans (pl_int (by rfl)) ?_; refine Eq.trans (pl_int (by rfl)) ?_
        refine Eq.trans (pl_bool (o (vv ps (nx ps k)) (vv ps i) (vv ps (nx ps i)))) ?_
        cases onB (vv ps (nx ps k)) (vv ps i) (vv ps (nx ps i))
        ·refine Eq.trans (pl_f (by rfl)) ?_
         exact ih (i+1) f _ (by omega) (by omega) (by omega)
        ·exact hR _
       ·exact hR _
      ·rw [decide_eq_false h3,cnd_f,if_neg (fun h=>h3 ((nx_back hk hil).mp h).2)]
       refine Eq.trans (ld_s (by rfl) (by rfl) (by rfl)) ?_; refine Eq.trans (pl_agg (by rfl) (by rfl)) ?_; refine Eq.trans (pl_int (by rfl)) ?_; refine Eq.trans (pl_int (by rfl)) ?_; refine Eq.trans (ld_s (by rfl) (by rfl) (by rfl)) ?_; refine Eq.trans (pl_agg (by rfl) (by rfl)) ?_; refine Eq.trans (pl_int (by rfl)) ?_; refine Eq.trans (pl_int (by rfl)) ?_; refine Eq.trans (ld_s (by rfl) (by rfl) (by rfl)) ?_; refine Eq.trans (pl_agg (by rfl) (by rfl)) ?_; refine Eq.trans (pl_int (by rfl)) ?_; refine Eq.trans (pl_int (by rfl)) ?_; refine Eq.trans (ld_s (by rfl) (by rfl) (by rfl)) ?_; refine Eq.trans (pl_agg (by rfl) (by rfl)) ?_; refine Eq.trans (pl_int (by rfl)) ?_; refine Eq.trans (pl_int (by rfl)) ?_
       refine Eq.trans (pl_bool mt) ?_
       cases meetB (vv ps k) (vv ps (nx ps k)) (vv ps i) (vv ps (nx ps i))
       ·refine Eq.trans (pl_f (by rfl)) ?_
        exact ih (i+1) f _ (by omega) (by omega) (by omega)
       ·exact hR _
     ·rw [decide_eq_false h2,cnd_f,if_neg (fun h=>h2 ((nx_back hk hil).mp h).1)]
      refine Eq.trans (ld_s (by rfl) (by rfl) (by rfl)) ?_; refine Eq.trans (pl_agg (by rfl) (by rfl)) ?_; refine Eq.trans (pl_int (by rfl)) ?_; refine Eq.trans (pl_int (by rfl)) ?_; refine Eq.trans (ld_s (by rfl) (by rfl) (by rfl)) ?_; refine Eq.trans (pl_agg (by rfl) (by rfl)) ?_; refine Eq.trans (pl_int (by rfl)) ?_; refine Eq.trans (pl_int (by rfl)) ?_; refine Eq.trans (ld_s (by rfl) (by rfl) (by rfl)) ?_; refine Eq.trans (pl_agg (by rfl) (by rfl)) ?_; refine Eq.trans (pl_int (by rfl)) ?_; refine Eq.trans (pl_int (by rfl)) ?_; refine Eq.trans (ld_s (by rfl) (by rfl) (by rfl)) ?_; refine Eq.trans (pl_agg (by rfl) (by rfl)) ?_; refine Eq.trans (pl_int (by rfl)) ?_; refine Eq.trans (pl_int (by rfl)) ?_
      refine Eq.trans (pl_bool mt) ?_
      cases meetB (vv ps k) (vv ps (nx ps k)) (vv ps i) (vv ps (nx ps i))
      ·refine Eq.trans (pl_f (by rfl)) ?_
       exact ih (i+1) f _ (by omega) (by omega) (by omega)
      ·exact hR _
theorem rsimple1 (d:Nat) (ps:List Pt) (hl:ps.length≤140737488355328):∀ (m k f:Nat) (H:Heap),k+m=ps.length→m < f →
 L45_1 (d+7) (ps.map pt) (ps.length:Nat) f (k:Nat) H=some (.bool (upAll (fun k=>upAll (fun i=>pairB ps k i) (ps.length - k - 1) (k+1)) m k)):=by
 intro m
 induction m with
 | zero =>
   intro k f H hk hf
   obtain ⟨f,rfl⟩:∃ g,f=g+1:=⟨f - 1,by omega⟩
   rw [L45_1,decide_eq_false (by omega),cnd_f]; rfl
 | succ m ih =>
   intro k f H hk hf
   obtain ⟨f,rfl⟩:∃ g,f=g+1:=⟨f - 1,by omega⟩
   rw [L45_1,decide_eq_true (by omega),cnd_t,show IntKind.wrap .i64 ((k:Int)+1)=((k+1:Nat):Int) by rw [i64_small (by omega) (by omega)]; rfl]
   refine (rsimple2 d ps k hl _ _ _ (some (.bool false)) (fun H=>ih (k+1) f H (by omega) (by omega)) (fun H=>rfl) (ps.length - k - 1) (k+1) _ H (by omega) (by omega) (by omega)).trans ?_
   simp only [upAll]
   cases upAll (fun i=>pairB ps k i) (ps.length - k - 1) (k+1) <;> rfl
theorem rsimple0 (d:Nat) (ps:List Pt) (hl:ps.length≤140737488355328):∀ (l2:List Pt) (i f:Nat) (H:Heap),ps.drop i=l2→l2.length < f →
 L45_0 (d+7) (ps.map pt) (ps.length:Nat) f (i:Nat) H=some (.bool (l2.all okb && allPairs ps)):=by
 intro l2
 induction l2 with
 | nil =>
   intro i f H hd hf
   obtain ⟨f,rfl⟩:∃ m,f=m+1:=⟨f - 1,by omega⟩
   have:ps.length≤i:=List.drop_eq_nil_iff.mp hd
   rw [L45_0,decide_eq_false (by omega),cnd_f,X45_0_0]
   refine (rsimple1 d ps hl ps.length 0 10000000000000000000 H (by omega) (by omega)).trans ?_
   unfold allPairs
   rw [pairs_two]; rfl
 | cons p l2 ih =>
   intro i f H hd hf
   obtain ⟨f,rfl⟩:∃ m,f=m+1:=⟨f - 1,by simp at hf; omega⟩
   have hi:i < ps.length:=by
    rcases Nat.lt_or_ge i ps.length with h | h
    ·exact h
    ·rw [List.drop_eq_nil_of_le h] at hd; cases hd
   have hp:ps[i]=p:=by have:=List.drop_eq_getElem_cons hi; rw [hd] at this; exact (List.cons.inj this).1.symm
   have hd2:ps.drop (i+1)=l2:=by have:=List.drop_eq_getElem_cons hi; rw [hd] at this; exact (List.cons.inj this).2.symm
   have hr:=s48 (d+6) ps[i]
   simp only [pt] at hr
   rw [L45_0,decide_eq_true (by omega),cnd_t]
   refine Eq.trans (ix_lst (by omega) (pts_at hi) (by rfl)) ?_
   refine Eq.trans (hop_eq (by rfl)) ?_; refine Eq.trans (pl_agg (by rfl) (by rfl)) ?_; refine Eq.trans (pl_int (by rfl)) ?_; refine Eq.trans (pl_int (by rfl)) ?_
   rw [hr,C0_bool,hp,List.all_cons]
   change cnd (!okb p) _ _=_
   cases okb p
   ·rfl
   ·refine Eq.trans (pl_f (by rfl)) ?_
    rw [show IntKind.wrap .i64 ((i:Int)+1)=((i+1:Nat):Int) by rw [IntKind.wrap_i64]; omega,ih (i+1) f _ hd2 (by simp at hf; omega),Bool.true_and]
theorem s45 (d:Nat) (ps:List Pt) (hl:ps.length≤140737488355328):pcall M (d+8) 45 [.lst (ps.map pt)]=some (.bool (simpleB ps)):=told (q45 (d+7) _) (by
 refine Eq.trans (hop_eq (by rfl)) ?_; refine Eq.trans (pl_int (by rfl)) ?_
 have h0:=rsimple0 d ps hl ps 0 10000000000000000000 [] rfl (by omega)
 rw [pmap_len]
 unfold simpleB
 by_cases h1:3≤ps.length
 ·rw [decide_eq_false (by omega),cnd_f,decide_eq_true h1]
  by_cases h2:ps.length≤8
  ·rw [decide_eq_false (by omega),cnd_f,decide_eq_true h2]
   exact h0
  ·rw [decide_eq_true (by omega),cnd_t,decide_eq_false h2]; rfl
 ·rw [decide_eq_true (by omega),cnd_t,decide_eq_false h1]; rfl)
theorem rright0 (d:Nat) (ps:List Pt) (h8:ps.length≤8):∀ (l2:List Pt) (i f:Nat),ps.drop i=l2→l2.length < f →
 L35_0 (d+8) (ps.map pt) f (i:Nat)=some (.bool (!l2.any farB && simpleB ps)):=by
 intro l2
 induction l2 with
 | nil =>
   intro i f hd hf
   obtain ⟨f,rfl⟩:∃ m,f=m+1:=⟨f - 1,by omega⟩
   have:ps.length≤i:=List.drop_eq_nil_iff.mp hd
   rw [L35_0,pmap_len,decide_eq_false (by omega),cnd_f,X35_0_0,s45 d ps (by omega),C0_bool]; rfl
 | cons p l2 ih =>
   intro i f hd hf
   obtain ⟨f,rfl⟩:∃ m,f=m+1:=⟨f - 1,by simp at hf; omega⟩
   have hi:i < ps.length:=by
    rcases Nat.lt_or_ge i ps.length with h | h
    ·exact h
    ·rw [List.drop_eq_nil_of_le h] at hd; cases hd
   have hp:ps[i]=p:=by have:=List.drop_eq_getElem_cons hi; rw [hd] at this; exact (List.cons.inj this).1.symm
   have hd2:ps.drop (i+1)=l2:=by have:=List.drop_eq_getElem_cons hi; rw [hd] at this; exact (List.cons.inj this).2.symm
   rw [L35_0,pmap_len,decide_eq_true (by omega),cnd_t,decide_eq_true (by omega),cnd_t,decide_eq_true (by omega),cnd_t,pts_at hi,hp]
   refine Eq.trans (pl_agg (by rfl) (by rfl)) ?_; refine Eq.trans (pl_int (by rfl)) ?_; refine Eq.trans (pl_int (by rfl)) ?_
   rw [List.any_cons]
   by_cases c1:p.1 < -1073741824
   ·rw [decide_eq_true c1,cnd_t,show farB p=true by unfold farB; rw [decide_eq_false (by omega)]; rfl]; rfl
   ·rw [decide_eq_false c1,cnd_f,cnd_t]
    refine Eq.trans (pl_agg (by rfl) (by rfl)) ?_; refine Eq.trans (pl_int (by rfl)) ?_; refine Eq.trans (pl_int (by rfl)) ?_
    by_cases c2:p.1 > 1073741824
    ·rw [decide_eq_true c2,cnd_t,show farB p=true by unfold farB; rw [decide_eq_false (by omega)]; rfl]; rfl
    ·rw [decide_eq_false c2,cnd_f,cnd_t]
     refine Eq.trans (pl_agg (by rfl) (by rfl)) ?_; refine Eq.trans (pl_int (by rfl)) ?_; refine Eq.trans (pl_int (by rfl)) ?_
     by_cases c3:p.2 < -1073741824
     ·rw [decide_eq_true c3,cnd_t,show farB p=true by unfold farB; rw [decide_eq_false (by omega)]; rfl]; rfl
     ·rw [decide_eq_false c3,cnd_f,cnd_t]
      refine Eq.trans (pl_agg (by rfl) (by rfl)) ?_; refine Eq.trans (pl_int (by rfl)) ?_; refine Eq.trans (pl_int (by rfl)) ?_
      by_cases c4:p.2 > 1073741824
      ·rw [decide_eq_true c4,cnd_t,show farB p=true by unfold farB; rw [decide_eq_false (by omega)]; rfl]; rfl
      ·rw [decide_eq_false c4,cnd_f,show farB p=false by unfold farB; rw [decide_eq_true (by omega)]; rfl,show IntKind.wrap .i64 ((i:Int)+1)=((i+1:Nat):Int) by rw [IntKind.wrap_i64]; omega,
        ih (i+1) f hd2 (by simp at hf; omega),Bool.false_or]
theorem s35 (d:Nat) (ps:List Pt) (hl:ps.length≤140737488355328):pcall M (d+9) 35 [.lst (ps.map pt)]=some (.bool (rightB ps)):=told (q35 (d+8) _) (by
 by_cases h8:ps.length≤8
 ·refine (rright0 d ps h8 ps 0 10000000000000000000 rfl (by omega)).trans ?_
  rw [Bool.and_comm]; rfl
 ·have:rightB ps=false:=by
   rw [← Bool.not_eq_true]; intro h
   unfold rightB at h
   exact h8 (simple_ok (Bool.and_eq_true_iff.mp h).1).2.1
  rw [this,show (10000000000000000000:Nat)=9999999999999999999+1 from rfl,L35_0,pmap_len,decide_eq_true (by omega),cnd_t,decide_eq_false (by omega),cnd_f,X35_0_0,s45 d ps hl,C0_bool]
  congr 2
  rw [← Bool.not_eq_true]; intro h; exact h8 (simple_ok h).2.1)
theorem right_ok {ps:List Pt} (h:rightB ps=true):3≤ps.length∧ps.length≤8∧∀ p ∈ ps,OkP p:=by
 unfold rightB at h
 exact simple_ok (Bool.and_eq_true_iff.mp h).1
end Go.Proofs.Ytbmedgpiphibaaa.AE

namespace Go.Proofs.Ytbmedgpiphibaaa.AE
set_option linter.unusedVariables false
set_option linter.unusedSimpArgs false
set_option linter.constructorNameAsVariable false
open Go Go.WideShapes

inductive CT where
 | i (k:IntKind)
 | b
 | s
 | sl (ag:Bool) (es:List CT)
mutual
def CTok:CT→AV→Prop
 | .i k,v=>∃ n,v=.int k n∧(Lit.int k n).wf=true
 | .b,v=>∃ x,v=.bool x
 | .s,v=>∃ x,v=.str x∧x.length≤maxLen
 | .sl ag es,v=>∃ l,v=.lst l∧l.length≤maxLen∧∀ x ∈ l,∃ cs,(match ag with
   | true=>x=.agg cs
   | false=>cs=[x])∧CTall es cs
def CTall:List CT→List AV→Prop
 | [],l=>l=[]
 | c::cs,l=>∃ x t,l=x::t∧CTok c x∧CTall cs t
end
def TyOK (ag:Bool) (cs:List CT) (v:AV):Prop:=∃ l,(match ag with
 | true=>v=.agg l
 | false=>l=[v])∧CTall cs l
theorem CTall_len:∀ {cs:List CT} {l:List AV},CTall cs l→l.length=cs.length
 | [],l,h=>by simp only [CTall] at h; subst h; rfl
 | c::cs,l,h=>by
   simp only [CTall] at h
   obtain ⟨x,t,rfl,_,h⟩:=h
   simp [CTall_len h]
theorem CTall_app:∀ {a b:List CT} {l m:List AV},CTall a l→CTall b m→CTall (a ++ b) (l ++ m)
 | [],b,l,m,h,h'=>by simp only [CTall] at h; subst h; exact h'
 | c::cs,b,l,m,h,h'=>by
   simp only [CTall] at h
   obtain ⟨x,t,rfl,h1,h⟩:=h
   simp only [List.cons_append,CTall]
   exact ⟨x,t ++ m,rfl,h1,CTall_app h h'⟩

section
variable (P:Program)
def ctFs (g:TypeId→Option (List CT)):List Field→Nat→Option (List CT)
 | [],_=>some []
 | f::fs,off=>if f.offset=off then match g f.type with
     | some l=>if P.cellsOf f.type=l.length then match ctFs g fs (off+l.length) with
        | some m=>some (l ++ m)
        | none=>none
       else none
     | none=>none
   else none
def ctOf:Nat→TypeId→Option (List CT)
 | 0,_=>none
 | d+1,t=>match P.underlying t with
   | some (.int k)=>some [.i k]
   | some .bool=>some [.b]
   | some .string=>some [.s]
   | some (.slice e)=>match ctOf d e,agB P e with
     | some l,some ag=>if P.cellsOf e=l.length∧0 < l.length∧(ag || l.length == 1)=true then some [.sl ag l] else none
     | _,_=>none
   | some (.struct fs)=>match ctFs P (ctOf d) fs.toList 0 with
     | some l=>if P.cellsOf t=l.length then some l else none
     | none=>none
   | some (.array n e)=>match ctOf d e with
     | some l=>if P.cellsOf e=l.length∧P.cellsOf t=n * l.length then some (List.replicate n l).flatten else none
     | none=>none
   | _=>none
end

section
variable {H:Type} {enc:TypeId × Value→H} {P:Program} {w:World} {base:Nat} {spare:Nat→Bool} {held:Bool}
abbrev noBad:Nat→Prop:=fun _=>False

def Cells (w:World) (avs:List AV) (cs:List Value):Prop:=∀ (i:Nat) (c:AV) (u:Value),avs[i]?=some c→cs[i]?=some u→FRep w noBad c u

theorem cells_one {c:AV} {u:Value} (h:FRep w noBad c u):Cells w [c] [u]:=by
 intro i a b ha hb
 match i with
 | 0=>cases ha; cases hb; exact h
 | i+1=>cases ha

theorem ctFs_open {g:TypeId→Option (List CT)} {cs:List Value} (hg:∀ t l (ds:List Value) fuel x,g t=some l→DataW.trod enc P w base spare held fuel t ds=some x→∃ avs,avs.length=ds.length∧CTall l avs∧Cells w avs ds) :
 ∀ (fs:List Field) (off:Nat) (l:List CT),ctFs P g fs off=some l→(∀ f ∈ fs,∃ fuel y,DataW.trod enc P w base spare held fuel f.type ((cs.drop f.offset).take (P.cellsOf f.type))=some y) →
   ∃ avs,CTall l avs∧Cells w avs (cs.drop off)
 | [],off,l,h,_=>by
   simp only [ctFs] at h; cases h
   exact ⟨[],rfl,fun i c u hc _=>by cases hc⟩
 | f::fs,off,l,h,ht=>by
   simp only [ctFs] at h
   split at h
   ·rename_i ho
    split at h <;> (try (cases h; done))
    rename_i l1 h1
    split at h
    ·rename_i hn
     split at h <;> (try (cases h; done))
     rename_i m hm
     cases h
     obtain ⟨fuel,y,hy⟩:=ht f (List.mem_cons_self ..)
     obtain ⟨a1,e1,e2,e3⟩:=hg _ _ _ _ _ h1 hy
     obtain ⟨a2,q1,q2⟩:=ctFs_open hg fs (off+l1.length) m hm (fun f hf=>ht f (List.mem_cons_of_mem _ hf))
     refine ⟨a1 ++ a2,CTall_app e2 q1,?_⟩
     have hl:a1.length=l1.length:=CTall_len e2
     intro i c u hc hu
     by_cases hi:i < a1.length
     ·rw [List.getElem?_append_left hi] at hc
      refine e3 i c u hc ?_
      rw [ho,hn,List.getElem?_take,if_pos (by omega)]; exact hu
     ·rw [List.getElem?_append_right (by omega)] at hc
      refine q2 (i - a1.length) c u hc ?_
      rw [List.getElem?_drop] at hu ⊢
      rw [← hu]; congr 1; omega
    ·cases h
   ·cases h

theorem cells?_at {a:Addr} {n:Nat} {cs:List Value} (h:w.cells? base a n=some cs):cs.length=n∧∀ j u,cs[j]?=some u→w.cell? (a.add j)=some u:=by
 unfold World.cells? at h
 split at h
 ·have hl:cs.length=n:=by simpa using mapM_some_length h
  refine ⟨hl,fun j u hu=>?_⟩
  have hj:j < n:=by
   rcases Nat.lt_or_ge j n with h1 | h1
   ·exact h1
   ·rw [List.getElem?_eq_none (by omega)] at hu; cases hu
  have:=mapM_some_get h j j (by simp [hj])
  rw [hu] at this
  exact this
 ·cases h

theorem rng_at {n i j:Nat} (h:(List.range n)[i]?=some j):i < n∧i=j:=by
 rcases Nat.lt_or_ge i n with h1 | h1
 ·rw [List.getElem?_range h1] at h; exact ⟨h1,Option.some.inj h⟩
 ·rw [List.getElem?_eq_none (by simpa using h1)] at h; cases h
theorem add_pl (b o n:Nat):(⟨b,o,none⟩:Addr).add n=⟨b,o+n,none⟩:=by
 unfold Addr.add; split <;> simp_all

theorem open_cells:∀ (d:Nat) (t:TypeId) (l:List CT) (cs:List Value) (fuel:Nat) (x:DataW H × List MemPlace),ctOf P d t=some l→DataW.trod enc P w base spare held fuel t cs=some x →
 ∃ avs,avs.length=cs.length∧CTall l avs∧Cells w avs cs
 | 0,t,l,cs,fuel,x,h,_=>by cases h
 | d+1,t,l,cs,fuel,x,h,ht=>by
   simp only [ctOf] at h
   split at h <;> (try (cases h; done))
   ·rename_i k hu
    cases h
    obtain ⟨n,rfl,_,hw⟩:=DataW.trod_int hu ht
    exact ⟨[.int k n],rfl,⟨_,_,rfl,⟨n,rfl,hw⟩,rfl⟩,cells_one (.int k n)⟩
   ·rename_i hu
    cases h
    obtain ⟨b,rfl,_⟩:=DataW.trod_bool hu ht
    exact ⟨[.bool b],rfl,⟨_,_,rfl,⟨b,rfl⟩,rfl⟩,cells_one (.bool b)⟩
   ·rename_i hu
    cases h
    obtain ⟨s,rfl,_,hs⟩:=DataW.trod_string hu ht
    refine ⟨[.str s.data.toList],rfl,⟨_,_,rfl,⟨_,rfl,by simpa using hs⟩,rfl⟩,cells_one ?_⟩
    have:=FRep.str (w:=w) (bad:=noBad) s.data.toList
    simpa using this
   ·rename_i e hu
    split at h <;> (try (cases h; done))
    rename_i le ag hle hag
    split at h
    ·rename_i hc
     obtain ⟨hc1,hc2,hc3⟩:=hc
     cases h
     rcases DataW.trod_slice hu ht with ⟨rfl,_⟩ | ⟨a,len,cap,elems,rest,n,_,rfl,_,hb,hl,hm,hel,hat,_,_⟩
     ·exact ⟨[.lst []],rfl,⟨_,_,rfl,⟨[],rfl,by simp,fun x hx=>by cases hx⟩,rfl⟩,cells_one (.lst0 none 0 fun _=>rfl)⟩
     ·have each:∀ i,i < len→∃ ex:List AV × List Value,w.cells? base (a.add (i * P.cellsOf e)) (P.cellsOf e)=some ex.2∧CTall le ex.1∧Cells w ex.1 ex.2:=by
       intro i hi
       have h1:=hat i hi
       rw [List.getElem?_eq_getElem (by omega)] at h1
       obtain ⟨ds,h2,h3⟩:=Option.bind_eq_some_iff.mp h1
       obtain ⟨avs,_,q2,q3⟩:=open_cells d e le ds n _ hle h3
       exact ⟨(avs,ds),h2,q2,q3⟩
      obtain ⟨f,hf⟩:=Go.Deep.choose_lt each
      let el:List AV→AV:=fun cs=>match ag with
       | true=>.agg cs
       | false=>cs.headD .undef
      have elc:∀ cs,CTall le cs→(el cs).cells=cs ∨ (ag=false∧∃ v,cs=[v]∧el cs=v):=by
       intro cs hcs
       cases ag with
       | true=>exact .inl rfl
       | false =>
         have hl1:le.length=1:=by simpa using hc3
         have:=CTall_len hcs
         match cs,this.trans hl1 with
         | [v],_=>exact .inr ⟨rfl,v,rfl,rfl⟩
      have scal:∀ cs,CTall le cs→(el cs).cells=cs:=by
       intro cs hcs
       rcases elc cs hcs with h1 | ⟨hag',v,rfl,h2⟩
       ·exact h1
       ·rw [h2]
        match v,hcs with
        | .agg l',hcs =>
          exfalso
          cases le with
          | nil=>simp only [CTall] at hcs; cases hcs
          | cons c cs' =>
            simp only [CTall] at hcs
            obtain ⟨x',t',hx',hok,_⟩:=hcs
            injection hx' with hx1 _
            subst hx1
            cases c <;> simp [CTok] at hok
        | .int ..,_ | .bool _,_ | .str _,_ | .nilp,_ | .zsl _,_ | .ptr ..,_ | .slc ..,_ | .lst _,_ | .fptr ..,_ | .tup _,_ | .fn ..,_ | .nilf,_ | .undef,_ | .emp,_=>rfl
      have hlen:∀ i,i < len→((f i).1).length=P.cellsOf e:=fun i hi=>by rw [CTall_len (hf i hi).2.1,hc1]
      refine ⟨[.lst ((List.range len).map fun i=>el (f i).1)],rfl,⟨_,_,rfl,⟨_,rfl,by simp; omega,?_⟩,rfl⟩,cells_one ?_⟩
      ·intro y hy
       obtain ⟨i,hi,rfl⟩:=List.mem_map.mp hy
       have hi:=List.mem_range.mp hi
       refine ⟨(f i).1,?_,(hf i hi).2.1⟩
       cases ag with
       | true=>rfl
       | false =>
         rcases elc _ (hf i hi).2.1 with h1 | ⟨_,v,h1,h2⟩
         ·have h3:=scal _ (hf i hi).2.1
          have hl1:le.length=1:=by simpa using hc3
          have h4:=(CTall_len (hf i hi).2.1).trans hl1
          show (f i).1=[(f i).1.headD .undef]
          match (f i).1,h4 with
          | [v],_=>rfl
         ·show (f i).1=[(f i).1.headD .undef]
          rw [h1]; rfl
      ·by_cases h0:len=0
       ·subst h0; exact .lst0 (some a) cap (fun h=>by cases h)
       ·have hsp:a.spot=none∧a.block < w.heap.size:=by
         obtain ⟨g1,g2,g3⟩:=hf 0 (by omega)
         obtain ⟨g4,g5⟩:=cells?_at g1
         have h6:∃ u,(f 0).2[0]?=some u:=⟨_,List.getElem?_eq_getElem (by omega)⟩
         obtain ⟨u,hu0⟩:=h6
         have:=g5 0 u hu0
         rw [Nat.zero_mul,show (a.add 0).add 0=a by simp [Addr.add]] at this
         unfold World.cell? at this
         split at this
         ·rename_i c _ _ hh
          split at this
          ·cases this
          ·rename_i hs
           refine ⟨by simpa using hs,?_⟩
           rcases Nat.lt_or_ge a.block w.heap.size with h7 | h7
           ·exact h7
           ·rw [Array.getElem?_eq_none h7] at hh; cases hh
         ·cases this
        obtain ⟨b,o,sp⟩:=a
        obtain ⟨hsp1,hsp2⟩:=hsp
        simp only at hsp1 hsp2
        subst hsp1
        have hlm:((List.range len).map fun i=>el (f i).1).length=len:=by simp
        have key:=FRep.lst (w:=w) (bad:=noBad) ((List.range len).map fun i=>el (f i).1) b o (P.cellsOf e) cap (fun i j=>(f i).2.getD j (.bool false)) (by rw [hlm]; exact hl) (by omega) (fun h=>h) hsp2 ?_ ?_ ?_
        ·rw [hlm] at key; exact key
        ·intro i y hy
         rw [List.getElem?_map] at hy
         obtain ⟨i',h1,rfl⟩:=Option.map_eq_some_iff.mp hy
         obtain ⟨h2,rfl⟩:=rng_at h1
         rw [scal _ (hf _ h2).2.1,hlen _ h2]
        ·intro i y j c hy hc
         rw [List.getElem?_map] at hy
         obtain ⟨i',h1,rfl⟩:=Option.map_eq_some_iff.mp hy
         obtain ⟨h2,rfl⟩:=rng_at h1
         rw [scal _ (hf _ h2).2.1] at hc
         obtain ⟨g4,g5⟩:=cells?_at (hf _ h2).1
         have hj:j < (f i).2.length:=by
          rw [g4,← hlen _ h2]
          rcases Nat.lt_or_ge j (f i).1.length with h7 | h7
          ·exact h7
          ·rw [List.getElem?_eq_none h7] at hc; cases hc
         have:=g5 j _ (List.getElem?_eq_getElem hj)
         rw [add_pl,add_pl] at this
         rw [List.getD_eq_getElem?_getD,List.getElem?_eq_getElem hj]
         simp only [Option.getD_some]
         rw [← Nat.add_assoc]; exact this
        ·intro i y j c hy hc
         rw [List.getElem?_map] at hy
         obtain ⟨i',h1,rfl⟩:=Option.map_eq_some_iff.mp hy
         obtain ⟨h2,rfl⟩:=rng_at h1
         rw [scal _ (hf _ h2).2.1] at hc
         obtain ⟨g4,g5⟩:=cells?_at (hf _ h2).1
         have hj:j < (f i).2.length:=by
          rw [g4,← hlen _ h2]
          rcases Nat.lt_or_ge j (f i).1.length with h7 | h7
          ·exact h7
          ·rw [List.getElem?_eq_none h7] at hc; cases hc
         refine (hf _ h2).2.2 j c _ hc ?_
         rw [List.getD_eq_getElem?_getD,List.getElem?_eq_getElem hj]; rfl
    ·cases h
   ·rename_i fs hu
    split at h <;> (try (cases h; done))
    rename_i l' hl'
    split at h
    ·rename_i hc
     cases h
     obtain ⟨xs,n,_,_,hlen,hxs,hf⟩:=DataW.trod_struct hu ht
     obtain ⟨avs,q1,q2⟩:=ctFs_open (cs:=cs) (enc:=enc) (base:=base) (spare:=spare) (held:=held) (fun t l ds fuel x=>open_cells d t l ds fuel x) fs.toList 0 l hl' (fun f hfm=>by
      obtain ⟨i,hi⟩:=List.getElem?_of_mem hfm
      have h1:=hf i f (by simpa using hi)
      have hi':i < xs.length:=by
       rw [hxs]
       rcases Nat.lt_or_ge i fs.size with h7 | h7
       ·exact h7
       ·rw [List.getElem?_eq_none (by simpa using h7)] at hi; cases hi
      exact ⟨n,_,h1.trans (List.getElem?_eq_getElem hi')⟩)
     exact ⟨avs,by rw [CTall_len q1,hlen,hc],q1,by simpa using q2⟩
    ·cases h
   ·rename_i n e hu
    split at h <;> (try (cases h; done))
    rename_i le hle
    split at h
    ·rename_i hc
     obtain ⟨hc1,hc2⟩:=hc
     cases h
     obtain ⟨xs,m,_,_,hlen,hxs,hf⟩:=DataW.trod_array hu ht
     have key:∀ k,k≤n→∃ avs,CTall (List.replicate k le).flatten avs∧Cells w avs (cs.drop ((n - k) * le.length)):=by
      intro k
      induction k with
      | zero=>intro _; exact ⟨[],rfl,fun i c u hc _=>by cases hc⟩
      | succ k ih =>
        intro hk
        obtain ⟨a2,q1,q2⟩:=ih (by omega)
        have h1:=hf (n - (k+1)) (by omega)
        rw [List.getElem?_eq_getElem (by omega)] at h1
        obtain ⟨a1,e1,e2,e3⟩:=open_cells d e le _ m _ hle h1
        refine ⟨a1 ++ a2,by rw [List.replicate_succ,List.flatten_cons]; exact CTall_app e2 q1,?_⟩
        have hl:a1.length=le.length:=CTall_len e2
        intro i c u hc hu
        by_cases hi:i < a1.length
        ·rw [List.getElem?_append_left hi] at hc
         refine e3 i c u hc ?_
         rw [hc1,List.getElem?_take,if_pos (by omega)]; exact hu
        ·rw [List.getElem?_append_right (by omega)] at hc
         refine q2 (i - a1.length) c u hc ?_
         rw [List.getElem?_drop] at hu ⊢
         rw [← hu]; congr 1
         have:n - k=n - (k+1)+1:=by omega
         rw [this,Nat.add_mul]; omega
     obtain ⟨avs,q1,q2⟩:=key n (Nat.le_refl _)
     refine ⟨avs,?_,q1,by simpa using q2⟩
     rw [CTall_len q1,hlen,hc2]; simp
    ·cases h

theorem okWide_array {r:Reach} {n:Nat} {t e:TypeId} {v:Value} (ht:P.underlying t=some (.array n e)) (h:Value.okWide P w r base t v):∃ cs,v=.agg cs∧cs.size=P.cellsOf t:=by
 simp only [Value.okWide,ht] at h
 obtain ⟨cs,h1,h2,_⟩:=h
 exact ⟨cs,h1,h2⟩
theorem open_sc {t:TypeId} {v:Value} {d:DataW H} {ps:List MemPlace} {l:List CT} (hv:v.cells.toList=[v]) (hl:ctOf P 9 t=some l) (h:DataW.Trod enc P w base spare held t v d ps) :
 ∃ a,TyOK false l a∧FRep w noBad a v:=by
 obtain ⟨fuel,h⟩:=h
 obtain ⟨avs,h1,h2,h3⟩:=open_cells 9 t l _ fuel _ hl h
 rw [hv] at h1 h3
 match avs,h1 with
 | [a],_=>exact ⟨a,⟨_,rfl,h2⟩,h3 0 a v rfl rfl⟩
theorem open_ag {t:TypeId} {cs:Array Value} {d:DataW H} {ps:List MemPlace} {l:List CT} (hl:ctOf P 9 t=some l) (h:DataW.Trod enc P w base spare held t (.agg cs) d ps) :
 ∃ a,TyOK true l a∧FRep w noBad a (.agg cs):=by
 obtain ⟨fuel,h⟩:=h
 obtain ⟨avs,h1,h2,h3⟩:=open_cells 9 t l _ fuel _ hl h
 refine ⟨.agg avs,⟨_,rfl,h2⟩,?_⟩
 have:=FRep.agg (w:=w) (bad:=noBad) avs cs.toList h1 h3
 simpa using this
end
end Go.Proofs.Ytbmedgpiphibaaa.AE

namespace Go.Proofs.Ytbmedgpiphibaaa.AE
set_option linter.unusedVariables false
set_option linter.unusedSimpArgs false
set_option linter.constructorNameAsVariable false
open Go
set_option maxRecDepth 100000
set_option maxHeartbeats 0
def r9R0 (C:Cb) (d:Nat) (a0:List AV) (a1 a2 a3 a4 a5 a6 a7 a8:Int):St→(Ex→St→Ans)→Ans:=fun s0 k1 =>
 cnd ((List.length s0.env) == 23)
 (sames C s0.env 0 [(.agg [(.lst a0),(iz a1),(iz a2),(iz a3),(iz a4),(iz a5),(iz a6),(iz a7),(iz a8)]),(.ptr 0 0 0)] <|
 C.bool s0.env[2]? fun b3 =>
 C.int .i64 s0.env[3]? fun x4 =>
 anys C s0.env 4 5 <|
 C.any s0.env[9]? fun v10 =>
 C.any s0.env[10]? fun v11 =>
 C.any s0.env[11]? fun v12 =>
 C.any s0.env[12]? fun v13 =>
 C.any s0.env[13]? fun v14 =>
 C.any s0.env[14]? fun v15 =>
 C.any s0.env[15]? fun v16 =>
 C.any s0.env[16]? fun v17 =>
 C.any s0.env[17]? fun v18 =>
 C.any s0.env[18]? fun v19 =>
 sames C s0.env 19 [tz,tz,tz,tz] <|
 C.sameH (St.H s0) [some ⟨E24,[(.agg [(.lst a0),(iz a1),(iz a2),(iz a3),(iz a4),(iz a5),(iz a6),(iz a7),(iz a8)])]⟩] <|
 cnd (decide (x4 < (((List.length a0):Nat):Int)))
 (cnd (decide ((0:Int)≤x4))
 (C.agg 5 a0[(Int.toNat x4)]? fun l20 =>
 C.lst l20[0]? (fun l21 =>
 C.int .i64 l20[1]? fun x23 =>
 C.int .i64 l20[2]? fun x24 =>
 C.int .i64 l20[3]? fun x25 =>
 C.int .i64 l20[4]? fun x26 =>
 cnd (decide ((((List.length l21):Nat):Int) > 12))
 (k1 .ret ⟨[(.agg [(.lst a0),(iz a1),(iz a2),(iz a3),(iz a4),(iz a5),(iz a6),(iz a7),(iz a8)]),(.ptr 0 0 0),bf,(iz x4),(iz x4),(.ptr 0 0 0),(.lst a0),(iz (((List.length a0):Nat):Int)),bt,v10,v11,(.ptr 0 0 0),(.lst a0),(iz x4),(.fptr (.agg [(.lst l21),(iz x23),(iz x24),(iz x25),(iz x26)]) 0),(.fptr (.agg [(.lst l21),(iz x23),(iz x24),(iz x25),(iz x26)]) 0),(.lst l21),(iz (((List.length l21):Nat):Int)),bt,tz,tz,tz,tz],[some ⟨E24,[(.agg [(.lst a0),(iz a1),(iz a2),(iz a3),(iz a4),(iz a5),(iz a6),(iz a7),(iz a8)])]⟩]⟩)
 (k1 .normal ⟨[(.agg [(.lst a0),(iz a1),(iz a2),(iz a3),(iz a4),(iz a5),(iz a6),(iz a7),(iz a8)]),(.ptr 0 0 0),(.bool b3),(iz (IntKind.wrap .i64 (x4+1))),(iz x4),(.ptr 0 0 0),(.lst a0),(iz (((List.length a0):Nat):Int)),bt,(iz x4),(iz (IntKind.wrap .i64 (x4+1))),(.ptr 0 0 0),(.lst a0),(iz x4),(.fptr (.agg [(.lst l21),(iz x23),(iz x24),(iz x25),(iz x26)]) 0),(.fptr (.agg [(.lst l21),(iz x23),(iz x24),(iz x25),(iz x26)]) 0),(.lst l21),(iz (((List.length l21):Nat):Int)),bf,tz,tz,tz,tz],[some ⟨E24,[(.agg [(.lst a0),(iz a1),(iz a2),(iz a3),(iz a4),(iz a5),(iz a6),(iz a7),(iz a8)])]⟩]⟩))
 (fun z22 =>
 C.int .i64 l20[1]? fun x27 =>
 C.int .i64 l20[2]? fun x28 =>
 C.int .i64 l20[3]? fun x29 =>
 C.int .i64 l20[4]? fun x30 =>
 k1 .normal ⟨[(.agg [(.lst a0),(iz a1),(iz a2),(iz a3),(iz a4),(iz a5),(iz a6),(iz a7),(iz a8)]),(.ptr 0 0 0),(.bool b3),(iz (IntKind.wrap .i64 (x4+1))),(iz x4),(.ptr 0 0 0),(.lst a0),(iz (((List.length a0):Nat):Int)),bt,(iz x4),(iz (IntKind.wrap .i64 (x4+1))),(.ptr 0 0 0),(.lst a0),(iz x4),(.fptr (.agg [(.zsl z22),(iz x27),(iz x28),(iz x29),(iz x30)]) 0),(.fptr (.agg [(.zsl z22),(iz x27),(iz x28),(iz x29),(iz x30)]) 0),(.zsl z22),(iz ((0:Nat):Int)),bf,tz,tz,tz,tz],[some ⟨E24,[(.agg [(.lst a0),(iz a1),(iz a2),(iz a3),(iz a4),(iz a5),(iz a6),(iz a7),(iz a8)])]⟩]⟩))
 (none))
 (k1 (.exit 0) ⟨[(.agg [(.lst a0),(iz a1),(iz a2),(iz a3),(iz a4),(iz a5),(iz a6),(iz a7),(iz a8)]),(.ptr 0 0 0),(.bool b3),(iz x4),(iz x4),(.ptr 0 0 0),(.lst a0),(iz (((List.length a0):Nat):Int)),bf,v10,v11,v12,v13,v14,v15,v16,v17,v18,v19,tz,tz,tz,tz],[some ⟨E24,[(.agg [(.lst a0),(iz a1),(iz a2),(iz a3),(iz a4),(iz a5),(iz a6),(iz a7),(iz a8)])]⟩]⟩))
 (none)
def r9X0_0 (C:Cb) (d:Nat) (a0:List AV) (a1 a2 a3 a4 a5 a6 a7 a8:Int):St→Ans:=fun s31 =>
 cnd ((List.length s31.env) == 23)
 (sames C s31.env 0 [(.agg [(.lst a0),(iz a1),(iz a2),(iz a3),(iz a4),(iz a5),(iz a6),(iz a7),(iz a8)]),(.ptr 0 0 0)] <|
 C.bool s31.env[2]? fun b32 =>
 C.int .i64 s31.env[3]? fun x33 =>
 C.int .i64 s31.env[4]? fun x34 =>
 anys C s31.env 5 2 <|
 C.int .i64 s31.env[7]? fun x37 =>
 C.bool s31.env[8]? fun b38 =>
 anys C s31.env 9 10 <|
 sames C s31.env 19 [tz,tz,tz,tz] <|
 C.sameH (St.H s31) [some ⟨E24,[(.agg [(.lst a0),(iz a1),(iz a2),(iz a3),(iz a4),(iz a5),(iz a6),(iz a7),(iz a8)])]⟩] <|
 some (.bool (decide ((((List.length a0):Nat):Int)≤8))))
 (none)
def r9E0 (C:Cb) (d:Nat) (a0:List AV) (a1 a2 a3 a4 a5 a6 a7 a8:Int):St→Ans:=fun s2 =>
 cnd ((List.length s2.env) == 23)
 (sames C s2.env 0 [(.agg [(.lst a0),(iz a1),(iz a2),(iz a3),(iz a4),(iz a5),(iz a6),(iz a7),(iz a8)]),(.ptr 0 0 0)] <|
 C.bool s2.env[2]? fun b49 =>
 C.int .i64 s2.env[3]? fun x50 =>
 C.int .i64 s2.env[4]? fun x51 =>
 anys C s2.env 5 2 <|
 C.int .i64 s2.env[7]? fun x54 =>
 C.bool s2.env[8]? fun b55 =>
 anys C s2.env 9 4 <|
 C.int .i64 s2.env[13]? fun x60 =>
 anys C s2.env 14 3 <|
 C.int .i64 s2.env[17]? fun x64 =>
 C.bool s2.env[18]? fun b65 =>
 sames C s2.env 19 [tz,tz,tz,tz] <|
 C.sameH (St.H s2) [some ⟨E24,[(.agg [(.lst a0),(iz a1),(iz a2),(iz a3),(iz a4),(iz a5),(iz a6),(iz a7),(iz a8)])]⟩] <|
 some (.bool b49))
 (none)
theorem r9 (C:Cb) (d:Nat) (a0:List AV) (a1 a2 a3 a4 a5 a6 a7 a8:Int):xcall C M unr d 9 [(.agg [(.lst a0),(iz a1),(iz a2),(iz a3),(iz a4),(iz a5),(iz a6),(iz a7),(iz a8)])] =
 C.iter (r9R0 C d a0 a1 a2 a3 a4 a5 a6 a7 a8) 10000000000000000000 ⟨[(.agg [(.lst a0),(iz a1),(iz a2),(iz a3),(iz a4),(iz a5),(iz a6),(iz a7),(iz a8)]),(.ptr 0 0 0),bf,(iz 0),tz,tz,tz,tz,tz,tz,tz,tz,tz,tz,tz,tz,tz,tz,tz,tz,tz,tz,tz],[some ⟨E24,[(.agg [(.lst a0),(iz a1),(iz a2),(iz a3),(iz a4),(iz a5),(iz a6),(iz a7),(iz a8)])]⟩]⟩ [0] [r9X0_0 C d a0 a1 a2 a3 a4 a5 a6 a7 a8] (r9E0 C d a0 a1 a2 a3 a4 a5 a6 a7 a8):=by kernel_rfl
def r11R0 (C:Cb) (d:Nat) (a0:List AV) (a1 a2 a3 a4 a5 a6 a7 a8:Int):St→(Ex→St→Ans)→Ans:=fun s0 k1 =>
 cnd ((List.length s0.env) == 73)
 (sames C s0.env 0 [(.agg [(.lst a0),(iz a1),(iz a2),(iz a3),(iz a4),(iz a5),(iz a6),(iz a7),(iz a8)]),(.ptr 0 0 0)] <|
 C.int .i64 s0.env[2]? fun x3 =>
 C.int .i64 s0.env[3]? fun x4 =>
 sames C s0.env 4 [(.ptr 0 0 0),(.lst a0),(iz (((List.length a0):Nat):Int)),(.bool (decide ((((List.length a0):Nat):Int) < 1))),bf,(.ptr 0 0 0),(.lst a0),(iz (((List.length a0):Nat):Int)),(.bool (decide ((((List.length a0):Nat):Int) > 4))),bf] <|
 anys C s0.env 14 5 <|
 C.any s0.env[19]? fun v10 =>
 C.any s0.env[20]? fun v11 =>
 C.any s0.env[21]? fun v12 =>
 C.any s0.env[22]? fun v13 =>
 C.any s0.env[23]? fun v14 =>
 C.any s0.env[24]? fun v15 =>
 C.any s0.env[25]? fun v16 =>
 C.any s0.env[26]? fun v17 =>
 C.any s0.env[27]? fun v18 =>
 sames C s0.env 28 [tz,tz,tz,tz,tz,tz,tz,tz,tz,tz,tz,tz,tz,tz,tz,tz,tz,tz,tz,tz,tz,tz,tz,tz,tz,tz,tz,tz,tz,tz,tz,tz,tz,tz,tz,tz,tz,tz,tz,tz,tz,tz,tz,tz,tz] <|
 C.sameH (St.H s0) [some ⟨E24,[(.agg [(.lst a0),(iz a1),(iz a2),(iz a3),(iz a4),(iz a5),(iz a6),(iz a7),(iz a8)])]⟩] <|
 cnd (decide (x4 < (((List.length a0):Nat):Int)))
 (cnd (decide ((0:Int)≤x4))
 (C.agg 5 a0[(Int.toNat x4)]? fun l19 =>
 C.lst l19[0]? (fun l20 =>
 C.int .i64 l19[1]? fun x22 =>
 C.int .i64 l19[2]? fun x23 =>
 C.int .i64 l19[3]? fun x24 =>
 C.int .i64 l19[4]? fun x25 =>
 C.bool (pcall M d 23 [(.agg [(.lst l20),(iz x22),(iz x23),(iz x24),(iz x25)])]) fun b26 =>
 cnd (!b26)
 (k1 .ret ⟨[(.agg [(.lst a0),(iz a1),(iz a2),(iz a3),(iz a4),(iz a5),(iz a6),(iz a7),(iz a8)]),(.ptr 0 0 0),(iz 2),(iz x4),(.ptr 0 0 0),(.lst a0),(iz (((List.length a0):Nat):Int)),(.bool (decide ((((List.length a0):Nat):Int) < 1))),bf,(.ptr 0 0 0),(.lst a0),(iz (((List.length a0):Nat):Int)),(.bool (decide ((((List.length a0):Nat):Int) > 4))),bf,(iz x4),(.ptr 0 0 0),(.lst a0),(iz (((List.length a0):Nat):Int)),bt,v10,v11,(.ptr 0 0 0),(.lst a0),(iz x4),(.fptr (.agg [(.lst l20),(iz x22),(iz x23),(iz x24),(iz x25)]) 0),(.agg [(.lst l20),(iz x22),(iz x23),(iz x24),(iz x25)]),(.bool b26),bt,tz,tz,tz,tz,tz,tz,tz,tz,tz,tz,tz,tz,tz,tz,tz,tz,tz,tz,tz,tz,tz,tz,tz,tz,tz,tz,tz,tz,tz,tz,tz,tz,tz,tz,tz,tz,tz,tz,tz,tz,tz,tz,tz,tz,tz],[some ⟨E24,[(.agg [(.lst a0),(iz a1),(iz a2),(iz a3),(iz a4),(iz a5),(iz a6),(iz a7),(iz a8)])]⟩]⟩)
 (k1 .normal ⟨[(.agg [(.lst a0),(iz a1),(iz a2),(iz a3),(iz a4),(iz a5),(iz a6),(iz a7),(iz a8)]),(.ptr 0 0 0),(iz x3),(iz (IntKind.wrap .i64 (x4+1))),(.ptr 0 0 0),(.lst a0),(iz (((List.length a0):Nat):Int)),(.bool (decide ((((List.length a0):Nat):Int) < 1))),bf,(.ptr 0 0 0),(.lst a0),(iz (((List.length a0):Nat):Int)),(.bool (decide ((((List.length a0):Nat):Int) > 4))),bf,(iz x4),(.ptr 0 0 0),(.lst a0),(iz (((List.length a0):Nat):Int)),bt,(iz x4),(iz (IntKind.wrap .i64 (x4+1))),(.ptr 0 0 0),(.lst a0),(iz x4),(.fptr (.agg [(.lst l20),(iz x22),(iz x23),(iz x24),(iz x25)]) 0),(.agg [(.lst l20),(iz x22),(iz x23),(iz x24),(iz x25)]),(.bool b26),bf,tz,tz,tz,tz,tz,tz,tz,tz,tz,tz,tz,tz,tz,tz,tz,tz,tz,tz,tz,tz,tz,tz,tz,tz,tz,tz,tz,tz,tz,tz,tz,tz,tz,tz,tz,tz,tz,tz,tz,tz,tz,tz,tz,tz,tz],[some ⟨E24,[(.agg [(.lst a0),(iz a1),(iz a2),(iz a3),(iz a4),(iz a5),(iz a6),(iz a7),(iz a8)])]⟩]⟩))
 (fun z21 =>
 C.int .i64 l19[1]? fun x27 =>
 C.int .i64 l19[2]? fun x28 =>
 C.int .i64 l19[3]? fun x29 =>
 C.int .i64 l19[4]? fun x30 =>
 C.bool (pcall M d 23 [(.agg [(.zsl z21),(iz x27),(iz x28),(iz x29),(iz x30)])]) fun b31 =>
 cnd (!b31)
 (k1 .ret ⟨[(.agg [(.lst a0),(iz a1),(iz a2),(iz a3),(iz a4),(iz a5),(iz a6),(iz a7),(iz a8)]),(.ptr 0 0 0),(iz 2),(iz x4),(.ptr 0 0 0),(.lst a0),(iz (((List.length a0):Nat):Int)),(.bool (decide ((((List.length a0):Nat):Int) < 1))),bf,(.ptr 0 0 0),(.lst a0),(iz (((List.length a0):Nat):Int)),(.bool (decide ((((List.length a0):Nat):Int) > 4))),bf,(iz x4),(.ptr 0 0 0),(.lst a0),(iz (((List.length a0):Nat):Int)),bt,v10,v11,(.ptr 0 0 0),(.lst a0),(iz x4),(.fptr (.agg [(.zsl z21),(iz x27),(iz x28),(iz x29),(iz x30)]) 0),(.agg [(.zsl z21),(iz x27),(iz x28),(iz x29),(iz x30)]),(.bool b31),bt,tz,tz,tz,tz,tz,tz,tz,tz,tz,tz,tz,tz,tz,tz,tz,tz,tz,tz,tz,tz,tz,tz,tz,tz,tz,tz,tz,tz,tz,tz,tz,tz,tz,tz,tz,tz,tz,tz,tz,tz,tz,tz,tz,tz,tz],[some ⟨E24,[(.agg [(.lst a0),(iz a1),(iz a2),(iz a3),(iz a4),(iz a5),(iz a6),(iz a7),(iz a8)])]⟩]⟩)
 (k1 .normal ⟨[(.agg [(.lst a0),(iz a1),(iz a2),(iz a3),(iz a4),(iz a5),(iz a6),(iz a7),(iz a8)]),(.ptr 0 0 0),(iz x3),(iz (IntKind.wrap .i64 (x4+1))),(.ptr 0 0 0),(.lst a0),(iz (((List.length a0):Nat):Int)),(.bool (decide ((((List.length a0):Nat):Int) < 1))),bf,(.ptr 0 0 0),(.lst a0),(iz (((List.length a0):Nat):Int)),(.bool (decide ((((List.length a0):Nat):Int) > 4))),bf,(iz x4),(.ptr 0 0 0),(.lst a0),(iz (((List.length a0):Nat):Int)),bt,(iz x4),(iz (IntKind.wrap .i64 (x4+1))),(.ptr 0 0 0),(.lst a0),(iz x4),(.fptr (.agg [(.zsl z21),(iz x27),(iz x28),(iz x29),(iz x30)]) 0),(.agg [(.zsl z21),(iz x27),(iz x28),(iz x29),(iz x30)]),(.bool b31),bf,tz,tz,tz,tz,tz,tz,tz,tz,tz,tz,tz,tz,tz,tz,tz,tz,tz,tz,tz,tz,tz,tz,tz,tz,tz,tz,tz,tz,tz,tz,tz,tz,tz,tz,tz,tz,tz,tz,tz,tz,tz,tz,tz,tz,tz],[some ⟨E24,[(.agg [(.lst a0),(iz a1),(iz a2),(iz a3),(iz a4),(iz a5),(iz a6),(iz a7),(iz a8)])]⟩]⟩)))
 (none))
 (k1 (.exit 0) ⟨[(.agg [(.lst a0),(iz a1),(iz a2),(iz a3),(iz a4),(iz a5),(iz a6),(iz a7),(iz a8)]),(.ptr 0 0 0),(iz x3),(iz x4),(.ptr 0 0 0),(.lst a0),(iz (((List.length a0):Nat):Int)),(.bool (decide ((((List.length a0):Nat):Int) < 1))),bf,(.ptr 0 0 0),(.lst a0),(iz (((List.length a0):Nat):Int)),(.bool (decide ((((List.length a0):Nat):Int) > 4))),bf,(iz x4),(.ptr 0 0 0),(.lst a0),(iz (((List.length a0):Nat):Int)),bf,v10,v11,v12,v13,v14,v15,v16,v17,v18,tz,tz,tz,tz,tz,tz,tz,tz,tz,tz,tz,tz,tz,tz,tz,tz,tz,tz,tz,tz,tz,tz,tz,tz,tz,tz,tz,tz,tz,tz,tz,tz,tz,tz,tz,tz,tz,tz,tz,tz,tz,tz,tz,tz,tz],[some ⟨E24,[(.agg [(.lst a0),(iz a1),(iz a2),(iz a3),(iz a4),(iz a5),(iz a6),(iz a7),(iz a8)])]⟩]⟩))
 (none)
def r11X0_0 (C:Cb) (d:Nat) (a0:List AV) (a1 a2 a3 a4 a5 a6 a7 a8:Int):St→Ans:=fun s32 =>
 cnd ((List.length s32.env) == 73)
 (sames C s32.env 0 [(.agg [(.lst a0),(iz a1),(iz a2),(iz a3),(iz a4),(iz a5),(iz a6),(iz a7),(iz a8)]),(.ptr 0 0 0)] <|
 C.int .i64 s32.env[2]? fun x33 =>
 C.int .i64 s32.env[3]? fun x34 =>
 sames C s32.env 4 [(.ptr 0 0 0),(.lst a0),(iz (((List.length a0):Nat):Int)),(.bool (decide ((((List.length a0):Nat):Int) < 1))),bf,(.ptr 0 0 0),(.lst a0),(iz (((List.length a0):Nat):Int)),(.bool (decide ((((List.length a0):Nat):Int) > 4))),bf] <|
 C.int .i64 s32.env[14]? fun x35 =>
 anys C s32.env 15 2 <|
 C.int .i64 s32.env[17]? fun x38 =>
 C.bool s32.env[18]? fun b39 =>
 anys C s32.env 19 9 <|
 sames C s32.env 28 [tz,tz,tz,tz,tz,tz,tz,tz,tz,tz,tz,tz,tz,tz,tz,tz,tz,tz,tz,tz,tz,tz,tz,tz,tz,tz,tz,tz,tz,tz,tz,tz,tz,tz,tz,tz,tz,tz,tz,tz,tz,tz,tz,tz,tz] <|
 C.sameH (St.H s32) [some ⟨E24,[(.agg [(.lst a0),(iz a1),(iz a2),(iz a3),(iz a4),(iz a5),(iz a6),(iz a7),(iz a8)])]⟩] <|
 C.bool (pcall M d 24 [(iz a1),(iz 1),(iz 50)]) fun b49 =>
 cnd (!b49)
 (some (iz 3))
 (C.bool (pcall M d 24 [(iz a2),(iz 1),(iz 50)]) fun b50 =>
 cnd (!b50)
 (some (iz 3))
 (C.bool (pcall M d 24 [(iz a3),(iz 1),(iz 50)]) fun b51 =>
 cnd (!b51)
 (some (iz 3))
 (C.bool (pcall M d 24 [(iz a4),(iz 0),(iz 1024)]) fun b52 =>
 cnd (!b52)
 (some (iz 4))
 (C.bool (pcall M d 24 [(iz a5),(iz 1),(iz 65536)]) fun b53 =>
 cnd (!b53)
 (some (iz 5))
 (C.bool (pcall M d 24 [(iz a6),(iz 1),(iz 50)]) fun b54 =>
 cnd (!b54)
 (some (iz 6))
 (C.bool (pcall M d 24 [(iz a7),(iz 1),(iz 1073741824)]) fun b55 =>
 cnd (!b55)
 (some (iz 7))
 (C.bool (pcall M d 24 [(iz a8),(iz 0),(iz (((List.length a0):Nat):Int))]) fun b56 =>
 cnd (!b56)
 (some (iz 8))
 (some (iz 0))))))))))
 (none)
def r11E0 (C:Cb) (d:Nat) (a0:List AV) (a1 a2 a3 a4 a5 a6 a7 a8:Int):St→Ans:=fun s2 =>
 cnd ((List.length s2.env) == 73)
 (sames C s2.env 0 [(.agg [(.lst a0),(iz a1),(iz a2),(iz a3),(iz a4),(iz a5),(iz a6),(iz a7),(iz a8)]),(.ptr 0 0 0)] <|
 C.int .i64 s2.env[2]? fun x57 =>
 C.int .i64 s2.env[3]? fun x58 =>
 sames C s2.env 4 [(.ptr 0 0 0),(.lst a0),(iz (((List.length a0):Nat):Int)),(.bool (decide ((((List.length a0):Nat):Int) < 1))),bf,(.ptr 0 0 0),(.lst a0),(iz (((List.length a0):Nat):Int)),(.bool (decide ((((List.length a0):Nat):Int) > 4))),bf] <|
 C.int .i64 s2.env[14]? fun x59 =>
 anys C s2.env 15 2 <|
 C.int .i64 s2.env[17]? fun x62 =>
 C.bool s2.env[18]? fun b63 =>
 anys C s2.env 19 4 <|
 C.int .i64 s2.env[23]? fun x68 =>
 C.any s2.env[24]? fun v69 =>
 C.agg 5 s2.env[25]? fun l70 =>
 C.any l70[0]? fun v71 =>
 C.int .i64 l70[1]? fun x72 =>
 C.int .i64 l70[2]? fun x73 =>
 C.int .i64 l70[3]? fun x74 =>
 C.int .i64 l70[4]? fun x75 =>
 C.bool s2.env[26]? fun b76 =>
 C.bool s2.env[27]? fun b77 =>
 sames C s2.env 28 [tz,tz,tz,tz,tz,tz,tz,tz,tz,tz,tz,tz,tz,tz,tz,tz,tz,tz,tz,tz,tz,tz,tz,tz,tz,tz,tz,tz,tz,tz,tz,tz,tz,tz,tz,tz,tz,tz,tz,tz,tz,tz,tz,tz,tz] <|
 C.sameH (St.H s2) [some ⟨E24,[(.agg [(.lst a0),(iz a1),(iz a2),(iz a3),(iz a4),(iz a5),(iz a6),(iz a7),(iz a8)])]⟩] <|
 some (iz x57))
 (none)
theorem r11 (C:Cb) (d:Nat) (a0:List AV) (a1 a2 a3 a4 a5 a6 a7 a8:Int):xcall C M unr d 11 [(.agg [(.lst a0),(iz a1),(iz a2),(iz a3),(iz a4),(iz a5),(iz a6),(iz a7),(iz a8)])] =
 cnd (decide ((((List.length a0):Nat):Int) < 1))
 (some (iz 1))
 (cnd (decide ((((List.length a0):Nat):Int) > 4))
 (some (iz 1))
 (C.iter (r11R0 C d a0 a1 a2 a3 a4 a5 a6 a7 a8) 10000000000000000000 ⟨[(.agg [(.lst a0),(iz a1),(iz a2),(iz a3),(iz a4),(iz a5),(iz a6),(iz a7),(iz a8)]),(.ptr 0 0 0),(iz 0),(iz 0),(.ptr 0 0 0),(.lst a0),(iz (((List.length a0):Nat):Int)),(.bool (decide ((((List.length a0):Nat):Int) < 1))),bf,(.ptr 0 0 0),(.lst a0),(iz (((List.length a0):Nat):Int)),(.bool (decide ((((List.length a0):Nat):Int) > 4))),bf,tz,tz,tz,tz,tz,tz,tz,tz,tz,tz,tz,tz,tz,tz,tz,tz,tz,tz,tz,tz,tz,tz,tz,tz,tz,tz,tz,tz,tz,tz,tz,tz,tz,tz,tz,tz,tz,tz,tz,tz,tz,tz,tz,tz,tz,tz,tz,tz,tz,tz,tz,tz,tz,tz,tz,tz,tz,tz,tz],[some ⟨E24,[(.agg [(.lst a0),(iz a1),(iz a2),(iz a3),(iz a4),(iz a5),(iz a6),(iz a7),(iz a8)])]⟩]⟩ [0] [r11X0_0 C d a0 a1 a2 a3 a4 a5 a6 a7 a8] (r11E0 C d a0 a1 a2 a3 a4 a5 a6 a7 a8))):=by kernel_rfl
def r15R0 (C:Cb) (d:Nat) (a0:List AV) (a1 a2 a3 a4 a5 a6 a7 a8:Int) (a9:List AV) (a10 a11 a12 a13 a14 a15 a16 a17:Int):St→(Ex→St→Ans)→Ans:=fun s0 k1 =>
 cnd ((List.length s0.env) == 88)
 (sames C s0.env 0 [(.agg [(.lst a0),(iz a1),(iz a2),(iz a3),(iz a4),(iz a5),(iz a6),(iz a7),(iz a8)]),(.agg [(.lst a9),(iz a10),(iz a11),(iz a12),(iz a13),(iz a14),(iz a15),(iz a16),(iz a17)]),(.ptr 0 0 0),(.ptr 1 0 0)] <|
 C.bool s0.env[4]? fun b3 =>
 C.int .i64 s0.env[5]? fun x4 =>
 sames C s0.env 6 [(.ptr 0 0 0),(.lst a0),(iz (((List.length a0):Nat):Int)),(.ptr 1 0 0),(.lst a9),(iz (((List.length a9):Nat):Int)),(.bool ((((List.length a0):Nat):Int) != (((List.length a9):Nat):Int))),bf,(.ptr 0 0 1),(iz a1),(.ptr 1 0 1),(iz a10),(.bool (a1 != a10)),(.bool (a1 != a10)),bf,(.ptr 0 0 2),(iz a2),(.ptr 1 0 2),(iz a11),(.bool (a2 != a11)),(.bool (a2 != a11)),bf,(.ptr 0 0 3),(iz a3),(.ptr 1 0 3),(iz a12),(.bool (a3 != a12)),(.bool (a3 != a12)),bf,(.ptr 0 0 4),(iz a4),(.ptr 1 0 4),(iz a13),(.bool (a4 != a13)),(.bool (a4 != a13)),bf,(.ptr 0 0 5),(iz a5),(.ptr 1 0 5),(iz a14),(.bool (a5 != a14)),(.bool (a5 != a14)),bf,(.ptr 0 0 6),(iz a6),(.ptr 1 0 6),(iz a15),(.bool (a6 != a15)),(.bool (a6 != a15)),bf,(.ptr 0 0 7),(iz a7),(.ptr 1 0 7),(iz a16),(.bool (a7 != a16)),(.bool (a7 != a16)),bf,(.ptr 0 0 8),(iz a8),(.ptr 1 0 8),(iz a17),(.bool (a8 != a17)),bf] <|
 anys C s0.env 69 5 <|
 C.any s0.env[74]? fun v10 =>
 C.any s0.env[75]? fun v11 =>
 C.any s0.env[76]? fun v12 =>
 C.any s0.env[77]? fun v13 =>
 C.any s0.env[78]? fun v14 =>
 C.any s0.env[79]? fun v15 =>
 C.any s0.env[80]? fun v16 =>
 C.any s0.env[81]? fun v17 =>
 C.any s0.env[82]? fun v18 =>
 C.any s0.env[83]? fun v19 =>
 C.any s0.env[84]? fun v20 =>
 C.any s0.env[85]? fun v21 =>
 C.any s0.env[86]? fun v22 =>
 C.any s0.env[87]? fun v23 =>
 C.sameH (St.H s0) [some ⟨E24,[(.agg [(.lst a0),(iz a1),(iz a2),(iz a3),(iz a4),(iz a5),(iz a6),(iz a7),(iz a8)])]⟩,some ⟨E24,[(.agg [(.lst a9),(iz a10),(iz a11),(iz a12),(iz a13),(iz a14),(iz a15),(iz a16),(iz a17)])]⟩] <|
 cnd (decide (x4 < (((List.length a0):Nat):Int)))
 (cnd (decide ((0:Int)≤x4))
 (C.agg 5 a0[(Int.toNat x4)]? fun l24 =>
 C.lst l24[0]? (fun l25 =>
 C.int .i64 l24[1]? fun x27 =>
 C.int .i64 l24[2]? fun x28 =>
 C.int .i64 l24[3]? fun x29 =>
 C.int .i64 l24[4]? fun x30 =>
 cnd (decide ((0:Int)≤x4))
 (C.agg 5 a9[(Int.toNat x4)]? fun l31 =>
 C.lst l31[0]? (fun l32 =>
 C.int .i64 l31[1]? fun x34 =>
 C.int .i64 l31[2]? fun x35 =>
 C.int .i64 l31[3]? fun x36 =>
 C.int .i64 l31[4]? fun x37 =>
 C.bool (pcall M d 29 [(.agg [(.lst l25),(iz x27),(iz x28),(iz x29),(iz x30)]),(.agg [(.lst l32),(iz x34),(iz x35),(iz x36),(iz x37)])]) fun b38 =>
 cnd (!b38)
 (k1 .ret ⟨[(.agg [(.lst a0),(iz a1),(iz a2),(iz a3),(iz a4),(iz a5),(iz a6),(iz a7),(iz a8)]),(.agg [(.lst a9),(iz a10),(iz a11),(iz a12),(iz a13),(iz a14),(iz a15),(iz a16),(iz a17)]),(.ptr 0 0 0),(.ptr 1 0 0),bf,(iz x4),(.ptr 0 0 0),(.lst a0),(iz (((List.length a0):Nat):Int)),(.ptr 1 0 0),(.lst a9),(iz (((List.length a9):Nat):Int)),(.bool ((((List.length a0):Nat):Int) != (((List.length a9):Nat):Int))),bf,(.ptr 0 0 1),(iz a1),(.ptr 1 0 1),(iz a10),(.bool (a1 != a10)),(.bool (a1 != a10)),bf,(.ptr 0 0 2),(iz a2),(.ptr 1 0 2),(iz a11),(.bool (a2 != a11)),(.bool (a2 != a11)),bf,(.ptr 0 0 3),(iz a3),(.ptr 1 0 3),(iz a12),(.bool (a3 != a12)),(.bool (a3 != a12)),bf,(.ptr 0 0 4),(iz a4),(.ptr 1 0 4),(iz a13),(.bool (a4 != a13)),(.bool (a4 != a13)),bf,(.ptr 0 0 5),(iz a5),(.ptr 1 0 5),(iz a14),(.bool (a5 != a14)),(.bool (a5 != a14)),bf,(.ptr 0 0 6),(iz a6),(.ptr 1 0 6),(iz a15),(.bool (a6 != a15)),(.bool (a6 != a15)),bf,(.ptr 0 0 7),(iz a7),(.ptr 1 0 7),(iz a16),(.bool (a7 != a16)),(.bool (a7 != a16)),bf,(.ptr 0 0 8),(iz a8),(.ptr 1 0 8),(iz a17),(.bool (a8 != a17)),bf,(iz x4),(.ptr 0 0 0),(.lst a0),(iz (((List.length a0):Nat):Int)),bt,v10,v11,(.ptr 0 0 0),(.lst a0),(iz x4),(.fptr (.agg [(.lst l25),(iz x27),(iz x28),(iz x29),(iz x30)]) 0),(.agg [(.lst l25),(iz x27),(iz x28),(iz x29),(iz x30)]),(.ptr 1 0 0),(.lst a9),(iz x4),(.fptr (.agg [(.lst l32),(iz x34),(iz x35),(iz x36),(iz x37)]) 0),(.agg [(.lst l32),(iz x34),(iz x35),(iz x36),(iz x37)]),(.bool b38),bt],[some ⟨E24,[(.agg [(.lst a0),(iz a1),(iz a2),(iz a3),(iz a4),(iz a5),(iz a6),(iz a7),(iz a8)])]⟩,some ⟨E24,[(.agg [(.lst a9),(iz a10),(iz a11),(iz a12),(iz a13),(iz a14),(iz a15),(iz a16),(iz a17)])]⟩]⟩)
 (k1 .normal ⟨[(.agg [(.lst a0),(iz a1),(iz a2),(iz a3),(iz a4),(iz a5),(iz a6),(iz a7),(iz a8)]),(.agg [(.lst a9),(iz a10),(iz a11),(iz a12),(iz a13),(iz a14),(iz a15),(iz a16),(iz a17)]),(.ptr 0 0 0),(.ptr 1 0 0),(.bool b3),(iz (IntKind.wrap .i64 (x4+1))),(.ptr 0 0 0),(.lst a0),(iz (((List.length a0):Nat):Int)),(.ptr 1 0 0),(.lst a9),(iz (((List.length a9):Nat):Int)),(.bool ((((List.length a0):Nat):Int) != (((List.length a9):Nat):Int))),bf,(.ptr 0 0 1),(iz a1),(.ptr 1 0 1),(iz a10),(.bool (a1 != a10)),(.bool (a1 != a10)),bf,(.ptr 0 0 2),(iz a2),(.ptr 1 0 2),(iz a11),(.bool (a2 != a11)),(.bool (a2 != a11)),bf,(.ptr 0 0 3),(iz a3),(.ptr 1 0 3),(iz a12),(.bool (a3 != a12)),(.bool (a3 != a12)),bf,(.ptr 0 0 4),(iz a4),(.ptr 1 0 4),(iz a13),(.bool (a4 != a13)),(.bool (a4 != a13)),bf,(.ptr 0 0 5),(iz a5),(.ptr 1 0 5),(iz a14),(.bool (a5 != a14)),(.bool (a5 != a14)),bf,(.ptr 0 0 6),(iz a6),(.ptr 1 0 6),(iz a15),(.bool (a6 != a15)),(.bool (a6 != a15)),bf,(.ptr 0 0 7),(iz a7),(.ptr 1 0 7),(iz a16),(.bool (a7 != a16)),(.bool (a7 != a16)),bf,(.ptr 0 0 8),(iz a8),(.ptr 1 0 8),(iz a17),(.bool (a8 != a17)),bf,(iz x4),(.ptr 0 0 0),(.lst a0),(iz (((List.length a0):Nat):Int)),bt,(iz x4),(iz (IntKind.wrap .i64 (x4+1))),(.ptr 0 0 0),(.lst a0),(iz x4),(.fptr (.agg [(.lst l25),(iz x27),(iz x28),(iz x29),(iz x30)]) 0),(.agg [(.lst l25),(iz x27),(iz x28),(iz x29),(iz x30)]),(.ptr 1 0 0),(.lst a9),(iz x4),(.fptr (.agg [(.lst l32),(iz x34),(iz x35),(iz x36),(iz x37)]) 0),(.agg [(.lst l32),(iz x34),(iz x35),(iz x36),(iz x37)]),(.bool b38),bf],[some ⟨E24,[(.agg [(.lst a0),(iz a1),(iz a2),(iz a3),(iz a4),(iz a5),(iz a6),(iz a7),(iz a8)])]⟩,some ⟨E24,[(.agg [(.lst a9),(iz a10),(iz a11),(iz a12),(iz a13),(iz a14),(iz a15),(iz a16),(iz a17)])]⟩]⟩))
 (fun z33 =>
 C.int .i64 l31[1]? fun x39 =>
 C.int .i64 l31[2]? fun x40 =>
 C.int .i64 l31[3]? fun x41 =>
 C.int .i64 l31[4]? fun x42 =>
 C.bool (pcall M d 29 [(.agg [(.lst l25),(iz x27),(iz x28),(iz x29),(iz x30)]),(.agg [(.zsl z33),(iz x39),(iz x40),(iz x41),(iz x42)])]) fun b43 =>
 cnd (!b43)
 (k1 .ret ⟨[(.agg [(.lst a0),(iz a1),(iz a2),(iz a3),(iz a4),(iz a5),(iz a6),(iz a7),(iz a8)]),(.agg [(.lst a9),(iz a10),(iz a11),(iz a12),(iz a13),(iz a14),(iz a15),(iz a16),(iz a17)]),(.ptr 0 0 0),(.ptr 1 0 0),bf,(iz x4),(.ptr 0 0 0),(.lst a0),(iz (((List.length a0):Nat):Int)),(.ptr 1 0 0),(.lst a9),(iz (((List.length a9):Nat):Int)),(.bool ((((List.length a0):Nat):Int) != (((List.length a9):Nat):Int))),bf,(.ptr 0 0 1),(iz a1),(.ptr 1 0 1),(iz a10),(.bool (a1 != a10)),(.bool (a1 != a10)),bf,(.ptr 0 0 2),(iz a2),(.ptr 1 0 2),(iz a11),(.bool (a2 != a11)),(.bool (a2 != a11)),bf,(.ptr 0 0 3),(iz a3),(.ptr 1 0 3),(iz a12),(.bool (a3 != a12)),(.bool (a3 != a12)),bf,(.ptr 0 0 4),(iz a4),(.ptr 1 0 4),(iz a13),(.bool (a4 != a13)),(.bool (a4 != a13)),bf,(.ptr 0 0 5),(iz a5),(.ptr 1 0 5),(iz a14),(.bool (a5 != a14)),(.bool (a5 != a14)),bf,(.ptr 0 0 6),(iz a6),(.ptr 1 0 6),(iz a15),(.bool (a6 != a15)),(.bool (a6 != a15)),bf,(.ptr 0 0 7),(iz a7),(.ptr 1 0 7),(iz a16),(.bool (a7 != a16)),(.bool (a7 != a16)),bf,(.ptr 0 0 8),(iz a8),(.ptr 1 0 8),(iz a17),(.bool (a8 != a17)),bf,(iz x4),(.ptr 0 0 0),(.lst a0),(iz (((List.length a0):Nat):Int)),bt,v10,v11,(.ptr 0 0 0),(.lst a0),(iz x4),(.fptr (.agg [(.lst l25),(iz x27),(iz x28),(iz x29),(iz x30)]) 0),(.agg [(.lst l25),(iz x27),(iz x28),(iz x29),(iz x30)]),(.ptr 1 0 0),(.lst a9),(iz x4),(.fptr (.agg [(.zsl z33),(iz x39),(iz x40),(iz x41),(iz x42)]) 0),(.agg [(.zsl z33),(iz x39),(iz x40),(iz x41),(iz x42)]),(.bool b43),bt],[some ⟨E24,[(.agg [(.lst a0),(iz a1),(iz a2),(iz a3),(iz a4),(iz a5),(iz a6),(iz a7),(iz a8)])]⟩,some ⟨E24,[(.agg [(.lst a9),(iz a10),(iz a11),(iz a12),(iz a13),(iz a14),(iz a15),(iz a16),(iz a17)])]⟩]⟩)
 (k1 .normal ⟨[(.agg [(.lst a0),(iz a1),(iz a2),(iz a3),(iz a4),(iz a5),(iz a6),(iz a7),(iz a8)]),(.agg [(.lst a9),(iz a10),(iz a11),(iz a12),(iz a13),(iz a14),(iz a15),(iz a16),(iz a17)]),(.ptr 0 0 0),(.ptr 1 0 0),(.bool b3),(iz (IntKind.wrap .i64 (x4+1))),(.ptr 0 0 0),(.lst a0),(iz (((List.length a0):Nat):Int)),(.ptr 1 0 0),(.lst a9),(iz (((List.length a9):Nat):Int)),(.bool ((((List.length a0):Nat):Int) != (((List.length a9):Nat):Int))),bf,(.ptr 0 0 1),(iz a1),(.ptr 1 0 1),(iz a10),(.bool (a1 != a10)),(.bool (a1 != a10)),bf,(.ptr 0 0 2),(iz a2),(.ptr 1 0 2),(iz a11),(.bool (a2 != a11)),(.bool (a2 != a11)),bf,(.ptr 0 0 3),(iz a3),(.ptr 1 0 3),(iz a12),(.bool (a3 != a12)),(.bool (a3 != a12)),bf,(.ptr 0 0 4),(iz a4),(.ptr 1 0 4),(iz a13),(.bool (a4 != a13)),(.bool (a4 != a13)),bf,(.ptr 0 0 5),(iz a5),(.ptr 1 0 5),(iz a14),(.bool (a5 != a14)),(.bool (a5 != a14)),bf,(.ptr 0 0 6),(iz a6),(.ptr 1 0 6),(iz a15),(.bool (a6 != a15)),(.bool (a6 != a15)),bf,(.ptr 0 0 7),(iz a7),(.ptr 1 0 7),(iz a16),(.bool (a7 != a16)),(.bool (a7 != a16)),bf,(.ptr 0 0 8),(iz a8),(.ptr 1 0 8),(iz a17),(.bool (a8 != a17)),bf,(iz x4),(.ptr 0 0 0),(.lst a0),(iz (((List.length a0):Nat):Int)),bt,(iz x4),(iz (IntKind.wrap .i64 (x4+1))),(.ptr 0 0 0),(.lst a0),(iz x4),(.fptr (.agg [(.lst l25),(iz x27),(iz x28),(iz x29),(iz x30)]) 0),(.agg [(.lst l25),(iz x27),(iz x28),(iz x29),(iz x30)]),(.ptr 1 0 0),(.lst a9),(iz x4),(.fptr (.agg [(.zsl z33),(iz x39),(iz x40),(iz x41),(iz x42)]) 0),(.agg [(.zsl z33),(iz x39),(iz x40),(iz x41),(iz x42)]),(.bool b43),bf],[some ⟨E24,[(.agg [(.lst a0),(iz a1),(iz a2),(iz a3),(iz a4),(iz a5),(iz a6),(iz a7),(iz a8)])]⟩,some ⟨E24,[(.agg [(.lst a9),(iz a10),(iz a11),(iz a12),(iz a13),(iz a14),(iz a15),(iz a16),(iz a17)])]⟩]⟩)))
 (none))
 (fun z26 =>
 C.int .i64 l24[1]? fun x44 =>
 C.int .i64 l24[2]? fun x45 =>
 C.int .i64 l24[3]? fun x46 =>
 C.int .i64 l24[4]? fun x47 =>
 cnd (decide ((0:Int)≤x4))
 (C.agg 5 a9[(Int.toNat x4)]? fun l48 =>
 C.lst l48[0]? (fun l49 =>
 C.int .i64 l48[1]? fun x51 =>
 C.int .i64 l48[2]? fun x52 =>
 C.int .i64 l48[3]? fun x53 =>
 C.int .i64 l48[4]? fun x54 =>
 C.bool (pcall M d 29 [(.agg [(.zsl z26),(iz x44),(iz x45),(iz x46),(iz x47)]),(.agg [(.lst l49),(iz x51),(iz x52),(iz x53),(iz x54)])]) fun b55 =>
 cnd (!b55)
 (k1 .ret ⟨[(.agg [(.lst a0),(iz a1),(iz a2),(iz a3),(iz a4),(iz a5),(iz a6),(iz a7),(iz a8)]),(.agg [(.lst a9),(iz a10),(iz a11),(iz a12),(iz a13),(iz a14),(iz a15),(iz a16),(iz a17)]),(.ptr 0 0 0),(.ptr 1 0 0),bf,(iz x4),(.ptr 0 0 0),(.lst a0),(iz (((List.length a0):Nat):Int)),(.ptr 1 0 0),(.lst a9),(iz (((List.length a9):Nat):Int)),(.bool ((((List.length a0):Nat):Int) != (((List.length a9):Nat):Int))),bf,(.ptr 0 0 1),(iz a1),(.ptr 1 0 1),(iz a10),(.bool (a1 != a10)),(.bool (a1 != a10)),bf,(.ptr 0 0 2),(iz a2),(.ptr 1 0 2),(iz a11),(.bool (a2 != a11)),(.bool (a2 != a11)),bf,(.ptr 0 0 3),(iz a3),(.ptr 1 0 3),(iz a12),(.bool (a3 != a12)),(.bool (a3 != a12)),bf,(.ptr 0 0 4),(iz a4),(.ptr 1 0 4),(iz a13),(.bool (a4 != a13)),(.bool (a4 != a13)),bf,(.ptr 0 0 5),(iz a5),(.ptr 1 0 5),(iz a14),(.bool (a5 != a14)),(.bool (a5 != a14)),bf,(.ptr 0 0 6),(iz a6),(.ptr 1 0 6),(iz a15),(.bool (a6 != a15)),(.bool (a6 != a15)),bf,(.ptr 0 0 7),(iz a7),(.ptr 1 0 7),(iz a16),(.bool (a7 != a16)),(.bool (a7 != a16)),bf,(.ptr 0 0 8),(iz a8),(.ptr 1 0 8),(iz a17),(.bool (a8 != a17)),bf,(iz x4),(.ptr 0 0 0),(.lst a0),(iz (((List.length a0):Nat):Int)),bt,v10,v11,(.ptr 0 0 0),(.lst a0),(iz x4),(.fptr (.agg [(.zsl z26),(iz x44),(iz x45),(iz x46),(iz x47)]) 0),(.agg [(.zsl z26),(iz x44),(iz x45),(iz x46),(iz x47)]),(.ptr 1 0 0),(.lst a9),(iz x4),(.fptr (.agg [(.lst l49),(iz x51),(iz x52),(iz x53),(iz x54)]) 0),(.agg [(.lst l49),(iz x51),(iz x52),(iz x53),(iz x54)]),(.bool b55),bt],[some ⟨E24,[(.agg [(.lst a0),(iz a1),(iz a2),(iz a3),(iz a4),(iz a5),(iz a6),(iz a7),(iz a8)])]⟩,some ⟨E24,[(.agg [(.lst a9),(iz a10),(iz a11),(iz a12),(iz a13),(iz a14),(iz a15),(iz a16),(iz a17)])]⟩]⟩)
 (k1 .normal ⟨[(.agg [(.lst a0),(iz a1),(iz a2),(iz a3),(iz a4),(iz a5),(iz a6),(iz a7),(iz a8)]),(.agg [(.lst a9),(iz a10),(iz a11),(iz a12),(iz a13),(iz a14),(iz a15),(iz a16),(iz a17)]),(.ptr 0 0 0),(.ptr 1 0 0),(.bool b3),(iz (IntKind.wrap .i64 (x4+1))),(.ptr 0 0 0),(.lst a0),(iz (((List.length a0):Nat):Int)),(.ptr 1 0 0),(.lst a9),(iz (((List.length a9):Nat):Int)),(.bool ((((List.length a0):Nat):Int) != (((List.length a9):Nat):Int))),bf,(.ptr 0 0 1),(iz a1),(.ptr 1 0 1),(iz a10),(.bool (a1 != a10)),(.bool (a1 != a10)),bf,(.ptr 0 0 2),(iz a2),(.ptr 1 0 2),(iz a11),(.bool (a2 != a11)),(.bool (a2 != a11)),bf,(.ptr 0 0 3),(iz a3),(.ptr 1 0 3),(iz a12),(.bool (a3 != a12)),(.bool (a3 != a12)),bf,(.ptr 0 0 4),(iz a4),(.ptr 1 0 4),(iz a13),(.bool (a4 != a13)),(.bool (a4 != a13)),bf,(.ptr 0 0 5),(iz a5),(.ptr 1 0 5),(iz a14),(.bool (a5 != a14)),(.bool (a5 != a14)),bf,(.ptr 0 0 6),(iz a6),(.ptr 1 0 6),(iz a15),(.bool (a6 != a15)),(.bool (a6 != a15)),bf,(.ptr 0 0 7),(iz a7),(.ptr 1 0 7),(iz a16),(.bool (a7 != a16)),(.bool (a7 != a16)),bf,(.ptr 0 0 8),(iz a8),(.ptr 1 0 8),(iz a17),(.bool (a8 != a17)),bf,(iz x4),(.ptr 0 0 0),(.lst a0),(iz (((List.length a0):Nat):Int)),bt,(iz x4),(iz (IntKind.wrap .i64 (x4+1))),(.ptr 0 0 0),(.lst a0),(iz x4),(.fptr (.agg [(.zsl z26),(iz x44),(iz x45),(iz x46),(iz x47)]) 0),(.agg [(.zsl z26),(iz x44),(iz x45),(iz x46),(iz x47)]),(.ptr 1 0 0),(.lst a9),(iz x4),(.fptr (.agg [(.lst l49),(iz x51),(iz x52),(iz x53),(iz x54)]) 0),(.agg [(.lst l49),(iz x51),(iz x52),(iz x53),(iz x54)]),(.bool b55),bf],[some ⟨E24,[(.agg [(.lst a0),(iz a1),(iz a2),(iz a3),(iz a4),(iz a5),(iz a6),(iz a7),(iz a8)])]⟩,some ⟨E24,[(.agg [(.lst a9),(iz a10),(iz a11),(iz a12),(iz a13),(iz a14),(iz a15),(iz a16),(iz a17)])]⟩]⟩))
 (fun z50 =>
 C.int .i64 l48[1]? fun x56 =>
 C.int .i64 l48[2]? fun x57 =>
 C.int .i64 l48[3]? fun x58 =>
 C.int .i64 l48[4]? fun x59 =>
 C.bool (pcall M d 29 [(.agg [(.zsl z26),(iz x44),(iz x45),(iz x46),(iz x47)]),(.agg [(.zsl z50),(iz x56),(iz x57),(iz x58),(iz x59)])]) fun b60 =>
 cnd (!b60)
 (k1 .ret ⟨[(.agg [(.lst a0),(iz a1),(iz a2),(iz a3),(iz a4),(iz a5),(iz a6),(iz a7),(iz a8)]),(.agg [(.lst a9),(iz a10),(iz a11),(iz a12),(iz a13),(iz a14),(iz a15),(iz a16),(iz a17)]),(.ptr 0 0 0),(.ptr 1 0 0),bf,(iz x4),(.ptr 0 0 0),(.lst a0),(iz (((List.length a0):Nat):Int)),(.ptr 1 0 0),(.lst a9),(iz (((List.length a9):Nat):Int)),(.bool ((((List.length a0):Nat):Int) != (((List.length a9):Nat):Int))),bf,(.ptr 0 0 1),(iz a1),(.ptr 1 0 1),(iz a10),(.bool (a1 != a10)),(.bool (a1 != a10)),bf,(.ptr 0 0 2),(iz a2),(.ptr 1 0 2),(iz a11),(.bool (a2 != a11)),(.bool (a2 != a11)),bf,(.ptr 0 0 3),(iz a3),(.ptr 1 0 3),(iz a12),(.bool (a3 != a12)),(.bool (a3 != a12)),bf,(.ptr 0 0 4),(iz a4),(.ptr 1 0 4),(iz a13),(.bool (a4 != a13)),(.bool (a4 != a13)),bf,(.ptr 0 0 5),(iz a5),(.ptr 1 0 5),(iz a14),(.bool (a5 != a14)),(.bool (a5 != a14)),bf,(.ptr 0 0 6),(iz a6),(.ptr 1 0 6),(iz a15),(.bool (a6 != a15)),(.bool (a6 != a15)),bf,(.ptr 0 0 7),(iz a7),(.ptr 1 0 7),(iz a16),(.bool (a7 != a16)),(.bool (a7 != a16)),bf,(.ptr 0 0 8),(iz a8),(.ptr 1 0 8),(iz a17),(.bool (a8 != a17)),bf,(iz x4),(.ptr 0 0 0),(.lst a0),(iz (((List.length a0):Nat):Int)),bt,v10,v11,(.ptr 0 0 0),(.lst a0),(iz x4),(.fptr (.agg [(.zsl z26),(iz x44),(iz x45),(iz x46),(iz x47)]) 0),(.agg [(.zsl z26),(iz x44),(iz x45),(iz x46),(iz x47)]),(.ptr 1 0 0),(.lst a9),(iz x4),(.fptr (.agg [(.zsl z50),(iz x56),(iz x57),(iz x58),(iz x59)]) 0),(.agg [(.zsl z50),(iz x56),(iz x57),(iz x58),(iz x59)]),(.bool b60),bt],[some ⟨E24,[(.agg [(.lst a0),(iz a1),(iz a2),(iz a3),(iz a4),(iz a5),(iz a6),(iz a7),(iz a8)])]⟩,some ⟨E24,[(.agg [(.lst a9),(iz a10),(iz a11),(iz a12),(iz a13),(iz a14),(iz a15),(iz a16),(iz a17)])]⟩]⟩)
 (k1 .normal ⟨[(.agg [(.lst a0),(iz a1),(iz a2),(iz a3),(iz a4),(iz a5),(iz a6),(iz a7),(iz a8)]),(.agg [(.lst a9),(iz a10),(iz a11),(iz a12),(iz a13),(iz a14),(iz a15),(iz a16),(iz a17)]),(.ptr 0 0 0),(.ptr 1 0 0),(.bool b3),(iz (IntKind.wrap .i64 (x4+1))),(.ptr 0 0 0),(.lst a0),(iz (((List.length a0):Nat):Int)),(.ptr 1 0 0),(.lst a9),(iz (((List.length a9):Nat):Int)),(.bool ((((List.length a0):Nat):Int) != (((List.length a9):Nat):Int))),bf,(.ptr 0 0 1),(iz a1),(.ptr 1 0 1),(iz a10),(.bool (a1 != a10)),(.bool (a1 != a10)),bf,(.ptr 0 0 2),(iz a2),(.ptr 1 0 2),(iz a11),(.bool (a2 != a11)),(.bool (a2 != a11)),bf,(.ptr 0 0 3),(iz a3),(.ptr 1 0 3),(iz a12),(.bool (a3 != a12)),(.bool (a3 != a12)),bf,(.ptr 0 0 4),(iz a4),(.ptr 1 0 4),(iz a13),(.bool (a4 != a13)),(.bool (a4 != a13)),bf,(.ptr 0 0 5),(iz a5),(.ptr 1 0 5),(iz a14),(.bool (a5 != a14)),(.bool (a5 != a14)),bf,(.ptr 0 0 6),(iz a6),(.ptr 1 0 6),(iz a15),(.bool (a6 != a15)),(.bool (a6 != a15)),bf,(.ptr 0 0 7),(iz a7),(.ptr 1 0 7),(iz a16),(.bool (a7 != a16)),(.bool (a7 != a16)),bf,(.ptr 0 0 8),(iz a8),(.ptr 1 0 8),(iz a17),(.bool (a8 != a17)),bf,(iz x4),(.ptr 0 0 0),(.lst a0),(iz (((List.length a0):Nat):Int)),bt,(iz x4),(iz (IntKind.wrap .i64 (x4+1))),(.ptr 0 0 0),(.lst a0),(iz x4),(.fptr (.agg [(.zsl z26),(iz x44),(iz x45),(iz x46),(iz x47)]) 0),(.agg [(.zsl z26),(iz x44),(iz x45),(iz x46),(iz x47)]),(.ptr 1 0 0),(.lst a9),(iz x4),(.fptr (.agg [(.zsl z50),(iz x56),(iz x57),(iz x58),(iz x59)]) 0),(.agg [(.zsl z50),(iz x56),(iz x57),(iz x58),(iz x59)]),(.bool b60),bf],[some ⟨E24,[(.agg [(.lst a0),(iz a1),(iz a2),(iz a3),(iz a4),(iz a5),(iz a6),(iz a7),(iz a8)])]⟩,some ⟨E24,[(.agg [(.lst a9),(iz a10),(iz a11),(iz a12),(iz a13),(iz a14),(iz a15),(iz a16),(iz a17)])]⟩]⟩)))
 (none)))
 (none))
 (k1 (.exit 0) ⟨[(.agg [(.lst a0),(iz a1),(iz a2),(iz a3),(iz a4),(iz a5),(iz a6),(iz a7),(iz a8)]),(.agg [(.lst a9),(iz a10),(iz a11),(iz a12),(iz a13),(iz a14),(iz a15),(iz a16),(iz a17)]),(.ptr 0 0 0),(.ptr 1 0 0),(.bool b3),(iz x4),(.ptr 0 0 0),(.lst a0),(iz (((List.length a0):Nat):Int)),(.ptr 1 0 0),(.lst a9),(iz (((List.length a9):Nat):Int)),(.bool ((((List.length a0):Nat):Int) != (((List.length a9):Nat):Int))),bf,(.ptr 0 0 1),(iz a1),(.ptr 1 0 1),(iz a10),(.bool (a1 != a10)),(.bool (a1 != a10)),bf,(.ptr 0 0 2),(iz a2),(.ptr 1 0 2),(iz a11),(.bool (a2 != a11)),(.bool (a2 != a11)),bf,(.ptr 0 0 3),(iz a3),(.ptr 1 0 3),(iz a12),(.bool (a3 != a12)),(.bool (a3 != a12)),bf,(.ptr 0 0 4),(iz a4),(.ptr 1 0 4),(iz a13),(.bool (a4 != a13)),(.bool (a4 != a13)),bf,(.ptr 0 0 5),(iz a5),(.ptr 1 0 5),(iz a14),(.bool (a5 != a14)),(.bool (a5 != a14)),bf,(.ptr 0 0 6),(iz a6),(.ptr 1 0 6),(iz a15),(.bool (a6 != a15)),(.bool (a6 != a15)),bf,(.ptr 0 0 7),(iz a7),(.ptr 1 0 7),(iz a16),(.bool (a7 != a16)),(.bool (a7 != a16)),bf,(.ptr 0 0 8),(iz a8),(.ptr 1 0 8),(iz a17),(.bool (a8 != a17)),bf,(iz x4),(.ptr 0 0 0),(.lst a0),(iz (((List.length a0):Nat):Int)),bf,v10,v11,v12,v13,v14,v15,v16,v17,v18,v19,v20,v21,v22,v23],[some ⟨E24,[(.agg [(.lst a0),(iz a1),(iz a2),(iz a3),(iz a4),(iz a5),(iz a6),(iz a7),(iz a8)])]⟩,some ⟨E24,[(.agg [(.lst a9),(iz a10),(iz a11),(iz a12),(iz a13),(iz a14),(iz a15),(iz a16),(iz a17)])]⟩]⟩))
 (none)
def r15X0_0 (C:Cb) (d:Nat) (a0:List AV) (a1 a2 a3 a4 a5 a6 a7 a8:Int) (a9:List AV) (a10 a11 a12 a13 a14 a15 a16 a17:Int):St→Ans:=fun s61 =>
 cnd ((List.length s61.env) == 88)
 (sames C s61.env 0 [(.agg [(.lst a0),(iz a1),(iz a2),(iz a3),(iz a4),(iz a5),(iz a6),(iz a7),(iz a8)]),(.agg [(.lst a9),(iz a10),(iz a11),(iz a12),(iz a13),(iz a14),(iz a15),(iz a16),(iz a17)]),(.ptr 0 0 0),(.ptr 1 0 0)] <|
 C.bool s61.env[4]? fun b62 =>
 C.int .i64 s61.env[5]? fun x63 =>
 sames C s61.env 6 [(.ptr 0 0 0),(.lst a0),(iz (((List.length a0):Nat):Int)),(.ptr 1 0 0),(.lst a9),(iz (((List.length a9):Nat):Int)),(.bool ((((List.length a0):Nat):Int) != (((List.length a9):Nat):Int))),bf,(.ptr 0 0 1),(iz a1),(.ptr 1 0 1),(iz a10),(.bool (a1 != a10)),(.bool (a1 != a10)),bf,(.ptr 0 0 2),(iz a2),(.ptr 1 0 2),(iz a11),(.bool (a2 != a11)),(.bool (a2 != a11)),bf,(.ptr 0 0 3),(iz a3),(.ptr 1 0 3),(iz a12),(.bool (a3 != a12)),(.bool (a3 != a12)),bf,(.ptr 0 0 4),(iz a4),(.ptr 1 0 4),(iz a13),(.bool (a4 != a13)),(.bool (a4 != a13)),bf,(.ptr 0 0 5),(iz a5),(.ptr 1 0 5),(iz a14),(.bool (a5 != a14)),(.bool (a5 != a14)),bf,(.ptr 0 0 6),(iz a6),(.ptr 1 0 6),(iz a15),(.bool (a6 != a15)),(.bool (a6 != a15)),bf,(.ptr 0 0 7),(iz a7),(.ptr 1 0 7),(iz a16),(.bool (a7 != a16)),(.bool (a7 != a16)),bf,(.ptr 0 0 8),(iz a8),(.ptr 1 0 8),(iz a17),(.bool (a8 != a17)),bf] <|
 C.int .i64 s61.env[69]? fun x64 =>
 anys C s61.env 70 2 <|
 C.int .i64 s61.env[72]? fun x67 =>
 C.bool s61.env[73]? fun b68 =>
 anys C s61.env 74 14 <|
 C.sameH (St.H s61) [some ⟨E24,[(.agg [(.lst a0),(iz a1),(iz a2),(iz a3),(iz a4),(iz a5),(iz a6),(iz a7),(iz a8)])]⟩,some ⟨E24,[(.agg [(.lst a9),(iz a10),(iz a11),(iz a12),(iz a13),(iz a14),(iz a15),(iz a16),(iz a17)])]⟩] <|
 some bt)
 (none)
def r15E0 (C:Cb) (d:Nat) (a0:List AV) (a1 a2 a3 a4 a5 a6 a7 a8:Int) (a9:List AV) (a10 a11 a12 a13 a14 a15 a16 a17:Int):St→Ans:=fun s2 =>
 cnd ((List.length s2.env) == 88)
 (sames C s2.env 0 [(.agg [(.lst a0),(iz a1),(iz a2),(iz a3),(iz a4),(iz a5),(iz a6),(iz a7),(iz a8)]),(.agg [(.lst a9),(iz a10),(iz a11),(iz a12),(iz a13),(iz a14),(iz a15),(iz a16),(iz a17)]),(.ptr 0 0 0),(.ptr 1 0 0)] <|
 C.bool s2.env[4]? fun b83 =>
 C.int .i64 s2.env[5]? fun x84 =>
 sames C s2.env 6 [(.ptr 0 0 0),(.lst a0),(iz (((List.length a0):Nat):Int)),(.ptr 1 0 0),(.lst a9),(iz (((List.length a9):Nat):Int)),(.bool ((((List.length a0):Nat):Int) != (((List.length a9):Nat):Int))),bf,(.ptr 0 0 1),(iz a1),(.ptr 1 0 1),(iz a10),(.bool (a1 != a10)),(.bool (a1 != a10)),bf,(.ptr 0 0 2),(iz a2),(.ptr 1 0 2),(iz a11),(.bool (a2 != a11)),(.bool (a2 != a11)),bf,(.ptr 0 0 3),(iz a3),(.ptr 1 0 3),(iz a12),(.bool (a3 != a12)),(.bool (a3 != a12)),bf,(.ptr 0 0 4),(iz a4),(.ptr 1 0 4),(iz a13),(.bool (a4 != a13)),(.bool (a4 != a13)),bf,(.ptr 0 0 5),(iz a5),(.ptr 1 0 5),(iz a14),(.bool (a5 != a14)),(.bool (a5 != a14)),bf,(.ptr 0 0 6),(iz a6),(.ptr 1 0 6),(iz a15),(.bool (a6 != a15)),(.bool (a6 != a15)),bf,(.ptr 0 0 7),(iz a7),(.ptr 1 0 7),(iz a16),(.bool (a7 != a16)),(.bool (a7 != a16)),bf,(.ptr 0 0 8),(iz a8),(.ptr 1 0 8),(iz a17),(.bool (a8 != a17)),bf] <|
 C.int .i64 s2.env[69]? fun x85 =>
 anys C s2.env 70 2 <|
 C.int .i64 s2.env[72]? fun x88 =>
 C.bool s2.env[73]? fun b89 =>
 anys C s2.env 74 4 <|
 C.int .i64 s2.env[78]? fun x94 =>
 C.any s2.env[79]? fun v95 =>
 C.agg 5 s2.env[80]? fun l96 =>
 C.any l96[0]? fun v97 =>
 C.int .i64 l96[1]? fun x98 =>
 C.int .i64 l96[2]? fun x99 =>
 C.int .i64 l96[3]? fun x100 =>
 C.int .i64 l96[4]? fun x101 =>
 anys C s2.env 81 2 <|
 C.int .i64 s2.env[83]? fun x104 =>
 C.any s2.env[84]? fun v105 =>
 C.agg 5 s2.env[85]? fun l106 =>
 C.any l106[0]? fun v107 =>
 C.int .i64 l106[1]? fun x108 =>
 C.int .i64 l106[2]? fun x109 =>
 C.int .i64 l106[3]? fun x110 =>
 C.int .i64 l106[4]? fun x111 =>
 C.bool s2.env[86]? fun b112 =>
 C.bool s2.env[87]? fun b113 =>
 C.sameH (St.H s2) [some ⟨E24,[(.agg [(.lst a0),(iz a1),(iz a2),(iz a3),(iz a4),(iz a5),(iz a6),(iz a7),(iz a8)])]⟩,some ⟨E24,[(.agg [(.lst a9),(iz a10),(iz a11),(iz a12),(iz a13),(iz a14),(iz a15),(iz a16),(iz a17)])]⟩] <|
 some (.bool b83))
 (none)
theorem r15 (C:Cb) (d:Nat) (a0:List AV) (a1 a2 a3 a4 a5 a6 a7 a8:Int) (a9:List AV) (a10 a11 a12 a13 a14 a15 a16 a17:Int):xcall C M unr d 15 [(.agg [(.lst a0),(iz a1),(iz a2),(iz a3),(iz a4),(iz a5),(iz a6),(iz a7),(iz a8)]),(.agg [(.lst a9),(iz a10),(iz a11),(iz a12),(iz a13),(iz a14),(iz a15),(iz a16),(iz a17)])] =
 cnd ((((List.length a0):Nat):Int) != (((List.length a9):Nat):Int))
 (some bf)
 (cnd (a1 != a10)
 (some bf)
 (cnd (a2 != a11)
 (some bf)
 (cnd (a3 != a12)
 (some bf)
 (cnd (a4 != a13)
 (some bf)
 (cnd (a5 != a14)
 (some bf)
 (cnd (a6 != a15)
 (some bf)
 (cnd (a7 != a16)
 (some bf)
 (cnd (a8 != a17)
 (some bf)
 (C.iter (r15R0 C d a0 a1 a2 a3 a4 a5 a6 a7 a8 a9 a10 a11 a12 a13 a14 a15 a16 a17) 10000000000000000000 ⟨[(.agg [(.lst a0),(iz a1),(iz a2),(iz a3),(iz a4),(iz a5),(iz a6),(iz a7),(iz a8)]),(.agg [(.lst a9),(iz a10),(iz a11),(iz a12),(iz a13),(iz a14),(iz a15),(iz a16),(iz a17)]),(.ptr 0 0 0),(.ptr 1 0 0),bf,(iz 0),(.ptr 0 0 0),(.lst a0),(iz (((List.length a0):Nat):Int)),(.ptr 1 0 0),(.lst a9),(iz (((List.length a9):Nat):Int)),(.bool ((((List.length a0):Nat):Int) != (((List.length a9):Nat):Int))),bf,(.ptr 0 0 1),(iz a1),(.ptr 1 0 1),(iz a10),(.bool (a1 != a10)),(.bool (a1 != a10)),bf,(.ptr 0 0 2),(iz a2),(.ptr 1 0 2),(iz a11),(.bool (a2 != a11)),(.bool (a2 != a11)),bf,(.ptr 0 0 3),(iz a3),(.ptr 1 0 3),(iz a12),(.bool (a3 != a12)),(.bool (a3 != a12)),bf,(.ptr 0 0 4),(iz a4),(.ptr 1 0 4),(iz a13),(.bool (a4 != a13)),(.bool (a4 != a13)),bf,(.ptr 0 0 5),(iz a5),(.ptr 1 0 5),(iz a14),(.bool (a5 != a14)),(.bool (a5 != a14)),bf,(.ptr 0 0 6),(iz a6),(.ptr 1 0 6),(iz a15),(.bool (a6 != a15)),(.bool (a6 != a15)),bf,(.ptr 0 0 7),(iz a7),(.ptr 1 0 7),(iz a16),(.bool (a7 != a16)),(.bool (a7 != a16)),bf,(.ptr 0 0 8),(iz a8),(.ptr 1 0 8),(iz a17),(.bool (a8 != a17)),bf,tz,tz,tz,tz,tz,tz,tz,tz,tz,tz,tz,tz,tz,tz,tz,tz,tz,tz,tz],[some ⟨E24,[(.agg [(.lst a0),(iz a1),(iz a2),(iz a3),(iz a4),(iz a5),(iz a6),(iz a7),(iz a8)])]⟩,some ⟨E24,[(.agg [(.lst a9),(iz a10),(iz a11),(iz a12),(iz a13),(iz a14),(iz a15),(iz a16),(iz a17)])]⟩]⟩ [0] [r15X0_0 C d a0 a1 a2 a3 a4 a5 a6 a7 a8 a9 a10 a11 a12 a13 a14 a15 a16 a17] (r15E0 C d a0 a1 a2 a3 a4 a5 a6 a7 a8 a9 a10 a11 a12 a13 a14 a15 a16 a17)))))))))):=by kernel_rfl
theorem r20 (C:Cb) (d:Nat) (a0:List AV) (a1 a2 a3 a4 a5 a6 a7 a8:Int):xcall C M unr d 20 [(.agg [(.lst a0),(iz a1),(iz a2),(iz a3),(iz a4),(iz a5),(iz a6),(iz a7),(iz a8)])] =
 C.int .i64 (pcall M d 33 [(.agg [(.lst a0),(iz a1),(iz a2),(iz a3),(iz a4),(iz a5),(iz a6),(iz a7),(iz a8)])]) fun x0 =>
 some (.bool (x0 == 0)):=by kernel_rfl
theorem r23 (C:Cb) (d:Nat) (a0:List AV) (a1 a2 a3 a4:Int):xcall C M unr d 23 [(.agg [(.lst a0),(iz a1),(iz a2),(iz a3),(iz a4)])] =
 C.bool (pcall M d 35 [(.lst a0)]) fun b0 =>
 cnd b0
 (C.bool (pcall M d 24 [(iz a1),(iz 1),(iz 100)]) fun b1 =>
 cnd b1
 (C.bool (pcall M d 24 [(iz a2),(iz 1),(iz 65536)]) fun b2 =>
 cnd b2
 (C.bool (pcall M d 24 [(iz a3),(iz 1),(iz 1000000)]) fun b3 =>
 cnd b3
 (C.bool (pcall M d 24 [(iz a4),(iz 0),(iz 1073741824)]) fun b4 =>
 some (.bool b4))
 (some bf))
 (some bf))
 (some bf))
 (some bf):=by kernel_rfl
theorem r24 (C:Cb) (d:Nat) (a0 a1 a2:Int):xcall C M unr d 24 [(iz a0),(iz a1),(iz a2)] =
 cnd (decide (a0 ≥ a1))
 (some (.bool (decide (a0≤a2))))
 (some bf):=by kernel_rfl
theorem r29 (C:Cb) (d:Nat) (a0:List AV) (a1 a2 a3 a4:Int) (a5:List AV) (a6 a7 a8 a9:Int):xcall C M unr d 29 [(.agg [(.lst a0),(iz a1),(iz a2),(iz a3),(iz a4)]),(.agg [(.lst a5),(iz a6),(iz a7),(iz a8),(iz a9)])] =
 C.bool (pcall M d 38 [(.lst a0),(.lst a5)]) fun b0 =>
 cnd b0
 (cnd (a1 == a6)
 (cnd (a2 == a7)
 (cnd (a3 == a8)
 (some (.bool (a4 == a9)))
 (some bf))
 (some bf))
 (some bf))
 (some bf):=by kernel_rfl
theorem r33 (C:Cb) (d:Nat) (a0:List AV) (a1 a2 a3 a4 a5 a6 a7 a8:Int):xcall C M unr d 33 [(.agg [(.lst a0),(iz a1),(iz a2),(iz a3),(iz a4),(iz a5),(iz a6),(iz a7),(iz a8)])] =
 C.bool (pcall M d 39 [(iz (((List.length a0):Nat):Int)),(iz 1),(iz 4)]) fun b0 =>
 cnd (!b0)
 (some (iz 1))
 (C.bool (pcall M d 40 [(.lst a0),(.fn 41 [] [])]) fun b1 =>
 cnd b1
 (some (iz 2))
 (C.bool (pcall M d 43 [(.fptr (.agg [(.lst a0),(iz a1),(iz a2),(iz a3),(iz a4),(iz a5),(iz a6),(iz a7),(iz a8)]) 0)]) fun b2 =>
 cnd (!b2)
 (some (iz 3))
 (C.bool (pcall M d 44 [(iz a4),(iz 0),(iz 1024)]) fun b3 =>
 cnd (!b3)
 (some (iz 4))
 (C.bool (pcall M d 44 [(iz a5),(iz 1),(iz 65536)]) fun b4 =>
 cnd (!b4)
 (some (iz 5))
 (C.bool (pcall M d 39 [(iz a6),(iz 1),(iz 50)]) fun b5 =>
 cnd (!b5)
 (some (iz 6))
 (C.bool (pcall M d 44 [(iz a7),(iz 1),(iz 1073741824)]) fun b6 =>
 cnd (!b6)
 (some (iz 7))
 (C.bool (pcall M d 39 [(iz a8),(iz 0),(iz (((List.length a0):Nat):Int))]) fun b7 =>
 cnd (!b7)
 (some (iz 8))
 (some (iz 0))))))))):=by kernel_rfl
theorem r39 (C:Cb) (d:Nat) (a0 a1 a2:Int):xcall C M unr d 39 [(iz a0),(iz a1),(iz a2)] =
 cnd (decide (a0 ≥ a1))
 (some (.bool (decide (a0≤a2))))
 (some bf):=by kernel_rfl
theorem r40f41 (C:Cb) (d:Nat) (a0:List AV) (a1:AV):xcall C M unr d 40 [(.lst a0),(.fn 41 [] [])] =
 C.int .i64 (pcall M d 46 [(.lst a0),(.fn 41 [] [])]) fun x0 =>
 some (.bool (decide (x0 ≥ 0))):=by kernel_rfl
theorem r41 (C:Cb) (d:Nat) (a0:List AV) (a1 a2 a3 a4:Int):xcall C M unr d 41 [(.agg [(.lst a0),(iz a1),(iz a2),(iz a3),(iz a4)])] =
 C.bool (pcall M d 42 [(.agg [(.lst a0),(iz a1),(iz a2),(iz a3),(iz a4)])]) fun b0 =>
 some (.bool (!b0)):=by kernel_rfl
theorem r42 (C:Cb) (d:Nat) (a0:List AV) (a1 a2 a3 a4:Int):xcall C M unr d 42 [(.agg [(.lst a0),(iz a1),(iz a2),(iz a3),(iz a4)])] =
 C.bool (pcall M d 47 [(.lst a0)]) fun b0 =>
 cnd b0
 (C.bool (pcall M d 44 [(iz a1),(iz 1),(iz 100)]) fun b1 =>
 cnd b1
 (C.bool (pcall M d 44 [(iz a2),(iz 1),(iz 65536)]) fun b2 =>
 cnd b2
 (C.bool (pcall M d 39 [(iz a3),(iz 1),(iz 1000000)]) fun b3 =>
 cnd b3
 (C.bool (pcall M d 44 [(iz a4),(iz 0),(iz 1073741824)]) fun b4 =>
 some (.bool b4))
 (some bf))
 (some bf))
 (some bf))
 (some bf):=by kernel_rfl
theorem r43 (C:Cb) (d:Nat) (a0 a1:AV) (a2 a3 a4 a5 a6 a7 a8 a9:Int):xcall C M unr d 43 [(.fptr (.agg [a1,(iz a2),(iz a3),(iz a4),(iz a5),(iz a6),(iz a7),(iz a8),(iz a9)]) 0)] =
 C.bool (pcall M d 39 [(iz (if (a4 < (if (a3 < a2) then a3 else a2)) then a4 else (if (a3 < a2) then a3 else a2))),(iz 1),(iz 50)]) fun b0 =>
 cnd b0
 (C.bool (pcall M d 39 [(iz (if (a4 > (if (a3 > a2) then a3 else a2)) then a4 else (if (a3 > a2) then a3 else a2))),(iz 1),(iz 50)]) fun b1 =>
 some (.bool b1))
 (some bf):=by kernel_rfl
theorem r44 (C:Cb) (d:Nat) (a0 a1 a2:Int):xcall C M unr d 44 [(iz a0),(iz a1),(iz a2)] =
 cnd (decide (a0 ≥ a1))
 (some (.bool (decide (a0≤a2))))
 (some bf):=by kernel_rfl
def r46f41R0 (C:Cb) (d:Nat) (a0:List AV):St→(Ex→St→Ans)→Ans:=fun s0 k1 =>
 cnd ((List.length s0.env) == 19)
 (sames C s0.env 0 [(.lst a0),(.fn 41 [] []),tz,tz] <|
 C.int .i64 s0.env[4]? fun x3 =>
 C.any s0.env[5]? fun v4 =>
 sames C s0.env 6 [(.lst a0),(iz (((List.length a0):Nat):Int))] <|
 C.int .i64 s0.env[8]? fun x5 =>
 C.any s0.env[9]? fun v6 =>
 C.any s0.env[10]? fun v7 =>
 C.any s0.env[11]? fun v8 =>
 C.any s0.env[12]? fun v9 =>
 C.any s0.env[13]? fun v10 =>
 C.any s0.env[14]? fun v11 =>
 C.any s0.env[15]? fun v12 =>
 C.any s0.env[16]? fun v13 =>
 C.any s0.env[17]? fun v14 =>
 C.any s0.env[18]? fun v15 =>
 C.sameH (St.H s0) [] <|
 cnd (decide (x5 < (((List.length a0):Nat):Int)))
 (cnd (decide ((0:Int)≤x5))
 (C.agg 5 a0[(Int.toNat x5)]? fun l16 =>
 C.lst l16[0]? (fun l17 =>
 C.int .i64 l16[1]? fun x19 =>
 C.int .i64 l16[2]? fun x20 =>
 C.int .i64 l16[3]? fun x21 =>
 C.int .i64 l16[4]? fun x22 =>
 C.bool (pcall M d 41 [(.agg [(.lst l17),(iz x19),(iz x20),(iz x21),(iz x22)])]) fun b23 =>
 cnd b23
 (k1 .ret ⟨[(.lst a0),(.fn 41 [] []),tz,tz,(iz x5),(iz x5),(.lst a0),(iz (((List.length a0):Nat):Int)),(iz x5),bt,(iz x5),(.fn 41 [] []),(.lst a0),(iz x5),(.fptr (.agg [(.lst l17),(iz x19),(iz x20),(iz x21),(iz x22)]) 0),(.agg [(.lst l17),(iz x19),(iz x20),(iz x21),(iz x22)]),bt,(iz x5),v15],[]⟩)
 (k1 .normal ⟨[(.lst a0),(.fn 41 [] []),tz,tz,(iz x3),(iz x5),(.lst a0),(iz (((List.length a0):Nat):Int)),(iz (IntKind.wrap .i64 (x5+1))),bt,(iz x5),(.fn 41 [] []),(.lst a0),(iz x5),(.fptr (.agg [(.lst l17),(iz x19),(iz x20),(iz x21),(iz x22)]) 0),(.agg [(.lst l17),(iz x19),(iz x20),(iz x21),(iz x22)]),bf,v14,(iz (IntKind.wrap .i64 (x5+1)))],[]⟩))
 (fun z18 =>
 C.int .i64 l16[1]? fun x24 =>
 C.int .i64 l16[2]? fun x25 =>
 C.int .i64 l16[3]? fun x26 =>
 C.int .i64 l16[4]? fun x27 =>
 C.bool (pcall M d 41 [(.agg [(.zsl z18),(iz x24),(iz x25),(iz x26),(iz x27)])]) fun b28 =>
 cnd b28
 (k1 .ret ⟨[(.lst a0),(.fn 41 [] []),tz,tz,(iz x5),(iz x5),(.lst a0),(iz (((List.length a0):Nat):Int)),(iz x5),bt,(iz x5),(.fn 41 [] []),(.lst a0),(iz x5),(.fptr (.agg [(.zsl z18),(iz x24),(iz x25),(iz x26),(iz x27)]) 0),(.agg [(.zsl z18),(iz x24),(iz x25),(iz x26),(iz x27)]),bt,(iz x5),v15],[]⟩)
 (k1 .normal ⟨[(.lst a0),(.fn 41 [] []),tz,tz,(iz x3),(iz x5),(.lst a0),(iz (((List.length a0):Nat):Int)),(iz (IntKind.wrap .i64 (x5+1))),bt,(iz x5),(.fn 41 [] []),(.lst a0),(iz x5),(.fptr (.agg [(.zsl z18),(iz x24),(iz x25),(iz x26),(iz x27)]) 0),(.agg [(.zsl z18),(iz x24),(iz x25),(iz x26),(iz x27)]),bf,v14,(iz (IntKind.wrap .i64 (x5+1)))],[]⟩)))
 (none))
 (k1 (.exit 0) ⟨[(.lst a0),(.fn 41 [] []),tz,tz,(iz x3),v4,(.lst a0),(iz (((List.length a0):Nat):Int)),(iz x5),bf,v7,v8,v9,v10,v11,v12,v13,v14,v15],[]⟩))
 (none)
def r46f41X0_0 (C:Cb) (d:Nat) (a0:List AV):St→Ans:=fun s29 =>
 cnd ((List.length s29.env) == 19)
 (sames C s29.env 0 [(.lst a0),(.fn 41 [] []),tz,tz] <|
 C.int .i64 s29.env[4]? fun x30 =>
 C.any s29.env[5]? fun v31 =>
 sames C s29.env 6 [(.lst a0),(iz (((List.length a0):Nat):Int))] <|
 C.int .i64 s29.env[8]? fun x32 =>
 anys C s29.env 9 10 <|
 C.sameH (St.H s29) [] <|
 some (iz (-1)))
 (none)
def r46f41E0 (C:Cb) (d:Nat) (a0:List AV):St→Ans:=fun s2 =>
 cnd ((List.length s2.env) == 19)
 (sames C s2.env 0 [(.lst a0),(.fn 41 [] []),tz,tz] <|
 C.int .i64 s2.env[4]? fun x43 =>
 C.int .i64 s2.env[5]? fun x44 =>
 sames C s2.env 6 [(.lst a0),(iz (((List.length a0):Nat):Int))] <|
 C.int .i64 s2.env[8]? fun x45 =>
 C.any s2.env[9]? fun v46 =>
 C.int .i64 s2.env[10]? fun x47 =>
 anys C s2.env 11 2 <|
 C.int .i64 s2.env[13]? fun x50 =>
 C.any s2.env[14]? fun v51 =>
 C.agg 5 s2.env[15]? fun l52 =>
 C.any l52[0]? fun v53 =>
 C.int .i64 l52[1]? fun x54 =>
 C.int .i64 l52[2]? fun x55 =>
 C.int .i64 l52[3]? fun x56 =>
 C.int .i64 l52[4]? fun x57 =>
 C.bool s2.env[16]? fun b58 =>
 C.int .i64 s2.env[17]? fun x59 =>
 C.any s2.env[18]? fun v60 =>
 C.sameH (St.H s2) [] <|
 some (iz x43))
 (none)
theorem r46f41 (C:Cb) (d:Nat) (a0:List AV) (a1:AV):xcall C M unr d 46 [(.lst a0),(.fn 41 [] [])] =
 C.iter (r46f41R0 C d a0) 10000000000000000000 ⟨[(.lst a0),(.fn 41 [] []),tz,tz,(iz 0),tz,(.lst a0),(iz (((List.length a0):Nat):Int)),(iz 0),tz,tz,tz,tz,tz,tz,tz,tz,tz,tz],[]⟩ [0] [r46f41X0_0 C d a0] (r46f41E0 C d a0):=by kernel_rfl
noncomputable def X9_0_0 (d:Nat) (a0:List AV) :Ans :=
 some (.bool (decide ((((List.length a0):Nat):Int)≤8)))
theorem X9_0_0_ok (d:Nat) (a0:List AV) (a1 a2 a3 a4 a5 a6 a7 a8:Int) (b32:Bool) (x33 x34:Int) (v35 v36:AV) (x37:Int) (b38:Bool) (v39 v40 v41 v42 v43 v44 v45 v46 v47 v48:AV):r9X0_0 C0 d a0 a1 a2 a3 a4 a5 a6 a7 a8 ⟨[(.agg [(.lst a0),(iz a1),(iz a2),(iz a3),(iz a4),(iz a5),(iz a6),(iz a7),(iz a8)]),(.ptr 0 0 0),(.bool b32),(iz x33),(iz x34),v35,v36,(iz x37),(.bool b38),v39,v40,v41,v42,v43,v44,v45,v46,v47,v48,tz,tz,tz,tz],[some ⟨E24,[(.agg [(.lst a0),(iz a1),(iz a2),(iz a3),(iz a4),(iz a5),(iz a6),(iz a7),(iz a8)])]⟩]⟩=X9_0_0 d a0 :=by
 unfold r9X0_0; refine Eq.trans (pl_len (by rfl)) ?_; refine yt ySs ?_; refine yt yB ?_; (iterate 2 (refine yt yI ?_)); refine yt yAs ?_; refine yt yI ?_; refine yt yB ?_; refine yt yAs ?_; refine yt ySs ?_; refine Eq.trans (pl_sameH) ?_
 rfl
noncomputable def E9_0 (d:Nat) (a0:List AV) (b49:Bool):Ans :=
 some (.bool b49)
theorem E9_0_ok (d:Nat) (a0:List AV) (a1 a2 a3 a4 a5 a6 a7 a8:Int) (b49:Bool) (x50 x51:Int) (v52 v53:AV) (x54:Int) (b55:Bool) (v56 v57 v58 v59:AV) (x60:Int) (v61 v62 v63:AV) (x64:Int) (b65:Bool):r9E0 C0 d a0 a1 a2 a3 a4 a5 a6 a7 a8 ⟨[(.agg [(.lst a0),(iz a1),(iz a2),(iz a3),(iz a4),(iz a5),(iz a6),(iz a7),(iz a8)]),(.ptr 0 0 0),(.bool b49),(iz x50),(iz x51),v52,v53,(iz x54),(.bool b55),v56,v57,v58,v59,(iz x60),v61,v62,v63,(iz x64),(.bool b65),tz,tz,tz,tz],[some ⟨E24,[(.agg [(.lst a0),(iz a1),(iz a2),(iz a3),(iz a4),(iz a5),(iz a6),(iz a7),(iz a8)])]⟩]⟩=E9_0 d a0 b49:=by
 unfold r9E0; refine Eq.trans (pl_len (by rfl)) ?_; refine yt ySs ?_; refine yt yB ?_; (iterate 2 (refine yt yI ?_)); refine yt yAs ?_; refine yt yI ?_; refine yt yB ?_; refine yt yAs ?_; refine yt yI ?_; refine yt yAs ?_; refine yt yI ?_; refine yt yB ?_; refine yt ySs ?_; refine Eq.trans (pl_sameH) ?_
 rfl
noncomputable def L9_0 (d:Nat) (a0:List AV):Nat→Int→Ans
 | 0,_=>none
 | n+1,x4 =>
 cnd (decide (x4 < (((List.length a0):Nat):Int)))
  (cnd (decide ((0:Int)≤x4))
  (C0.agg 5 a0[(Int.toNat x4)]? fun l20 =>
  C0.lst l20[0]? (fun l21 =>
  C0.int .i64 l20[1]? fun x23 =>
  C0.int .i64 l20[2]? fun x24 =>
  C0.int .i64 l20[3]? fun x25 =>
  C0.int .i64 l20[4]? fun x26 =>
  cnd (decide ((((List.length l21):Nat):Int) > 12))
  (E9_0 d a0 false)
  (L9_0 d a0 n (IntKind.wrap .i64 (x4+1))))
    (fun z22 =>
  C0.int .i64 l20[1]? fun x27 =>
  C0.int .i64 l20[2]? fun x28 =>
  C0.int .i64 l20[3]? fun x29 =>
  C0.int .i64 l20[4]? fun x30 =>
  L9_0 d a0 n (IntKind.wrap .i64 (x4+1))))
  (none))
  (X9_0_0 d a0)
theorem L9_0_s (d:Nat) (a0:List AV) (n:Nat) (x4:Int):L9_0 d a0 (n+1) x4=(cnd (decide (x4 < (((List.length a0):Nat):Int)))
 (cnd (decide ((0:Int)≤x4))
 (C0.agg 5 a0[(Int.toNat x4)]? fun l20 =>
 C0.lst l20[0]? (fun l21 =>
 C0.int .i64 l20[1]? fun x23 =>
 C0.int .i64 l20[2]? fun x24 =>
 C0.int .i64 l20[3]? fun x25 =>
 C0.int .i64 l20[4]? fun x26 =>
 cnd (decide ((((List.length l21):Nat):Int) > 12))
 (E9_0 d a0 false)
 (L9_0 d a0 n (IntKind.wrap .i64 (x4+1))))
   (fun z22 =>
 C0.int .i64 l20[1]? fun x27 =>
 C0.int .i64 l20[2]? fun x28 =>
 C0.int .i64 l20[3]? fun x29 =>
 C0.int .i64 l20[4]? fun x30 =>
 L9_0 d a0 n (IntKind.wrap .i64 (x4+1))))
 (none))
 (X9_0_0 d a0)):=by kernel_rfl
theorem it9_0 (d:Nat) (a0:List AV) (a1 a2 a3 a4 a5 a6 a7 a8:Int)  :∀ (n:Nat) (b3:Bool) (x4:Int) (v5 v6 v7 v8 v9 v10 v11 v12 v13 v14 v15 v16 v17 v18 v19:AV),C0.iter (r9R0 C0 d a0 a1 a2 a3 a4 a5 a6 a7 a8) n ⟨[(.agg [(.lst a0),(iz a1),(iz a2),(iz a3),(iz a4),(iz a5),(iz a6),(iz a7),(iz a8)]),(.ptr 0 0 0),(.bool b3),(iz x4),v5,v6,v7,v8,v9,v10,v11,v12,v13,v14,v15,v16,v17,v18,v19,tz,tz,tz,tz],[some ⟨E24,[(.agg [(.lst a0),(iz a1),(iz a2),(iz a3),(iz a4),(iz a5),(iz a6),(iz a7),(iz a8)])]⟩]⟩ [0] [r9X0_0 C0 d a0 a1 a2 a3 a4 a5 a6 a7 a8] (r9E0 C0 d a0 a1 a2 a3 a4 a5 a6 a7 a8)=L9_0 d a0 n x4:=by
 generalize hR:r9R0 C0 d a0 a1 a2 a3 a4 a5 a6 a7 a8=R
 intro n
 induction n with
 | zero=>intros; rfl
 | succ n ih =>
   intro b3 x4 v5 v6 v7 v8 v9 v10 v11 v12 v13 v14 v15 v16 v17 v18 v19
   simp only [it_ret] at ih
   rw [it_ret,xiter_s]
   refine Eq.trans (congrFun (congrFun hR.symm _) _) ?_
   unfold r9R0
   refine Eq.trans (pl_len (by rfl)) ?_; refine yt ySs ?_; refine yt yB ?_; refine yt yI ?_; refine yt yAs ?_; (iterate 10 (refine yt yA ?_)); refine yt ySs ?_; refine Eq.trans (pl_sameH) ?_
   simp only [kIter_n,kIter_x,kIter_r,kOut_x,kOut_r,xgo_hit,xgo_miss,ih,X9_0_0_ok d a0 a1 a2 a3 a4 a5 a6 a7 a8  ,E9_0_ok d a0 a1 a2 a3 a4 a5 a6 a7 a8  ]
   exact (L9_0_s d a0 n x4).symm
theorem q9 (d:Nat) (a0:List AV) (a1 a2 a3 a4 a5 a6 a7 a8:Int):xcall C0 M unr d 9 [(.agg [(.lst a0),(iz a1),(iz a2),(iz a3),(iz a4),(iz a5),(iz a6),(iz a7),(iz a8)])] =
 L9_0 d a0 10000000000000000000 0:=(r9 C0 d a0 a1 a2 a3 a4 a5 a6 a7 a8).trans (by simp only [it9_0])
noncomputable def X11_0_0 (d:Nat) (a0:List AV) (a1 a2 a3 a4 a5 a6 a7 a8:Int) :Ans :=
 C0.bool (pcall M d 24 [(iz a1),(iz 1),(iz 50)]) fun b49 =>
  cnd (!b49)
  (some (iz 3))
  (C0.bool (pcall M d 24 [(iz a2),(iz 1),(iz 50)]) fun b50 =>
  cnd (!b50)
  (some (iz 3))
  (C0.bool (pcall M d 24 [(iz a3),(iz 1),(iz 50)]) fun b51 =>
  cnd (!b51)
  (some (iz 3))
  (C0.bool (pcall M d 24 [(iz a4),(iz 0),(iz 1024)]) fun b52 =>
  cnd (!b52)
  (some (iz 4))
  (C0.bool (pcall M d 24 [(iz a5),(iz 1),(iz 65536)]) fun b53 =>
  cnd (!b53)
  (some (iz 5))
  (C0.bool (pcall M d 24 [(iz a6),(iz 1),(iz 50)]) fun b54 =>
  cnd (!b54)
  (some (iz 6))
  (C0.bool (pcall M d 24 [(iz a7),(iz 1),(iz 1073741824)]) fun b55 =>
  cnd (!b55)
  (some (iz 7))
  (C0.bool (pcall M d 24 [(iz a8),(iz 0),(iz (((List.length a0):Nat):Int))]) fun b56 =>
  cnd (!b56)
  (some (iz 8))
  (some (iz 0)))))))))
theorem X11_0_0_ok (d:Nat) (a0:List AV) (a1 a2 a3 a4 a5 a6 a7 a8 x33 x34 x35:Int) (v36 v37:AV) (x38:Int) (b39:Bool) (v40 v41 v42 v43 v44 v45 v46 v47 v48:AV):r11X0_0 C0 d a0 a1 a2 a3 a4 a5 a6 a7 a8 ⟨[(.agg [(.lst a0),(iz a1),(iz a2),(iz a3),(iz a4),(iz a5),(iz a6),(iz a7),(iz a8)]),(.ptr 0 0 0),(iz x33),(iz x34),(.ptr 0 0 0),(.lst a0),(iz (((List.length a0):Nat):Int)),(.bool (decide ((((List.length a0):Nat):Int) < 1))),bf,(.ptr 0 0 0),(.lst a0),(iz (((List.length a0):Nat):Int)),(.bool (decide ((((List.length a0):Nat):Int) > 4))),bf,(iz x35),v36,v37,(iz x38),(.bool b39),v40,v41,v42,v43,v44,v45,v46,v47,v48,tz,tz,tz,tz,tz,tz,tz,tz,tz,tz,tz,tz,tz,tz,tz,tz,tz,tz,tz,tz,tz,tz,tz,tz,tz,tz,tz,tz,tz,tz,tz,tz,tz,tz,tz,tz,tz,tz,tz,tz,tz,tz,tz,tz,tz],[some ⟨E24,[(.agg [(.lst a0),(iz a1),(iz a2),(iz a3),(iz a4),(iz a5),(iz a6),(iz a7),(iz a8)])]⟩]⟩=X11_0_0 d a0 a1 a2 a3 a4 a5 a6 a7 a8 :=by
 unfold r11X0_0; refine Eq.trans (pl_len (by rfl)) ?_; refine yt ySs ?_; (iterate 2 (refine yt yI ?_)); refine yt ySs ?_; refine yt yI ?_; refine yt yAs ?_; refine yt yI ?_; refine yt yB ?_; refine yt yAs ?_; refine yt ySs ?_; refine Eq.trans (pl_sameH) ?_
 rfl
noncomputable def E11_0 (d:Nat) (a0:List AV) (a1 a2 a3 a4 a5 a6 a7 a8 x57:Int):Ans :=
 some (iz x57)
theorem E11_0_ok (d:Nat) (a0:List AV) (a1 a2 a3 a4 a5 a6 a7 a8 x57 x58 x59:Int) (v60 v61:AV) (x62:Int) (b63:Bool) (v64 v65 v66 v67:AV) (x68:Int) (v69 v71:AV) (x72 x73 x74 x75:Int) (b76 b77:Bool):r11E0 C0 d a0 a1 a2 a3 a4 a5 a6 a7 a8 ⟨[(.agg [(.lst a0),(iz a1),(iz a2),(iz a3),(iz a4),(iz a5),(iz a6),(iz a7),(iz a8)]),(.ptr 0 0 0),(iz x57),(iz x58),(.ptr 0 0 0),(.lst a0),(iz (((List.length a0):Nat):Int)),(.bool (decide ((((List.length a0):Nat):Int) < 1))),bf,(.ptr 0 0 0),(.lst a0),(iz (((List.length a0):Nat):Int)),(.bool (decide ((((List.length a0):Nat):Int) > 4))),bf,(iz x59),v60,v61,(iz x62),(.bool b63),v64,v65,v66,v67,(iz x68),v69,(.agg [v71,(iz x72),(iz x73),(iz x74),(iz x75)]),(.bool b76),(.bool b77),tz,tz,tz,tz,tz,tz,tz,tz,tz,tz,tz,tz,tz,tz,tz,tz,tz,tz,tz,tz,tz,tz,tz,tz,tz,tz,tz,tz,tz,tz,tz,tz,tz,tz,tz,tz,tz,tz,tz,tz,tz,tz,tz,tz,tz],[some ⟨E24,[(.agg [(.lst a0),(iz a1),(iz a2),(iz a3),(iz a4),(iz a5),(iz a6),(iz a7),(iz a8)])]⟩]⟩=E11_0 d a0 a1 a2 a3 a4 a5 a6 a7 a8 x57:=by
 unfold r11E0; refine Eq.trans (pl_len (by rfl)) ?_; refine yt ySs ?_; (iterate 2 (refine yt yI ?_)); refine yt ySs ?_; refine yt yI ?_; refine yt yAs ?_; refine yt yI ?_; refine yt yB ?_; refine yt yAs ?_; refine yt yI ?_; refine yt yA ?_; refine yt yG ?_; refine yt yA ?_; (iterate 4 (refine yt yI ?_)); (iterate 2 (refine yt yB ?_)); refine yt ySs ?_; refine Eq.trans (pl_sameH) ?_
 rfl
noncomputable def L11_0 (d:Nat) (a0:List AV) (a1 a2 a3 a4 a5 a6 a7 a8:Int):Nat→Int→Ans
 | 0,_=>none
 | n+1,x4 =>
 cnd (decide (x4 < (((List.length a0):Nat):Int)))
  (cnd (decide ((0:Int)≤x4))
  (C0.agg 5 a0[(Int.toNat x4)]? fun l19 =>
  C0.lst l19[0]? (fun l20 =>
  C0.int .i64 l19[1]? fun x22 =>
  C0.int .i64 l19[2]? fun x23 =>
  C0.int .i64 l19[3]? fun x24 =>
  C0.int .i64 l19[4]? fun x25 =>
  C0.bool (pcall M d 23 [(.agg [(.lst l20),(iz x22),(iz x23),(iz x24),(iz x25)])]) fun b26 =>
  cnd (!b26)
  (E11_0 d a0 a1 a2 a3 a4 a5 a6 a7 a8 2)
  (L11_0 d a0 a1 a2 a3 a4 a5 a6 a7 a8 n (IntKind.wrap .i64 (x4+1))))
    (fun z21 =>
  C0.int .i64 l19[1]? fun x27 =>
  C0.int .i64 l19[2]? fun x28 =>
  C0.int .i64 l19[3]? fun x29 =>
  C0.int .i64 l19[4]? fun x30 =>
  C0.bool (pcall M d 23 [(.agg [(.zsl z21),(iz x27),(iz x28),(iz x29),(iz x30)])]) fun b31 =>
  cnd (!b31)
  (E11_0 d a0 a1 a2 a3 a4 a5 a6 a7 a8 2)
  (L11_0 d a0 a1 a2 a3 a4 a5 a6 a7 a8 n (IntKind.wrap .i64 (x4+1)))))
  (none))
  (X11_0_0 d a0 a1 a2 a3 a4 a5 a6 a7 a8)
theorem L11_0_s (d:Nat) (a0:List AV) (a1 a2 a3 a4 a5 a6 a7 a8:Int) (n:Nat) (x4:Int):L11_0 d a0 a1 a2 a3 a4 a5 a6 a7 a8 (n+1) x4=(cnd (decide (x4 < (((List.length a0):Nat):Int)))
 (cnd (decide ((0:Int)≤x4))
 (C0.agg 5 a0[(Int.toNat x4)]? fun l19 =>
 C0.lst l19[0]? (fun l20 =>
 C0.int .i64 l19[1]? fun x22 =>
 C0.int .i64 l19[2]? fun x23 =>
 C0.int .i64 l19[3]? fun x24 =>
 C0.int .i64 l19[4]? fun x25 =>
 C0.bool (pcall M d 23 [(.agg [(.lst l20),(iz x22),(iz x23),(iz x24),(iz x25)])]) fun b26 =>
 cnd (!b26)
 (E11_0 d a0 a1 a2 a3 a4 a5 a6 a7 a8 2)
 (L11_0 d a0 a1 a2 a3 a4 a5 a6 a7 a8 n (IntKind.wrap .i64 (x4+1))))
   (fun z21 =>
 C0.int .i64 l19[1]? fun x27 =>
 C0.int .i64 l19[2]? fun x28 =>
 C0.int .i64 l19[3]? fun x29 =>
 C0.int .i64 l19[4]? fun x30 =>
 C0.bool (pcall M d 23 [(.agg [(.zsl z21),(iz x27),(iz x28),(iz x29),(iz x30)])]) fun b31 =>
 cnd (!b31)
 (E11_0 d a0 a1 a2 a3 a4 a5 a6 a7 a8 2)
 (L11_0 d a0 a1 a2 a3 a4 a5 a6 a7 a8 n (IntKind.wrap .i64 (x4+1)))))
 (none))
 (X11_0_0 d a0 a1 a2 a3 a4 a5 a6 a7 a8)):=by kernel_rfl
theorem it11_0 (d:Nat) (a0:List AV) (a1 a2 a3 a4 a5 a6 a7 a8:Int)  :∀ (n:Nat) (x3 x4:Int) (v5 v6 v7 v8 v9 v10 v11 v12 v13 v14 v15 v16 v17 v18:AV),C0.iter (r11R0 C0 d a0 a1 a2 a3 a4 a5 a6 a7 a8) n ⟨[(.agg [(.lst a0),(iz a1),(iz a2),(iz a3),(iz a4),(iz a5),(iz a6),(iz a7),(iz a8)]),(.ptr 0 0 0),(iz x3),(iz x4),(.ptr 0 0 0),(.lst a0),(iz (((List.length a0):Nat):Int)),(.bool (decide ((((List.length a0):Nat):Int) < 1))),bf,(.ptr 0 0 0),(.lst a0),(iz (((List.length a0):Nat):Int)),(.bool (decide ((((List.length a0):Nat):Int) > 4))),bf,v5,v6,v7,v8,v9,v10,v11,v12,v13,v14,v15,v16,v17,v18,tz,tz,tz,tz,tz,tz,tz,tz,tz,tz,tz,tz,tz,tz,tz,tz,tz,tz,tz,tz,tz,tz,tz,tz,tz,tz,tz,tz,tz,tz,tz,tz,tz,tz,tz,tz,tz,tz,tz,tz,tz,tz,tz,tz,tz],[some ⟨E24,[(.agg [(.lst a0),(iz a1),(iz a2),(iz a3),(iz a4),(iz a5),(iz a6),(iz a7),(iz a8)])]⟩]⟩ [0] [r11X0_0 C0 d a0 a1 a2 a3 a4 a5 a6 a7 a8] (r11E0 C0 d a0 a1 a2 a3 a4 a5 a6 a7 a8)=L11_0 d a0 a1 a2 a3 a4 a5 a6 a7 a8 n x4:=by
 generalize hR:r11R0 C0 d a0 a1 a2 a3 a4 a5 a6 a7 a8=R
 intro n
 induction n with
 | zero=>intros; rfl
 | succ n ih =>
   intro x3 x4 v5 v6 v7 v8 v9 v10 v11 v12 v13 v14 v15 v16 v17 v18
   simp only [it_ret] at ih
   rw [it_ret,xiter_s]
   refine Eq.trans (congrFun (congrFun hR.symm _) _) ?_
   unfold r11R0
   refine Eq.trans (pl_len (by rfl)) ?_; refine yt ySs ?_; (iterate 2 (refine yt yI ?_)); refine yt ySs ?_; refine yt yAs ?_; (iterate 9 (refine yt yA ?_)); refine yt ySs ?_; refine Eq.trans (pl_sameH) ?_
   simp only [kIter_n,kIter_x,kIter_r,kOut_x,kOut_r,xgo_hit,xgo_miss,ih,X11_0_0_ok d a0 a1 a2 a3 a4 a5 a6 a7 a8  ,E11_0_ok d a0 a1 a2 a3 a4 a5 a6 a7 a8  ]
   exact (L11_0_s d a0 a1 a2 a3 a4 a5 a6 a7 a8 n x4).symm
theorem q11 (d:Nat) (a0:List AV) (a1 a2 a3 a4 a5 a6 a7 a8:Int):xcall C0 M unr d 11 [(.agg [(.lst a0),(iz a1),(iz a2),(iz a3),(iz a4),(iz a5),(iz a6),(iz a7),(iz a8)])] =
 cnd (decide ((((List.length a0):Nat):Int) < 1))
  (some (iz 1))
  (cnd (decide ((((List.length a0):Nat):Int) > 4))
  (some (iz 1))
  (L11_0 d a0 a1 a2 a3 a4 a5 a6 a7 a8 10000000000000000000 0)):=(r11 C0 d a0 a1 a2 a3 a4 a5 a6 a7 a8).trans (by simp only [it11_0])
noncomputable def X15_0_0 (d:Nat) (a0 a9:List AV) :Ans :=
 some bt
theorem X15_0_0_ok (d:Nat) (a0:List AV) (a1 a2 a3 a4 a5 a6 a7 a8:Int) (a9:List AV) (a10 a11 a12 a13 a14 a15 a16 a17:Int) (b62:Bool) (x63 x64:Int) (v65 v66:AV) (x67:Int) (b68:Bool) (v69 v70 v71 v72 v73 v74 v75 v76 v77 v78 v79 v80 v81 v82:AV):r15X0_0 C0 d a0 a1 a2 a3 a4 a5 a6 a7 a8 a9 a10 a11 a12 a13 a14 a15 a16 a17 ⟨[(.agg [(.lst a0),(iz a1),(iz a2),(iz a3),(iz a4),(iz a5),(iz a6),(iz a7),(iz a8)]),(.agg [(.lst a9),(iz a10),(iz a11),(iz a12),(iz a13),(iz a14),(iz a15),(iz a16),(iz a17)]),(.ptr 0 0 0),(.ptr 1 0 0),(.bool b62),(iz x63),(.ptr 0 0 0),(.lst a0),(iz (((List.length a0):Nat):Int)),(.ptr 1 0 0),(.lst a9),(iz (((List.length a9):Nat):Int)),(.bool ((((List.length a0):Nat):Int) != (((List.length a9):Nat):Int))),bf,(.ptr 0 0 1),(iz a1),(.ptr 1 0 1),(iz a10),(.bool (a1 != a10)),(.bool (a1 != a10)),bf,(.ptr 0 0 2),(iz a2),(.ptr 1 0 2),(iz a11),(.bool (a2 != a11)),(.bool (a2 != a11)),bf,(.ptr 0 0 3),(iz a3),(.ptr 1 0 3),(iz a12),(.bool (a3 != a12)),(.bool (a3 != a12)),bf,(.ptr 0 0 4),(iz a4),(.ptr 1 0 4),(iz a13),(.bool (a4 != a13)),(.bool (a4 != a13)),bf,(.ptr 0 0 5),(iz a5),(.ptr 1 0 5),(iz a14),(.bool (a5 != a14)),(.bool (a5 != a14)),bf,(.ptr 0 0 6),(iz a6),(.ptr 1 0 6),(iz a15),(.bool (a6 != a15)),(.bool (a6 != a15)),bf,(.ptr 0 0 7),(iz a7),(.ptr 1 0 7),(iz a16),(.bool (a7 != a16)),(.bool (a7 != a16)),bf,(.ptr 0 0 8),(iz a8),(.ptr 1 0 8),(iz a17),(.bool (a8 != a17)),bf,(iz x64),v65,v66,(iz x67),(.bool b68),v69,v70,v71,v72,v73,v74,v75,v76,v77,v78,v79,v80,v81,v82],[some ⟨E24,[(.agg [(.lst a0),(iz a1),(iz a2),(iz a3),(iz a4),(iz a5),(iz a6),(iz a7),(iz a8)])]⟩,some ⟨E24,[(.agg [(.lst a9),(iz a10),(iz a11),(iz a12),(iz a13),(iz a14),(iz a15),(iz a16),(iz a17)])]⟩]⟩=X15_0_0 d a0 a9 :=by
 unfold r15X0_0; refine Eq.trans (pl_len (by rfl)) ?_; refine yt ySs ?_; refine yt yB ?_; refine yt yI ?_; refine yt ySs ?_; refine yt yI ?_; refine yt yAs ?_; refine yt yI ?_; refine yt yB ?_; refine yt yAs ?_; refine Eq.trans (pl_sameH) ?_
 rfl
noncomputable def E15_0 (d:Nat) (a0 a9:List AV) (b83:Bool):Ans :=
 some (.bool b83)
theorem E15_0_ok (d:Nat) (a0:List AV) (a1 a2 a3 a4 a5 a6 a7 a8:Int) (a9:List AV) (a10 a11 a12 a13 a14 a15 a16 a17:Int) (b83:Bool) (x84 x85:Int) (v86 v87:AV) (x88:Int) (b89:Bool) (v90 v91 v92 v93:AV) (x94:Int) (v95 v97:AV) (x98 x99 x100 x101:Int) (v102 v103:AV) (x104:Int) (v105 v107:AV) (x108 x109 x110 x111:Int) (b112 b113:Bool):r15E0 C0 d a0 a1 a2 a3 a4 a5 a6 a7 a8 a9 a10 a11 a12 a13 a14 a15 a16 a17 ⟨[(.agg [(.lst a0),(iz a1),(iz a2),(iz a3),(iz a4),(iz a5),(iz a6),(iz a7),(iz a8)]),(.agg [(.lst a9),(iz a10),(iz a11),(iz a12),(iz a13),(iz a14),(iz a15),(iz a16),(iz a17)]),(.ptr 0 0 0),(.ptr 1 0 0),(.bool b83),(iz x84),(.ptr 0 0 0),(.lst a0),(iz (((List.length a0):Nat):Int)),(.ptr 1 0 0),(.lst a9),(iz (((List.length a9):Nat):Int)),(.bool ((((List.length a0):Nat):Int) != (((List.length a9):Nat):Int))),bf,(.ptr 0 0 1),(iz a1),(.ptr 1 0 1),(iz a10),(.bool (a1 != a10)),(.bool (a1 != a10)),bf,(.ptr 0 0 2),(iz a2),(.ptr 1 0 2),(iz a11),(.bool (a2 != a11)),(.bool (a2 != a11)),bf,(.ptr 0 0 3),(iz a3),(.ptr 1 0 3),(iz a12),(.bool (a3 != a12)),(.bool (a3 != a12)),bf,(.ptr 0 0 4),(iz a4),(.ptr 1 0 4),(iz a13),(.bool (a4 != a13)),(.bool (a4 != a13)),bf,(.ptr 0 0 5),(iz a5),(.ptr 1 0 5),(iz a14),(.bool (a5 != a14)),(.bool (a5 != a14)),bf,(.ptr 0 0 6),(iz a6),(.ptr 1 0 6),(iz a15),(.bool (a6 != a15)),(.bool (a6 != a15)),bf,(.ptr 0 0 7),(iz a7),(.ptr 1 0 7),(iz a16),(.bool (a7 != a16)),(.bool (a7 != a16)),bf,(.ptr 0 0 8),(iz a8),(.ptr 1 0 8),(iz a17),(.bool (a8 != a17)),bf,(iz x85),v86,v87,(iz x88),(.bool b89),v90,v91,v92,v93,(iz x94),v95,(.agg [v97,(iz x98),(iz x99),(iz x100),(iz x101)]),v102,v103,(iz x104),v105,(.agg [v107,(iz x108),(iz x109),(iz x110),(iz x111)]),(.bool b112),(.bool b113)],[some ⟨E24,[(.agg [(.lst a0),(iz a1),(iz a2),(iz a3),(iz a4),(iz a5),(iz a6),(iz a7),(iz a8)])]⟩,some ⟨E24,[(.agg [(.lst a9),(iz a10),(iz a11),(iz a12),(iz a13),(iz a14),(iz a15),(iz a16),(iz a17)])]⟩]⟩=E15_0 d a0 a9 b83:=by
 unfold r15E0; refine Eq.trans (pl_len (by rfl)) ?_; refine yt ySs ?_; refine yt yB ?_; refine yt yI ?_; refine yt ySs ?_; refine yt yI ?_; refine yt yAs ?_; refine yt yI ?_; refine yt yB ?_; refine yt yAs ?_; refine yt yI ?_; refine yt yA ?_; refine yt yG ?_; refine yt yA ?_; (iterate 4 (refine yt yI ?_)); refine yt yAs ?_; refine yt yI ?_; refine yt yA ?_; refine yt yG ?_; refine yt yA ?_; (iterate 4 (refine yt yI ?_)); (iterate 2 (refine yt yB ?_)); refine Eq.trans (pl_sameH) ?_
 rfl
noncomputable def L15_0 (d:Nat) (a0 a9:List AV):Nat→Int→Ans
 | 0,_=>none
 | n+1,x4 =>
 cnd (decide (x4 < (((List.length a0):Nat):Int)))
  (cnd (decide ((0:Int)≤x4))
  (C0.agg 5 a0[(Int.toNat x4)]? fun l24 =>
  C0.lst l24[0]? (fun l25 =>
  C0.int .i64 l24[1]? fun x27 =>
  C0.int .i64 l24[2]? fun x28 =>
  C0.int .i64 l24[3]? fun x29 =>
  C0.int .i64 l24[4]? fun x30 =>
  cnd (decide ((0:Int)≤x4))
  (C0.agg 5 a9[(Int.toNat x4)]? fun l31 =>
  C0.lst l31[0]? (fun l32 =>
  C0.int .i64 l31[1]? fun x34 =>
  C0.int .i64 l31[2]? fun x35 =>
  C0.int .i64 l31[3]? fun x36 =>
  C0.int .i64 l31[4]? fun x37 =>
  C0.bool (pcall M d 29 [(.agg [(.lst l25),(iz x27),(iz x28),(iz x29),(iz x30)]),(.agg [(.lst l32),(iz x34),(iz x35),(iz x36),(iz x37)])]) fun b38 =>
  cnd (!b38)
  (E15_0 d a0 a9 false)
  (L15_0 d a0 a9 n (IntKind.wrap .i64 (x4+1))))
    (fun z33 =>
  C0.int .i64 l31[1]? fun x39 =>
  C0.int .i64 l31[2]? fun x40 =>
  C0.int .i64 l31[3]? fun x41 =>
  C0.int .i64 l31[4]? fun x42 =>
  C0.bool (pcall M d 29 [(.agg [(.lst l25),(iz x27),(iz x28),(iz x29),(iz x30)]),(.agg [(.zsl z33),(iz x39),(iz x40),(iz x41),(iz x42)])]) fun b43 =>
  cnd (!b43)
  (E15_0 d a0 a9 false)
  (L15_0 d a0 a9 n (IntKind.wrap .i64 (x4+1)))))
  (none))
    (fun z26 =>
  C0.int .i64 l24[1]? fun x44 =>
  C0.int .i64 l24[2]? fun x45 =>
  C0.int .i64 l24[3]? fun x46 =>
  C0.int .i64 l24[4]? fun x47 =>
  cnd (decide ((0:Int)≤x4))
  (C0.agg 5 a9[(Int.toNat x4)]? fun l48 =>
  C0.lst l48[0]? (fun l49 =>
  C0.int .i64 l48[1]? fun x51 =>
  C0.int .i64 l48[2]? fun x52 =>
  C0.int .i64 l48[3]? fun x53 =>
  C0.int .i64 l48[4]? fun x54 =>
  C0.bool (pcall M d 29 [(.agg [(.zsl z26),(iz x44),(iz x45),(iz x46),(iz x47)]),(.agg [(.lst l49),(iz x51),(iz x52),(iz x53),(iz x54)])]) fun b55 =>
  cnd (!b55)
  (E15_0 d a0 a9 false)
  (L15_0 d a0 a9 n (IntKind.wrap .i64 (x4+1))))
    (fun z50 =>
  C0.int .i64 l48[1]? fun x56 =>
  C0.int .i64 l48[2]? fun x57 =>
  C0.int .i64 l48[3]? fun x58 =>
  C0.int .i64 l48[4]? fun x59 =>
  C0.bool (pcall M d 29 [(.agg [(.zsl z26),(iz x44),(iz x45),(iz x46),(iz x47)]),(.agg [(.zsl z50),(iz x56),(iz x57),(iz x58),(iz x59)])]) fun b60 =>
  cnd (!b60)
  (E15_0 d a0 a9 false)
  (L15_0 d a0 a9 n (IntKind.wrap .i64 (x4+1)))))
  (none)))
  (none))
  (X15_0_0 d a0 a9)
theorem L15_0_s (d:Nat) (a0 a9:List AV) (n:Nat) (x4:Int):L15_0 d a0 a9 (n+1) x4=(cnd (decide (x4 < (((List.length a0):Nat):Int)))
 (cnd (decide ((0:Int)≤x4))
 (C0.agg 5 a0[(Int.toNat x4)]? fun l24 =>
 C0.lst l24[0]? (fun l25 =>
 C0.int .i64 l24[1]? fun x27 =>
 C0.int .i64 l24[2]? fun x28 =>
 C0.int .i64 l24[3]? fun x29 =>
 C0.int .i64 l24[4]? fun x30 =>
 cnd (decide ((0:Int)≤x4))
 (C0.agg 5 a9[(Int.toNat x4)]? fun l31 =>
 C0.lst l31[0]? (fun l32 =>
 C0.int .i64 l31[1]? fun x34 =>
 C0.int .i64 l31[2]? fun x35 =>
 C0.int .i64 l31[3]? fun x36 =>
 C0.int .i64 l31[4]? fun x37 =>
 C0.bool (pcall M d 29 [(.agg [(.lst l25),(iz x27),(iz x28),(iz x29),(iz x30)]),(.agg [(.lst l32),(iz x34),(iz x35),(iz x36),(iz x37)])]) fun b38 =>
 cnd (!b38)
 (E15_0 d a0 a9 false)
 (L15_0 d a0 a9 n (IntKind.wrap .i64 (x4+1))))
   (fun z33 =>
 C0.int .i64 l31[1]? fun x39 =>
 C0.int .i64 l31[2]? fun x40 =>
 C0.int .i64 l31[3]? fun x41 =>
 C0.int .i64 l31[4]? fun x42 =>
 C0.bool (pcall M d 29 [(.agg [(.lst l25),(iz x27),(iz x28),(iz x29),(iz x30)]),(.agg [(.zsl z33),(iz x39),(iz x40),(iz x41),(iz x42)])]) fun b43 =>
 cnd (!b43)
 (E15_0 d a0 a9 false)
 (L15_0 d a0 a9 n (IntKind.wrap .i64 (x4+1)))))
 (none))
   (fun z26 =>
 C0.int .i64 l24[1]? fun x44 =>
 C0.int .i64 l24[2]? fun x45 =>
 C0.int .i64 l24[3]? fun x46 =>
 C0.int .i64 l24[4]? fun x47 =>
 cnd (decide ((0:Int)≤x4))
 (C0.agg 5 a9[(Int.toNat x4)]? fun l48 =>
 C0.lst l48[0]? (fun l49 =>
 C0.int .i64 l48[1]? fun x51 =>
 C0.int .i64 l48[2]? fun x52 =>
 C0.int .i64 l48[3]? fun x53 =>
 C0.int .i64 l48[4]? fun x54 =>
 C0.bool (pcall M d 29 [(.agg [(.zsl z26),(iz x44),(iz x45),(iz x46),(iz x47)]),(.agg [(.lst l49),(iz x51),(iz x52),(iz x53),(iz x54)])]) fun b55 =>
 cnd (!b55)
 (E15_0 d a0 a9 false)
 (L15_0 d a0 a9 n (IntKind.wrap .i64 (x4+1))))
   (fun z50 =>
 C0.int .i64 l48[1]? fun x56 =>
 C0.int .i64 l48[2]? fun x57 =>
 C0.int .i64 l48[3]? fun x58 =>
 C0.int .i64 l48[4]? fun x59 =>
 C0.bool (pcall M d 29 [(.agg [(.zsl z26),(iz x44),(iz x45),(iz x46),(iz x47)]),(.agg [(.zsl z50),(iz x56),(iz x57),(iz x58),(iz x59)])]) fun b60 =>
 cnd (!b60)
 (E15_0 d a0 a9 false)
 (L15_0 d a0 a9 n (IntKind.wrap .i64 (x4+1)))))
 (none)))
 (none))
 (X15_0_0 d a0 a9)):=by kernel_rfl
theorem it15_0 (d:Nat) (a0:List AV) (a1 a2 a3 a4 a5 a6 a7 a8:Int) (a9:List AV) (a10 a11 a12 a13 a14 a15 a16 a17:Int)  :∀ (n:Nat) (b3:Bool) (x4:Int) (v5 v6 v7 v8 v9 v10 v11 v12 v13 v14 v15 v16 v17 v18 v19 v20 v21 v22 v23:AV),C0.iter (r15R0 C0 d a0 a1 a2 a3 a4 a5 a6 a7 a8 a9 a10 a11 a12 a13 a14 a15 a16 a17) n ⟨[(.agg [(.lst a0),(iz a1),(iz a2),(iz a3),(iz a4),(iz a5),(iz a6),(iz a7),(iz a8)]),(.agg [(.lst a9),(iz a10),(iz a11),(iz a12),(iz a13),(iz a14),(iz a15),(iz a16),(iz a17)]),(.ptr 0 0 0),(.ptr 1 0 0),(.bool b3),(iz x4),(.ptr 0 0 0),(.lst a0),(iz (((List.length a0):Nat):Int)),(.ptr 1 0 0),(.lst a9),(iz (((List.length a9):Nat):Int)),(.bool ((((List.length a0):Nat):Int) != (((List.length a9):Nat):Int))),bf,(.ptr 0 0 1),(iz a1),(.ptr 1 0 1),(iz a10),(.bool (a1 != a10)),(.bool (a1 != a10)),bf,(.ptr 0 0 2),(iz a2),(.ptr 1 0 2),(iz a11),(.bool (a2 != a11)),(.bool (a2 != a11)),bf,(.ptr 0 0 3),(iz a3),(.ptr 1 0 3),(iz a12),(.bool (a3 != a12)),(.bool (a3 != a12)),bf,(.ptr 0 0 4),(iz a4),(.ptr 1 0 4),(iz a13),(.bool (a4 != a13)),(.bool (a4 != a13)),bf,(.ptr 0 0 5),(iz a5),(.ptr 1 0 5),(iz a14),(.bool (a5 != a14)),(.bool (a5 != a14)),bf,(.ptr 0 0 6),(iz a6),(.ptr 1 0 6),(iz a15),(.bool (a6 != a15)),(.bool (a6 != a15)),bf,(.ptr 0 0 7),(iz a7),(.ptr 1 0 7),(iz a16),(.bool (a7 != a16)),(.bool (a7 != a16)),bf,(.ptr 0 0 8),(iz a8),(.ptr 1 0 8),(iz a17),(.bool (a8 != a17)),bf,v5,v6,v7,v8,v9,v10,v11,v12,v13,v14,v15,v16,v17,v18,v19,v20,v21,v22,v23],[some ⟨E24,[(.agg [(.lst a0),(iz a1),(iz a2),(iz a3),(iz a4),(iz a5),(iz a6),(iz a7),(iz a8)])]⟩,some ⟨E24,[(.agg [(.lst a9),(iz a10),(iz a11),(iz a12),(iz a13),(iz a14),(iz a15),(iz a16),(iz a17)])]⟩]⟩ [0] [r15X0_0 C0 d a0 a1 a2 a3 a4 a5 a6 a7 a8 a9 a10 a11 a12 a13 a14 a15 a16 a17] (r15E0 C0 d a0 a1 a2 a3 a4 a5 a6 a7 a8 a9 a10 a11 a12 a13 a14 a15 a16 a17)=L15_0 d a0 a9 n x4:=by
 generalize hR:r15R0 C0 d a0 a1 a2 a3 a4 a5 a6 a7 a8 a9 a10 a11 a12 a13 a14 a15 a16 a17=R
 intro n
 induction n with
 | zero=>intros; rfl
 | succ n ih =>
   intro b3 x4 v5 v6 v7 v8 v9 v10 v11 v12 v13 v14 v15 v16 v17 v18 v19 v20 v21 v22 v23
   simp only [it_ret] at ih
   rw [it_ret,xiter_s]
   refine Eq.trans (congrFun (congrFun hR.symm _) _) ?_
   unfold r15R0
   refine Eq.trans (pl_len (by rfl)) ?_; refine yt ySs ?_; refine yt yB ?_; refine yt yI ?_; refine yt ySs ?_; refine yt yAs ?_; (iterate 14 (refine yt yA ?_)); refine Eq.trans (pl_sameH) ?_
   simp only [kIter_n,kIter_x,kIter_r,kOut_x,kOut_r,xgo_hit,xgo_miss,ih,X15_0_0_ok d a0 a1 a2 a3 a4 a5 a6 a7 a8 a9 a10 a11 a12 a13 a14 a15 a16 a17  ,E15_0_ok d a0 a1 a2 a3 a4 a5 a6 a7 a8 a9 a10 a11 a12 a13 a14 a15 a16 a17  ]
   exact (L15_0_s d a0 a9 n x4).symm
theorem q15 (d:Nat) (a0:List AV) (a1 a2 a3 a4 a5 a6 a7 a8:Int) (a9:List AV) (a10 a11 a12 a13 a14 a15 a16 a17:Int):xcall C0 M unr d 15 [(.agg [(.lst a0),(iz a1),(iz a2),(iz a3),(iz a4),(iz a5),(iz a6),(iz a7),(iz a8)]),(.agg [(.lst a9),(iz a10),(iz a11),(iz a12),(iz a13),(iz a14),(iz a15),(iz a16),(iz a17)])] =
 cnd ((((List.length a0):Nat):Int) != (((List.length a9):Nat):Int))
  (some bf)
  (cnd (a1 != a10)
  (some bf)
  (cnd (a2 != a11)
  (some bf)
  (cnd (a3 != a12)
  (some bf)
  (cnd (a4 != a13)
  (some bf)
  (cnd (a5 != a14)
  (some bf)
  (cnd (a6 != a15)
  (some bf)
  (cnd (a7 != a16)
  (some bf)
  (cnd (a8 != a17)
  (some bf)
  (L15_0 d a0 a9 10000000000000000000 0))))))))):=(r15 C0 d a0 a1 a2 a3 a4 a5 a6 a7 a8 a9 a10 a11 a12 a13 a14 a15 a16 a17).trans (by simp only [it15_0])
noncomputable def X46f41_0_0 (d:Nat) (a0:List AV) :Ans :=
 some (iz (-1))
theorem X46f41_0_0_ok (d:Nat) (a0:List AV) (x30:Int) (v31:AV) (x32:Int) (v33 v34 v35 v36 v37 v38 v39 v40 v41 v42:AV):r46f41X0_0 C0 d a0 ⟨[(.lst a0),(.fn 41 [] []),tz,tz,(iz x30),v31,(.lst a0),(iz (((List.length a0):Nat):Int)),(iz x32),v33,v34,v35,v36,v37,v38,v39,v40,v41,v42],[]⟩=X46f41_0_0 d a0 :=by
 unfold r46f41X0_0; refine Eq.trans (pl_len (by rfl)) ?_; refine yt ySs ?_; refine yt yI ?_; refine yt yA ?_; refine yt ySs ?_; refine yt yI ?_; refine yt yAs ?_; refine Eq.trans (pl_sameH) ?_
 rfl
noncomputable def E46f41_0 (d:Nat) (a0:List AV) (x43:Int):Ans :=
 some (iz x43)
theorem E46f41_0_ok (d:Nat) (a0:List AV) (x43 x44 x45:Int) (v46:AV) (x47:Int) (v48 v49:AV) (x50:Int) (v51 v53:AV) (x54 x55 x56 x57:Int) (b58:Bool) (x59:Int) (v60:AV):r46f41E0 C0 d a0 ⟨[(.lst a0),(.fn 41 [] []),tz,tz,(iz x43),(iz x44),(.lst a0),(iz (((List.length a0):Nat):Int)),(iz x45),v46,(iz x47),v48,v49,(iz x50),v51,(.agg [v53,(iz x54),(iz x55),(iz x56),(iz x57)]),(.bool b58),(iz x59),v60],[]⟩=E46f41_0 d a0 x43:=by
 unfold r46f41E0; refine Eq.trans (pl_len (by rfl)) ?_; refine yt ySs ?_; (iterate 2 (refine yt yI ?_)); refine yt ySs ?_; refine yt yI ?_; refine yt yA ?_; refine yt yI ?_; refine yt yAs ?_; refine yt yI ?_; refine yt yA ?_; refine yt yG ?_; refine yt yA ?_; (iterate 4 (refine yt yI ?_)); refine yt yB ?_; refine yt yI ?_; refine yt yA ?_; refine Eq.trans (pl_sameH) ?_
 rfl
noncomputable def L46f41_0 (d:Nat) (a0:List AV):Nat→Int→Ans
 | 0,_=>none
 | n+1,x5 =>
 cnd (decide (x5 < (((List.length a0):Nat):Int)))
  (cnd (decide ((0:Int)≤x5))
  (C0.agg 5 a0[(Int.toNat x5)]? fun l16 =>
  C0.lst l16[0]? (fun l17 =>
  C0.int .i64 l16[1]? fun x19 =>
  C0.int .i64 l16[2]? fun x20 =>
  C0.int .i64 l16[3]? fun x21 =>
  C0.int .i64 l16[4]? fun x22 =>
  C0.bool (pcall M d 41 [(.agg [(.lst l17),(iz x19),(iz x20),(iz x21),(iz x22)])]) fun b23 =>
  cnd b23
  (E46f41_0 d a0 x5)
  (L46f41_0 d a0 n (IntKind.wrap .i64 (x5+1))))
    (fun z18 =>
  C0.int .i64 l16[1]? fun x24 =>
  C0.int .i64 l16[2]? fun x25 =>
  C0.int .i64 l16[3]? fun x26 =>
  C0.int .i64 l16[4]? fun x27 =>
  C0.bool (pcall M d 41 [(.agg [(.zsl z18),(iz x24),(iz x25),(iz x26),(iz x27)])]) fun b28 =>
  cnd b28
  (E46f41_0 d a0 x5)
  (L46f41_0 d a0 n (IntKind.wrap .i64 (x5+1)))))
  (none))
  (X46f41_0_0 d a0)
theorem L46f41_0_s (d:Nat) (a0:List AV) (n:Nat) (x5:Int):L46f41_0 d a0 (n+1) x5=(cnd (decide (x5 < (((List.length a0):Nat):Int)))
 (cnd (decide ((0:Int)≤x5))
 (C0.agg 5 a0[(Int.toNat x5)]? fun l16 =>
 C0.lst l16[0]? (fun l17 =>
 C0.int .i64 l16[1]? fun x19 =>
 C0.int .i64 l16[2]? fun x20 =>
 C0.int .i64 l16[3]? fun x21 =>
 C0.int .i64 l16[4]? fun x22 =>
 C0.bool (pcall M d 41 [(.agg [(.lst l17),(iz x19),(iz x20),(iz x21),(iz x22)])]) fun b23 =>
 cnd b23
 (E46f41_0 d a0 x5)
 (L46f41_0 d a0 n (IntKind.wrap .i64 (x5+1))))
   (fun z18 =>
 C0.int .i64 l16[1]? fun x24 =>
 C0.int .i64 l16[2]? fun x25 =>
 C0.int .i64 l16[3]? fun x26 =>
 C0.int .i64 l16[4]? fun x27 =>
 C0.bool (pcall M d 41 [(.agg [(.zsl z18),(iz x24),(iz x25),(iz x26),(iz x27)])]) fun b28 =>
 cnd b28
 (E46f41_0 d a0 x5)
 (L46f41_0 d a0 n (IntKind.wrap .i64 (x5+1)))))
 (none))
 (X46f41_0_0 d a0)):=by kernel_rfl
theorem it46f41_0 (d:Nat) (a0:List AV)  :∀ (n:Nat) (x3:Int) (v4:AV) (x5:Int) (v6 v7 v8 v9 v10 v11 v12 v13 v14 v15:AV),C0.iter (r46f41R0 C0 d a0) n ⟨[(.lst a0),(.fn 41 [] []),tz,tz,(iz x3),v4,(.lst a0),(iz (((List.length a0):Nat):Int)),(iz x5),v6,v7,v8,v9,v10,v11,v12,v13,v14,v15],[]⟩ [0] [r46f41X0_0 C0 d a0] (r46f41E0 C0 d a0)=L46f41_0 d a0 n x5:=by
 generalize hR:r46f41R0 C0 d a0=R
 intro n
 induction n with
 | zero=>intros; rfl
 | succ n ih =>
   intro x3 v4 x5 v6 v7 v8 v9 v10 v11 v12 v13 v14 v15
   simp only [it_ret] at ih
   rw [it_ret,xiter_s]
   refine Eq.trans (congrFun (congrFun hR.symm _) _) ?_
   unfold r46f41R0
   refine Eq.trans (pl_len (by rfl)) ?_; refine yt ySs ?_; refine yt yI ?_; refine yt yA ?_; refine yt ySs ?_; refine yt yI ?_; (iterate 10 (refine yt yA ?_)); refine Eq.trans (pl_sameH) ?_
   simp only [kIter_n,kIter_x,kIter_r,kOut_x,kOut_r,xgo_hit,xgo_miss,ih,X46f41_0_0_ok d a0  ,E46f41_0_ok d a0  ]
   exact (L46f41_0_s d a0 n x5).symm
theorem q46f41 (d:Nat) (a0:List AV) (a1:AV):xcall C0 M unr d 46 [(.lst a0),(.fn 41 [] [])] =
 L46f41_0 d a0 10000000000000000000 0:=(r46f41 C0 d a0 a1).trans (by simp only [it46f41_0])
end Go.Proofs.Ytbmedgpiphibaaa.AE

namespace Go.Proofs.Ytbmedgpiphibaaa.AE
set_option linter.unusedVariables false
set_option linter.unusedSimpArgs false
set_option linter.constructorNameAsVariable false
open Go Go.Proofs.Ytbmedgpiphibaaa.Geo
attribute [local irreducible] pcall C0
set_option maxRecDepth 100000
structure Phs where
 ps:List Pt
 g:Int
 v:Int
 m:Int
 u:Int
abbrev phA (p:Phs):AV:=.agg [.lst (p.ps.map pt),.int .i64 p.g,.int .i64 p.v,.int .i64 p.m,.int .i64 p.u]
structure Rul where
 phs:List Phs
 n:Int
 d:Int
 gr:Int
 eps:Int
 st:Int
 age:Int
 lift:Int
 saf:Int
abbrev rl (r:Rul):AV:=.agg [.lst (r.phs.map phA),.int .i64 r.n,.int .i64 r.d,.int .i64 r.gr,.int .i64 r.eps,.int .i64 r.st,.int .i64 r.age,.int .i64 r.lift,.int .i64 r.saf]
theorem phs_at {l:List Phs} {i:Nat} (h:i < l.length):(l.map phA)[i]?=some (phA l[i]):=by simp [List.getElem?_map,List.getElem?_eq_getElem h]
theorem s24 (d:Nat) (n a b:Int):pcall M (d+1) 24 [.int .i64 n,.int .i64 a,.int .i64 b]=some (.bool (decide (a≤n∧n≤b))):=told (r24 C0 d _ _ _) (by
 by_cases h:n ≥ a
 ·rw [decide_eq_true h,cnd_t]; congr 2; rw [decide_eq_decide]; omega
 ·rw [decide_eq_false h,cnd_f,decide_eq_false (by omega)])
theorem s39 (d:Nat) (n a b:Int):pcall M (d+1) 39 [.int .i64 n,.int .i64 a,.int .i64 b]=some (.bool (decide (a≤n∧n≤b))):=told (r39 C0 d _ _ _) (by
 by_cases h:n ≥ a
 ·rw [decide_eq_true h,cnd_t]; congr 2; rw [decide_eq_decide]; omega
 ·rw [decide_eq_false h,cnd_f,decide_eq_false (by omega)])
theorem s44 (d:Nat) (n a b:Int):pcall M (d+1) 44 [.int .i64 n,.int .i64 a,.int .i64 b]=some (.bool (decide (a≤n∧n≤b))):=told (r44 C0 d _ _ _) (by
 by_cases h:n ≥ a
 ·rw [decide_eq_true h,cnd_t]; congr 2; rw [decide_eq_decide]; omega
 ·rw [decide_eq_false h,cnd_f,decide_eq_false (by omega)])
def RightPh (p:Phs):Prop:=rightB p.ps=true∧(1≤p.g∧p.g≤100)∧(1≤p.v∧p.v≤65536)∧(1≤p.m∧p.m≤1000000)∧(0≤p.u∧p.u≤1073741824)
instance (p:Phs):Decidable (RightPh p):=by unfold RightPh; infer_instance
theorem s23 (d:Nat) (p:Phs) (hl:p.ps.length≤140737488355328):pcall M (d+10) 23 [phA p]=some (.bool (decide (RightPh p))):=told (r23 C0 (d+9) _ _ _ _ _) (by
 refine Eq.trans (pl_bool (s35 d p.ps hl)) ?_
 by_cases h:rightB p.ps=true
 rotate_left
 ·refine Eq.trans (pl_f (Bool.eq_false_iff.mpr h)) ?_
  rw [decide_eq_false (fun k=>h k.1)]
 ·refine Eq.trans (pl_len h) ?_
  refine Eq.trans (pl_bool (s24 (d+8) _ _ _)) ?_
  by_cases h1:1≤p.g∧p.g≤100
  rotate_left
  ·rw [decide_eq_false h1,cnd_f,decide_eq_false (fun h=>h1 h.2.1)]
  rw [decide_eq_true h1,cnd_t]
  refine Eq.trans (pl_bool (s24 (d+8) _ _ _)) ?_
  by_cases h2:1≤p.v∧p.v≤65536
  rotate_left
  ·rw [decide_eq_false h2,cnd_f,decide_eq_false (fun h=>h2 h.2.2.1)]
  rw [decide_eq_true h2,cnd_t]
  refine Eq.trans (pl_bool (s24 (d+8) _ _ _)) ?_
  by_cases h3:1≤p.m∧p.m≤1000000
  rotate_left
  ·rw [decide_eq_false h3,cnd_f,decide_eq_false (fun h=>h3 h.2.2.2.1)]
  rw [decide_eq_true h3,cnd_t]
  refine Eq.trans (pl_bool (s24 (d+8) _ _ _)) ?_
  by_cases h4:0≤p.u∧p.u≤1073741824
  ·rw [decide_eq_true h4,decide_eq_true ⟨h,h1,h2,h3,h4⟩]
  ·rw [decide_eq_false h4,decide_eq_false (fun h=>h4 h.2.2.2.2)])
theorem s42 (d:Nat) (p:Phs) (hl:p.ps.length≤140737488355328):pcall M (d+13) 42 [phA p]=some (.bool (decide (RightPh p))):=told (r42 C0 (d+12) _ _ _ _ _) (by
 refine Eq.trans (pl_bool (s47 d p.ps hl)) ?_
 by_cases h:rightB p.ps=true
 rotate_left
 ·refine Eq.trans (pl_f (Bool.eq_false_iff.mpr h)) ?_
  rw [decide_eq_false (fun k=>h k.1)]
 ·refine Eq.trans (pl_len h) ?_
  refine Eq.trans (pl_bool (s44 (d+11) _ _ _)) ?_
  by_cases h1:1≤p.g∧p.g≤100
  rotate_left
  ·rw [decide_eq_false h1,cnd_f,decide_eq_false (fun h=>h1 h.2.1)]
  rw [decide_eq_true h1,cnd_t]
  refine Eq.trans (pl_bool (s44 (d+11) _ _ _)) ?_
  by_cases h2:1≤p.v∧p.v≤65536
  rotate_left
  ·rw [decide_eq_false h2,cnd_f,decide_eq_false (fun h=>h2 h.2.2.1)]
  rw [decide_eq_true h2,cnd_t]
  refine Eq.trans (pl_bool (s39 (d+11) _ _ _)) ?_
  by_cases h3:1≤p.m∧p.m≤1000000
  rotate_left
  ·rw [decide_eq_false h3,cnd_f,decide_eq_false (fun h=>h3 h.2.2.2.1)]
  rw [decide_eq_true h3,cnd_t]
  refine Eq.trans (pl_bool (s44 (d+11) _ _ _)) ?_
  by_cases h4:0≤p.u∧p.u≤1073741824
  ·rw [decide_eq_true h4,decide_eq_true ⟨h,h1,h2,h3,h4⟩]
  ·rw [decide_eq_false h4,decide_eq_false (fun h=>h4 h.2.2.2.2)])
def fiP (g:Phs→Bool):List Phs→Int→Int
 | [],_=>-1
 | p::l,i=>bif g p then i else fiP g l (i+1)
theorem fiP_any (g:Phs→Bool) (ps:List Phs):∀ i:Int,0≤i→decide (fiP g ps i ≥ 0)=ps.any g:=by
 induction ps with
 | nil=>intro i hi; simp [fiP]
 | cons p l ih =>
   intro i hi
   have h:=ih (i+1) (by omega)
   have e:∀ b:Bool,decide ((bif b then i else fiP g l (i+1)) ≥ 0)=(b || l.any g):=fun b=>by
    match b with
    | false=>exact h
    | true=>exact decide_eq_true hi
   exact e (g p)
def badX (p:Phs):Bool:=!decide (RightPh p)
theorem s41 (d:Nat) (p:Phs) (hl:p.ps.length≤140737488355328):pcall M (d+14) 41 [phA p]=some (.bool (badX p)):=told (r41 C0 (d+13) _ _ _ _ _) (by
 exact pl_bool (s42 d p hl))
theorem idx_go (d:Nat) (g:Phs→Bool) (l:List Phs) (hl:l.length≤1000) (hg:∀ p ∈ l,pcall M d 41 [phA p]=some (.bool (g p))):∀ (k i:Nat),i+k=l.length→∀ f,k < f →
 L46f41_0 d (l.map phA) f (i:Nat)=some (.int .i64 (fiP g (l.drop i) (i:Nat)))
 | 0,i,h,f+1,_=>by
   rw [L46f41_0,decide_eq_false (by simp; omega),cnd_f,List.drop_of_length_le (by omega)]; rfl
 | k+1,i,h,f+1,hf=>by
   have hi:i < l.length:=by omega
   rw [L46f41_0,decide_eq_true (by simp; omega),cnd_t,decide_eq_true (by omega),cnd_t,show (((i:Nat):Int)).toNat=i by omega,phs_at hi]
   repeat with_reducible first | refine tt sh_ptr ?_ | refine tt sh_fptr ?_ | refine tt w2 ?_ | refine tt w3 ?_ | refine tt w8 ?_ | refine tt w9 ?_ | refine tt wf ?_ | refine tt wg ?_ | refine tt wh ?_ | refine tt wi ?_ | refine tt wj ?_ | refine tt wk ?_ | refine tt wl ?_ | refine tt wn ?_ | refine tt c_ort ?_ | refine tt c_nt ?_ | refine tt c_nf ?_ | refine tt (cnd_t _ _) ?_ | refine tt (cnd_f _ _) ?_ | refine tt w6 ?_ | refine tt w4 ?_ | refine tt w5 ?_ | refine tt w7 ?_ | refine tt wm ?_ | refine tt wo ?_ | refine tt wx ?_ | refine tt nil_ptr ?_ | refine tt len_lst ?_ | refine tt len_zsl ?_
   refine Eq.trans (pl_bool (hg l[i] (List.getElem_mem _))) ?_
   rw [List.drop_eq_getElem_cons hi]
   unfold fiP
   cases g l[i]
   ·rw [cnd_f,show IntKind.wrap .i64 (((i:Nat):Int)+1)=((i+1:Nat):Int) by rw [i64w]; omega]
    exact (idx_go d g l hl hg k (i+1) (by omega) f (by omega)).trans (by simp)
   ·rfl
theorem anyI (d:Nat) (g:Phs→Bool) (l:List Phs) (hl:l.length≤1000) (hg:∀ p ∈ l,pcall M d 41 [phA p]=some (.bool (g p))) :
 pcall M (d+2) 40 [.lst (l.map phA),.fn 41 [] []]=some (.bool (l.any g)):=told (r40f41 C0 (d+1) _ .nilp) (by
 have h:pcall M (d+1) 46 [.lst (l.map phA),.fn 41 [] []]=some (.int .i64 (fiP g l 0)) :=
  told (q46f41 d (l.map phA) .nilp) (by have:=idx_go d g l hl hg l.length 0 (by omega) 10000000000000000000 (by omega); rw [List.drop_zero] at this; exact this)
 refine Eq.trans (pl_int h) ?_
 rw [fiP_any g l 0 (by decide)])
def wrongT (k n d gr eps st age lift saf:Int):Int :=
 if ¬ ((1≤n∧n≤50)∧(1≤d∧d≤50)∧(1≤gr∧gr≤50)) then 3 else if ¬ (0≤eps∧eps≤1024) then 4 else if ¬ (1≤st∧st≤65536) then 5
 else if ¬ (1≤age∧age≤50) then 6 else if ¬ (1≤lift∧lift≤1073741824) then 7 else if ¬ (0≤saf∧saf≤k) then 8 else 0
def wrongX (r:Rul):Int:=if r.phs.length < 1 ∨ r.phs.length > 4 then 1 else bif r.phs.any badX then 2 else wrongT r.phs.length r.n r.d r.gr r.eps r.st r.age r.lift r.saf
theorem ref_tail (d:Nat) (l:List AV) (n e gr eps st age lift saf:Int):X11_0_0 (d+1) l n e gr eps st age lift saf=some (.int .i64 (wrongT l.length n e gr eps st age lift saf)):=by
 unfold X11_0_0 wrongT
 have W:=s24 d
 refine Eq.trans (pl_bool (W _ _ _)) ?_
 by_cases h1:1≤n∧n≤50
 rotate_left
 ·rw [decide_eq_false h1,if_pos (fun h=>h1 h.1)]; rfl
 rw [decide_eq_true h1]
 repeat with_reducible first | refine tt sh_ptr ?_ | refine tt sh_fptr ?_ | refine tt w2 ?_ | refine tt w3 ?_ | refine tt w8 ?_ | refine tt w9 ?_ | refine tt wf ?_ | refine tt wg ?_ | refine tt wh ?_ | refine tt wi ?_ | refine tt wj ?_ | refine tt wk ?_ | refine tt wl ?_ | refine tt wn ?_ | refine tt c_ort ?_ | refine tt c_nt ?_ | refine tt c_nf ?_ | refine tt (cnd_t _ _) ?_ | refine tt (cnd_f _ _) ?_ | refine tt w6 ?_ | refine tt w4 ?_ | refine tt w5 ?_ | refine tt w7 ?_ | refine tt wm ?_ | refine tt wo ?_ | refine tt wx ?_ | refine tt nil_ptr ?_ | refine tt len_lst ?_ | refine tt len_zsl ?_
 refine Eq.trans (pl_bool (W _ _ _)) ?_
 by_cases h2:1≤e∧e≤50
 rotate_left
 ·rw [decide_eq_false h2,if_pos (fun h=>h2 h.2.1)]; rfl
 rw [decide_eq_true h2]
 repeat with_reducible first | refine tt sh_ptr ?_ | refine tt sh_fptr ?_ | refine tt w2 ?_ | refine tt w3 ?_ | refine tt w8 ?_ | refine tt w9 ?_ | refine tt wf ?_ | refine tt wg ?_ | refine tt wh ?_ | refine tt wi ?_ | refine tt wj ?_ | refine tt wk ?_ | refine tt wl ?_ | refine tt wn ?_ | refine tt c_ort ?_ | refine tt c_nt ?_ | refine tt c_nf ?_ | refine tt (cnd_t _ _) ?_ | refine tt (cnd_f _ _) ?_ | refine tt w6 ?_ | refine tt w4 ?_ | refine tt w5 ?_ | refine tt w7 ?_ | refine tt wm ?_ | refine tt wo ?_ | refine tt wx ?_ | refine tt nil_ptr ?_ | refine tt len_lst ?_ | refine tt len_zsl ?_
 refine Eq.trans (pl_bool (W _ _ _)) ?_
 by_cases h3:1≤gr∧gr≤50
 rotate_left
 ·rw [decide_eq_false h3,if_pos (fun h=>h3 h.2.2)]; rfl
 rw [decide_eq_true h3,if_neg (fun h=>h ⟨h1,h2,h3⟩)]
 repeat with_reducible first | refine tt sh_ptr ?_ | refine tt sh_fptr ?_ | refine tt w2 ?_ | refine tt w3 ?_ | refine tt w8 ?_ | refine tt w9 ?_ | refine tt wf ?_ | refine tt wg ?_ | refine tt wh ?_ | refine tt wi ?_ | refine tt wj ?_ | refine tt wk ?_ | refine tt wl ?_ | refine tt wn ?_ | refine tt c_ort ?_ | refine tt c_nt ?_ | refine tt c_nf ?_ | refine tt (cnd_t _ _) ?_ | refine tt (cnd_f _ _) ?_ | refine tt w6 ?_ | refine tt w4 ?_ | refine tt w5 ?_ | refine tt w7 ?_ | refine tt wm ?_ | refine tt wo ?_ | refine tt wx ?_ | refine tt nil_ptr ?_ | refine tt len_lst ?_ | refine tt len_zsl ?_
 refine Eq.trans (pl_bool (W _ _ _)) ?_
 by_cases h4:0≤eps∧eps≤1024
 rotate_left
 ·rw [decide_eq_false h4,if_pos h4]; rfl
 rw [decide_eq_true h4,if_neg (fun h=>h h4)]
 repeat with_reducible first | refine tt sh_ptr ?_ | refine tt sh_fptr ?_ | refine tt w2 ?_ | refine tt w3 ?_ | refine tt w8 ?_ | refine tt w9 ?_ | refine tt wf ?_ | refine tt wg ?_ | refine tt wh ?_ | refine tt wi ?_ | refine tt wj ?_ | refine tt wk ?_ | refine tt wl ?_ | refine tt wn ?_ | refine tt c_ort ?_ | refine tt c_nt ?_ | refine tt c_nf ?_ | refine tt (cnd_t _ _) ?_ | refine tt (cnd_f _ _) ?_ | refine tt w6 ?_ | refine tt w4 ?_ | refine tt w5 ?_ | refine tt w7 ?_ | refine tt wm ?_ | refine tt wo ?_ | refine tt wx ?_ | refine tt nil_ptr ?_ | refine tt len_lst ?_ | refine tt len_zsl ?_
 refine Eq.trans (pl_bool (W _ _ _)) ?_
 by_cases h5:1≤st∧st≤65536
 rotate_left
 ·rw [decide_eq_false h5,if_pos h5]; rfl
 rw [decide_eq_true h5,if_neg (fun h=>h h5)]
 repeat with_reducible first | refine tt sh_ptr ?_ | refine tt sh_fptr ?_ | refine tt w2 ?_ | refine tt w3 ?_ | refine tt w8 ?_ | refine tt w9 ?_ | refine tt wf ?_ | refine tt wg ?_ | refine tt wh ?_ | refine tt wi ?_ | refine tt wj ?_ | refine tt wk ?_ | refine tt wl ?_ | refine tt wn ?_ | refine tt c_ort ?_ | refine tt c_nt ?_ | refine tt c_nf ?_ | refine tt (cnd_t _ _) ?_ | refine tt (cnd_f _ _) ?_ | refine tt w6 ?_ | refine tt w4 ?_ | refine tt w5 ?_ | refine tt w7 ?_ | refine tt wm ?_ | refine tt wo ?_ | refine tt wx ?_ | refine tt nil_ptr ?_ | refine tt len_lst ?_ | refine tt len_zsl ?_
 refine Eq.trans (pl_bool (W _ _ _)) ?_
 by_cases h6:1≤age∧age≤50
 rotate_left
 ·rw [decide_eq_false h6,if_pos h6]; rfl
 rw [decide_eq_true h6,if_neg (fun h=>h h6)]
 repeat with_reducible first | refine tt sh_ptr ?_ | refine tt sh_fptr ?_ | refine tt w2 ?_ | refine tt w3 ?_ | refine tt w8 ?_ | refine tt w9 ?_ | refine tt wf ?_ | refine tt wg ?_ | refine tt wh ?_ | refine tt wi ?_ | refine tt wj ?_ | refine tt wk ?_ | refine tt wl ?_ | refine tt wn ?_ | refine tt c_ort ?_ | refine tt c_nt ?_ | refine tt c_nf ?_ | refine tt (cnd_t _ _) ?_ | refine tt (cnd_f _ _) ?_ | refine tt w6 ?_ | refine tt w4 ?_ | refine tt w5 ?_ | refine tt w7 ?_ | refine tt wm ?_ | refine tt wo ?_ | refine tt wx ?_ | refine tt nil_ptr ?_ | refine tt len_lst ?_ | refine tt len_zsl ?_
 refine Eq.trans (pl_bool (W _ _ _)) ?_
 by_cases h7:1≤lift∧lift≤1073741824
 rotate_left
 ·rw [decide_eq_false h7,if_pos h7]; rfl
 rw [decide_eq_true h7,if_neg (fun h=>h h7)]
 repeat with_reducible first | refine tt sh_ptr ?_ | refine tt sh_fptr ?_ | refine tt w2 ?_ | refine tt w3 ?_ | refine tt w8 ?_ | refine tt w9 ?_ | refine tt wf ?_ | refine tt wg ?_ | refine tt wh ?_ | refine tt wi ?_ | refine tt wj ?_ | refine tt wk ?_ | refine tt wl ?_ | refine tt wn ?_ | refine tt c_ort ?_ | refine tt c_nt ?_ | refine tt c_nf ?_ | refine tt (cnd_t _ _) ?_ | refine tt (cnd_f _ _) ?_ | refine tt w6 ?_ | refine tt w4 ?_ | refine tt w5 ?_ | refine tt w7 ?_ | refine tt wm ?_ | refine tt wo ?_ | refine tt wx ?_ | refine tt nil_ptr ?_ | refine tt len_lst ?_ | refine tt len_zsl ?_
 refine Eq.trans (pl_bool (W _ _ _)) ?_
 by_cases h8:0≤saf∧saf≤((l.length:Nat):Int)
 rotate_left
 ·rw [decide_eq_false h8,if_pos h8]; rfl
 rw [decide_eq_true h8,if_neg (fun h=>h h8)]
 rfl
theorem ref_go (d:Nat) (r:Rul) (hl:r.phs.length≤1000) (ha:∀ p ∈ r.phs,p.ps.length≤140737488355328):∀ (k i:Nat),i+k=r.phs.length→∀ f,k < f →
 L11_0 (d+10) (r.phs.map phA) r.n r.d r.gr r.eps r.st r.age r.lift r.saf f (i:Nat)=some (.int .i64 (bif (r.phs.drop i).any badX then 2 else wrongT r.phs.length r.n r.d r.gr r.eps r.st r.age r.lift r.saf))
 | 0,i,h,f+1,_=>by
   rw [L11_0,decide_eq_false (by simp; omega),cnd_f,List.drop_of_length_le (by omega),ref_tail,List.length_map]; rfl
 | k+1,i,h,f+1,hf=>by
   have hi:i < r.phs.length:=by omega
   rw [L11_0,decide_eq_true (by simp; omega),cnd_t,decide_eq_true (by omega),cnd_t,show (((i:Nat):Int)).toNat=i by omega,phs_at hi]
   repeat with_reducible first | refine tt sh_ptr ?_ | refine tt sh_fptr ?_ | refine tt w2 ?_ | refine tt w3 ?_ | refine tt w8 ?_ | refine tt w9 ?_ | refine tt wf ?_ | refine tt wg ?_ | refine tt wh ?_ | refine tt wi ?_ | refine tt wj ?_ | refine tt wk ?_ | refine tt wl ?_ | refine tt wn ?_ | refine tt c_ort ?_ | refine tt c_nt ?_ | refine tt c_nf ?_ | refine tt (cnd_t _ _) ?_ | refine tt (cnd_f _ _) ?_ | refine tt w6 ?_ | refine tt w4 ?_ | refine tt w5 ?_ | refine tt w7 ?_ | refine tt wm ?_ | refine tt wo ?_ | refine tt wx ?_ | refine tt nil_ptr ?_ | refine tt len_lst ?_ | refine tt len_zsl ?_
   refine Eq.trans (pl_bool (s23 d r.phs[i] (ha _ (List.getElem_mem _)))) ?_
   rw [List.drop_eq_getElem_cons hi,List.any_cons]
   change cnd (badX r.phs[i]) _ _=_
   cases badX r.phs[i]
   ·rw [cnd_f,Bool.false_or,show IntKind.wrap .i64 (((i:Nat):Int)+1)=((i+1:Nat):Int) by rw [i64w]; omega]
    exact ref_go d r hl ha k (i+1) (by omega) f (by omega)
   ·rfl
theorem s11 (d:Nat) (r:Rul) (hl:r.phs.length≤1000) (ha:∀ p ∈ r.phs,p.ps.length≤140737488355328):pcall M (d+11) 11 [rl r]=some (.int .i64 (wrongX r)):=told (q11 (d+10) _ _ _ _ _ _ _ _ _) (by
 unfold wrongX
 rw [List.length_map]
 by_cases h1:r.phs.length < 1
 ·rw [decide_eq_true (show ((r.phs.length:Nat):Int) < 1 by omega),cnd_t,if_pos (.inl h1)]
 rw [decide_eq_false (show ¬ ((r.phs.length:Nat):Int) < 1 by omega),cnd_f]
 by_cases h2:r.phs.length > 4
 ·rw [decide_eq_true (show ((r.phs.length:Nat):Int) > 4 by omega),cnd_t,if_pos (.inr h2)]
 rw [decide_eq_false (show ¬ ((r.phs.length:Nat):Int) > 4 by omega),cnd_f,if_neg (by omega)]
 have:=ref_go d r hl ha r.phs.length 0 (by omega) 10000000000000000000 (by omega)
 rw [List.drop_zero] at this
 exact this)
def limX (r:Rul):Prop:=(1≤r.n∧r.n≤50)∧(1≤r.d∧r.d≤50)∧(1≤r.gr∧r.gr≤50)
instance (r:Rul):Decidable (limX r):=by unfold limX; infer_instance
theorem limI (d:Nat) (r:Rul):pcall M (d+2) 43 [.fptr (rl r) 0]=some (.bool (decide (limX r))):=told (r43 C0 (d+1) .nilp _ _ _ _ _ _ _ _ _) (by
 refine Eq.trans (pl_bool (s39 d _ _ _)) ?_
 by_cases h1:1≤(if r.gr < (if r.d < r.n then r.d else r.n) then r.gr else (if r.d < r.n then r.d else r.n))∧(if r.gr < (if r.d < r.n then r.d else r.n) then r.gr else (if r.d < r.n then r.d else r.n))≤50
 ·rw [decide_eq_true h1,cnd_t]
  refine Eq.trans (pl_bool (s39 d _ _ _)) ?_
  congr 2; rw [decide_eq_decide]; unfold limX; omega
 ·rw [decide_eq_false h1,cnd_f,decide_eq_false (by unfold limX; omega)])
theorem s33 (d:Nat) (r:Rul) (hl:r.phs.length≤1000) (ha:∀ p ∈ r.phs,p.ps.length≤140737488355328):pcall M (d+17) 33 [rl r]=some (.int .i64 (wrongX r)):=told (r33 C0 (d+16) _ _ _ _ _ _ _ _ _) (by
 have W:=s39 (d+15)
 have V:=s44 (d+15)
 refine Eq.trans (pl_bool (W _ _ _)) ?_
 unfold wrongX
 rw [List.length_map]
 by_cases h1:(1:Int)≤((r.phs.length:Nat):Int)∧((r.phs.length:Nat):Int)≤4
 rotate_left
 ·rw [decide_eq_false h1,if_pos (by omega)]; rfl
 rw [decide_eq_true h1,if_neg (by omega)]
 repeat with_reducible first | refine tt sh_ptr ?_ | refine tt sh_fptr ?_ | refine tt w2 ?_ | refine tt w3 ?_ | refine tt w8 ?_ | refine tt w9 ?_ | refine tt wf ?_ | refine tt wg ?_ | refine tt wh ?_ | refine tt wi ?_ | refine tt wj ?_ | refine tt wk ?_ | refine tt wl ?_ | refine tt wn ?_ | refine tt c_ort ?_ | refine tt c_nt ?_ | refine tt c_nf ?_ | refine tt (cnd_t _ _) ?_ | refine tt (cnd_f _ _) ?_ | refine tt w6 ?_ | refine tt w4 ?_ | refine tt w5 ?_ | refine tt w7 ?_ | refine tt wm ?_ | refine tt wo ?_ | refine tt wx ?_ | refine tt nil_ptr ?_ | refine tt len_lst ?_ | refine tt len_zsl ?_
 refine Eq.trans (pl_bool (anyI (d+14) badX r.phs hl (fun p hp=>s41 d p (ha p hp)))) ?_
 cases r.phs.any badX
 rotate_left
 ·rfl
 rw [cnd_f,cond_false]
 refine Eq.trans (pl_bool (limI (d+14) r)) ?_
 unfold wrongT
 by_cases h2:limX r
 rotate_left
 ·rw [decide_eq_false h2,if_pos (show ¬ ((1≤r.n∧r.n≤50)∧(1≤r.d∧r.d≤50)∧(1≤r.gr∧r.gr≤50)) from h2)]; rfl
 rw [decide_eq_true h2,if_neg (fun h=>h (show ((1≤r.n∧r.n≤50)∧(1≤r.d∧r.d≤50)∧(1≤r.gr∧r.gr≤50)) from h2))]
 repeat with_reducible first | refine tt sh_ptr ?_ | refine tt sh_fptr ?_ | refine tt w2 ?_ | refine tt w3 ?_ | refine tt w8 ?_ | refine tt w9 ?_ | refine tt wf ?_ | refine tt wg ?_ | refine tt wh ?_ | refine tt wi ?_ | refine tt wj ?_ | refine tt wk ?_ | refine tt wl ?_ | refine tt wn ?_ | refine tt c_ort ?_ | refine tt c_nt ?_ | refine tt c_nf ?_ | refine tt (cnd_t _ _) ?_ | refine tt (cnd_f _ _) ?_ | refine tt w6 ?_ | refine tt w4 ?_ | refine tt w5 ?_ | refine tt w7 ?_ | refine tt wm ?_ | refine tt wo ?_ | refine tt wx ?_ | refine tt nil_ptr ?_ | refine tt len_lst ?_ | refine tt len_zsl ?_
 refine Eq.trans (pl_bool (V _ _ _)) ?_
 by_cases h4:0≤r.eps∧r.eps≤1024
 rotate_left
 ·rw [decide_eq_false h4,if_pos h4]; rfl
 rw [decide_eq_true h4,if_neg (fun h=>h h4)]
 repeat with_reducible first | refine tt sh_ptr ?_ | refine tt sh_fptr ?_ | refine tt w2 ?_ | refine tt w3 ?_ | refine tt w8 ?_ | refine tt w9 ?_ | refine tt wf ?_ | refine tt wg ?_ | refine tt wh ?_ | refine tt wi ?_ | refine tt wj ?_ | refine tt wk ?_ | refine tt wl ?_ | refine tt wn ?_ | refine tt c_ort ?_ | refine tt c_nt ?_ | refine tt c_nf ?_ | refine tt (cnd_t _ _) ?_ | refine tt (cnd_f _ _) ?_ | refine tt w6 ?_ | refine tt w4 ?_ | refine tt w5 ?_ | refine tt w7 ?_ | refine tt wm ?_ | refine tt wo ?_ | refine tt wx ?_ | refine tt nil_ptr ?_ | refine tt len_lst ?_ | refine tt len_zsl ?_
 refine Eq.trans (pl_bool (V _ _ _)) ?_
 by_cases h5:1≤r.st∧r.st≤65536
 rotate_left
 ·rw [decide_eq_false h5,if_pos h5]; rfl
 rw [decide_eq_true h5,if_neg (fun h=>h h5)]
 repeat with_reducible first | refine tt sh_ptr ?_ | refine tt sh_fptr ?_ | refine tt w2 ?_ | refine tt w3 ?_ | refine tt w8 ?_ | refine tt w9 ?_ | refine tt wf ?_ | refine tt wg ?_ | refine tt wh ?_ | refine tt wi ?_ | refine tt wj ?_ | refine tt wk ?_ | refine tt wl ?_ | refine tt wn ?_ | refine tt c_ort ?_ | refine tt c_nt ?_ | refine tt c_nf ?_ | refine tt (cnd_t _ _) ?_ | refine tt (cnd_f _ _) ?_ | refine tt w6 ?_ | refine tt w4 ?_ | refine tt w5 ?_ | refine tt w7 ?_ | refine tt wm ?_ | refine tt wo ?_ | refine tt wx ?_ | refine tt nil_ptr ?_ | refine tt len_lst ?_ | refine tt len_zsl ?_
 refine Eq.trans (pl_bool (W _ _ _)) ?_
 by_cases h6:1≤r.age∧r.age≤50
 rotate_left
 ·rw [decide_eq_false h6,if_pos h6]; rfl
 rw [decide_eq_true h6,if_neg (fun h=>h h6)]
 repeat with_reducible first | refine tt sh_ptr ?_ | refine tt sh_fptr ?_ | refine tt w2 ?_ | refine tt w3 ?_ | refine tt w8 ?_ | refine tt w9 ?_ | refine tt wf ?_ | refine tt wg ?_ | refine tt wh ?_ | refine tt wi ?_ | refine tt wj ?_ | refine tt wk ?_ | refine tt wl ?_ | refine tt wn ?_ | refine tt c_ort ?_ | refine tt c_nt ?_ | refine tt c_nf ?_ | refine tt (cnd_t _ _) ?_ | refine tt (cnd_f _ _) ?_ | refine tt w6 ?_ | refine tt w4 ?_ | refine tt w5 ?_ | refine tt w7 ?_ | refine tt wm ?_ | refine tt wo ?_ | refine tt wx ?_ | refine tt nil_ptr ?_ | refine tt len_lst ?_ | refine tt len_zsl ?_
 refine Eq.trans (pl_bool (V _ _ _)) ?_
 by_cases h7:1≤r.lift∧r.lift≤1073741824
 rotate_left
 ·rw [decide_eq_false h7,if_pos h7]; rfl
 rw [decide_eq_true h7,if_neg (fun h=>h h7)]
 repeat with_reducible first | refine tt sh_ptr ?_ | refine tt sh_fptr ?_ | refine tt w2 ?_ | refine tt w3 ?_ | refine tt w8 ?_ | refine tt w9 ?_ | refine tt wf ?_ | refine tt wg ?_ | refine tt wh ?_ | refine tt wi ?_ | refine tt wj ?_ | refine tt wk ?_ | refine tt wl ?_ | refine tt wn ?_ | refine tt c_ort ?_ | refine tt c_nt ?_ | refine tt c_nf ?_ | refine tt (cnd_t _ _) ?_ | refine tt (cnd_f _ _) ?_ | refine tt w6 ?_ | refine tt w4 ?_ | refine tt w5 ?_ | refine tt w7 ?_ | refine tt wm ?_ | refine tt wo ?_ | refine tt wx ?_ | refine tt nil_ptr ?_ | refine tt len_lst ?_ | refine tt len_zsl ?_
 refine Eq.trans (pl_bool (W _ _ _)) ?_
 by_cases h8:0≤r.saf∧r.saf≤((r.phs.length:Nat):Int)
 rotate_left
 ·rw [decide_eq_false h8,if_pos h8]; rfl
 rw [decide_eq_true h8,if_neg (fun h=>h h8)]
 rfl)
theorem s20 (d:Nat) (r:Rul) (hl:r.phs.length≤1000) (ha:∀ p ∈ r.phs,p.ps.length≤140737488355328):pcall M (d+18) 20 [rl r]=some (.bool (wrongX r == 0)):=told (r20 C0 (d+17) _ _ _ _ _ _ _ _ _) (by
 exact pl_int (s33 d r hl ha))
def ptB (p:Pt):List UInt8:=be4 p.1 ++ be4 p.2
def ptsB (ps:List Pt):List UInt8:=ps.flatMap ptB
def phB (p:Phs):List UInt8:=[by8 p.ps.length,by8 p.g] ++ (be4 p.v ++ (be4 p.m ++ be4 p.u)) ++ ptsB p.ps
def phsB (l:List Phs):List UInt8:=l.flatMap phB
def headB (r:Rul):List UInt8:=[65,70,84,85] ++ [by8 r.phs.length,by8 r.n,by8 r.d,by8 r.gr,by8 r.age,by8 r.saf] ++ (be4 r.eps ++ (be4 r.st ++ be4 r.lift))
def bodyB (r:Rul):List UInt8:=headB r ++ phsB r.phs
theorem ptsB_cons (p:Pt) (ps:List Pt):ptsB (p::ps)=ptB p ++ ptsB ps:=by simp [ptsB]
theorem phsB_cons (p:Phs) (ps:List Phs):phsB (p::ps)=phB p ++ phsB ps:=by simp [phsB]
theorem ptB_len (p:Pt):(ptB p).length=8:=rfl
theorem ptsB_len (ps:List Pt):(ptsB ps).length=8 * ps.length:=by
 induction ps with
 | nil=>rfl
 | cons x xs ih=>rw [ptsB_cons,List.length_append,ih,ptB_len,List.length_cons]; omega
theorem phB_len (p:Phs):(phB p).length=14+8 * p.ps.length:=by
 unfold phB; rw [List.length_append,ptsB_len]; rfl
theorem headB_len (r:Rul):(headB r).length=22:=rfl
theorem phsB_le {l:List Phs} (h:∀ p ∈ l,p.ps.length≤8):(phsB l).length≤78 * l.length:=by
 induction l with
 | nil=>exact Nat.le_refl _
 | cons x xs ih =>
   have:=ih fun p hp=>h p (List.mem_cons_of_mem _ hp)
   have h1:=h x (List.mem_cons_self ..)
   rw [phsB_cons,List.length_append,phB_len,List.length_cons]; omega
theorem alc {H:Heap} {e:ETy} {K:AV→Heap→Ans}:C0.hop H (.alloc e) K=K (.ptr H.length 0 0) (H ++ [some ⟨e,[e.zero]⟩]):=hop_eq rfl
theorem stl {H:Heap} {e:ETy} {z x:AV} {n:Nat} {K:AV→Heap→Ans} (h:putSub n 0 x z=some x):C0.hop (H ++ [some ⟨e,[z]⟩]) (.store n (.v (.ptr H.length 0 0)) (.v x)) K=K .undef (H ++ [some ⟨e,[x]⟩]):=by
 rw [st_ptr (b:=⟨e,[z]⟩) (el:=z) (el':=x) hget_new rfl h,List.set_append_right _ _ (Nat.le_refl _),Nat.sub_self]
 rfl
theorem mkI {H:Heap} {n:Nat} {ps:List (Nat × Opd)} {xs:List Int} {K:AV→Heap→Ans} (h:fillR E2 (List.replicate n (E2).zero) (ps.map fun p=>(p.1,evO [] p.2))=some (iv xs)):C0.hop H (.mkrow E2 n ps) K=K (.slc H.length 0 n) (H ++ [some ⟨E2,iv xs⟩]):=hop_eq (by
 simp only [aop]; rw [h])
theorem b2sL_bytes:∀ s:List UInt8,b2sL (bytesAV s)=some s
 | []=>rfl
 | b::s=>by
   have:=b2sL_bytes s
   unfold bytesAV at *
   rw [List.map_cons,b2sL,this]
   simp
theorem b2s_o {H:Heap} {v:AV} {l:List UInt8} {K:AV→Heap→Ans} (h:OwnB H v l):C0.hop H (.b2s (.v v)) K=K (.str l) H:=hop_eq (by
 have he:=own_els h
 rcases h with ⟨_,b,rfl⟩ | ⟨id,rfl,_⟩ <;> (simp only [aop,evO]; rw [he]; simp only [b2sL_bytes]))
theorem keep_h {A B:Heap} {id i j:Nat} {b:Blk} {K:Ans} (h:hget A id=some b) (h':hget B id=some b):C0.keep A B [.ptr id i j] K=K:=keep_g h h'
theorem ap_b {H:Heap} {v r:AV} {l bs:List UInt8} (ho:OwnB H v l) (hr:elsOf H r=some (bytesAV bs)) (hs:l.length+bs.length≤1000000) :
 ∃ v' H',(∀ K:AV→Heap→Ans,C0.hop H (.app E5 (.v v) (.v r)) K=K v' H')∧OwnB H' v' (l ++ bs)∧v'=.slc H.length 0 (l.length+bs.length)∧H'.length=H.length+1∧∀ id b,¬ names v id→hget H id=some b→hget H' id=some b:=by
 have hx:(bytesAV bs).all (elOk E5)=true:=by
  rw [List.all_eq_true]
  intro x hx
  unfold bytesAV at hx
  obtain ⟨b,_,rfl⟩:=List.mem_map.mp hx
  rfl
 obtain ⟨v',H',h1,h2,h5,h3,h4⟩:=app_own (xs:=bytesAV bs) ho hr hx (by rw [bytesAV_len,bytesAV_len,show (E5).bytes=1 from rfl]; omega) (by rw [bytesAV_len,bytesAV_len]; omega)
 exact ⟨v',H',fun K=>hop_eq h1,by unfold OwnB; rw [bytesAV_app]; exact h2,by rw [h5,bytesAV_len,bytesAV_len],h3,h4⟩
theorem ownB_lt {H:Heap} {v:AV} {l:List UInt8} {id:Nat} (ho:OwnB H v l) (hn:names v id):id < H.length:=by
 obtain ⟨o,n,rfl⟩:=hn
 rcases ho with ⟨_,_,hz⟩ | ⟨id',hz,hg⟩
 ·cases hz
 ·injection hz with e1 _ _
  subst e1
  exact hg_lt hg
theorem own_ids {H:Heap} {v:AV} {l:List UInt8} {id:Nat} (ho:OwnB H v l) (hi:id ∈ idsOf v):names v id:=by
 rcases ho with ⟨_,_,rfl⟩ | ⟨id',rfl,hg⟩
 ·cases hi
 ·simp only [idsOf,List.mem_singleton] at hi
  subst hi; exact ⟨_,_,rfl⟩
theorem own_app {H Z:Heap} {v:AV} {l:List UInt8} (ho:OwnB H v l):OwnB (H ++ Z) v l:=own_keep ho fun id b _ h=>hget_app h
theorem pts_go (d:Nat) (x90:Int) (kN:AV→Int→Heap→Ans) (ps:List Pt) (hp:ps.length≤1000):∀ (k i:Nat),i+k=ps.length→∀ f,k < f→∀ (v:AV) (l:List UInt8) (H:Heap),OwnB H v l→l.length+8 * k≤1000000 →
 ∃ v' H',L10_1 d x90 (.lst (ps.map pt)) (ps.length:Nat) kN f v (i:Nat) H=kN v' (IntKind.wrap .i64 (x90+1)) H'∧OwnB H' v' (l ++ ptsB (ps.drop i))
 | 0,i,h,f+1,_,v,l,H,ho,hl=>by
   refine ⟨v,H,?_,?_⟩
   ·rw [L10_1_s,decide_eq_false (by omega),cnd_f]; rfl
   ·rw [List.drop_of_length_le (by omega)]; simpa [ptsB] using ho
 | k+1,i,h,f+1,hf,v,l,H,ho,hl=>by
   have hi:i < ps.length:=by omega
   obtain ⟨p,hpt⟩:∃ p,p=ps[i]:=⟨_,rfl⟩
   have e:(ps.map pt)[((i:Nat):Int).toNat]?=some (pt p):=by rw [Int.toNat_natCast,List.getElem?_map,List.getElem?_eq_getElem hi,hpt]; rfl
   have hb:hget (H ++ [some ⟨E50,[pt p]⟩]) H.length=some ⟨E50,[pt p]⟩:=hget_new
   obtain ⟨v1,H1,g1,g2,-⟩:=putC d 3 [p.1,p.2] (by simp) ((H ++ ([some ⟨E50,[pt p]⟩]:Heap)) ++ ([some ⟨E2,iv [p.1,p.2]⟩]:Heap)) v l (H ++ ([some ⟨E50,[pt p]⟩]:Heap)).length (own_app (own_app ho)) hget_new (by simp only [List.length_cons,List.length_nil]; omega)
   obtain ⟨v',H',j1,j2⟩:=pts_go d x90 kN ps hp k (i+1) (by omega) f (by omega) v1 (l ++ ptB p) H1 (by simpa [numsB,ptB] using g2) (by rw [List.length_append,ptB_len]; omega)
   refine ⟨v',H',?_,?_⟩
   ·rw [L10_1_s,decide_eq_true (by omega),cnd_t]
    refine Eq.trans (ix_lst (by omega) e rfl) ?_
    refine Eq.trans (ld_fptr (v:=pt p) rfl) ?_
    refine Eq.trans (pl_agg rfl rfl) ?_
    refine Eq.trans (pl_int rfl) ?_
    refine Eq.trans (pl_int rfl) ?_
    refine Eq.trans alc ?_
    refine Eq.trans (stl rfl) ?_
    refine Eq.trans sh_ptr ?_
    refine Eq.trans (ld_ptr hb rfl rfl) ?_
    refine Eq.trans (pl_int rfl) ?_
    refine Eq.trans sh_ptr ?_
    refine Eq.trans (ld_ptr hb rfl rfl) ?_
    refine Eq.trans (pl_int rfl) ?_
    refine Eq.trans (mkI (xs:=[p.1,p.2]) rfl) ?_
    refine Eq.trans (g1 _) ?_
    refine Eq.trans (pl_any rfl) ?_
    rw [i64_up (by omega)]
    exact j1
   ·rw [List.drop_eq_getElem_cons hi,ptsB_cons,← List.append_assoc,← hpt]; exact j2
theorem hs_ne {H:Heap} {id id':Nat} {x:Option Blk} {b:Blk} (h:hget H id'=some b) (hn:id ≠ id'):hget (H.set id x) id'=some b:=by rw [hget_set_ne hn]; exact h
theorem hg_at {H:Heap} {b:Blk} {Z:Heap} {k:Nat} (h:Z[k]?=some (some b)):hget (H ++ Z) (H.length+k)=some b:=hget_s h
theorem phs_go (d:Nat) (phs:List Phs) (hp:phs.length≤1000) (hq:∀ p ∈ phs,p.ps.length≤8):∀ (k i:Nat),i+k=phs.length→∀ f,k < f→∀ (v:AV) (l:List UInt8) (H:Heap),OwnB H v l→l.length+78 * k≤900000 →
 ∃ v' H',L10_0 d (.lst (phs.map phA)) (phs.length:Nat) f v (i:Nat) H=X10_0_0 d (.lst (phs.map phA)) (phs.length:Nat) v' H'∧OwnB H' v' (l ++ phsB (phs.drop i))
 | 0,i,h,f+1,_,v,l,H,ho,hl=>by
   refine ⟨v,H,?_,?_⟩
   ·rw [L10_0_s,decide_eq_false (by omega),cnd_f]
   ·rw [List.drop_of_length_le (by omega)]; simpa [phsB] using ho
 | k+1,i,h,f+1,hf,v,l,H,ho,hl=>by
   have hi:i < phs.length:=by omega
   obtain ⟨p,hpt⟩:∃ p,p=phs[i]:=⟨_,rfl⟩
   have hp8:p.ps.length≤8:=by rw [hpt]; exact hq _ (List.getElem_mem _)
   have e:(phs.map phA)[((i:Nat):Int).toNat]?=some (phA p):=by rw [Int.toNat_natCast,phs_at hi,hpt]
   obtain ⟨n,hn⟩:∃ n,n=H.length+1:=⟨_,rfl⟩
   obtain ⟨H1,hH1⟩:∃ H1:Heap,H1=(H ++ [some ⟨E46,[phA p]⟩]) ++ [some rjunk,some rjunk]:=⟨_,rfl⟩
   have n1:H1.length=n+2:=by rw [hH1]; simp; omega
   have a1:hget H1 H.length=some ⟨E46,[phA p]⟩:=by rw [hH1]; exact hget_app hget_new
   have j1:hget H1 (n+1)=some rjunk:=by
    have:=hg_at (H:=H ++ [some ⟨E46,[phA p]⟩]) (Z:=[some rjunk,some rjunk]) (k:=1) rfl
    rw [hH1,hn]; simpa using this
   have o1:OwnB H1 v l:=by rw [hH1]; exact own_app (own_app ho)
   have nv:∀ id,H.length≤id→¬ names v id:=fun id hid hn=>by have:=ownB_lt ho hn; omega
   have iv':∀ id,id ∈ idsOf v→id < H.length:=fun id hid=>ownB_lt ho (own_ids ho hid)
   obtain ⟨bs,hbs⟩:∃ bs:List UInt8,bs=[by8 p.ps.length,by8 p.g]:=⟨_,rfl⟩
   obtain ⟨H2,hH2⟩:∃ H2:Heap,H2=H1.set (n+0) (some ⟨E5,bytesAV bs⟩):=⟨_,rfl⟩
   have n2:H2.length=n+2:=by rw [hH2]; simp [n1]
   have a2:hget H2 H.length=some ⟨E46,[phA p]⟩:=by rw [hH2]; exact hs_ne a1 (by omega)
   have j2:hget H2 (n+1)=some rjunk:=by rw [hH2]; exact hs_ne j1 (by omega)
   have r2:hget H2 (n+0)=some ⟨E5,bytesAV bs⟩:=by rw [hH2]; exact hget_set (by omega)
   have o2:OwnB H2 v l:=own_keep o1 fun id b hnm hb=>by
    have:=nv id
    rw [hH2]; exact hs_ne hb (fun hc=>this (by omega) hnm)
   have lb:bs.length=2:=by rw [hbs]; rfl
   obtain ⟨v1,H3,g1,o3,hv1,n3,kp3⟩:=ap_b (r:=.slc (n+0) 0 2) o2 (by simp only [elsOf,r2]; rw [if_pos (by rw [bytesAV_len]; omega),List.drop_zero,List.take_of_length_le (by rw [bytesAV_len]; omega)]) (by omega)
   have a3:hget H3 H.length=some ⟨E46,[phA p]⟩:=kp3 _ _ (nv _ (Nat.le_refl _)) a2
   have j3:hget H3 (n+1)=some rjunk:=kp3 _ _ (nv _ (by omega)) j2
   obtain ⟨H4,hH4⟩:∃ H4:Heap,H4=H3.set (n+1) (some ⟨E2,iv [p.v,p.m,p.u]⟩):=⟨_,rfl⟩
   have a4:hget H4 H.length=some ⟨E46,[phA p]⟩:=by rw [hH4]; exact hs_ne a3 (by omega)
   have r4:hget H4 (n+1)=some ⟨E2,iv [p.v,p.m,p.u]⟩:=by rw [hH4]; exact hget_set (by omega)
   have nv1:∀ id,names v1 id→id=n+2:=fun id hnm=>by
    obtain ⟨o,m,hv⟩:=hnm
    rw [hv1] at hv
    injection hv with h1 _ _
    omega
   have o4:OwnB H4 v1 (l ++ bs):=own_keep o3 fun id b hnm hb=>by
    have:=nv1 id hnm
    rw [hH4]; exact hs_ne hb (by omega)
   obtain ⟨v2,H5,g2,o5,-,-,kp5⟩:=putC d 3 [p.v,p.m,p.u] (by simp) H4 v1 (l ++ bs) (n+1) o4 r4 (by simp only [List.length_append,List.length_cons,List.length_nil,lb]; omega)
   have a5:hget H5 H.length=some ⟨E46,[phA p]⟩:=kp5 _ _ (fun hnm=>by have:=nv1 _ hnm; omega) a4
   have es:l ++ bs ++ numsB [p.v,p.m,p.u] ++ ptsB p.ps=l ++ phB p:=by
    simp [hbs,phB,numsB,List.append_assoc]
   have ln:(l ++ bs ++ numsB [p.v,p.m,p.u]).length=l.length+14:=by
    rw [List.length_append,List.length_append,lb,numsB_len]; rfl
   obtain ⟨v3,H6,g3,o6⟩:=pts_go d (i:Nat) (fun v87 x90 H=>L10_0 d (.lst (phs.map phA)) (phs.length:Nat) f v87 x90 H) p.ps (by omega) p.ps.length 0 (by omega) 10000000000000000000 (by omega) v2 _ H5 o5 (by rw [ln]; omega)
   rw [List.drop_zero,es] at o6
   obtain ⟨v',H',t1,t2⟩:=phs_go d phs hp hq k (i+1) (by omega) f (by omega) v3 (l ++ phB p) H6 o6 (by rw [List.length_append,phB_len]; omega)
   refine ⟨v',H',?_,?_⟩
   ·rw [L10_0_s,decide_eq_true (by omega),cnd_t]
    refine Eq.trans (ix_lst (by omega) e rfl) ?_
    refine Eq.trans (ld_fptr (v:=phA p) rfl) ?_
    refine Eq.trans (pl_agg rfl rfl) ?_
    refine Eq.trans (pl_any rfl) ?_
    refine Eq.trans (pl_int rfl) ?_
    refine Eq.trans (pl_int rfl) ?_
    refine Eq.trans (pl_int rfl) ?_
    refine Eq.trans (pl_int rfl) ?_
    refine Eq.trans alc ?_
    refine Eq.trans (stl rfl) ?_
    refine Eq.trans gr_eq ?_
    rw [← hH1,show (H ++ [some (⟨E46,[phA p]⟩:Blk)]).length=n by simp; omega]
    refine Eq.trans sh_ptr ?_
    refine Eq.trans (ld_ptr a1 rfl rfl) ?_
    refine Eq.trans len_lst ?_
    refine Eq.trans (pl_int rfl) ?_
    refine Eq.trans sh_ptr ?_
    refine Eq.trans (ld_ptr a1 rfl rfl) ?_
    refine Eq.trans (pl_int rfl) ?_
    refine Eq.trans (mkt_eq (v:=.slc (n+0) 0 2) (k:=⟨E5,bytesAV bs⟩) (by rw [hbs,List.length_map,put8,put8]; rfl)) ?_
    rw [← hH2]
    refine Eq.trans (g1 _) ?_
    refine Eq.trans (keep_h j2 j3) ?_
    refine Eq.trans sh_ptr ?_
    refine Eq.trans (ld_ptr a3 rfl rfl) ?_
    refine Eq.trans (pl_int rfl) ?_
    refine Eq.trans (keep_h a2 a3) ?_
    refine Eq.trans (keep_h a1 a2) ?_
    refine Eq.trans sh_ptr ?_
    refine Eq.trans (ld_ptr a3 rfl rfl) ?_
    refine Eq.trans (pl_int rfl) ?_
    refine Eq.trans (keep_h a2 a3) ?_
    refine Eq.trans (keep_h a1 a2) ?_
    refine Eq.trans sh_ptr ?_
    refine Eq.trans (ld_ptr a3 rfl rfl) ?_
    refine Eq.trans (pl_int rfl) ?_
    refine Eq.trans (keep_h a2 a3) ?_
    refine Eq.trans (keep_h a1 a2) ?_
    refine Eq.trans (mkt_eq (v:=.slc (n+1) 0 3) (k:=⟨E2,iv [p.v,p.m,p.u]⟩) rfl) ?_
    rw [← hH4]
    refine Eq.trans (keep_ok fun w hw id hid=>?_) ?_
    ·rw [hH4,List.getElem?_set_ne]
     simp only [List.mem_cons,List.not_mem_nil,or_false] at hw
     rcases hw with rfl | rfl
     ·have:=iv' id hid; omega
     ·simp only [idsOf,List.mem_singleton] at hid; omega
    refine Eq.trans (keep_h a3 a4) ?_
    refine Eq.trans (keep_ok fun w hw id hid=>?_) ?_
    ·simp only [List.mem_singleton] at hw
     subst hw; cases hid
    refine Eq.trans (keep_h a3 a4) ?_
    refine Eq.trans (g2 _) ?_
    refine Eq.trans (pl_any rfl) ?_
    refine Eq.trans sh_ptr ?_
    refine Eq.trans (ld_ptr a5 rfl rfl) ?_
    refine Eq.trans len_lst ?_
    refine Eq.trans (pl_int rfl) ?_
    rw [List.length_map]
    refine Eq.trans g3 ?_
    rw [i64_up (by omega)]
    exact t1
   ·rw [List.drop_eq_getElem_cons hi,phsB_cons,← List.append_assoc,← hpt]; exact t2
theorem wrong_zero {r:Rul} (h:wrongX r=0):(1≤r.phs.length∧r.phs.length≤4)∧(∀ p ∈ r.phs,RightPh p)∧wrongT r.phs.length r.n r.d r.gr r.eps r.st r.age r.lift r.saf=0:=by
 unfold wrongX at h
 split at h
 ·omega
 ·rename_i h1
  cases hb:r.phs.any badX
  ·rw [hb,cond_false] at h
   refine ⟨by omega,fun p hp=>?_,h⟩
   rw [List.any_eq_false] at hb
   have:=hb p hp
   unfold badX at this
   simpa using this
  ·rw [hb,cond_true] at h; omega
theorem rph_len {p:Phs} (h:RightPh p):3≤p.ps.length∧p.ps.length≤8:=⟨(right_ok h.1).1,(right_ok h.1).2.1⟩
theorem body_le {r:Rul} (h:wrongX r=0):(bodyB r).length≤400:=by
 obtain ⟨h1,h2,-⟩:=wrong_zero h
 have:=phsB_le (l:=r.phs) fun p hp=>(rph_len (h2 p hp)).2
 unfold bodyB
 rw [List.length_append,headB_len]; omega
def printF (r:Rul):List UInt8:=if wrongX r=0 then sealF (bodyB r) else []
theorem print_end (d:Nat) (phs:AV) (n:Int) {v:AV} {l:List UInt8} {H:Heap} (ho:OwnB H v l) (hl:l.length≤1000):X10_0_0 (d+2) phs n v H=some (.tup [.str (sealF l),.int .i64 0]):=by
 unfold X10_0_0
 refine Eq.trans (b2s_o ho) ?_
 refine Eq.trans (pl_str rfl) ?_
 refine Eq.trans (pl_int (s22 d l (by omega))) ?_
 have hb:=w32_bd (crcF l)
 rw [i64_small (by omega) (by omega)]
 refine Eq.trans (mkI (xs:=[w32 (crcF l)]) rfl) ?_
 obtain ⟨v',H',g1,g2,-⟩:=putC (d+2) 3 [w32 (crcF l)] (by simp) (H ++ ([some ⟨E2,iv [w32 (crcF l)]⟩]:Heap)) v l H.length (own_app ho) hget_new (by simp only [List.length_cons,List.length_nil]; omega)
 refine Eq.trans (g1 _) ?_
 refine Eq.trans (pl_any rfl) ?_
 refine Eq.trans (b2s_o g2) ?_
 refine Eq.trans (pl_str rfl) ?_
 refine (f_free rfl).trans ?_
 have e:l ++ numsB [w32 (crcF l)]=sealF l:=by simp [numsB,sealF]
 rw [e]
theorem s10 (d:Nat) (r:Rul) (hl:r.phs.length≤1000) (ha:∀ p ∈ r.phs,p.ps.length≤140737488355328):pcall M (d+19) 10 [rl r]=some (.tup [.str (printF r),.int .i64 (if wrongX r=0 then 0 else 1)]):=told (q10 (d+18) _ _ _ _ _ _ _ _ _) (by
 refine Eq.trans (bx_n (H:=[]) (by rfl)) ?_
 rw [show ([] ++ [some (⟨E24,[rl r]⟩:Blk)]:Heap)=[some ⟨E24,[rl r]⟩] from rfl,show List.length ([]:Heap)+0=0 from rfl]
 have h0:hget [some (⟨E24,[rl r]⟩:Blk)] 0=some ⟨E24,[rl r]⟩:=rfl
 refine Eq.trans (ld_ptr h0 rfl rfl) ?_
 refine Eq.trans (pl_agg rfl rfl) ?_
 refine Eq.trans (pl_any rfl) ?_
 refine Eq.trans (pl_int rfl) ?_
 refine Eq.trans (pl_int rfl) ?_
 refine Eq.trans (pl_int rfl) ?_
 refine Eq.trans (pl_int rfl) ?_
 refine Eq.trans (pl_int rfl) ?_
 refine Eq.trans (pl_int rfl) ?_
 refine Eq.trans (pl_int rfl) ?_
 refine Eq.trans (pl_int rfl) ?_
 refine Eq.trans (snp_free rfl) ?_
 refine Eq.trans (pl_bool (s20 d r hl ha)) ?_
 rw [c_ort]
 unfold printF
 by_cases hw:wrongX r=0
 rotate_left
 ·rw [beq_eq_false_iff_ne.mpr hw,if_neg hw,if_neg hw]
  refine Eq.trans (pl_len rfl) ?_
  exact f_free rfl
 rw [beq_iff_eq.mpr hw,if_pos hw,if_pos hw]
 refine Eq.trans (pl_f rfl) ?_
 obtain ⟨h1,h2,-⟩:=wrong_zero hw
 have hbl:=body_le hw
 have o1:OwnB [some ⟨E24,[rl r]⟩,some ⟨E5,bytesAV [65,70,84,85]⟩] (.slc 1 0 4) [65,70,84,85]:=.inr ⟨1,rfl,rfl⟩
 have a1:hget [some ⟨E24,[rl r]⟩,some ⟨E5,bytesAV [65,70,84,85]⟩] 0=some ⟨E24,[rl r]⟩:=rfl
 refine Eq.trans (hop_eq (v:=.slc 1 0 4) (H':=[some ⟨E24,[rl r]⟩,some ⟨E5,bytesAV [65,70,84,85]⟩]) rfl) ?_
 refine Eq.trans (hop_eq (v:=.slc 1 0 4) (H':=[some ⟨E24,[rl r]⟩,some ⟨E5,bytesAV [65,70,84,85]⟩]) rfl) ?_
 refine Eq.trans sh_ptr ?_
 refine Eq.trans (ld_ptr a1 rfl rfl) ?_
 refine Eq.trans len_lst ?_
 refine Eq.trans (pl_int rfl) ?_
 refine Eq.trans sh_ptr ?_
 refine Eq.trans (ld_ptr a1 rfl rfl) ?_
 refine Eq.trans (pl_int rfl) ?_
 refine Eq.trans sh_ptr ?_
 refine Eq.trans (ld_ptr a1 rfl rfl) ?_
 refine Eq.trans (pl_int rfl) ?_
 refine Eq.trans sh_ptr ?_
 refine Eq.trans (ld_ptr a1 rfl rfl) ?_
 refine Eq.trans (pl_int rfl) ?_
 refine Eq.trans sh_ptr ?_
 refine Eq.trans (ld_ptr a1 rfl rfl) ?_
 refine Eq.trans (pl_int rfl) ?_
 refine Eq.trans sh_ptr ?_
 refine Eq.trans (ld_ptr a1 rfl rfl) ?_
 refine Eq.trans (pl_int rfl) ?_
 rw [List.length_map]
 generalize hX:([some ⟨E24,[rl r]⟩,some ⟨E5,bytesAV [65,70,84,85]⟩]:Heap)=X at o1 a1
 obtain ⟨bs,hbs⟩:∃ bs:List UInt8,bs=[by8 r.phs.length,by8 r.n,by8 r.d,by8 r.gr,by8 r.age,by8 r.saf]:=⟨_,rfl⟩
 obtain ⟨v2,H2,g1,o2,-,-,kp2⟩:=row_app (bs:=bs) 6 _ o1 (rfl:fillR E5 (List.replicate 6 (E5).zero) (([(0,(.v (.int .u8 (IntKind.wrap .u8 ((r.phs.length:Nat):Int))))),(1,(.v (.int .u8 (IntKind.wrap .u8 r.n)))),(2,(.v (.int .u8 (IntKind.wrap .u8 r.d)))),(3,(.v (.int .u8 (IntKind.wrap .u8 r.gr)))),(4,(.v (.int .u8 (IntKind.wrap .u8 r.age)))),(5,(.v (.int .u8 (IntKind.wrap .u8 r.saf))))]:List (Nat × Opd)).map fun p=>(p.1,evO [] p.2))=some _) (by rw [hbs,put8,put8,put8,put8,put8,put8]; rfl) (by rw [hbs]; rfl) (by rw [hbs]; simp only [List.length_cons,List.length_nil]; omega)
 refine Eq.trans (g1 _) ?_
 have a2:hget H2 0=some ⟨E24,[rl r]⟩:=kp2 _ _ (own_b o1 a1 (show (E24).tid ≠ (E5).tid by decide)) a1
 refine Eq.trans sh_ptr ?_
 refine Eq.trans (ld_ptr a2 rfl rfl) ?_
 refine Eq.trans (pl_int rfl) ?_
 refine Eq.trans sh_ptr ?_
 refine Eq.trans (ld_ptr a2 rfl rfl) ?_
 refine Eq.trans (pl_int rfl) ?_
 refine Eq.trans sh_ptr ?_
 refine Eq.trans (ld_ptr a2 rfl rfl) ?_
 refine Eq.trans (pl_int rfl) ?_
 refine Eq.trans (mkI (xs:=[r.eps,r.st,r.lift]) rfl) ?_
 have a3:hget (H2 ++ ([some ⟨E2,iv [r.eps,r.st,r.lift]⟩]:Heap)) 0=some ⟨E24,[rl r]⟩:=hget_app a2
 obtain ⟨v4,H4,g2,o4,-,-,kp4⟩:=putC (d+18) 3 [r.eps,r.st,r.lift] (by simp) (H2 ++ ([some ⟨E2,iv [r.eps,r.st,r.lift]⟩]:Heap)) v2 _ H2.length (own_app o2) hget_new (by rw [hbs]; simp only [List.length_append,List.length_cons,List.length_nil]; omega)
 refine Eq.trans (g2 _) ?_
 refine Eq.trans (pl_any rfl) ?_
 have a4:hget H4 0=some ⟨E24,[rl r]⟩:=kp4 _ _ (own_b (own_app o2) a3 (show (E24).tid ≠ (E5).tid by decide)) a3
 refine Eq.trans sh_ptr ?_
 refine Eq.trans (ld_ptr a4 rfl rfl) ?_
 refine Eq.trans len_lst ?_
 refine Eq.trans (pl_int rfl) ?_
 rw [List.length_map]
 have ehd:[65,70,84,85] ++ bs ++ numsB [r.eps,r.st,r.lift]=headB r:=by simp [hbs,numsB,headB]
 rw [ehd] at o4
 obtain ⟨v5,H5,g3,o5⟩:=phs_go (d+18) r.phs hl (fun p hp=>(rph_len (h2 p hp)).2) r.phs.length 0 (by omega) 10000000000000000000 (by omega) v4 (headB r) H4 o4 (by rw [headB_len]; omega)
 refine Eq.trans g3 ?_
 rw [List.drop_zero] at o5
 exact print_end (d+16) _ _ (l:=bodyB r) o5 (by omega))
theorem s12 (d:Nat) (r:Rul) (hl:r.phs.length≤1000) (ha:∀ p ∈ r.phs,p.ps.length≤140737488355328):pcall M (d+20) 12 [rl r]=some (.int .i64 ((printF r).length:Nat)):=told (r12 C0 (d+19) _ _ _ _ _ _ _ _ _) (by
 refine Eq.trans (pl_tup (s10 d r hl ha) rfl) ?_
 refine Eq.trans (pl_str rfl) ?_
 refine Eq.trans (pl_int rfl) ?_
 rfl)
def s8 (s:List UInt8) (i:Nat):Nat:=(s.getD i 0).toNat
def ptR (s:List UInt8):Pt:=(sg4 s,sg4 (s.drop 4))
def ptsR:Nat→List UInt8→List Pt
 | 0,_=>[]
 | n+1,s=>ptR s::ptsR n (s.drop 8)
def zPh:Phs:=⟨[],0,0,0,0⟩
def phOk (s:List UInt8):Prop:=14≤s.length∧14+8 * s8 s 0≤s.length
instance (s:List UInt8):Decidable (phOk s):=by unfold phOk; infer_instance
def phOf (s:List UInt8):Phs:=⟨ptsR (s8 s 0) (s.drop 14),(s8 s 1:Nat),num4 (s.drop 2),num4 (s.drop 6),num4 (s.drop 10)⟩
def phRest (s:List UInt8):List UInt8:=s.drop (14+8 * s8 s 0)
def phsR:Nat→List UInt8→Option (List Phs × List UInt8)
 | 0,s=>some ([],s)
 | n+1,s=>if phOk s then (match phsR n (phRest s) with
   | some (l,t)=>some (phOf s::l,t)
   | none=>none) else none
theorem ptsR_len:∀ (n:Nat) (s:List UInt8),(ptsR n s).length=n
 | 0,_=>rfl
 | n+1,s=>by rw [ptsR,List.length_cons,ptsR_len]
theorem s8_lt (s:List UInt8) (i:Nat):s8 s i < 256:=by have:=(s.getD i 0).toNat_lt; unfold s8; omega
theorem own_ne {H:Heap} {e:ETy} {v:AV} {l:List AV} {id:Nat} {b:Blk} (ho:Own H e v l) (h:hget H id=some b) (hb:b.e.tid ≠ e.tid):¬ names v id:=by
 rintro ⟨o,n,rfl⟩
 rcases ho with ⟨_,_,hz⟩ | ⟨id',hz,hg⟩
 ·cases hz
 ·injection hz with e1 _ _
  subst e1
  rw [h] at hg
  injection hg with hg
  rw [hg] at hb
  exact hb rfl
theorem dt {s:List UInt8} {n:Nat}:List.drop n (List.take s.length s)=s.drop n:=by rw [List.take_length]
theorem put_ph {v w:AV} {a b c e a' b' c' e':Int} (hsc:isSc v=true):putSub 5 0 (.agg [v,.int .i64 a,.int .i64 b,.int .i64 c,.int .i64 e]) (.agg [w,.int .i64 a',.int .i64 b',.int .i64 c',.int .i64 e'])=some (.agg [v,.int .i64 a,.int .i64 b,.int .i64 c,.int .i64 e]):=by
 simp only [putSub]
 rw [if_pos ⟨by simp,rfl,by show (isSc v && _)=true; rw [hsc]; rfl⟩]; rfl
theorem put_ph1 {v w:AV} {a b c e:Int} (hsc:isSc v=true) (hc:v.cells=[v]):putSub 1 0 v (.agg [w,.int .i64 a,.int .i64 b,.int .i64 c,.int .i64 e])=some (.agg [v,.int .i64 a,.int .i64 b,.int .i64 c,.int .i64 e]):=by
 simp only [putSub,hc]
 rw [if_pos ⟨by simp,rfl,by show (isSc v && _)=true; rw [hsc]; rfl⟩]; rfl
theorem own_sc {H:Heap} {e:ETy} {v:AV} {l:List AV} (ho:Own H e v l):isSc v=true∧v.cells=[v]:=by
 rcases ho with ⟨_,b,rfl⟩ | ⟨id,rfl,_⟩ <;> exact ⟨rfl,rfl⟩
theorem ph_end (d:Nat) {H:Heap} {v:AV} {ps:List Pt} {g mv mn u:Int} (x33:Int) (t:List UInt8) (h0:hget H 0=some ⟨E46,[.agg [v,.int .i64 g,.int .i64 mv,.int .i64 mn,.int .i64 u]]⟩) (ho:Own H E50 v (ps.map pt)) :
 X37_0_0 d (.ptr 0 0 0) x33 t H=some (.tup [phA ⟨ps,g,mv,mn,u⟩,.str t,.int .i64 0]):=by
 unfold X37_0_0
 have hl:=hg_lt h0
 refine Eq.trans (ld_ptr h0 rfl rfl) ?_
 refine Eq.trans (pl_agg rfl rfl) ?_
 refine Eq.trans (pl_any rfl) ?_
 refine Eq.trans (pl_int rfl) ?_
 refine Eq.trans (pl_int rfl) ?_
 refine Eq.trans (pl_int rfl) ?_
 refine Eq.trans (pl_int rfl) ?_
 obtain ⟨H',hH'⟩:∃ H':Heap,H'=H.set 0 (some ⟨E46,[.agg [v,.int .i64 g,.int .i64 mv,.int .i64 mn,.int .i64 u]]⟩):=⟨_,rfl⟩
 have hst:∀ K:AV→Heap→Ans,C0.hop H (.store 5 (.v (.ptr 0 0 0)) (.v (.agg [v,.int .i64 g,.int .i64 mv,.int .i64 mn,.int .i64 u]))) K=K .undef H':=fun K=>by rw [hH']; exact st_ptr h0 rfl (put_ph (own_sc ho).1)
 refine Eq.trans (hst _) ?_
 have h1:hget H' 0=some ⟨E46,[.agg [v,.int .i64 g,.int .i64 mv,.int .i64 mn,.int .i64 u]]⟩:=by rw [hH']; exact hget_set hl
 have o1:Own H' E50 v (ps.map pt):=own_keep ho fun id b hn hb=>by
  have:=own_ne ho h0 (show (E46).tid ≠ (E50).tid by decide)
  rw [hH']; exact hs_ne hb (fun hc=>this (by rw [hc]; exact hn))
 refine Eq.trans (ld_ptr h1 rfl rfl) ?_
 rw [C0_fin]
 refine congrArg some ?_
 have hs:=snap_own (k:=8) o1 (fun x hx=>by
  obtain ⟨p,_,rfl⟩:=List.mem_map.mp hx
  rfl)
 change AV.tup [.agg [snap 10 _ v,.int .i64 g,.int .i64 mv,.int .i64 mn,.int .i64 u],.str t,.int .i64 0]=_
 rw [hs]
theorem ph_go (d n:Nat) (hn:n≤255) (g mv mn u:Int):∀ (k i:Nat),i+k=n→∀ f,k < f→∀ (t:List UInt8) (ps:List Pt) (v:AV) (H:Heap),8 * k≤t.length→hget H 0=some ⟨E46,[.agg [v,.int .i64 g,.int .i64 mv,.int .i64 mn,.int .i64 u]]⟩→Own H E50 v (ps.map pt)→ps.length+k≤1000 →
 L37_0 (d+1) (.ptr 0 0 0) (n:Nat) f t (i:Nat) H=some (.tup [phA ⟨ps ++ ptsR k t,g,mv,mn,u⟩,.str (t.drop (8 * k)),.int .i64 0])
 | 0,i,h,f+1,_,t,ps,v,H,ht,h0,ho,hl=>by
   rw [L37_0_s,i64_small (by omega) (by omega),decide_eq_false (by omega),cnd_f,ph_end (d+1) _ t h0 ho]
   simp [ptsR]
 | k+1,i,h,f+1,hf,t,ps,v,H,ht,h0,ho,hl=>by
   obtain ⟨v1,H1,g1,o1,n1,l1,k1⟩:=app_one (x:=pt (ptR t)) ho rfl (by rw [List.length_map,show (E50).bytes=16 from rfl]; omega) (by rw [List.length_map]; omega)
   have hne:=own_ne ho h0 (show (E46).tid ≠ (E50).tid by decide)
   have h1:=k1 _ _ hne h0
   have hl1:=hg_lt h1
   obtain ⟨H2,hH2⟩:∃ H2:Heap,H2=H1.set 0 (some ⟨E46,[.agg [v1,.int .i64 g,.int .i64 mv,.int .i64 mn,.int .i64 u]]⟩):=⟨_,rfl⟩
   have h2:hget H2 0=some ⟨E46,[.agg [v1,.int .i64 g,.int .i64 mv,.int .i64 mn,.int .i64 u]]⟩:=by rw [hH2]; exact hget_set hl1
   have o2:Own H2 E50 v1 ((ps ++ [ptR t]).map pt):=by
    rw [List.map_append]
    refine own_keep o1 fun id b hnm hb=>?_
    have:=n1 id hnm
    rw [hH2]; exact hs_ne hb (by omega)
   have ih:=ph_go d n hn g mv mn u k (i+1) (by omega) f (by omega) (t.drop 8) (ps ++ [ptR t]) v1 H2 (by rw [List.length_drop]; omega) h2 o2 (by rw [List.length_append,List.length_singleton]; omega)
   rw [L37_0_s,i64_small (by omega) (by omega),decide_eq_true (by omega),cnd_t]
   refine Eq.trans sh_ptr ?_
   refine Eq.trans (ld_ptr h0 rfl rfl) ?_
   refine Eq.trans (pl_int (s26 d t (by omega))) ?_
   refine Eq.trans (pl_len (by rw [decide_eq_true_iff]; omega)) ?_
   rw [dt]
   refine Eq.trans (pl_int (s26 d (t.drop 4) (by rw [List.length_drop]; omega))) ?_
   rw [sg_wrap,show IntKind.wrap .i64 (IntKind.wrap .i32 (num4 (t.drop 4)))=sg4 (t.drop 4) from sg_wrap _]
   refine Eq.trans (g1 _) ?_
   refine Eq.trans sh_ptr ?_
   have hst:∀ K:AV→Heap→Ans,C0.hop H1 (.store 1 (.v (.ptr 0 0 (0+0))) (.v v1)) K=K .undef H2:=fun K=>by rw [hH2]; exact st_ptr h1 rfl (put_ph1 (own_sc o1).1 (own_sc o1).2)
   refine Eq.trans (hst _) ?_
   refine Eq.trans (pl_len (by rw [decide_eq_true_iff]; omega)) ?_
   rw [dt,i64_up (by omega)]
   refine Eq.trans ih ?_
   rw [List.append_assoc,List.drop_drop,ptsR]
   congr 3
   congr 3
   omega
theorem s8_at {s:List UInt8} {i:Nat} (h:i < s.length):Option.map (fun b:UInt8=>AV.int .u8 (b.toNat:Int)) s[i]?=some (.int .u8 (s8 s i:Nat)):=str_ge h
theorem s37 (d:Nat) (s:List UInt8) (hs:s.length≤1000000):pcall M (d+2) 37 [.str s]=some (if phOk s then .tup [phA (phOf s),.str (phRest s),.int .i64 0] else .tup [phA zPh,.str s,.int .i64 5]):=told (q37 (d+1) s) (by
 have hal:∀ K:AV→Heap→Ans,C0.hop [] (.alloc E46) K=K (.ptr 0 0 0) [some ⟨E46,[.agg [.zsl true,.int .i64 0,.int .i64 0,.int .i64 0,.int .i64 0]]⟩]:=fun K=>hop_eq rfl
 refine Eq.trans (hal _) ?_
 have h0:∀ z,hget [some (⟨E46,[z]⟩:Blk)] 0=some ⟨E46,[z]⟩:=fun z=>rfl
 have bad:∀ e:Int,(C0.hop [some (⟨E46,[.agg [.zsl true,.int .i64 0,.int .i64 0,.int .i64 0,.int .i64 0]]⟩:Blk)] (.load true 5 (.v (.ptr 0 0 0))) fun v2 h3 =>
  C0.agg 5 (some v2) fun l4 =>
  C0.any l4[0]? fun v5 =>
  C0.int .i64 l4[1]? fun x6 =>
  C0.int .i64 l4[2]? fun x7 =>
  C0.int .i64 l4[3]? fun x8 =>
  C0.int .i64 l4[4]? fun x9 =>
  C0.hop h3 (.store 5 (.v (.ptr 0 0 0)) (.v (.agg [v5,(.int .i64 x6),(.int .i64 x7),(.int .i64 x8),(.int .i64 x9)]))) fun v10 h11 =>
  C0.hop h11 (.load true 5 (.v (.ptr 0 0 0))) fun v12 h13 =>
  C0.fin h11 (.tup [v12,(.str s),(.int .i64 e)]))=some (.tup [phA zPh,.str s,.int .i64 e]):=fun e=>by
  refine Eq.trans (ld_ptr (h0 _) rfl rfl) ?_
  refine Eq.trans (pl_agg rfl rfl) ?_
  refine Eq.trans (pl_any rfl) ?_
  refine Eq.trans (pl_int rfl) ?_
  refine Eq.trans (pl_int rfl) ?_
  refine Eq.trans (pl_int rfl) ?_
  refine Eq.trans (pl_int rfl) ?_
  refine Eq.trans (hop_eq (v:=.undef) (H':=[some ⟨E46,[.agg [.zsl true,.int .i64 0,.int .i64 0,.int .i64 0,.int .i64 0]]⟩]) rfl) ?_
  refine Eq.trans (ld_ptr (h0 _) rfl rfl) ?_
  rw [C0_fin]; rfl
 by_cases h1:s.length < 14
 ·rw [decide_eq_true (by omega),cnd_t,if_neg (fun k:phOk s=>by have:=k.1; omega)]
  exact bad 5
 rw [decide_eq_false (by omega),cnd_f]
 refine Eq.trans (pl_int (s8_at (by omega))) ?_
 have b0:=s8_lt s 0
 rw [i64_small (n:=((s8 s 0:Nat):Int)) (by omega) (by omega),i64_small (n:=8 * ((s8 s 0:Nat):Int)) (by omega) (by omega),i64_small (n:=((s.length:Nat):Int) - 14) (by omega) (by omega)]
 by_cases h2:14+8 * s8 s 0≤s.length
 rotate_left
 ·rw [decide_eq_true (by omega),cnd_t,if_neg (fun k:phOk s=>h2 k.2)]
  exact bad 5
 rw [decide_eq_false (by omega),cnd_f,if_pos (show phOk s from ⟨by omega,h2⟩)]
 refine Eq.trans (pl_int (s8_at (by omega))) ?_
 refine Eq.trans (pl_len (by rw [decide_eq_true_iff]; omega)) ?_
 rw [dt]
 refine Eq.trans (pl_int (s26 d _ (by rw [List.length_drop]; show 4≤s.length - 2; omega))) ?_
 refine Eq.trans (pl_len (by rw [decide_eq_true_iff]; omega)) ?_
 rw [dt]
 refine Eq.trans (pl_int (s26 d _ (by rw [List.length_drop]; show 4≤s.length - 6; omega))) ?_
 refine Eq.trans (pl_len (by rw [decide_eq_true_iff]; omega)) ?_
 rw [dt]
 refine Eq.trans (pl_int (s26 d _ (by rw [List.length_drop]; show 4≤s.length - 10; omega))) ?_
 have c1:=num4_bd (s.drop (Int.toNat 2)); have c2:=num4_bd (s.drop (Int.toNat 6)); have c3:=num4_bd (s.drop (Int.toNat 10)); have b1:=s8_lt s 1
 rw [i64_small (n:=((s8 s 1:Nat):Int)) (by omega) (by omega),i64_small (n:=num4 (s.drop (Int.toNat 2))) (by omega) (by omega),i64_small (n:=num4 (s.drop (Int.toNat 6))) (by omega) (by omega),i64_small (n:=num4 (s.drop (Int.toNat 10))) (by omega) (by omega)]
 refine Eq.trans (hop_eq (v:=.undef) (H':=[some ⟨E46,[.agg [.zsl true,.int .i64 (s8 s 1:Nat),.int .i64 (num4 (s.drop 2)),.int .i64 (num4 (s.drop 6)),.int .i64 (num4 (s.drop 10))]]⟩]) rfl) ?_
 refine Eq.trans (pl_int (s8_at (by omega))) ?_
 refine Eq.trans (pl_len (by rw [decide_eq_true_iff]; omega)) ?_
 rw [dt]
 refine (ph_go d (s8 s 0) (by omega) _ _ _ _ (s8 s 0) 0 (by omega) 10000000000000000000 (by omega) (s.drop (Int.toNat 14)) [] (.zsl true) _ (by rw [List.length_drop]; show 8 * s8 s 0≤s.length - 14; omega) rfl (.inl ⟨rfl,true,rfl⟩) (by simp; omega)).trans ?_
 rw [List.drop_drop]
 rfl)
theorem phs_go_e (d:Nat) (n:Nat) (hn:n≤255):∀ (k i:Nat),i+k=n→∀ f,k < f→∀ (s:List UInt8) (l:List Phs) (v:AV) (H:Heap),s.length≤1000000→Own H E46 v (l.map phA)→l.length+k≤1000 →
 ∃ t',L27_0 (d+2) (n:Nat) f s v (i:Nat) H=some (match phsR k s with
   | some (m,t)=>.tup [.lst ((l ++ m).map phA),.str t,.int .i64 0]
   | none=>.tup [.lst [],.str t',.int .i64 5])
 | 0,i,h,f+1,_,s,l,v,H,hs,ho,hl=>by
   refine ⟨[],?_⟩
   rw [L27_0_s,decide_eq_false (by omega),cnd_f]
   unfold X27_0_0
   rw [C0_fin]
   refine congrArg some ?_
   have hsn:=snap_own (k:=9) ho (fun x hx=>by
    obtain ⟨p,_,rfl⟩:=List.mem_map.mp hx
    rfl)
   change AV.tup [snap 11 _ v,.str s,.int .i64 0]=_
   rw [hsn]
   simp [phsR]
 | k+1,i,h,f+1,hf,s,l,v,H,hs,ho,hl=>by
   have hph:=s37 d s hs
   have hz:∀ K:AV→Heap→Ans,C0.hop H (.alloc E46) K=K (.ptr H.length 0 0) (H ++ [some ⟨E46,[.agg [.zsl true,.int .i64 0,.int .i64 0,.int .i64 0,.int .i64 0]]⟩]):=fun K=>hop_eq rfl
   by_cases c:phOk s
   rotate_left
   ·rw [if_neg c] at hph
    refine ⟨s,?_⟩
    rw [L27_0_s,decide_eq_true (by omega),cnd_t]
    refine Eq.trans (hz _) ?_
    refine Eq.trans (pl_tup hph rfl) ?_
    refine Eq.trans (pl_agg rfl rfl) ?_
    refine Eq.trans (pl_any rfl) ?_
    refine Eq.trans (pl_int rfl) ?_
    refine Eq.trans (pl_int rfl) ?_
    refine Eq.trans (pl_int rfl) ?_
    refine Eq.trans (pl_int rfl) ?_
    refine Eq.trans (pl_str rfl) ?_
    refine Eq.trans (pl_int rfl) ?_
    refine Eq.trans (stl rfl) ?_
    rw [show ((5:Int) != 0)=true from rfl,cnd_t]
    unfold E27_0
    rw [C0_fin,phsR,if_neg c]; rfl
   rw [if_pos c] at hph
   obtain ⟨p,hp⟩:∃ p,p=phOf s:=⟨_,rfl⟩
   rw [← hp] at hph
   obtain ⟨H1,hH1⟩:∃ H1:Heap,H1=H ++ [some ⟨E46,[phA p]⟩]:=⟨_,rfl⟩
   have a1:hget H1 H.length=some ⟨E46,[phA p]⟩:=by rw [hH1]; exact hget_new
   have o1:Own H1 E46 v (l.map phA):=by rw [hH1]; exact own_keep ho fun id b _ h=>hget_app h
   obtain ⟨v2,H2,g2,o2,-⟩:=app_one (x:=phA p) o1 rfl (by rw [List.length_map,show (E46).bytes=56 from rfl]; omega) (by rw [List.length_map]; omega)
   have o2:Own H2 E46 v2 ((l ++ [p]).map phA):=by rw [List.map_append]; exact o2
   obtain ⟨t',ih⟩:=phs_go_e d n hn k (i+1) (by omega) f (by omega) (phRest s) (l ++ [p]) v2 H2 (by unfold phRest; rw [List.length_drop]; omega) o2 (by rw [List.length_append,List.length_singleton]; omega)
   refine ⟨t',?_⟩
   rw [L27_0_s,decide_eq_true (by omega),cnd_t]
   refine Eq.trans (hz _) ?_
   refine Eq.trans (pl_tup hph rfl) ?_
   refine Eq.trans (pl_agg rfl rfl) ?_
   refine Eq.trans (pl_any rfl) ?_
   refine Eq.trans (pl_int rfl) ?_
   refine Eq.trans (pl_int rfl) ?_
   refine Eq.trans (pl_int rfl) ?_
   refine Eq.trans (pl_int rfl) ?_
   refine Eq.trans (pl_str rfl) ?_
   refine Eq.trans (pl_int rfl) ?_
   refine Eq.trans (stl rfl) ?_
   rw [show ((0:Int) != 0)=false from rfl,cnd_f,← hH1]
   refine Eq.trans (ld_ptr a1 rfl rfl) ?_
   refine Eq.trans (pl_agg rfl rfl) ?_
   refine Eq.trans (pl_any rfl) ?_
   refine Eq.trans (pl_int rfl) ?_
   refine Eq.trans (pl_int rfl) ?_
   refine Eq.trans (pl_int rfl) ?_
   refine Eq.trans (pl_int rfl) ?_
   refine Eq.trans (g2 _) ?_
   rw [i64_up (by omega),ih,phsR,if_pos c,← hp]
   cases phsR k (phRest s) with
   | none=>rfl
   | some x=>obtain ⟨m,t⟩:=x; simp only [List.append_assoc,List.singleton_append]
theorem s27 (d n:Nat) (hn:n≤255) (s:List UInt8) (hs:s.length≤1000000):∃ t',pcall M (d+3) 27 [.int .i64 (n:Nat),.str s]=some (match phsR n s with
 | some (m,t)=>.tup [.lst (m.map phA),.str t,.int .i64 0]
 | none=>.tup [.lst [],.str t',.int .i64 5]):=by
 obtain ⟨t',h⟩:=phs_go_e d n hn n 0 (by omega) 10000000000000000000 (by omega) s [] (.zsl true) [] hs (.inl ⟨rfl,true,rfl⟩) (by simp; omega)
 exact ⟨t',told (q27 (d+2) _ s) h⟩
theorem phsR_len:∀ (n:Nat) (s:List UInt8) (l:List Phs) (t:List UInt8),phsR n s=some (l,t)→l.length=n∧(∀ p ∈ l,p.ps.length≤255)∧∃ k,k≤s.length∧t=s.drop k∧t.length+k=s.length
 | 0,s,l,t,h=>by
   rw [phsR] at h
   injection h with h
   injection h with ha hb
   subst ha hb
   exact ⟨rfl,(fun p hp=>nomatch hp),0,by omega,rfl,by omega⟩
 | n+1,s,l,t,h=>by
   rw [phsR] at h
   split at h
   ·rename_i c
    split at h
    ·rename_i l' t' hr
     injection h with h
     injection h with ha hb
     subst ha hb
     obtain ⟨h1,h2,k,h3,h4,h5⟩:=phsR_len n (phRest s) l' t' hr
     have b:=s8_lt s 0
     have c2:=c.2
     unfold phRest at h3 h4 h5
     rw [List.length_drop] at h3 h5
     refine ⟨by rw [List.length_cons,h1],fun p hp=>?_,14+8 * s8 s 0+k,by omega,by rw [h4,List.drop_drop],by omega⟩
     rcases List.mem_cons.mp hp with rfl | hp
     ·unfold phOf; rw [ptsR_len]; omega
     ·exact h2 p hp
    ·cases h
   ·cases h
def zRul:Rul:=⟨[],0,0,0,0,0,0,0,0⟩
def pre4 (s:List UInt8):Bool:=s.take 4 == ([65,70,84,85]:List UInt8).take s.length
def ofR (s:List UInt8) (l:List Phs):Rul:=⟨l,(s8 s 5:Nat),(s8 s 6:Nat),(s8 s 7:Nat),num4 (s.drop 10),num4 (s.drop 14),(s8 s 8:Nat),num4 (s.drop 18),(s8 s 9:Nat)⟩
def tailF (s:List UInt8) (l:List Phs) (t:List UInt8):Rul × Int:=if t.length < 4 then (zRul,5) else if t.length > 4 then (zRul,3) else if w32 (crcF (s.take (s.length - 4))) ≠ num4 t then (zRul,4) else if wrongX (ofR s l)=0 then (ofR s l,0) else (zRul,3)
def readF (s:List UInt8):Rul × Int:=if pre4 s=false then (zRul,3) else if s.length < 22 then (zRul,5) else match phsR (s8 s 4) (s.drop 22) with
 | none=>(zRul,5)
 | some (l,t)=>tailF s l t
abbrev rlT (r:Rul × Int):AV:=.tup [rl r.1,.int .i64 r.2]
theorem s36 (d:Nat) (a b:List UInt8):pcall M (d+1) 36 [.str a,.str b]=some (.bool (decide (b.length≤a.length) && (a.take b.length == b))):=told (r36 C0 d a b) (by
 by_cases h:b.length≤a.length
 ·rw [decide_eq_true (show ((a.length:Nat):Int) ≥ ((b.length:Nat):Int) by omega),cnd_t,decide_eq_true h]
  refine Eq.trans (pl_len (by rw [decide_eq_true_iff]; omega)) ?_
  rw [Int.toNat_natCast,List.drop_zero,Bool.true_and]
 ·rw [decide_eq_false (show ¬ ((a.length:Nat):Int) ≥ ((b.length:Nat):Int) by omega),cnd_f,decide_eq_false h]; rfl)
theorem s25 (d:Nat) (a b:List UInt8):pcall M (d+2) 25 [.str a,.str b]=some (.bool (decide (b.length≤a.length) && (a.take b.length == b))):=told (r25 C0 (d+1) a b) (by
 exact pl_bool (s36 d a b))
theorem s13 (d:Nat) (s:List UInt8) (hs:s.length≤1000000):pcall M (d+19) 13 [.str s]=some (rlT (readF s)):=told (r13 C0 (d+18) s) (by
 have emin:(if ((4:Int) < ((s.length:Nat):Int)) then 4 else ((s.length:Nat):Int))=((min 4 s.length:Nat):Int):=by split <;> omega
 rw [emin]
 refine Eq.trans (pl_len (by rw [decide_eq_true_iff]; omega)) ?_
 rw [Int.toNat_natCast,List.drop_zero]
 have epre:(decide ((([65,70,84,85]:List UInt8).take (min 4 s.length)).length≤s.length) && (s.take (([65,70,84,85]:List UInt8).take (min 4 s.length)).length == ([65,70,84,85]:List UInt8).take (min 4 s.length)))=pre4 s:=by
  have l4:(([65,70,84,85]:List UInt8).take (min 4 s.length)).length=min 4 s.length:=by rw [List.length_take,show ([65,70,84,85]:List UInt8).length=4 from rfl]; omega
  rw [l4,decide_eq_true (by omega),Bool.true_and]
  unfold pre4
  rcases Nat.lt_or_ge s.length 4 with h | h
  ·rw [show min 4 s.length=s.length by omega,List.take_of_length_le (Nat.le_refl _),List.take_of_length_le (show s.length≤4 by omega)]
  ·rw [show min 4 s.length=4 by omega,List.take_of_length_le (i:=s.length) (l:=[65,70,84,85]) (by simpa using h)]; rfl
 refine Eq.trans (pl_bool ((s25 (d+16) s _).trans (by rw [epre]))) ?_
 unfold readF
 cases hp:pre4 s
 ·rw [if_pos rfl]; rfl
 rw [if_neg (by decide)]
 refine Eq.trans (pl_f rfl) ?_
 by_cases h1:s.length < 22
 ·rw [decide_eq_true (by omega),cnd_t,if_pos h1]; rfl
 rw [decide_eq_false (by omega),cnd_f,if_neg h1]
 refine Eq.trans (pl_int (s8_at (by omega))) ?_
 refine Eq.trans (pl_int (s8_at (by omega))) ?_
 refine Eq.trans (pl_int (s8_at (by omega))) ?_
 refine Eq.trans (pl_int (s8_at (by omega))) ?_
 refine Eq.trans (pl_int (s8_at (by omega))) ?_
 refine Eq.trans (pl_len (by rw [decide_eq_true_iff]; omega)) ?_
 rw [dt]
 refine Eq.trans (pl_int (s26 (d+17) _ (by rw [List.length_drop]; show 4≤s.length - 10; omega))) ?_
 refine Eq.trans (pl_len (by rw [decide_eq_true_iff]; omega)) ?_
 rw [dt]
 refine Eq.trans (pl_int (s26 (d+17) _ (by rw [List.length_drop]; show 4≤s.length - 14; omega))) ?_
 refine Eq.trans (pl_len (by rw [decide_eq_true_iff]; omega)) ?_
 rw [dt]
 refine Eq.trans (pl_int (s26 (d+17) _ (by rw [List.length_drop]; show 4≤s.length - 18; omega))) ?_
 refine Eq.trans (pl_int (s8_at (by omega))) ?_
 refine Eq.trans (pl_len (by rw [decide_eq_true_iff]; omega)) ?_
 rw [dt]
 have b4:=s8_lt s 4; have b5:=s8_lt s 5; have b6:=s8_lt s 6; have b7:=s8_lt s 7; have b8:=s8_lt s 8; have b9:=s8_lt s 9
 have c1:=num4_bd (s.drop (Int.toNat 10)); have c2:=num4_bd (s.drop (Int.toNat 14)); have c3:=num4_bd (s.drop (Int.toNat 18))
 rw [i64_small (n:=((s8 s 4:Nat):Int)) (by omega) (by omega),i64_small (n:=((s8 s 5:Nat):Int)) (by omega) (by omega),i64_small (n:=((s8 s 6:Nat):Int)) (by omega) (by omega),i64_small (n:=((s8 s 7:Nat):Int)) (by omega) (by omega),i64_small (n:=((s8 s 8:Nat):Int)) (by omega) (by omega),i64_small (n:=((s8 s 9:Nat):Int)) (by omega) (by omega),
  i64_small (n:=num4 (s.drop (Int.toNat 10))) (by omega) (by omega),i64_small (n:=num4 (s.drop (Int.toNat 14))) (by omega) (by omega),i64_small (n:=num4 (s.drop (Int.toNat 18))) (by omega) (by omega)]
 obtain ⟨t',hph⟩:=s27 (d+15) (s8 s 4) (by omega) (s.drop (Int.toNat 22)) (by rw [List.length_drop]; omega)
 rw [show Int.toNat 22=22 from rfl] at hph
 cases hr:phsR (s8 s 4) (s.drop 22) with
 | none =>
   rw [hr] at hph
   refine Eq.trans (pl_tup hph rfl) ?_
   refine Eq.trans (pl_lst rfl) ?_
   refine Eq.trans (pl_str rfl) ?_
   refine Eq.trans (pl_int rfl) ?_
   rfl
 | some x =>
   obtain ⟨l,t⟩:=x
   rw [hr] at hph
   obtain ⟨h2,h3,k,-,h5,h6⟩:=phsR_len _ _ _ _ hr
   rw [List.length_drop] at h6
   refine Eq.trans (pl_tup hph rfl) ?_
   refine Eq.trans (pl_lst rfl) ?_
   refine Eq.trans (pl_str rfl) ?_
   refine Eq.trans (pl_int rfl) ?_
   rw [show ((0:Int) != 0)=false from rfl,cnd_f]
   unfold tailF
   change _=some (rlT (if t.length < 4 then _ else _))
   by_cases g1:t.length < 4
   ·rw [decide_eq_true (by omega),cnd_t,if_pos g1]; rfl
   rw [decide_eq_false (by omega),cnd_f,if_neg g1]
   by_cases g2:t.length > 4
   ·rw [decide_eq_true (by omega),cnd_t,if_pos g2]; rfl
   rw [decide_eq_false (by omega),cnd_f,if_neg g2,i64_small (n:=((s.length:Nat):Int) - 4) (by omega) (by omega)]
   refine Eq.trans (pl_len (by rw [decide_eq_true_iff]; omega)) ?_
   rw [List.drop_zero,show (((s.length:Nat):Int) - 4).toNat=s.length - 4 by omega]
   refine Eq.trans (pl_int (s22 (d+16) _ (by rw [List.length_take]; omega))) ?_
   refine Eq.trans (pl_int (s26 (d+17) t (by omega))) ?_
   by_cases g3:w32 (crcF (s.take (s.length - 4)))=num4 t
   rotate_left
   ·rw [bne_iff_ne.mpr g3,cnd_t,if_pos g3]; rfl
   rw [g3,bne_self_eq_false,cnd_f,if_neg (fun h=>h rfl)]
   refine Eq.trans (pl_bool (s20 d (ofR s l) (show l.length≤1000 by omega) (fun p hp=>by have:=h3 p hp; omega))) ?_
   by_cases g4:wrongX (ofR s l)=0
   ·rw [beq_iff_eq.mpr g4,if_pos g4]; rfl
   ·rw [beq_eq_false_iff_ne.mpr g4,if_neg g4]; rfl)
end Go.Proofs.Ytbmedgpiphibaaa.AE

namespace Go.Proofs.Ytbmedgpiphibaaa.AE
set_option linter.unusedVariables false
set_option linter.unusedSimpArgs false
set_option linter.constructorNameAsVariable false
open Go Go.Proofs.Ytbmedgpiphibaaa.Geo
set_option maxRecDepth 100000
theorem by8_md {m n:Int} (h:m % 256=n % 256):by8 m=by8 n:=by rw [← by8_mod m,h,by8_mod]
theorem be4_md {m n:Int} (h:m % 4294967296=n % 4294967296):be4 m=be4 n:=by
 unfold be4
 rw [by8_md (m:=m / 16777216) (n:=n / 16777216) (by omega),by8_md (m:=m / 65536) (n:=n / 65536) (by omega),by8_md (m:=m / 256) (n:=n / 256) (by omega),by8_md (m:=m) (n:=n) (by omega)]
theorem num4_mod (n:Int) (t:List UInt8):num4 (be4 n ++ t)=n % 4294967296:=by
 rw [be4_md (m:=n) (n:=n % 4294967296) (by omega)]
 exact num4_be4 (by omega) (by omega) t
theorem sg4_be4 {n:Int} (h:-2147483648≤n) (h':n < 2147483648) (t:List UInt8):sg4 (be4 n ++ t)=n:=by
 unfold sg4
 rw [num4_mod]
 split <;> omega
theorem d_app {a b:List UInt8} {n:Nat} (h:a.length=n):(a ++ b).drop n=b:=by subst h; exact List.drop_left' rfl
theorem s8_by {n:Int} (h:0≤n) (h':n < 256):((by8 n).toNat:Int)=n:=by rw [by8_n]; omega
def nearQ (p:Pt):Prop:=-1073741824≤p.1∧p.1≤1073741824∧-1073741824≤p.2∧p.2≤1073741824
theorem nearQ_right {ps:List Pt} (h:rightB ps=true):∀ p ∈ ps,nearQ p:=by
 unfold rightB at h
 have h2:=(Bool.and_eq_true_iff.mp h).2
 intro p hp
 have:farB p=false:=by
  cases hf:farB p
  ·rfl
  ·have:ps.any farB=true:=List.any_eq_true.mpr ⟨p,hp,hf⟩
   rw [this] at h2; cases h2
 unfold farB at this
 have:=of_decide_eq_true (by simpa using this:decide (-1073741824≤p.1∧p.1≤1073741824∧-1073741824≤p.2∧p.2≤1073741824)=true)
 exact this
theorem ptsR_B:∀ (ps:List Pt),(∀ p ∈ ps,nearQ p)→∀ t,ptsR ps.length (ptsB ps ++ t)=ps
 | [],_,t=>rfl
 | p::ps,h,t=>by
   obtain ⟨a1,a2,b1,b2⟩:=h p (List.mem_cons_self ..)
   rw [List.length_cons,ptsR,ptsB_cons,List.append_assoc,d_app (ptB_len p),ptsR_B ps (fun q hq=>h q (List.mem_cons_of_mem _ hq))]
   refine congrArg (·::ps) ?_
   unfold ptR ptB
   rw [List.append_assoc,d_app (be4_len _),sg4_be4 (by omega) (by omega),sg4_be4 (by omega) (by omega)]
theorem ph_shape (p:Phs) (t:List UInt8):phB p ++ t=by8 p.ps.length::by8 p.g::(be4 p.v ++ (be4 p.m ++ (be4 p.u ++ (ptsB p.ps ++ t)))):=by
 unfold phB
 simp only [List.append_assoc,List.cons_append,List.nil_append]
theorem ph_back {p:Phs} (h:RightPh p) (t:List UInt8):phOk (phB p ++ t)∧phOf (phB p ++ t)=p∧phRest (phB p ++ t)=t:=by
 obtain ⟨h1,h2,h3,h4,h5⟩:=h
 obtain ⟨l1,l2,-⟩:=right_ok h1
 have l3:=nearQ_right h1
 have e0:s8 (phB p ++ t) 0=p.ps.length:=by
  rw [ph_shape]
  show (by8 ((p.ps.length:Nat):Int)).toNat=_
  have:=s8_by (n:=((p.ps.length:Nat):Int)) (by omega) (by omega)
  omega
 have e1:((s8 (phB p ++ t) 1:Nat):Int)=p.g:=by
  rw [ph_shape]
  show ((by8 p.g).toNat:Int)=_
  exact s8_by (by omega) (by omega)
 have d2:(phB p ++ t).drop 2=be4 p.v ++ (be4 p.m ++ (be4 p.u ++ (ptsB p.ps ++ t))):=by rw [ph_shape]; rfl
 have d6:(phB p ++ t).drop 6=be4 p.m ++ (be4 p.u ++ (ptsB p.ps ++ t)):=by
  rw [show (6:Nat)=2+4 from rfl,← List.drop_drop,d2,d_app (be4_len _)]
 have d10:(phB p ++ t).drop 10=be4 p.u ++ (ptsB p.ps ++ t):=by
  rw [show (10:Nat)=6+4 from rfl,← List.drop_drop,d6,d_app (be4_len _)]
 have d14:(phB p ++ t).drop 14=ptsB p.ps ++ t:=by
  rw [show (14:Nat)=10+4 from rfl,← List.drop_drop,d10,d_app (be4_len _)]
 refine ⟨⟨?_,?_⟩,?_,?_⟩
 ·rw [List.length_append,phB_len]; omega
 ·rw [e0,List.length_append,phB_len]; omega
 ·unfold phOf
  rw [e0,e1,d2,d6,d10,d14,ptsR_B p.ps l3,num4_be4 (by omega) (by omega),num4_be4 (by omega) (by omega),num4_be4 (by omega) (by omega)]
 ·unfold phRest
  rw [e0]
  exact d_app (phB_len p)
theorem phs_back:∀ (l:List Phs),(∀ p ∈ l,RightPh p)→∀ t,phsR l.length (phsB l ++ t)=some (l,t)
 | [],_,t=>rfl
 | p::l,h,t=>by
   obtain ⟨h1,h2,h3⟩:=ph_back (h p (List.mem_cons_self ..)) (phsB l ++ t)
   rw [List.length_cons,phsB_cons,List.append_assoc,phsR,if_pos h1,h2,h3,phs_back l (fun q hq=>h q (List.mem_cons_of_mem _ hq)) t]
theorem head_shape (r:Rul) (t:List UInt8):headB r ++ t=65::70::84::85::by8 r.phs.length::by8 r.n::by8 r.d::by8 r.gr::by8 r.age::by8 r.saf::(be4 r.eps ++ (be4 r.st ++ (be4 r.lift ++ t))):=by
 unfold headB
 simp only [List.append_assoc,List.cons_append,List.nil_append]
theorem wrongT_bd {k n d gr eps st age lift saf:Int} (h:wrongT k n d gr eps st age lift saf=0):(1≤n∧n≤50)∧(1≤d∧d≤50)∧(1≤gr∧gr≤50)∧(0≤eps∧eps≤1024)∧(1≤st∧st≤65536)∧(1≤age∧age≤50)∧(1≤lift∧lift≤1073741824)∧(0≤saf∧saf≤k):=by
 unfold wrongT at h
 split at h
 ·omega
 ·split at h
  ·omega
  ·split at h
   ·omega
   ·split at h
    ·omega
    ·split at h
     ·omega
     ·split at h
      ·omega
      ·omega
theorem readF_body {r:Rul} (h:wrongX r=0) (u:List UInt8):readF (bodyB r ++ u)=tailF (bodyB r ++ u) r.phs u∧ofR (bodyB r ++ u) r.phs=r:=by
 obtain ⟨⟨k1,k2⟩,h2,h3⟩:=wrong_zero h
 obtain ⟨⟨a1,a2⟩,⟨b1,b2⟩,⟨c1,c2⟩,⟨d1,d2⟩,⟨e1,e2⟩,⟨f1,f2⟩,⟨g1,g2⟩,⟨i1,i2⟩⟩:=wrongT_bd h3
 have hs:bodyB r ++ u=headB r ++ (phsB r.phs ++ u):=by unfold bodyB; rw [List.append_assoc]
 rw [hs]
 obtain ⟨t,ht⟩:∃ t,t=phsB r.phs ++ u:=⟨_,rfl⟩
 rw [← ht]
 have x4:s8 (headB r ++ t) 4=r.phs.length:=by
  rw [head_shape]
  show (by8 ((r.phs.length:Nat):Int)).toNat=_
  have:=s8_by (n:=((r.phs.length:Nat):Int)) (by omega) (by omega)
  omega
 have x5:((s8 (headB r ++ t) 5:Nat):Int)=r.n:=by rw [head_shape]; exact s8_by (by omega) (by omega)
 have x6:((s8 (headB r ++ t) 6:Nat):Int)=r.d:=by rw [head_shape]; exact s8_by (by omega) (by omega)
 have x7:((s8 (headB r ++ t) 7:Nat):Int)=r.gr:=by rw [head_shape]; exact s8_by (by omega) (by omega)
 have x8:((s8 (headB r ++ t) 8:Nat):Int)=r.age:=by rw [head_shape]; exact s8_by (by omega) (by omega)
 have x9:((s8 (headB r ++ t) 9:Nat):Int)=r.saf:=by rw [head_shape]; exact s8_by (by omega) (by omega)
 have y10:(headB r ++ t).drop 10=be4 r.eps ++ (be4 r.st ++ (be4 r.lift ++ t)):=by rw [head_shape]; rfl
 have y14:(headB r ++ t).drop 14=be4 r.st ++ (be4 r.lift ++ t):=by rw [show (14:Nat)=10+4 from rfl,← List.drop_drop,y10,d_app (be4_len _)]
 have y18:(headB r ++ t).drop 18=be4 r.lift ++ t:=by rw [show (18:Nat)=14+4 from rfl,← List.drop_drop,y14,d_app (be4_len _)]
 have y22:(headB r ++ t).drop 22=t:=d_app (headB_len r)
 have hl:(headB r ++ t).length=22+t.length:=by rw [List.length_append,headB_len]
 constructor
 ·unfold readF
  have hp:pre4 (headB r ++ t)=true:=by
   unfold pre4
   rw [hl,head_shape,List.take_of_length_le (i:=22+t.length) (by show 4≤22+t.length; omega)]; rfl
  rw [hp,if_neg (by decide),if_neg (by omega),y22,x4,ht,phs_back r.phs h2 u]
 ·unfold ofR
  rw [x5,x6,x7,x8,x9,y10,y14,y18,num4_be4 (by omega) (by omega),num4_be4 (by omega) (by omega),num4_be4 (by omega) (by omega)]
theorem read_print {r:Rul} (h:wrongX r=0):readF (printF r)=(r,0):=by
 unfold printF
 rw [if_pos h]
 unfold sealF
 obtain ⟨h1,h2⟩:=readF_body h (be4 (w32 (crcF (bodyB r))))
 have hb:=w32_bd (crcF (bodyB r))
 have hl:(bodyB r ++ be4 (w32 (crcF (bodyB r)))).length - 4=(bodyB r).length:=by rw [List.length_append,be4_len]; omega
 have hn:=num4_be4 hb.1 hb.2 []
 rw [List.append_nil] at hn
 rw [h1]
 unfold tailF
 rw [be4_len,if_neg (by omega),if_neg (by omega),hl,List.take_left' rfl,hn,if_neg (fun k=>k rfl),h2,if_pos h]
end Go.Proofs.Ytbmedgpiphibaaa.AE

namespace Go.Proofs.Ytbmedgpiphibaaa.AE
set_option linter.unusedVariables false
set_option linter.unusedSimpArgs false
set_option linter.constructorNameAsVariable false
open Go Go.Proofs.Ytbmedgpiphibaaa.Geo
abbrev Bx:=Pt × Pt
abbrev bx (b:Bx):AV:=.agg [.int .i64 b.1.1,.int .i64 b.1.2,.int .i64 b.2.1,.int .i64 b.2.2]
theorem drop_vv {ps:List Pt} {i:Nat} (h:i < ps.length):ps.drop i=vv ps i::ps.drop (i+1):=by
 rw [List.drop_eq_getElem_cons h]; unfold vv; rw [List.getD_eq_getElem?_getD,List.getElem?_eq_getElem h]; rfl
theorem pt_bne (p q:Pt):(xor true ((p.1 == q.1) && ((p.2 == q.2) && true)))=!decide (p=q):=by
 have:=pt_beq p q
 rw [← this]; cases ((p.1 == q.1) && ((p.2 == q.2) && true)) <;> rfl
theorem same0 (d:Nat) (ps qs:List Pt) (hl:ps.length≤140737488355328) (he:ps.length=qs.length):∀ (m i f:Nat),i+m=ps.length→m < f →
 L38_0 d (ps.map pt) (qs.map pt) f (i:Nat)=some (.bool (decide (ps.drop i=qs.drop i))):=by
 intro m
 induction m with
 | zero =>
   intro i f hi hf
   obtain ⟨f,rfl⟩:∃ g,f=g+1:=⟨f - 1,by omega⟩
   rw [L38_0,decide_eq_false (by rw [pmap_len]; omega),cnd_f,List.drop_eq_nil_of_le (by omega),List.drop_eq_nil_of_le (by omega)]; rfl
 | succ m ih =>
   intro i f hi hf
   obtain ⟨f,rfl⟩:∃ g,f=g+1:=⟨f - 1,by omega⟩
   rw [L38_0,decide_eq_true (by rw [pmap_len]; omega),cnd_t,decide_eq_true (by omega),cnd_t,vv_at (by omega)]
   refine Eq.trans (pl_agg (by rfl) (by rfl)) ?_; refine Eq.trans (pl_int (by rfl)) ?_; refine Eq.trans (pl_int (by rfl)) ?_
   rw [cnd_t,vv_at (show i < qs.length by omega)]
   refine Eq.trans (pl_agg (by rfl) (by rfl)) ?_; refine Eq.trans (pl_int (by rfl)) ?_; refine Eq.trans (pl_int (by rfl)) ?_
   rw [pt_bne,drop_vv (show i < ps.length by omega),drop_vv (show i < qs.length by omega)]
   by_cases h:vv ps i=vv qs i
   ·rw [decide_eq_true h]
    refine Eq.trans (pl_f (by rfl)) ?_
    rw [show IntKind.wrap .i64 ((i:Int)+1)=((i+1:Nat):Int) by rw [IntKind.wrap_i64]; omega,ih (i+1) f (by omega) (by omega),h]
    simp
   ·rw [decide_eq_false h]
    refine Eq.trans (pl_len (by rfl)) ?_
    rw [decide_eq_false (by simp [h])]; rfl
theorem s38 (d:Nat) (ps qs:List Pt) (hl:ps.length≤140737488355328) (hq:qs.length≤140737488355328):pcall M (d+1) 38 [.lst (ps.map pt),.lst (qs.map pt)]=some (.bool (decide (ps=qs))):=told (q38 d _ _) (by
 rw [pmap_len,pmap_len]
 by_cases h:ps.length=qs.length
 ·rw [h,show (((qs.length:Nat):Int) != ((qs.length:Nat):Int))=false by simp,cnd_f]
  exact same0 d ps qs hl h ps.length 0 10000000000000000000 (by omega) (by omega)
 ·rw [show (((ps.length:Nat):Int) != ((qs.length:Nat):Int))=true by simp; omega,cnd_t,decide_eq_false (fun e=>h (by rw [e]))])
end Go.Proofs.Ytbmedgpiphibaaa.AE
