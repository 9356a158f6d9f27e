/- The texts that the law PolyDown needs, part 5. No conditions. -/
import Derived.ChangeArms
import Derived.WideShapes
import Derived.OpenShut
import Derived.Deep.Slices
import Derived.Test.YtkfppigcjdapnaaMPolyDown4
namespace Go.Proofs.Ytkfppigcjdapnaa.AE
set_option linter.unusedVariables false
set_option linter.unusedSimpArgs false
set_option linter.constructorNameAsVariable false
open Go
set_option maxRecDepth 100000
set_option maxHeartbeats 0
noncomputable def X8_6_0 (d:Nat) (a0:List AV) (v45:AV) (x61:Int) (v153:AV) (k57N:Int→Heap→Ans) (k57R:Bool→Heap→Ans) (b492:Bool) (H:Heap):Ans :=
 cnd b492
  (k57R false H)
  (k57N (IntKind.wrap .i64 (x61+1)) H)
theorem X8_6_0_ok (d:Nat) (a0:List AV) (b23 b24 b25:Bool) (v26 v27 v28:AV) (b29 b30:Bool) (v31 v32 v33:AV) (x40 x41 x42 x43:Int) (b44:Bool) (v45 v49:AV) (x55:Int) (k57:Ex→St→Ans) (b59:Bool) (x61:Int) (v145 v146:AV) (x151 x152:Int) (v153 v197:AV) (b198 b199:Bool) (v200 v201 v202 v203 v204 v205:AV) (b206:Bool) (v207 v248:AV) (b249 b250:Bool) (v251 v252 v253 v254 v255 v256:AV) (b257:Bool) (v258 v299:AV) (b300 b301:Bool) (v302 v303 v304 v305 v306 v307:AV) (b308:Bool) (v309 v350:AV) (b351 b352:Bool) (v353 v354 v355 v356 v357 v358:AV) (b359:Bool) (v360:AV) (k57N:Int→Heap→Ans) (k57R:Bool→Heap→Ans) (hk57N:∀ (b59:Bool) (v60:AV) (x61:Int) (v62 v63 v64 v65 v66 v67 v68 v69 v70 v71 v72 v73 v74 v75 v76 v77 v78 v79 v80 v81 v82 v83 v84 v85 v86 v87 v88 v89 v90 v91 v92 v93 v94 v95 v96 v97 v98 v99 v100 v101 v102 v103 v104 v105 v106 v107 v108 v109 v110 v111 v112 v113 v114 v115 v116 v117 v118 v119 v120 v121 v122 v123 v124 v125 v126 v127 v128 v129 v130 v131 v132 v133 v134 v135 v136 v137 v138 v139 v140 v141 v142 v143 v144 v145:AV) (H:Heap),k57 .normal ⟨[(.lst a0),tz,(bz b59),v45,(bz b44),v49,tz,v60,(bz b23),(bz b24),(bz b25),v26,v27,v28,(bz b29),(bz b30),v31,v32,v33,bf,tz,(.tup [(.agg [(iz x40),(iz x41),(iz x42),(iz x43)]),(bz b44)]),(.lst a0),(.tup [(.agg [(iz x40),(iz x41),(iz x42),(iz x43)]),(bz b44)]),(.agg [(iz x40),(iz x41),(iz x42),(iz x43)]),(bz b44),(.agg [bf,bf,bf,bf]),(.lst a0),(iz x55),(iz x61),v62,v63,v64,v65,v66,v67,v68,v69,v70,v71,v72,v73,v74,v75,v76,v77,v78,v79,v80,v81,v82,v83,v84,v85,v86,v87,v88,v89,v90,v91,v92,v93,v94,v95,v96,v97,v98,v99,v100,v101,v102,v103,v104,v105,v106,v107,v108,v109,v110,v111,v112,v113,v114,v115,v116,v117,v118,v119,v120,v121,v122,v123,v124,v125,v126,v127,v128,v129,v130,v131,v132,v133,v134,v135,v136,v137,v138,v139,v140,v141,v142,v143,v144,v145,tz,tz,tz,tz,tz,tz,tz,tz,tz,tz,tz,tz,tz,tz,tz,tz,tz,tz,tz,tz,tz,tz,tz,tz],H⟩=k57N x61 H) (hk57R:∀ (b775:Bool) (v776:AV) (x777:Int) (v778 v779:AV) (x781 x782:Int) (v783:AV) (b784 b785:Bool) (v786 v787 v788 v789 v790 v791:AV) (b792:Bool) (v793 v794:AV) (b795 b796:Bool) (v797 v798 v799 v800 v801 v802:AV) (b803:Bool) (v804 v805:AV) (b806 b807:Bool) (v808 v809 v810 v811 v812 v813:AV) (b814:Bool) (v815 v816:AV) (b817 b818:Bool) (v819 v820 v821 v822 v823 v824:AV) (b825:Bool) (v826 v827:AV) (x828:Int) (v829 v830:AV) (x831:Int) (b832 b833:Bool) (v834 v835 v836 v837 v838 v839:AV) (b840 b841:Bool) (v842 v843 v844 v845 v846 v847:AV) (b848 b849:Bool) (v850 v851 v852 v853 v854 v855:AV) (b856 b857:Bool) (v858 v859 v860 v861:AV) (b862:Bool) (v863:AV) (H:Heap),k57 .ret ⟨[(.lst a0),tz,(bz b775),v45,(bz b44),v49,tz,v776,(bz b23),(bz b24),(bz b25),v26,v27,v28,(bz b29),(bz b30),v31,v32,v33,bf,tz,(.tup [(.agg [(iz x40),(iz x41),(iz x42),(iz x43)]),(bz b44)]),(.lst a0),(.tup [(.agg [(iz x40),(iz x41),(iz x42),(iz x43)]),(bz b44)]),(.agg [(iz x40),(iz x41),(iz x42),(iz x43)]),(bz b44),(.agg [bf,bf,bf,bf]),(.lst a0),(iz x55),(iz x777),v778,v779,(.agg [(iz x781),(iz x782)]),v783,(bz b784),(bz b785),v786,v787,v788,v789,v790,v791,(bz b792),v793,v794,(bz b795),(bz b796),v797,v798,v799,v800,v801,v802,(bz b803),v804,v805,(bz b806),(bz b807),v808,v809,v810,v811,v812,v813,(bz b814),v815,v816,(bz b817),(bz b818),v819,v820,v821,v822,v823,v824,(bz b825),v826,v827,(iz x828),v829,v830,(iz x831),(bz b832),(bz b833),v834,v835,v836,v837,v838,v839,(bz b840),(bz b841),v842,v843,v844,v845,v846,v847,(bz b848),(bz b849),v850,v851,v852,v853,v854,v855,(bz b856),(bz b857),v858,v859,v860,v861,(bz b862),v863,tz,tz,tz,tz,tz,tz,tz,tz,tz,tz,tz,tz,tz,tz,tz,tz,tz,tz,tz,tz,tz,tz,tz,tz],H⟩=k57R b775 H) (v457:AV) (x458:Int) (v459 v460:AV) (x461:Int) (b462 b463:Bool) (v464 v465 v466 v467 v468 v469:AV) (b470 b471:Bool) (v472 v473 v474 v475 v476 v477:AV) (b478 b479:Bool) (v480 v481 v482 v483 v484 v485:AV) (b486 b487:Bool) (v488 v489 v490 v491:AV) (b492:Bool) (H:Heap):r8X6_0 C0 d a0 b23 b24 b25 v26 v27 v28 b29 b30 v31 v32 v33 x40 x41 x42 x43 b44 v45 v49 x55 k57 b59 x61 v145 v146 x151 x152 v153 v197 b198 b199 v200 v201 v202 v203 v204 v205 b206 v207 v248 b249 b250 v251 v252 v253 v254 v255 v256 b257 v258 v299 b300 b301 v302 v303 v304 v305 v306 v307 b308 v309 v350 b351 b352 v353 v354 v355 v356 v357 v358 b359 v360 ⟨[(.lst a0),tz,(bz b59),v45,(bz b44),v49,tz,v153,(bz b23),(bz b24),(bz b25),v26,v27,v28,(bz b29),(bz b30),v31,v32,v33,bf,tz,(.tup [(.agg [(iz x40),(iz x41),(iz x42),(iz x43)]),(bz b44)]),(.lst a0),(.tup [(.agg [(iz x40),(iz x41),(iz x42),(iz x43)]),(bz b44)]),(.agg [(iz x40),(iz x41),(iz x42),(iz x43)]),(bz b44),(.agg [bf,bf,bf,bf]),(.lst a0),(iz x55),(iz x61),bt,v146,(.agg [(iz x151),(iz x152)]),v197,(bz b198),(bz b199),v200,v201,v202,v203,v204,v205,(bz b206),v207,v248,(bz b249),(bz b250),v251,v252,v253,v254,v255,v256,(bz b257),v258,v299,(bz b300),(bz b301),v302,v303,v304,v305,v306,v307,(bz b308),v309,v350,(bz b351),(bz b352),v353,v354,v355,v356,v357,v358,(bz b359),v360,v457,(iz x458),v459,v460,(iz x461),(bz b462),(bz b463),v464,v465,v466,v467,v468,v469,(bz b470),(bz b471),v472,v473,v474,v475,v476,v477,(bz b478),(bz b479),v480,v481,v482,v483,v484,v485,(bz b486),(bz b487),v488,v489,v490,v491,(bz b492),v145,tz,tz,tz,tz,tz,tz,tz,tz,tz,tz,tz,tz,tz,tz,tz,tz,tz,tz,tz,tz,tz,tz,tz,tz],H⟩=X8_6_0 d a0 v45 x61 v153 k57N k57R b492 H:=by
 try dsimp only at hk57N
 try dsimp only at hk57R
 unfold r8X6_0; refine Eq.trans (pl_len (by rfl)) ?_; refine yt ySs ?_; refine yt yA ?_; refine yt yI ?_; (iterate 2 (refine yt yA ?_)); refine yt yI ?_; (iterate 2 (refine yt yB ?_)); (iterate 6 (refine yt yA ?_)); (iterate 2 (refine yt yB ?_)); (iterate 6 (refine yt yA ?_)); (iterate 2 (refine yt yB ?_)); (iterate 6 (refine yt yA ?_)); (iterate 2 (refine yt yB ?_)); (iterate 4 (refine yt yA ?_)); refine yt yB ?_; refine yt ySs ?_
 first | (simp only [hk57N,hk57R] <;> rfl) | rfl
noncomputable def E8_6 (d:Nat) (a0:List AV) (v45:AV) (x61:Int) (v153:AV) (k57N:Int→Heap→Ans) (k57R:Bool→Heap→Ans) (H:Heap):Ans :=
 none
theorem E8_6_ok (d:Nat) (a0:List AV) (b23 b24 b25:Bool) (v26 v27 v28:AV) (b29 b30:Bool) (v31 v32 v33:AV) (x40 x41 x42 x43:Int) (b44:Bool) (v45 v49:AV) (x55:Int) (k57:Ex→St→Ans) (b59:Bool) (x61:Int) (v145 v146:AV) (x151 x152:Int) (v153 v197:AV) (b198 b199:Bool) (v200 v201 v202 v203 v204 v205:AV) (b206:Bool) (v207 v248:AV) (b249 b250:Bool) (v251 v252 v253 v254 v255 v256:AV) (b257:Bool) (v258 v299:AV) (b300 b301:Bool) (v302 v303 v304 v305 v306 v307:AV) (b308:Bool) (v309 v350:AV) (b351 b352:Bool) (v353 v354 v355 v356 v357 v358:AV) (b359:Bool) (v360:AV) (k57N:Int→Heap→Ans) (k57R:Bool→Heap→Ans) (hk57N:∀ (b59:Bool) (v60:AV) (x61:Int) (v62 v63 v64 v65 v66 v67 v68 v69 v70 v71 v72 v73 v74 v75 v76 v77 v78 v79 v80 v81 v82 v83 v84 v85 v86 v87 v88 v89 v90 v91 v92 v93 v94 v95 v96 v97 v98 v99 v100 v101 v102 v103 v104 v105 v106 v107 v108 v109 v110 v111 v112 v113 v114 v115 v116 v117 v118 v119 v120 v121 v122 v123 v124 v125 v126 v127 v128 v129 v130 v131 v132 v133 v134 v135 v136 v137 v138 v139 v140 v141 v142 v143 v144 v145:AV) (H:Heap),k57 .normal ⟨[(.lst a0),tz,(bz b59),v45,(bz b44),v49,tz,v60,(bz b23),(bz b24),(bz b25),v26,v27,v28,(bz b29),(bz b30),v31,v32,v33,bf,tz,(.tup [(.agg [(iz x40),(iz x41),(iz x42),(iz x43)]),(bz b44)]),(.lst a0),(.tup [(.agg [(iz x40),(iz x41),(iz x42),(iz x43)]),(bz b44)]),(.agg [(iz x40),(iz x41),(iz x42),(iz x43)]),(bz b44),(.agg [bf,bf,bf,bf]),(.lst a0),(iz x55),(iz x61),v62,v63,v64,v65,v66,v67,v68,v69,v70,v71,v72,v73,v74,v75,v76,v77,v78,v79,v80,v81,v82,v83,v84,v85,v86,v87,v88,v89,v90,v91,v92,v93,v94,v95,v96,v97,v98,v99,v100,v101,v102,v103,v104,v105,v106,v107,v108,v109,v110,v111,v112,v113,v114,v115,v116,v117,v118,v119,v120,v121,v122,v123,v124,v125,v126,v127,v128,v129,v130,v131,v132,v133,v134,v135,v136,v137,v138,v139,v140,v141,v142,v143,v144,v145,tz,tz,tz,tz,tz,tz,tz,tz,tz,tz,tz,tz,tz,tz,tz,tz,tz,tz,tz,tz,tz,tz,tz,tz],H⟩=k57N x61 H) (hk57R:∀ (b775:Bool) (v776:AV) (x777:Int) (v778 v779:AV) (x781 x782:Int) (v783:AV) (b784 b785:Bool) (v786 v787 v788 v789 v790 v791:AV) (b792:Bool) (v793 v794:AV) (b795 b796:Bool) (v797 v798 v799 v800 v801 v802:AV) (b803:Bool) (v804 v805:AV) (b806 b807:Bool) (v808 v809 v810 v811 v812 v813:AV) (b814:Bool) (v815 v816:AV) (b817 b818:Bool) (v819 v820 v821 v822 v823 v824:AV) (b825:Bool) (v826 v827:AV) (x828:Int) (v829 v830:AV) (x831:Int) (b832 b833:Bool) (v834 v835 v836 v837 v838 v839:AV) (b840 b841:Bool) (v842 v843 v844 v845 v846 v847:AV) (b848 b849:Bool) (v850 v851 v852 v853 v854 v855:AV) (b856 b857:Bool) (v858 v859 v860 v861:AV) (b862:Bool) (v863:AV) (H:Heap),k57 .ret ⟨[(.lst a0),tz,(bz b775),v45,(bz b44),v49,tz,v776,(bz b23),(bz b24),(bz b25),v26,v27,v28,(bz b29),(bz b30),v31,v32,v33,bf,tz,(.tup [(.agg [(iz x40),(iz x41),(iz x42),(iz x43)]),(bz b44)]),(.lst a0),(.tup [(.agg [(iz x40),(iz x41),(iz x42),(iz x43)]),(bz b44)]),(.agg [(iz x40),(iz x41),(iz x42),(iz x43)]),(bz b44),(.agg [bf,bf,bf,bf]),(.lst a0),(iz x55),(iz x777),v778,v779,(.agg [(iz x781),(iz x782)]),v783,(bz b784),(bz b785),v786,v787,v788,v789,v790,v791,(bz b792),v793,v794,(bz b795),(bz b796),v797,v798,v799,v800,v801,v802,(bz b803),v804,v805,(bz b806),(bz b807),v808,v809,v810,v811,v812,v813,(bz b814),v815,v816,(bz b817),(bz b818),v819,v820,v821,v822,v823,v824,(bz b825),v826,v827,(iz x828),v829,v830,(iz x831),(bz b832),(bz b833),v834,v835,v836,v837,v838,v839,(bz b840),(bz b841),v842,v843,v844,v845,v846,v847,(bz b848),(bz b849),v850,v851,v852,v853,v854,v855,(bz b856),(bz b857),v858,v859,v860,v861,(bz b862),v863,tz,tz,tz,tz,tz,tz,tz,tz,tz,tz,tz,tz,tz,tz,tz,tz,tz,tz,tz,tz,tz,tz,tz,tz],H⟩=k57R b775 H) (v493 v494 v495 v496 v497 v498 v499 v500 v501 v502 v503 v504 v505 v506 v507 v508 v509 v510 v511 v512 v513 v514 v515 v516 v517 v518 v519 v520 v521 v522 v523 v524 v525 v526 v527 v528:AV) (H:Heap):r8E6 C0 d a0 b23 b24 b25 v26 v27 v28 b29 b30 v31 v32 v33 x40 x41 x42 x43 b44 v45 v49 x55 k57 b59 x61 v145 v146 x151 x152 v153 v197 b198 b199 v200 v201 v202 v203 v204 v205 b206 v207 v248 b249 b250 v251 v252 v253 v254 v255 v256 b257 v258 v299 b300 b301 v302 v303 v304 v305 v306 v307 b308 v309 v350 b351 b352 v353 v354 v355 v356 v357 v358 b359 v360 ⟨[(.lst a0),tz,(bz b59),v45,(bz b44),v49,tz,v153,(bz b23),(bz b24),(bz b25),v26,v27,v28,(bz b29),(bz b30),v31,v32,v33,bf,tz,(.tup [(.agg [(iz x40),(iz x41),(iz x42),(iz x43)]),(bz b44)]),(.lst a0),(.tup [(.agg [(iz x40),(iz x41),(iz x42),(iz x43)]),(bz b44)]),(.agg [(iz x40),(iz x41),(iz x42),(iz x43)]),(bz b44),(.agg [bf,bf,bf,bf]),(.lst a0),(iz x55),(iz x61),bt,v146,(.agg [(iz x151),(iz x152)]),v197,(bz b198),(bz b199),v200,v201,v202,v203,v204,v205,(bz b206),v207,v248,(bz b249),(bz b250),v251,v252,v253,v254,v255,v256,(bz b257),v258,v299,(bz b300),(bz b301),v302,v303,v304,v305,v306,v307,(bz b308),v309,v350,(bz b351),(bz b352),v353,v354,v355,v356,v357,v358,(bz b359),v360,v493,v494,v495,v496,v497,v498,v499,v500,v501,v502,v503,v504,v505,v506,v507,v508,v509,v510,v511,v512,v513,v514,v515,v516,v517,v518,v519,v520,v521,v522,v523,v524,v525,v526,v527,v528,v145,tz,tz,tz,tz,tz,tz,tz,tz,tz,tz,tz,tz,tz,tz,tz,tz,tz,tz,tz,tz,tz,tz,tz,tz],H⟩=E8_6 d a0 v45 x61 v153 k57N k57R H:=by
 try dsimp only at hk57N
 try dsimp only at hk57R
 unfold r8E6; refine Eq.trans (pl_len (by rfl)) ?_; refine yt ySs ?_; refine yt yAs ?_; refine yt ySs ?_
 first | (simp only [hk57N,hk57R] <;> rfl) | rfl
noncomputable def L8_6 (d:Nat) (a0:List AV) (v45:AV) (x61:Int) (v153:AV) (k57N:Int→Heap→Ans) (k57R:Bool→Heap→Ans):Nat→Heap→Ans
 | 0,_=>none
 | n+1,H =>
 C0.hop H (.fldA 0 (.v v153)) fun v400 h401 =>
  C0.hop h401 (.load false 1 (.v v400)) fun v402 h403 =>
  C0.int .i64 (some v402) fun x404 =>
  C0.hop h403 (.fldA 0 (.v v45)) fun v405 h406 =>
  C0.hop h406 (.fldA 0 (.v v405)) fun v407 h408 =>
  C0.hop h408 (.load false 1 (.v v407)) fun v409 h410 =>
  C0.int .i64 (some v409) fun x411 =>
  cnd (decide (x404 < x411))
  (X8_6_0 d a0 v45 x61 v153 k57N k57R true h410)
  (C0.hop h410 (.fldA 0 (.v v153)) fun v412 h413 =>
  C0.hop h413 (.load false 1 (.v v412)) fun v414 h415 =>
  C0.int .i64 (some v414) fun x416 =>
  C0.hop h415 (.fldA 2 (.v v45)) fun v417 h418 =>
  C0.hop h418 (.fldA 0 (.v v417)) fun v419 h420 =>
  C0.hop h420 (.load false 1 (.v v419)) fun v421 h422 =>
  C0.int .i64 (some v421) fun x423 =>
  cnd (decide (x416 > x423))
  (X8_6_0 d a0 v45 x61 v153 k57N k57R true h422)
  (C0.hop h422 (.fldA 1 (.v v153)) fun v424 h425 =>
  C0.hop h425 (.load false 1 (.v v424)) fun v426 h427 =>
  C0.int .i64 (some v426) fun x428 =>
  C0.hop h427 (.fldA 0 (.v v45)) fun v429 h430 =>
  C0.hop h430 (.fldA 1 (.v v429)) fun v431 h432 =>
  C0.hop h432 (.load false 1 (.v v431)) fun v433 h434 =>
  C0.int .i64 (some v433) fun x435 =>
  cnd (decide (x428 < x435))
  (X8_6_0 d a0 v45 x61 v153 k57N k57R true h434)
  (C0.hop h434 (.fldA 1 (.v v153)) fun v436 h437 =>
  C0.hop h437 (.load false 1 (.v v436)) fun v438 h439 =>
  C0.int .i64 (some v438) fun x440 =>
  C0.hop h439 (.fldA 2 (.v v45)) fun v441 h442 =>
  C0.hop h442 (.fldA 1 (.v v441)) fun v443 h444 =>
  C0.hop h444 (.load false 1 (.v v443)) fun v445 h446 =>
  C0.int .i64 (some v445) fun x447 =>
  cnd (decide (x440 > x447))
  (X8_6_0 d a0 v45 x61 v153 k57N k57R true h446)
  (C0.hop h446 (.load true 2 (.v v153)) fun v448 h449 =>
  C0.agg 2 (some v448) fun l450 =>
  C0.int .i64 l450[0]? fun x451 =>
  C0.int .i64 l450[1]? fun x452 =>
  C0.snp h449 [(.lst a0),(.agg [(iz x451),(iz x452)])] fun l453 b454 =>
  C0.int .i64 (pcall M d 16 l453) fun x455 =>
  cnd (b454 || true)
  (X8_6_0 d a0 v45 x61 v153 k57N k57R (decide (x455 < 0)) h449)
  (none)))))
theorem L8_6_s (d:Nat) (a0:List AV) (v45:AV) (x61:Int) (v153:AV) (k57N:Int→Heap→Ans) (k57R:Bool→Heap→Ans) (n:Nat) (H:Heap):L8_6 d a0 v45 x61 v153 k57N k57R (n+1) H=(C0.hop H (.fldA 0 (.v v153)) fun v400 h401 =>
 C0.hop h401 (.load false 1 (.v v400)) fun v402 h403 =>
 C0.int .i64 (some v402) fun x404 =>
 C0.hop h403 (.fldA 0 (.v v45)) fun v405 h406 =>
 C0.hop h406 (.fldA 0 (.v v405)) fun v407 h408 =>
 C0.hop h408 (.load false 1 (.v v407)) fun v409 h410 =>
 C0.int .i64 (some v409) fun x411 =>
 cnd (decide (x404 < x411))
 (X8_6_0 d a0 v45 x61 v153 k57N k57R true h410)
 (C0.hop h410 (.fldA 0 (.v v153)) fun v412 h413 =>
 C0.hop h413 (.load false 1 (.v v412)) fun v414 h415 =>
 C0.int .i64 (some v414) fun x416 =>
 C0.hop h415 (.fldA 2 (.v v45)) fun v417 h418 =>
 C0.hop h418 (.fldA 0 (.v v417)) fun v419 h420 =>
 C0.hop h420 (.load false 1 (.v v419)) fun v421 h422 =>
 C0.int .i64 (some v421) fun x423 =>
 cnd (decide (x416 > x423))
 (X8_6_0 d a0 v45 x61 v153 k57N k57R true h422)
 (C0.hop h422 (.fldA 1 (.v v153)) fun v424 h425 =>
 C0.hop h425 (.load false 1 (.v v424)) fun v426 h427 =>
 C0.int .i64 (some v426) fun x428 =>
 C0.hop h427 (.fldA 0 (.v v45)) fun v429 h430 =>
 C0.hop h430 (.fldA 1 (.v v429)) fun v431 h432 =>
 C0.hop h432 (.load false 1 (.v v431)) fun v433 h434 =>
 C0.int .i64 (some v433) fun x435 =>
 cnd (decide (x428 < x435))
 (X8_6_0 d a0 v45 x61 v153 k57N k57R true h434)
 (C0.hop h434 (.fldA 1 (.v v153)) fun v436 h437 =>
 C0.hop h437 (.load false 1 (.v v436)) fun v438 h439 =>
 C0.int .i64 (some v438) fun x440 =>
 C0.hop h439 (.fldA 2 (.v v45)) fun v441 h442 =>
 C0.hop h442 (.fldA 1 (.v v441)) fun v443 h444 =>
 C0.hop h444 (.load false 1 (.v v443)) fun v445 h446 =>
 C0.int .i64 (some v445) fun x447 =>
 cnd (decide (x440 > x447))
 (X8_6_0 d a0 v45 x61 v153 k57N k57R true h446)
 (C0.hop h446 (.load true 2 (.v v153)) fun v448 h449 =>
 C0.agg 2 (some v448) fun l450 =>
 C0.int .i64 l450[0]? fun x451 =>
 C0.int .i64 l450[1]? fun x452 =>
 C0.snp h449 [(.lst a0),(.agg [(iz x451),(iz x452)])] fun l453 b454 =>
 C0.int .i64 (pcall M d 16 l453) fun x455 =>
 cnd (b454 || true)
 (X8_6_0 d a0 v45 x61 v153 k57N k57R (decide (x455 < 0)) h449)
 (none)))))):=by kernel_rfl
theorem it8_6 (d:Nat) (a0:List AV) (b23 b24 b25:Bool) (v26 v27 v28:AV) (b29 b30:Bool) (v31 v32 v33:AV) (x40 x41 x42 x43:Int) (b44:Bool) (v45 v49:AV) (x55:Int) (k57:Ex→St→Ans) (b59:Bool) (x61:Int) (v145 v146:AV) (x151 x152:Int) (v153 v197:AV) (b198 b199:Bool) (v200 v201 v202 v203 v204 v205:AV) (b206:Bool) (v207 v248:AV) (b249 b250:Bool) (v251 v252 v253 v254 v255 v256:AV) (b257:Bool) (v258 v299:AV) (b300 b301:Bool) (v302 v303 v304 v305 v306 v307:AV) (b308:Bool) (v309 v350:AV) (b351 b352:Bool) (v353 v354 v355 v356 v357 v358:AV) (b359:Bool) (v360:AV) (k57N:Int→Heap→Ans) (k57R:Bool→Heap→Ans) (hk57N:∀ (b59:Bool) (v60:AV) (x61:Int) (v62 v63 v64 v65 v66 v67 v68 v69 v70 v71 v72 v73 v74 v75 v76 v77 v78 v79 v80 v81 v82 v83 v84 v85 v86 v87 v88 v89 v90 v91 v92 v93 v94 v95 v96 v97 v98 v99 v100 v101 v102 v103 v104 v105 v106 v107 v108 v109 v110 v111 v112 v113 v114 v115 v116 v117 v118 v119 v120 v121 v122 v123 v124 v125 v126 v127 v128 v129 v130 v131 v132 v133 v134 v135 v136 v137 v138 v139 v140 v141 v142 v143 v144 v145:AV) (H:Heap),k57 .normal ⟨[(.lst a0),tz,(bz b59),v45,(bz b44),v49,tz,v60,(bz b23),(bz b24),(bz b25),v26,v27,v28,(bz b29),(bz b30),v31,v32,v33,bf,tz,(.tup [(.agg [(iz x40),(iz x41),(iz x42),(iz x43)]),(bz b44)]),(.lst a0),(.tup [(.agg [(iz x40),(iz x41),(iz x42),(iz x43)]),(bz b44)]),(.agg [(iz x40),(iz x41),(iz x42),(iz x43)]),(bz b44),(.agg [bf,bf,bf,bf]),(.lst a0),(iz x55),(iz x61),v62,v63,v64,v65,v66,v67,v68,v69,v70,v71,v72,v73,v74,v75,v76,v77,v78,v79,v80,v81,v82,v83,v84,v85,v86,v87,v88,v89,v90,v91,v92,v93,v94,v95,v96,v97,v98,v99,v100,v101,v102,v103,v104,v105,v106,v107,v108,v109,v110,v111,v112,v113,v114,v115,v116,v117,v118,v119,v120,v121,v122,v123,v124,v125,v126,v127,v128,v129,v130,v131,v132,v133,v134,v135,v136,v137,v138,v139,v140,v141,v142,v143,v144,v145,tz,tz,tz,tz,tz,tz,tz,tz,tz,tz,tz,tz,tz,tz,tz,tz,tz,tz,tz,tz,tz,tz,tz,tz],H⟩=k57N x61 H) (hk57R:∀ (b775:Bool) (v776:AV) (x777:Int) (v778 v779:AV) (x781 x782:Int) (v783:AV) (b784 b785:Bool) (v786 v787 v788 v789 v790 v791:AV) (b792:Bool) (v793 v794:AV) (b795 b796:Bool) (v797 v798 v799 v800 v801 v802:AV) (b803:Bool) (v804 v805:AV) (b806 b807:Bool) (v808 v809 v810 v811 v812 v813:AV) (b814:Bool) (v815 v816:AV) (b817 b818:Bool) (v819 v820 v821 v822 v823 v824:AV) (b825:Bool) (v826 v827:AV) (x828:Int) (v829 v830:AV) (x831:Int) (b832 b833:Bool) (v834 v835 v836 v837 v838 v839:AV) (b840 b841:Bool) (v842 v843 v844 v845 v846 v847:AV) (b848 b849:Bool) (v850 v851 v852 v853 v854 v855:AV) (b856 b857:Bool) (v858 v859 v860 v861:AV) (b862:Bool) (v863:AV) (H:Heap),k57 .ret ⟨[(.lst a0),tz,(bz b775),v45,(bz b44),v49,tz,v776,(bz b23),(bz b24),(bz b25),v26,v27,v28,(bz b29),(bz b30),v31,v32,v33,bf,tz,(.tup [(.agg [(iz x40),(iz x41),(iz x42),(iz x43)]),(bz b44)]),(.lst a0),(.tup [(.agg [(iz x40),(iz x41),(iz x42),(iz x43)]),(bz b44)]),(.agg [(iz x40),(iz x41),(iz x42),(iz x43)]),(bz b44),(.agg [bf,bf,bf,bf]),(.lst a0),(iz x55),(iz x777),v778,v779,(.agg [(iz x781),(iz x782)]),v783,(bz b784),(bz b785),v786,v787,v788,v789,v790,v791,(bz b792),v793,v794,(bz b795),(bz b796),v797,v798,v799,v800,v801,v802,(bz b803),v804,v805,(bz b806),(bz b807),v808,v809,v810,v811,v812,v813,(bz b814),v815,v816,(bz b817),(bz b818),v819,v820,v821,v822,v823,v824,(bz b825),v826,v827,(iz x828),v829,v830,(iz x831),(bz b832),(bz b833),v834,v835,v836,v837,v838,v839,(bz b840),(bz b841),v842,v843,v844,v845,v846,v847,(bz b848),(bz b849),v850,v851,v852,v853,v854,v855,(bz b856),(bz b857),v858,v859,v860,v861,(bz b862),v863,tz,tz,tz,tz,tz,tz,tz,tz,tz,tz,tz,tz,tz,tz,tz,tz,tz,tz,tz,tz,tz,tz,tz,tz],H⟩=k57R b775 H):∀ (n:Nat) (v364 v365 v366 v367 v368 v369 v370 v371 v372 v373 v374 v375 v376 v377 v378 v379 v380 v381 v382 v383 v384 v385 v386 v387 v388 v389 v390 v391 v392 v393 v394 v395 v396 v397 v398 v399:AV) (H:Heap),C0.iter (r8R6 C0 d a0 b23 b24 b25 v26 v27 v28 b29 b30 v31 v32 v33 x40 x41 x42 x43 b44 v45 v49 x55 k57 b59 x61 v145 v146 x151 x152 v153 v197 b198 b199 v200 v201 v202 v203 v204 v205 b206 v207 v248 b249 b250 v251 v252 v253 v254 v255 v256 b257 v258 v299 b300 b301 v302 v303 v304 v305 v306 v307 b308 v309 v350 b351 b352 v353 v354 v355 v356 v357 v358 b359 v360) n ⟨[(.lst a0),tz,(bz b59),v45,(bz b44),v49,tz,v153,(bz b23),(bz b24),(bz b25),v26,v27,v28,(bz b29),(bz b30),v31,v32,v33,bf,tz,(.tup [(.agg [(iz x40),(iz x41),(iz x42),(iz x43)]),(bz b44)]),(.lst a0),(.tup [(.agg [(iz x40),(iz x41),(iz x42),(iz x43)]),(bz b44)]),(.agg [(iz x40),(iz x41),(iz x42),(iz x43)]),(bz b44),(.agg [bf,bf,bf,bf]),(.lst a0),(iz x55),(iz x61),bt,v146,(.agg [(iz x151),(iz x152)]),v197,(bz b198),(bz b199),v200,v201,v202,v203,v204,v205,(bz b206),v207,v248,(bz b249),(bz b250),v251,v252,v253,v254,v255,v256,(bz b257),v258,v299,(bz b300),(bz b301),v302,v303,v304,v305,v306,v307,(bz b308),v309,v350,(bz b351),(bz b352),v353,v354,v355,v356,v357,v358,(bz b359),v360,v364,v365,v366,v367,v368,v369,v370,v371,v372,v373,v374,v375,v376,v377,v378,v379,v380,v381,v382,v383,v384,v385,v386,v387,v388,v389,v390,v391,v392,v393,v394,v395,v396,v397,v398,v399,v145,tz,tz,tz,tz,tz,tz,tz,tz,tz,tz,tz,tz,tz,tz,tz,tz,tz,tz,tz,tz,tz,tz,tz,tz],H⟩ [2000000] [r8X6_0 C0 d a0 b23 b24 b25 v26 v27 v28 b29 b30 v31 v32 v33 x40 x41 x42 x43 b44 v45 v49 x55 k57 b59 x61 v145 v146 x151 x152 v153 v197 b198 b199 v200 v201 v202 v203 v204 v205 b206 v207 v248 b249 b250 v251 v252 v253 v254 v255 v256 b257 v258 v299 b300 b301 v302 v303 v304 v305 v306 v307 b308 v309 v350 b351 b352 v353 v354 v355 v356 v357 v358 b359 v360] (r8E6 C0 d a0 b23 b24 b25 v26 v27 v28 b29 b30 v31 v32 v33 x40 x41 x42 x43 b44 v45 v49 x55 k57 b59 x61 v145 v146 x151 x152 v153 v197 b198 b199 v200 v201 v202 v203 v204 v205 b206 v207 v248 b249 b250 v251 v252 v253 v254 v255 v256 b257 v258 v299 b300 b301 v302 v303 v304 v305 v306 v307 b308 v309 v350 b351 b352 v353 v354 v355 v356 v357 v358 b359 v360)=L8_6 d a0 v45 x61 v153 k57N k57R n H:=by
 generalize hR:r8R6 C0 d a0 b23 b24 b25 v26 v27 v28 b29 b30 v31 v32 v33 x40 x41 x42 x43 b44 v45 v49 x55 k57 b59 x61 v145 v146 x151 x152 v153 v197 b198 b199 v200 v201 v202 v203 v204 v205 b206 v207 v248 b249 b250 v251 v252 v253 v254 v255 v256 b257 v258 v299 b300 b301 v302 v303 v304 v305 v306 v307 b308 v309 v350 b351 b352 v353 v354 v355 v356 v357 v358 b359 v360=R
 intro n
 induction n with
 | zero=>intros; rfl
 | succ n ih =>
   intro v364 v365 v366 v367 v368 v369 v370 v371 v372 v373 v374 v375 v376 v377 v378 v379 v380 v381 v382 v383 v384 v385 v386 v387 v388 v389 v390 v391 v392 v393 v394 v395 v396 v397 v398 v399 H
   simp only [it_ret] at ih
   rw [it_ret,xiter_s]
   refine Eq.trans (congrFun (congrFun hR.symm _) _) ?_
   unfold r8R6
   refine Eq.trans (pl_len (by rfl)) ?_; refine yt ySs ?_; refine yt yAs ?_; refine yt ySs ?_
   simp only [kIter_n,kIter_x,kIter_r,kOut_x,kOut_r,xgo_hit,xgo_miss,ih,X8_6_0_ok d a0 b23 b24 b25 v26 v27 v28 b29 b30 v31 v32 v33 x40 x41 x42 x43 b44 v45 v49 x55 k57 b59 x61 v145 v146 x151 x152 v153 v197 b198 b199 v200 v201 v202 v203 v204 v205 b206 v207 v248 b249 b250 v251 v252 v253 v254 v255 v256 b257 v258 v299 b300 b301 v302 v303 v304 v305 v306 v307 b308 v309 v350 b351 b352 v353 v354 v355 v356 v357 v358 b359 v360 k57N k57R hk57N hk57R,E8_6_ok d a0 b23 b24 b25 v26 v27 v28 b29 b30 v31 v32 v33 x40 x41 x42 x43 b44 v45 v49 x55 k57 b59 x61 v145 v146 x151 x152 v153 v197 b198 b199 v200 v201 v202 v203 v204 v205 b206 v207 v248 b249 b250 v251 v252 v253 v254 v255 v256 b257 v258 v299 b300 b301 v302 v303 v304 v305 v306 v307 b308 v309 v350 b351 b352 v353 v354 v355 v356 v357 v358 b359 v360 k57N k57R hk57N hk57R]
   exact (L8_6_s d a0 v45 x61 v153 k57N k57R n H).symm
noncomputable def X8_5_0 (d:Nat) (a0:List AV) (v45 v49:AV) (x61:Int) (v153:AV) (k57N:Int→Heap→Ans) (k57R:Bool→Heap→Ans) (H:Heap):Ans :=
 L8_6 d a0 v45 x61 v153 k57N k57R 1 H
theorem X8_5_0_ok (d:Nat) (a0:List AV) (b23 b24 b25:Bool) (v26 v27 v28:AV) (b29 b30:Bool) (v31 v32 v33:AV) (x40 x41 x42 x43:Int) (b44:Bool) (v45 v49:AV) (x55:Int) (k57:Ex→St→Ans) (b59:Bool) (x61:Int) (v109 v110 v111 v112 v113 v114 v115 v116 v117 v118 v119 v120 v121 v122 v123 v124 v125 v126 v127 v128 v129 v130 v131 v132 v133 v134 v135 v136 v137 v138 v139 v140 v141 v142 v143 v144 v145 v146:AV) (x151 x152:Int) (v153 v197:AV) (b198 b199:Bool) (v200 v201 v202 v203 v204 v205:AV) (b206:Bool) (v207 v248:AV) (b249 b250:Bool) (v251 v252 v253 v254 v255 v256:AV) (b257:Bool) (v258 v299:AV) (b300 b301:Bool) (v302 v303 v304 v305 v306 v307:AV) (b308:Bool) (v309:AV) (k57N:Int→Heap→Ans) (k57R:Bool→Heap→Ans) (hk57N:∀ (b59:Bool) (v60:AV) (x61:Int) (v62 v63 v64 v65 v66 v67 v68 v69 v70 v71 v72 v73 v74 v75 v76 v77 v78 v79 v80 v81 v82 v83 v84 v85 v86 v87 v88 v89 v90 v91 v92 v93 v94 v95 v96 v97 v98 v99 v100 v101 v102 v103 v104 v105 v106 v107 v108 v109 v110 v111 v112 v113 v114 v115 v116 v117 v118 v119 v120 v121 v122 v123 v124 v125 v126 v127 v128 v129 v130 v131 v132 v133 v134 v135 v136 v137 v138 v139 v140 v141 v142 v143 v144 v145:AV) (H:Heap),k57 .normal ⟨[(.lst a0),tz,(bz b59),v45,(bz b44),v49,tz,v60,(bz b23),(bz b24),(bz b25),v26,v27,v28,(bz b29),(bz b30),v31,v32,v33,bf,tz,(.tup [(.agg [(iz x40),(iz x41),(iz x42),(iz x43)]),(bz b44)]),(.lst a0),(.tup [(.agg [(iz x40),(iz x41),(iz x42),(iz x43)]),(bz b44)]),(.agg [(iz x40),(iz x41),(iz x42),(iz x43)]),(bz b44),(.agg [bf,bf,bf,bf]),(.lst a0),(iz x55),(iz x61),v62,v63,v64,v65,v66,v67,v68,v69,v70,v71,v72,v73,v74,v75,v76,v77,v78,v79,v80,v81,v82,v83,v84,v85,v86,v87,v88,v89,v90,v91,v92,v93,v94,v95,v96,v97,v98,v99,v100,v101,v102,v103,v104,v105,v106,v107,v108,v109,v110,v111,v112,v113,v114,v115,v116,v117,v118,v119,v120,v121,v122,v123,v124,v125,v126,v127,v128,v129,v130,v131,v132,v133,v134,v135,v136,v137,v138,v139,v140,v141,v142,v143,v144,v145,tz,tz,tz,tz,tz,tz,tz,tz,tz,tz,tz,tz,tz,tz,tz,tz,tz,tz,tz,tz,tz,tz,tz,tz],H⟩=k57N x61 H) (hk57R:∀ (b775:Bool) (v776:AV) (x777:Int) (v778 v779:AV) (x781 x782:Int) (v783:AV) (b784 b785:Bool) (v786 v787 v788 v789 v790 v791:AV) (b792:Bool) (v793 v794:AV) (b795 b796:Bool) (v797 v798 v799 v800 v801 v802:AV) (b803:Bool) (v804 v805:AV) (b806 b807:Bool) (v808 v809 v810 v811 v812 v813:AV) (b814:Bool) (v815 v816:AV) (b817 b818:Bool) (v819 v820 v821 v822 v823 v824:AV) (b825:Bool) (v826 v827:AV) (x828:Int) (v829 v830:AV) (x831:Int) (b832 b833:Bool) (v834 v835 v836 v837 v838 v839:AV) (b840 b841:Bool) (v842 v843 v844 v845 v846 v847:AV) (b848 b849:Bool) (v850 v851 v852 v853 v854 v855:AV) (b856 b857:Bool) (v858 v859 v860 v861:AV) (b862:Bool) (v863:AV) (H:Heap),k57 .ret ⟨[(.lst a0),tz,(bz b775),v45,(bz b44),v49,tz,v776,(bz b23),(bz b24),(bz b25),v26,v27,v28,(bz b29),(bz b30),v31,v32,v33,bf,tz,(.tup [(.agg [(iz x40),(iz x41),(iz x42),(iz x43)]),(bz b44)]),(.lst a0),(.tup [(.agg [(iz x40),(iz x41),(iz x42),(iz x43)]),(bz b44)]),(.agg [(iz x40),(iz x41),(iz x42),(iz x43)]),(bz b44),(.agg [bf,bf,bf,bf]),(.lst a0),(iz x55),(iz x777),v778,v779,(.agg [(iz x781),(iz x782)]),v783,(bz b784),(bz b785),v786,v787,v788,v789,v790,v791,(bz b792),v793,v794,(bz b795),(bz b796),v797,v798,v799,v800,v801,v802,(bz b803),v804,v805,(bz b806),(bz b807),v808,v809,v810,v811,v812,v813,(bz b814),v815,v816,(bz b817),(bz b818),v819,v820,v821,v822,v823,v824,(bz b825),v826,v827,(iz x828),v829,v830,(iz x831),(bz b832),(bz b833),v834,v835,v836,v837,v838,v839,(bz b840),(bz b841),v842,v843,v844,v845,v846,v847,(bz b848),(bz b849),v850,v851,v852,v853,v854,v855,(bz b856),(bz b857),v858,v859,v860,v861,(bz b862),v863,tz,tz,tz,tz,tz,tz,tz,tz,tz,tz,tz,tz,tz,tz,tz,tz,tz,tz,tz,tz,tz,tz,tz,tz],H⟩=k57R b775 H) (v350:AV) (b351 b352:Bool) (v353 v354 v355 v356 v357 v358:AV) (b359:Bool) (v360:AV) (H:Heap):r8X5_0 C0 d a0 b23 b24 b25 v26 v27 v28 b29 b30 v31 v32 v33 x40 x41 x42 x43 b44 v45 v49 x55 k57 b59 x61 v109 v110 v111 v112 v113 v114 v115 v116 v117 v118 v119 v120 v121 v122 v123 v124 v125 v126 v127 v128 v129 v130 v131 v132 v133 v134 v135 v136 v137 v138 v139 v140 v141 v142 v143 v144 v145 v146 x151 x152 v153 v197 b198 b199 v200 v201 v202 v203 v204 v205 b206 v207 v248 b249 b250 v251 v252 v253 v254 v255 v256 b257 v258 v299 b300 b301 v302 v303 v304 v305 v306 v307 b308 v309 ⟨[(.lst a0),tz,(bz b59),v45,(bz b44),v49,tz,v153,(bz b23),(bz b24),(bz b25),v26,v27,v28,(bz b29),(bz b30),v31,v32,v33,bf,tz,(.tup [(.agg [(iz x40),(iz x41),(iz x42),(iz x43)]),(bz b44)]),(.lst a0),(.tup [(.agg [(iz x40),(iz x41),(iz x42),(iz x43)]),(bz b44)]),(.agg [(iz x40),(iz x41),(iz x42),(iz x43)]),(bz b44),(.agg [bf,bf,bf,bf]),(.lst a0),(iz x55),(iz x61),bt,v146,(.agg [(iz x151),(iz x152)]),v197,(bz b198),(bz b199),v200,v201,v202,v203,v204,v205,(bz b206),v207,v248,(bz b249),(bz b250),v251,v252,v253,v254,v255,v256,(bz b257),v258,v299,(bz b300),(bz b301),v302,v303,v304,v305,v306,v307,(bz b308),v309,v350,(bz b351),(bz b352),v353,v354,v355,v356,v357,v358,(bz b359),v360,v109,v110,v111,v112,v113,v114,v115,v116,v117,v118,v119,v120,v121,v122,v123,v124,v125,v126,v127,v128,v129,v130,v131,v132,v133,v134,v135,v136,v137,v138,v139,v140,v141,v142,v143,v144,v145,tz,tz,tz,tz,tz,tz,tz,tz,tz,tz,tz,tz,tz,tz,tz,tz,tz,tz,tz,tz,tz,tz,tz,tz],H⟩=X8_5_0 d a0 v45 v49 x61 v153 k57N k57R H:=by
 have I0:=it8_6 d a0 b23 b24 b25 v26 v27 v28 b29 b30 v31 v32 v33 x40 x41 x42 x43 b44 v45 v49 x55 k57 b59 x61 v145 v146 x151 x152 v153 v197 b198 b199 v200 v201 v202 v203 v204 v205 b206 v207 v248 b249 b250 v251 v252 v253 v254 v255 v256 b257 v258 v299 b300 b301 v302 v303 v304 v305 v306 v307 b308 v309 v350 b351 b352 v353 v354 v355 v356 v357 v358 b359 v360 k57N k57R hk57N hk57R
 try dsimp only at I0
 try dsimp only at hk57N
 try dsimp only at hk57R
 unfold r8X5_0; refine Eq.trans (pl_len (by rfl)) ?_; refine yt ySs ?_; refine yt yA ?_; (iterate 2 (refine yt yB ?_)); (iterate 6 (refine yt yA ?_)); refine yt yB ?_; refine yt yA ?_; refine yt ySs ?_
 first | (simp only [I0,hk57N,hk57R] <;> rfl) | rfl
noncomputable def E8_5 (d:Nat) (a0:List AV) (v45 v49:AV) (x61:Int) (v153:AV) (k57N:Int→Heap→Ans) (k57R:Bool→Heap→Ans) (H:Heap):Ans :=
 none
theorem E8_5_ok (d:Nat) (a0:List AV) (b23 b24 b25:Bool) (v26 v27 v28:AV) (b29 b30:Bool) (v31 v32 v33:AV) (x40 x41 x42 x43:Int) (b44:Bool) (v45 v49:AV) (x55:Int) (k57:Ex→St→Ans) (b59:Bool) (x61:Int) (v109 v110 v111 v112 v113 v114 v115 v116 v117 v118 v119 v120 v121 v122 v123 v124 v125 v126 v127 v128 v129 v130 v131 v132 v133 v134 v135 v136 v137 v138 v139 v140 v141 v142 v143 v144 v145 v146:AV) (x151 x152:Int) (v153 v197:AV) (b198 b199:Bool) (v200 v201 v202 v203 v204 v205:AV) (b206:Bool) (v207 v248:AV) (b249 b250:Bool) (v251 v252 v253 v254 v255 v256:AV) (b257:Bool) (v258 v299:AV) (b300 b301:Bool) (v302 v303 v304 v305 v306 v307:AV) (b308:Bool) (v309:AV) (k57N:Int→Heap→Ans) (k57R:Bool→Heap→Ans) (hk57N:∀ (b59:Bool) (v60:AV) (x61:Int) (v62 v63 v64 v65 v66 v67 v68 v69 v70 v71 v72 v73 v74 v75 v76 v77 v78 v79 v80 v81 v82 v83 v84 v85 v86 v87 v88 v89 v90 v91 v92 v93 v94 v95 v96 v97 v98 v99 v100 v101 v102 v103 v104 v105 v106 v107 v108 v109 v110 v111 v112 v113 v114 v115 v116 v117 v118 v119 v120 v121 v122 v123 v124 v125 v126 v127 v128 v129 v130 v131 v132 v133 v134 v135 v136 v137 v138 v139 v140 v141 v142 v143 v144 v145:AV) (H:Heap),k57 .normal ⟨[(.lst a0),tz,(bz b59),v45,(bz b44),v49,tz,v60,(bz b23),(bz b24),(bz b25),v26,v27,v28,(bz b29),(bz b30),v31,v32,v33,bf,tz,(.tup [(.agg [(iz x40),(iz x41),(iz x42),(iz x43)]),(bz b44)]),(.lst a0),(.tup [(.agg [(iz x40),(iz x41),(iz x42),(iz x43)]),(bz b44)]),(.agg [(iz x40),(iz x41),(iz x42),(iz x43)]),(bz b44),(.agg [bf,bf,bf,bf]),(.lst a0),(iz x55),(iz x61),v62,v63,v64,v65,v66,v67,v68,v69,v70,v71,v72,v73,v74,v75,v76,v77,v78,v79,v80,v81,v82,v83,v84,v85,v86,v87,v88,v89,v90,v91,v92,v93,v94,v95,v96,v97,v98,v99,v100,v101,v102,v103,v104,v105,v106,v107,v108,v109,v110,v111,v112,v113,v114,v115,v116,v117,v118,v119,v120,v121,v122,v123,v124,v125,v126,v127,v128,v129,v130,v131,v132,v133,v134,v135,v136,v137,v138,v139,v140,v141,v142,v143,v144,v145,tz,tz,tz,tz,tz,tz,tz,tz,tz,tz,tz,tz,tz,tz,tz,tz,tz,tz,tz,tz,tz,tz,tz,tz],H⟩=k57N x61 H) (hk57R:∀ (b775:Bool) (v776:AV) (x777:Int) (v778 v779:AV) (x781 x782:Int) (v783:AV) (b784 b785:Bool) (v786 v787 v788 v789 v790 v791:AV) (b792:Bool) (v793 v794:AV) (b795 b796:Bool) (v797 v798 v799 v800 v801 v802:AV) (b803:Bool) (v804 v805:AV) (b806 b807:Bool) (v808 v809 v810 v811 v812 v813:AV) (b814:Bool) (v815 v816:AV) (b817 b818:Bool) (v819 v820 v821 v822 v823 v824:AV) (b825:Bool) (v826 v827:AV) (x828:Int) (v829 v830:AV) (x831:Int) (b832 b833:Bool) (v834 v835 v836 v837 v838 v839:AV) (b840 b841:Bool) (v842 v843 v844 v845 v846 v847:AV) (b848 b849:Bool) (v850 v851 v852 v853 v854 v855:AV) (b856 b857:Bool) (v858 v859 v860 v861:AV) (b862:Bool) (v863:AV) (H:Heap),k57 .ret ⟨[(.lst a0),tz,(bz b775),v45,(bz b44),v49,tz,v776,(bz b23),(bz b24),(bz b25),v26,v27,v28,(bz b29),(bz b30),v31,v32,v33,bf,tz,(.tup [(.agg [(iz x40),(iz x41),(iz x42),(iz x43)]),(bz b44)]),(.lst a0),(.tup [(.agg [(iz x40),(iz x41),(iz x42),(iz x43)]),(bz b44)]),(.agg [(iz x40),(iz x41),(iz x42),(iz x43)]),(bz b44),(.agg [bf,bf,bf,bf]),(.lst a0),(iz x55),(iz x777),v778,v779,(.agg [(iz x781),(iz x782)]),v783,(bz b784),(bz b785),v786,v787,v788,v789,v790,v791,(bz b792),v793,v794,(bz b795),(bz b796),v797,v798,v799,v800,v801,v802,(bz b803),v804,v805,(bz b806),(bz b807),v808,v809,v810,v811,v812,v813,(bz b814),v815,v816,(bz b817),(bz b818),v819,v820,v821,v822,v823,v824,(bz b825),v826,v827,(iz x828),v829,v830,(iz x831),(bz b832),(bz b833),v834,v835,v836,v837,v838,v839,(bz b840),(bz b841),v842,v843,v844,v845,v846,v847,(bz b848),(bz b849),v850,v851,v852,v853,v854,v855,(bz b856),(bz b857),v858,v859,v860,v861,(bz b862),v863,tz,tz,tz,tz,tz,tz,tz,tz,tz,tz,tz,tz,tz,tz,tz,tz,tz,tz,tz,tz,tz,tz,tz,tz],H⟩=k57R b775 H) (v529 v530 v531 v532 v533 v534 v535 v536 v537 v538 v539:AV) (H:Heap):r8E5 C0 d a0 b23 b24 b25 v26 v27 v28 b29 b30 v31 v32 v33 x40 x41 x42 x43 b44 v45 v49 x55 k57 b59 x61 v109 v110 v111 v112 v113 v114 v115 v116 v117 v118 v119 v120 v121 v122 v123 v124 v125 v126 v127 v128 v129 v130 v131 v132 v133 v134 v135 v136 v137 v138 v139 v140 v141 v142 v143 v144 v145 v146 x151 x152 v153 v197 b198 b199 v200 v201 v202 v203 v204 v205 b206 v207 v248 b249 b250 v251 v252 v253 v254 v255 v256 b257 v258 v299 b300 b301 v302 v303 v304 v305 v306 v307 b308 v309 ⟨[(.lst a0),tz,(bz b59),v45,(bz b44),v49,tz,v153,(bz b23),(bz b24),(bz b25),v26,v27,v28,(bz b29),(bz b30),v31,v32,v33,bf,tz,(.tup [(.agg [(iz x40),(iz x41),(iz x42),(iz x43)]),(bz b44)]),(.lst a0),(.tup [(.agg [(iz x40),(iz x41),(iz x42),(iz x43)]),(bz b44)]),(.agg [(iz x40),(iz x41),(iz x42),(iz x43)]),(bz b44),(.agg [bf,bf,bf,bf]),(.lst a0),(iz x55),(iz x61),bt,v146,(.agg [(iz x151),(iz x152)]),v197,(bz b198),(bz b199),v200,v201,v202,v203,v204,v205,(bz b206),v207,v248,(bz b249),(bz b250),v251,v252,v253,v254,v255,v256,(bz b257),v258,v299,(bz b300),(bz b301),v302,v303,v304,v305,v306,v307,(bz b308),v309,v529,v530,v531,v532,v533,v534,v535,v536,v537,v538,v539,v109,v110,v111,v112,v113,v114,v115,v116,v117,v118,v119,v120,v121,v122,v123,v124,v125,v126,v127,v128,v129,v130,v131,v132,v133,v134,v135,v136,v137,v138,v139,v140,v141,v142,v143,v144,v145,tz,tz,tz,tz,tz,tz,tz,tz,tz,tz,tz,tz,tz,tz,tz,tz,tz,tz,tz,tz,tz,tz,tz,tz],H⟩=E8_5 d a0 v45 v49 x61 v153 k57N k57R H:=by
 try dsimp only at hk57N
 try dsimp only at hk57R
 unfold r8E5; refine Eq.trans (pl_len (by rfl)) ?_; refine yt ySs ?_; refine yt yAs ?_; refine yt ySs ?_
 first | (simp only [hk57N,hk57R] <;> rfl) | rfl
noncomputable def L8_5 (d:Nat) (a0:List AV) (v45 v49:AV) (x61:Int) (v153:AV) (k57N:Int→Heap→Ans) (k57R:Bool→Heap→Ans):Nat→Heap→Ans
 | 0,_=>none
 | n+1,H =>
 C0.hop H (.ixAA 4 1 (.v v49) (.v (iz 3))) fun v324 h325 =>
  C0.hop h325 (.load false 1 (.v v324)) fun v326 h327 =>
  C0.bool (some v326) fun b328 =>
  cnd b328
  (C0.hop h327 (.ixAA 4 1 (.v v49) (.v (iz 3))) fun v329 h330 =>
  C0.hop h330 (.store 1 (.v v329) (.v bt)) fun v331 h332 =>
  X8_5_0 d a0 v45 v49 x61 v153 k57N k57R h332)
  (C0.hop h327 (.fldA 1 (.v v153)) fun v333 h334 =>
  C0.hop h334 (.load false 1 (.v v333)) fun v335 h336 =>
  C0.int .i64 (some v335) fun x337 =>
  C0.hop h336 (.fldA 2 (.v v45)) fun v338 h339 =>
  C0.hop h339 (.fldA 1 (.v v338)) fun v340 h341 =>
  C0.hop h341 (.load false 1 (.v v340)) fun v342 h343 =>
  C0.int .i64 (some v342) fun x344 =>
  C0.hop h343 (.ixAA 4 1 (.v v49) (.v (iz 3))) fun v345 h346 =>
  C0.hop h346 (.store 1 (.v v345) (.v (.bool (x337 == x344)))) fun v347 h348 =>
  X8_5_0 d a0 v45 v49 x61 v153 k57N k57R h348)
theorem L8_5_s (d:Nat) (a0:List AV) (v45 v49:AV) (x61:Int) (v153:AV) (k57N:Int→Heap→Ans) (k57R:Bool→Heap→Ans) (n:Nat) (H:Heap):L8_5 d a0 v45 v49 x61 v153 k57N k57R (n+1) H=(C0.hop H (.ixAA 4 1 (.v v49) (.v (iz 3))) fun v324 h325 =>
 C0.hop h325 (.load false 1 (.v v324)) fun v326 h327 =>
 C0.bool (some v326) fun b328 =>
 cnd b328
 (C0.hop h327 (.ixAA 4 1 (.v v49) (.v (iz 3))) fun v329 h330 =>
 C0.hop h330 (.store 1 (.v v329) (.v bt)) fun v331 h332 =>
 X8_5_0 d a0 v45 v49 x61 v153 k57N k57R h332)
 (C0.hop h327 (.fldA 1 (.v v153)) fun v333 h334 =>
 C0.hop h334 (.load false 1 (.v v333)) fun v335 h336 =>
 C0.int .i64 (some v335) fun x337 =>
 C0.hop h336 (.fldA 2 (.v v45)) fun v338 h339 =>
 C0.hop h339 (.fldA 1 (.v v338)) fun v340 h341 =>
 C0.hop h341 (.load false 1 (.v v340)) fun v342 h343 =>
 C0.int .i64 (some v342) fun x344 =>
 C0.hop h343 (.ixAA 4 1 (.v v49) (.v (iz 3))) fun v345 h346 =>
 C0.hop h346 (.store 1 (.v v345) (.v (.bool (x337 == x344)))) fun v347 h348 =>
 X8_5_0 d a0 v45 v49 x61 v153 k57N k57R h348)):=by kernel_rfl
theorem it8_5 (d:Nat) (a0:List AV) (b23 b24 b25:Bool) (v26 v27 v28:AV) (b29 b30:Bool) (v31 v32 v33:AV) (x40 x41 x42 x43:Int) (b44:Bool) (v45 v49:AV) (x55:Int) (k57:Ex→St→Ans) (b59:Bool) (x61:Int) (v109 v110 v111 v112 v113 v114 v115 v116 v117 v118 v119 v120 v121 v122 v123 v124 v125 v126 v127 v128 v129 v130 v131 v132 v133 v134 v135 v136 v137 v138 v139 v140 v141 v142 v143 v144 v145 v146:AV) (x151 x152:Int) (v153 v197:AV) (b198 b199:Bool) (v200 v201 v202 v203 v204 v205:AV) (b206:Bool) (v207 v248:AV) (b249 b250:Bool) (v251 v252 v253 v254 v255 v256:AV) (b257:Bool) (v258 v299:AV) (b300 b301:Bool) (v302 v303 v304 v305 v306 v307:AV) (b308:Bool) (v309:AV) (k57N:Int→Heap→Ans) (k57R:Bool→Heap→Ans) (hk57N:∀ (b59:Bool) (v60:AV) (x61:Int) (v62 v63 v64 v65 v66 v67 v68 v69 v70 v71 v72 v73 v74 v75 v76 v77 v78 v79 v80 v81 v82 v83 v84 v85 v86 v87 v88 v89 v90 v91 v92 v93 v94 v95 v96 v97 v98 v99 v100 v101 v102 v103 v104 v105 v106 v107 v108 v109 v110 v111 v112 v113 v114 v115 v116 v117 v118 v119 v120 v121 v122 v123 v124 v125 v126 v127 v128 v129 v130 v131 v132 v133 v134 v135 v136 v137 v138 v139 v140 v141 v142 v143 v144 v145:AV) (H:Heap),k57 .normal ⟨[(.lst a0),tz,(bz b59),v45,(bz b44),v49,tz,v60,(bz b23),(bz b24),(bz b25),v26,v27,v28,(bz b29),(bz b30),v31,v32,v33,bf,tz,(.tup [(.agg [(iz x40),(iz x41),(iz x42),(iz x43)]),(bz b44)]),(.lst a0),(.tup [(.agg [(iz x40),(iz x41),(iz x42),(iz x43)]),(bz b44)]),(.agg [(iz x40),(iz x41),(iz x42),(iz x43)]),(bz b44),(.agg [bf,bf,bf,bf]),(.lst a0),(iz x55),(iz x61),v62,v63,v64,v65,v66,v67,v68,v69,v70,v71,v72,v73,v74,v75,v76,v77,v78,v79,v80,v81,v82,v83,v84,v85,v86,v87,v88,v89,v90,v91,v92,v93,v94,v95,v96,v97,v98,v99,v100,v101,v102,v103,v104,v105,v106,v107,v108,v109,v110,v111,v112,v113,v114,v115,v116,v117,v118,v119,v120,v121,v122,v123,v124,v125,v126,v127,v128,v129,v130,v131,v132,v133,v134,v135,v136,v137,v138,v139,v140,v141,v142,v143,v144,v145,tz,tz,tz,tz,tz,tz,tz,tz,tz,tz,tz,tz,tz,tz,tz,tz,tz,tz,tz,tz,tz,tz,tz,tz],H⟩=k57N x61 H) (hk57R:∀ (b775:Bool) (v776:AV) (x777:Int) (v778 v779:AV) (x781 x782:Int) (v783:AV) (b784 b785:Bool) (v786 v787 v788 v789 v790 v791:AV) (b792:Bool) (v793 v794:AV) (b795 b796:Bool) (v797 v798 v799 v800 v801 v802:AV) (b803:Bool) (v804 v805:AV) (b806 b807:Bool) (v808 v809 v810 v811 v812 v813:AV) (b814:Bool) (v815 v816:AV) (b817 b818:Bool) (v819 v820 v821 v822 v823 v824:AV) (b825:Bool) (v826 v827:AV) (x828:Int) (v829 v830:AV) (x831:Int) (b832 b833:Bool) (v834 v835 v836 v837 v838 v839:AV) (b840 b841:Bool) (v842 v843 v844 v845 v846 v847:AV) (b848 b849:Bool) (v850 v851 v852 v853 v854 v855:AV) (b856 b857:Bool) (v858 v859 v860 v861:AV) (b862:Bool) (v863:AV) (H:Heap),k57 .ret ⟨[(.lst a0),tz,(bz b775),v45,(bz b44),v49,tz,v776,(bz b23),(bz b24),(bz b25),v26,v27,v28,(bz b29),(bz b30),v31,v32,v33,bf,tz,(.tup [(.agg [(iz x40),(iz x41),(iz x42),(iz x43)]),(bz b44)]),(.lst a0),(.tup [(.agg [(iz x40),(iz x41),(iz x42),(iz x43)]),(bz b44)]),(.agg [(iz x40),(iz x41),(iz x42),(iz x43)]),(bz b44),(.agg [bf,bf,bf,bf]),(.lst a0),(iz x55),(iz x777),v778,v779,(.agg [(iz x781),(iz x782)]),v783,(bz b784),(bz b785),v786,v787,v788,v789,v790,v791,(bz b792),v793,v794,(bz b795),(bz b796),v797,v798,v799,v800,v801,v802,(bz b803),v804,v805,(bz b806),(bz b807),v808,v809,v810,v811,v812,v813,(bz b814),v815,v816,(bz b817),(bz b818),v819,v820,v821,v822,v823,v824,(bz b825),v826,v827,(iz x828),v829,v830,(iz x831),(bz b832),(bz b833),v834,v835,v836,v837,v838,v839,(bz b840),(bz b841),v842,v843,v844,v845,v846,v847,(bz b848),(bz b849),v850,v851,v852,v853,v854,v855,(bz b856),(bz b857),v858,v859,v860,v861,(bz b862),v863,tz,tz,tz,tz,tz,tz,tz,tz,tz,tz,tz,tz,tz,tz,tz,tz,tz,tz,tz,tz,tz,tz,tz,tz],H⟩=k57R b775 H):∀ (n:Nat) (v313 v314 v315 v316 v317 v318 v319 v320 v321 v322 v323:AV) (H:Heap),C0.iter (r8R5 C0 d a0 b23 b24 b25 v26 v27 v28 b29 b30 v31 v32 v33 x40 x41 x42 x43 b44 v45 v49 x55 k57 b59 x61 v109 v110 v111 v112 v113 v114 v115 v116 v117 v118 v119 v120 v121 v122 v123 v124 v125 v126 v127 v128 v129 v130 v131 v132 v133 v134 v135 v136 v137 v138 v139 v140 v141 v142 v143 v144 v145 v146 x151 x152 v153 v197 b198 b199 v200 v201 v202 v203 v204 v205 b206 v207 v248 b249 b250 v251 v252 v253 v254 v255 v256 b257 v258 v299 b300 b301 v302 v303 v304 v305 v306 v307 b308 v309) n ⟨[(.lst a0),tz,(bz b59),v45,(bz b44),v49,tz,v153,(bz b23),(bz b24),(bz b25),v26,v27,v28,(bz b29),(bz b30),v31,v32,v33,bf,tz,(.tup [(.agg [(iz x40),(iz x41),(iz x42),(iz x43)]),(bz b44)]),(.lst a0),(.tup [(.agg [(iz x40),(iz x41),(iz x42),(iz x43)]),(bz b44)]),(.agg [(iz x40),(iz x41),(iz x42),(iz x43)]),(bz b44),(.agg [bf,bf,bf,bf]),(.lst a0),(iz x55),(iz x61),bt,v146,(.agg [(iz x151),(iz x152)]),v197,(bz b198),(bz b199),v200,v201,v202,v203,v204,v205,(bz b206),v207,v248,(bz b249),(bz b250),v251,v252,v253,v254,v255,v256,(bz b257),v258,v299,(bz b300),(bz b301),v302,v303,v304,v305,v306,v307,(bz b308),v309,v313,v314,v315,v316,v317,v318,v319,v320,v321,v322,v323,v109,v110,v111,v112,v113,v114,v115,v116,v117,v118,v119,v120,v121,v122,v123,v124,v125,v126,v127,v128,v129,v130,v131,v132,v133,v134,v135,v136,v137,v138,v139,v140,v141,v142,v143,v144,v145,tz,tz,tz,tz,tz,tz,tz,tz,tz,tz,tz,tz,tz,tz,tz,tz,tz,tz,tz,tz,tz,tz,tz,tz],H⟩ [2000000] [r8X5_0 C0 d a0 b23 b24 b25 v26 v27 v28 b29 b30 v31 v32 v33 x40 x41 x42 x43 b44 v45 v49 x55 k57 b59 x61 v109 v110 v111 v112 v113 v114 v115 v116 v117 v118 v119 v120 v121 v122 v123 v124 v125 v126 v127 v128 v129 v130 v131 v132 v133 v134 v135 v136 v137 v138 v139 v140 v141 v142 v143 v144 v145 v146 x151 x152 v153 v197 b198 b199 v200 v201 v202 v203 v204 v205 b206 v207 v248 b249 b250 v251 v252 v253 v254 v255 v256 b257 v258 v299 b300 b301 v302 v303 v304 v305 v306 v307 b308 v309] (r8E5 C0 d a0 b23 b24 b25 v26 v27 v28 b29 b30 v31 v32 v33 x40 x41 x42 x43 b44 v45 v49 x55 k57 b59 x61 v109 v110 v111 v112 v113 v114 v115 v116 v117 v118 v119 v120 v121 v122 v123 v124 v125 v126 v127 v128 v129 v130 v131 v132 v133 v134 v135 v136 v137 v138 v139 v140 v141 v142 v143 v144 v145 v146 x151 x152 v153 v197 b198 b199 v200 v201 v202 v203 v204 v205 b206 v207 v248 b249 b250 v251 v252 v253 v254 v255 v256 b257 v258 v299 b300 b301 v302 v303 v304 v305 v306 v307 b308 v309)=L8_5 d a0 v45 v49 x61 v153 k57N k57R n H:=by
 generalize hR:r8R5 C0 d a0 b23 b24 b25 v26 v27 v28 b29 b30 v31 v32 v33 x40 x41 x42 x43 b44 v45 v49 x55 k57 b59 x61 v109 v110 v111 v112 v113 v114 v115 v116 v117 v118 v119 v120 v121 v122 v123 v124 v125 v126 v127 v128 v129 v130 v131 v132 v133 v134 v135 v136 v137 v138 v139 v140 v141 v142 v143 v144 v145 v146 x151 x152 v153 v197 b198 b199 v200 v201 v202 v203 v204 v205 b206 v207 v248 b249 b250 v251 v252 v253 v254 v255 v256 b257 v258 v299 b300 b301 v302 v303 v304 v305 v306 v307 b308 v309=R
 intro n
 induction n with
 | zero=>intros; rfl
 | succ n ih =>
   intro v313 v314 v315 v316 v317 v318 v319 v320 v321 v322 v323 H
   simp only [it_ret] at ih
   rw [it_ret,xiter_s]
   refine Eq.trans (congrFun (congrFun hR.symm _) _) ?_
   unfold r8R5
   refine Eq.trans (pl_len (by rfl)) ?_; refine yt ySs ?_; refine yt yAs ?_; refine yt ySs ?_
   simp only [kIter_n,kIter_x,kIter_r,kOut_x,kOut_r,xgo_hit,xgo_miss,ih,X8_5_0_ok d a0 b23 b24 b25 v26 v27 v28 b29 b30 v31 v32 v33 x40 x41 x42 x43 b44 v45 v49 x55 k57 b59 x61 v109 v110 v111 v112 v113 v114 v115 v116 v117 v118 v119 v120 v121 v122 v123 v124 v125 v126 v127 v128 v129 v130 v131 v132 v133 v134 v135 v136 v137 v138 v139 v140 v141 v142 v143 v144 v145 v146 x151 x152 v153 v197 b198 b199 v200 v201 v202 v203 v204 v205 b206 v207 v248 b249 b250 v251 v252 v253 v254 v255 v256 b257 v258 v299 b300 b301 v302 v303 v304 v305 v306 v307 b308 v309 k57N k57R hk57N hk57R,E8_5_ok d a0 b23 b24 b25 v26 v27 v28 b29 b30 v31 v32 v33 x40 x41 x42 x43 b44 v45 v49 x55 k57 b59 x61 v109 v110 v111 v112 v113 v114 v115 v116 v117 v118 v119 v120 v121 v122 v123 v124 v125 v126 v127 v128 v129 v130 v131 v132 v133 v134 v135 v136 v137 v138 v139 v140 v141 v142 v143 v144 v145 v146 x151 x152 v153 v197 b198 b199 v200 v201 v202 v203 v204 v205 b206 v207 v248 b249 b250 v251 v252 v253 v254 v255 v256 b257 v258 v299 b300 b301 v302 v303 v304 v305 v306 v307 b308 v309 k57N k57R hk57N hk57R]
   exact (L8_5_s d a0 v45 v49 x61 v153 k57N k57R n H).symm
noncomputable def X8_4_0 (d:Nat) (a0:List AV) (v45 v49:AV) (x61:Int) (v153:AV) (k57N:Int→Heap→Ans) (k57R:Bool→Heap→Ans) (H:Heap):Ans :=
 L8_5 d a0 v45 v49 x61 v153 k57N k57R 1 H
theorem X8_4_0_ok (d:Nat) (a0:List AV) (b23 b24 b25:Bool) (v26 v27 v28:AV) (b29 b30:Bool) (v31 v32 v33:AV) (x40 x41 x42 x43:Int) (b44:Bool) (v45 v49:AV) (x55:Int) (k57:Ex→St→Ans) (b59:Bool) (x61:Int) (v98 v99 v100 v101 v102 v103 v104 v105 v106 v107 v108 v109 v110 v111 v112 v113 v114 v115 v116 v117 v118 v119 v120 v121 v122 v123 v124 v125 v126 v127 v128 v129 v130 v131 v132 v133 v134 v135 v136 v137 v138 v139 v140 v141 v142 v143 v144 v145 v146:AV) (x151 x152:Int) (v153 v197:AV) (b198 b199:Bool) (v200 v201 v202 v203 v204 v205:AV) (b206:Bool) (v207 v248:AV) (b249 b250:Bool) (v251 v252 v253 v254 v255 v256:AV) (b257:Bool) (v258:AV) (k57N:Int→Heap→Ans) (k57R:Bool→Heap→Ans) (hk57N:∀ (b59:Bool) (v60:AV) (x61:Int) (v62 v63 v64 v65 v66 v67 v68 v69 v70 v71 v72 v73 v74 v75 v76 v77 v78 v79 v80 v81 v82 v83 v84 v85 v86 v87 v88 v89 v90 v91 v92 v93 v94 v95 v96 v97 v98 v99 v100 v101 v102 v103 v104 v105 v106 v107 v108 v109 v110 v111 v112 v113 v114 v115 v116 v117 v118 v119 v120 v121 v122 v123 v124 v125 v126 v127 v128 v129 v130 v131 v132 v133 v134 v135 v136 v137 v138 v139 v140 v141 v142 v143 v144 v145:AV) (H:Heap),k57 .normal ⟨[(.lst a0),tz,(bz b59),v45,(bz b44),v49,tz,v60,(bz b23),(bz b24),(bz b25),v26,v27,v28,(bz b29),(bz b30),v31,v32,v33,bf,tz,(.tup [(.agg [(iz x40),(iz x41),(iz x42),(iz x43)]),(bz b44)]),(.lst a0),(.tup [(.agg [(iz x40),(iz x41),(iz x42),(iz x43)]),(bz b44)]),(.agg [(iz x40),(iz x41),(iz x42),(iz x43)]),(bz b44),(.agg [bf,bf,bf,bf]),(.lst a0),(iz x55),(iz x61),v62,v63,v64,v65,v66,v67,v68,v69,v70,v71,v72,v73,v74,v75,v76,v77,v78,v79,v80,v81,v82,v83,v84,v85,v86,v87,v88,v89,v90,v91,v92,v93,v94,v95,v96,v97,v98,v99,v100,v101,v102,v103,v104,v105,v106,v107,v108,v109,v110,v111,v112,v113,v114,v115,v116,v117,v118,v119,v120,v121,v122,v123,v124,v125,v126,v127,v128,v129,v130,v131,v132,v133,v134,v135,v136,v137,v138,v139,v140,v141,v142,v143,v144,v145,tz,tz,tz,tz,tz,tz,tz,tz,tz,tz,tz,tz,tz,tz,tz,tz,tz,tz,tz,tz,tz,tz,tz,tz],H⟩=k57N x61 H) (hk57R:∀ (b775:Bool) (v776:AV) (x777:Int) (v778 v779:AV) (x781 x782:Int) (v783:AV) (b784 b785:Bool) (v786 v787 v788 v789 v790 v791:AV) (b792:Bool) (v793 v794:AV) (b795 b796:Bool) (v797 v798 v799 v800 v801 v802:AV) (b803:Bool) (v804 v805:AV) (b806 b807:Bool) (v808 v809 v810 v811 v812 v813:AV) (b814:Bool) (v815 v816:AV) (b817 b818:Bool) (v819 v820 v821 v822 v823 v824:AV) (b825:Bool) (v826 v827:AV) (x828:Int) (v829 v830:AV) (x831:Int) (b832 b833:Bool) (v834 v835 v836 v837 v838 v839:AV) (b840 b841:Bool) (v842 v843 v844 v845 v846 v847:AV) (b848 b849:Bool) (v850 v851 v852 v853 v854 v855:AV) (b856 b857:Bool) (v858 v859 v860 v861:AV) (b862:Bool) (v863:AV) (H:Heap),k57 .ret ⟨[(.lst a0),tz,(bz b775),v45,(bz b44),v49,tz,v776,(bz b23),(bz b24),(bz b25),v26,v27,v28,(bz b29),(bz b30),v31,v32,v33,bf,tz,(.tup [(.agg [(iz x40),(iz x41),(iz x42),(iz x43)]),(bz b44)]),(.lst a0),(.tup [(.agg [(iz x40),(iz x41),(iz x42),(iz x43)]),(bz b44)]),(.agg [(iz x40),(iz x41),(iz x42),(iz x43)]),(bz b44),(.agg [bf,bf,bf,bf]),(.lst a0),(iz x55),(iz x777),v778,v779,(.agg [(iz x781),(iz x782)]),v783,(bz b784),(bz b785),v786,v787,v788,v789,v790,v791,(bz b792),v793,v794,(bz b795),(bz b796),v797,v798,v799,v800,v801,v802,(bz b803),v804,v805,(bz b806),(bz b807),v808,v809,v810,v811,v812,v813,(bz b814),v815,v816,(bz b817),(bz b818),v819,v820,v821,v822,v823,v824,(bz b825),v826,v827,(iz x828),v829,v830,(iz x831),(bz b832),(bz b833),v834,v835,v836,v837,v838,v839,(bz b840),(bz b841),v842,v843,v844,v845,v846,v847,(bz b848),(bz b849),v850,v851,v852,v853,v854,v855,(bz b856),(bz b857),v858,v859,v860,v861,(bz b862),v863,tz,tz,tz,tz,tz,tz,tz,tz,tz,tz,tz,tz,tz,tz,tz,tz,tz,tz,tz,tz,tz,tz,tz,tz],H⟩=k57R b775 H) (v299:AV) (b300 b301:Bool) (v302 v303 v304 v305 v306 v307:AV) (b308:Bool) (v309:AV) (H:Heap):r8X4_0 C0 d a0 b23 b24 b25 v26 v27 v28 b29 b30 v31 v32 v33 x40 x41 x42 x43 b44 v45 v49 x55 k57 b59 x61 v98 v99 v100 v101 v102 v103 v104 v105 v106 v107 v108 v109 v110 v111 v112 v113 v114 v115 v116 v117 v118 v119 v120 v121 v122 v123 v124 v125 v126 v127 v128 v129 v130 v131 v132 v133 v134 v135 v136 v137 v138 v139 v140 v141 v142 v143 v144 v145 v146 x151 x152 v153 v197 b198 b199 v200 v201 v202 v203 v204 v205 b206 v207 v248 b249 b250 v251 v252 v253 v254 v255 v256 b257 v258 ⟨[(.lst a0),tz,(bz b59),v45,(bz b44),v49,tz,v153,(bz b23),(bz b24),(bz b25),v26,v27,v28,(bz b29),(bz b30),v31,v32,v33,bf,tz,(.tup [(.agg [(iz x40),(iz x41),(iz x42),(iz x43)]),(bz b44)]),(.lst a0),(.tup [(.agg [(iz x40),(iz x41),(iz x42),(iz x43)]),(bz b44)]),(.agg [(iz x40),(iz x41),(iz x42),(iz x43)]),(bz b44),(.agg [bf,bf,bf,bf]),(.lst a0),(iz x55),(iz x61),bt,v146,(.agg [(iz x151),(iz x152)]),v197,(bz b198),(bz b199),v200,v201,v202,v203,v204,v205,(bz b206),v207,v248,(bz b249),(bz b250),v251,v252,v253,v254,v255,v256,(bz b257),v258,v299,(bz b300),(bz b301),v302,v303,v304,v305,v306,v307,(bz b308),v309,v98,v99,v100,v101,v102,v103,v104,v105,v106,v107,v108,v109,v110,v111,v112,v113,v114,v115,v116,v117,v118,v119,v120,v121,v122,v123,v124,v125,v126,v127,v128,v129,v130,v131,v132,v133,v134,v135,v136,v137,v138,v139,v140,v141,v142,v143,v144,v145,tz,tz,tz,tz,tz,tz,tz,tz,tz,tz,tz,tz,tz,tz,tz,tz,tz,tz,tz,tz,tz,tz,tz,tz],H⟩=X8_4_0 d a0 v45 v49 x61 v153 k57N k57R H:=by
 have I0:=it8_5 d a0 b23 b24 b25 v26 v27 v28 b29 b30 v31 v32 v33 x40 x41 x42 x43 b44 v45 v49 x55 k57 b59 x61 v109 v110 v111 v112 v113 v114 v115 v116 v117 v118 v119 v120 v121 v122 v123 v124 v125 v126 v127 v128 v129 v130 v131 v132 v133 v134 v135 v136 v137 v138 v139 v140 v141 v142 v143 v144 v145 v146 x151 x152 v153 v197 b198 b199 v200 v201 v202 v203 v204 v205 b206 v207 v248 b249 b250 v251 v252 v253 v254 v255 v256 b257 v258 v299 b300 b301 v302 v303 v304 v305 v306 v307 b308 v309 k57N k57R hk57N hk57R
 try dsimp only at I0
 try dsimp only at hk57N
 try dsimp only at hk57R
 unfold r8X4_0; refine Eq.trans (pl_len (by rfl)) ?_; refine yt ySs ?_; refine yt yA ?_; (iterate 2 (refine yt yB ?_)); (iterate 6 (refine yt yA ?_)); refine yt yB ?_; refine yt yA ?_; refine yt ySs ?_
 first | (simp only [I0,hk57N,hk57R] <;> rfl) | rfl
noncomputable def E8_4 (d:Nat) (a0:List AV) (v45 v49:AV) (x61:Int) (v153:AV) (k57N:Int→Heap→Ans) (k57R:Bool→Heap→Ans) (H:Heap):Ans :=
 none
theorem E8_4_ok (d:Nat) (a0:List AV) (b23 b24 b25:Bool) (v26 v27 v28:AV) (b29 b30:Bool) (v31 v32 v33:AV) (x40 x41 x42 x43:Int) (b44:Bool) (v45 v49:AV) (x55:Int) (k57:Ex→St→Ans) (b59:Bool) (x61:Int) (v98 v99 v100 v101 v102 v103 v104 v105 v106 v107 v108 v109 v110 v111 v112 v113 v114 v115 v116 v117 v118 v119 v120 v121 v122 v123 v124 v125 v126 v127 v128 v129 v130 v131 v132 v133 v134 v135 v136 v137 v138 v139 v140 v141 v142 v143 v144 v145 v146:AV) (x151 x152:Int) (v153 v197:AV) (b198 b199:Bool) (v200 v201 v202 v203 v204 v205:AV) (b206:Bool) (v207 v248:AV) (b249 b250:Bool) (v251 v252 v253 v254 v255 v256:AV) (b257:Bool) (v258:AV) (k57N:Int→Heap→Ans) (k57R:Bool→Heap→Ans) (hk57N:∀ (b59:Bool) (v60:AV) (x61:Int) (v62 v63 v64 v65 v66 v67 v68 v69 v70 v71 v72 v73 v74 v75 v76 v77 v78 v79 v80 v81 v82 v83 v84 v85 v86 v87 v88 v89 v90 v91 v92 v93 v94 v95 v96 v97 v98 v99 v100 v101 v102 v103 v104 v105 v106 v107 v108 v109 v110 v111 v112 v113 v114 v115 v116 v117 v118 v119 v120 v121 v122 v123 v124 v125 v126 v127 v128 v129 v130 v131 v132 v133 v134 v135 v136 v137 v138 v139 v140 v141 v142 v143 v144 v145:AV) (H:Heap),k57 .normal ⟨[(.lst a0),tz,(bz b59),v45,(bz b44),v49,tz,v60,(bz b23),(bz b24),(bz b25),v26,v27,v28,(bz b29),(bz b30),v31,v32,v33,bf,tz,(.tup [(.agg [(iz x40),(iz x41),(iz x42),(iz x43)]),(bz b44)]),(.lst a0),(.tup [(.agg [(iz x40),(iz x41),(iz x42),(iz x43)]),(bz b44)]),(.agg [(iz x40),(iz x41),(iz x42),(iz x43)]),(bz b44),(.agg [bf,bf,bf,bf]),(.lst a0),(iz x55),(iz x61),v62,v63,v64,v65,v66,v67,v68,v69,v70,v71,v72,v73,v74,v75,v76,v77,v78,v79,v80,v81,v82,v83,v84,v85,v86,v87,v88,v89,v90,v91,v92,v93,v94,v95,v96,v97,v98,v99,v100,v101,v102,v103,v104,v105,v106,v107,v108,v109,v110,v111,v112,v113,v114,v115,v116,v117,v118,v119,v120,v121,v122,v123,v124,v125,v126,v127,v128,v129,v130,v131,v132,v133,v134,v135,v136,v137,v138,v139,v140,v141,v142,v143,v144,v145,tz,tz,tz,tz,tz,tz,tz,tz,tz,tz,tz,tz,tz,tz,tz,tz,tz,tz,tz,tz,tz,tz,tz,tz],H⟩=k57N x61 H) (hk57R:∀ (b775:Bool) (v776:AV) (x777:Int) (v778 v779:AV) (x781 x782:Int) (v783:AV) (b784 b785:Bool) (v786 v787 v788 v789 v790 v791:AV) (b792:Bool) (v793 v794:AV) (b795 b796:Bool) (v797 v798 v799 v800 v801 v802:AV) (b803:Bool) (v804 v805:AV) (b806 b807:Bool) (v808 v809 v810 v811 v812 v813:AV) (b814:Bool) (v815 v816:AV) (b817 b818:Bool) (v819 v820 v821 v822 v823 v824:AV) (b825:Bool) (v826 v827:AV) (x828:Int) (v829 v830:AV) (x831:Int) (b832 b833:Bool) (v834 v835 v836 v837 v838 v839:AV) (b840 b841:Bool) (v842 v843 v844 v845 v846 v847:AV) (b848 b849:Bool) (v850 v851 v852 v853 v854 v855:AV) (b856 b857:Bool) (v858 v859 v860 v861:AV) (b862:Bool) (v863:AV) (H:Heap),k57 .ret ⟨[(.lst a0),tz,(bz b775),v45,(bz b44),v49,tz,v776,(bz b23),(bz b24),(bz b25),v26,v27,v28,(bz b29),(bz b30),v31,v32,v33,bf,tz,(.tup [(.agg [(iz x40),(iz x41),(iz x42),(iz x43)]),(bz b44)]),(.lst a0),(.tup [(.agg [(iz x40),(iz x41),(iz x42),(iz x43)]),(bz b44)]),(.agg [(iz x40),(iz x41),(iz x42),(iz x43)]),(bz b44),(.agg [bf,bf,bf,bf]),(.lst a0),(iz x55),(iz x777),v778,v779,(.agg [(iz x781),(iz x782)]),v783,(bz b784),(bz b785),v786,v787,v788,v789,v790,v791,(bz b792),v793,v794,(bz b795),(bz b796),v797,v798,v799,v800,v801,v802,(bz b803),v804,v805,(bz b806),(bz b807),v808,v809,v810,v811,v812,v813,(bz b814),v815,v816,(bz b817),(bz b818),v819,v820,v821,v822,v823,v824,(bz b825),v826,v827,(iz x828),v829,v830,(iz x831),(bz b832),(bz b833),v834,v835,v836,v837,v838,v839,(bz b840),(bz b841),v842,v843,v844,v845,v846,v847,(bz b848),(bz b849),v850,v851,v852,v853,v854,v855,(bz b856),(bz b857),v858,v859,v860,v861,(bz b862),v863,tz,tz,tz,tz,tz,tz,tz,tz,tz,tz,tz,tz,tz,tz,tz,tz,tz,tz,tz,tz,tz,tz,tz,tz],H⟩=k57R b775 H) (v540 v541 v542 v543 v544 v545 v546 v547 v548 v549 v550:AV) (H:Heap):r8E4 C0 d a0 b23 b24 b25 v26 v27 v28 b29 b30 v31 v32 v33 x40 x41 x42 x43 b44 v45 v49 x55 k57 b59 x61 v98 v99 v100 v101 v102 v103 v104 v105 v106 v107 v108 v109 v110 v111 v112 v113 v114 v115 v116 v117 v118 v119 v120 v121 v122 v123 v124 v125 v126 v127 v128 v129 v130 v131 v132 v133 v134 v135 v136 v137 v138 v139 v140 v141 v142 v143 v144 v145 v146 x151 x152 v153 v197 b198 b199 v200 v201 v202 v203 v204 v205 b206 v207 v248 b249 b250 v251 v252 v253 v254 v255 v256 b257 v258 ⟨[(.lst a0),tz,(bz b59),v45,(bz b44),v49,tz,v153,(bz b23),(bz b24),(bz b25),v26,v27,v28,(bz b29),(bz b30),v31,v32,v33,bf,tz,(.tup [(.agg [(iz x40),(iz x41),(iz x42),(iz x43)]),(bz b44)]),(.lst a0),(.tup [(.agg [(iz x40),(iz x41),(iz x42),(iz x43)]),(bz b44)]),(.agg [(iz x40),(iz x41),(iz x42),(iz x43)]),(bz b44),(.agg [bf,bf,bf,bf]),(.lst a0),(iz x55),(iz x61),bt,v146,(.agg [(iz x151),(iz x152)]),v197,(bz b198),(bz b199),v200,v201,v202,v203,v204,v205,(bz b206),v207,v248,(bz b249),(bz b250),v251,v252,v253,v254,v255,v256,(bz b257),v258,v540,v541,v542,v543,v544,v545,v546,v547,v548,v549,v550,v98,v99,v100,v101,v102,v103,v104,v105,v106,v107,v108,v109,v110,v111,v112,v113,v114,v115,v116,v117,v118,v119,v120,v121,v122,v123,v124,v125,v126,v127,v128,v129,v130,v131,v132,v133,v134,v135,v136,v137,v138,v139,v140,v141,v142,v143,v144,v145,tz,tz,tz,tz,tz,tz,tz,tz,tz,tz,tz,tz,tz,tz,tz,tz,tz,tz,tz,tz,tz,tz,tz,tz],H⟩=E8_4 d a0 v45 v49 x61 v153 k57N k57R H:=by
 try dsimp only at hk57N
 try dsimp only at hk57R
 unfold r8E4; refine Eq.trans (pl_len (by rfl)) ?_; refine yt ySs ?_; refine yt yAs ?_; refine yt ySs ?_
 first | (simp only [hk57N,hk57R] <;> rfl) | rfl
noncomputable def L8_4 (d:Nat) (a0:List AV) (v45 v49:AV) (x61:Int) (v153:AV) (k57N:Int→Heap→Ans) (k57R:Bool→Heap→Ans):Nat→Heap→Ans
 | 0,_=>none
 | n+1,H =>
 C0.hop H (.ixAA 4 1 (.v v49) (.v (iz 2))) fun v273 h274 =>
  C0.hop h274 (.load false 1 (.v v273)) fun v275 h276 =>
  C0.bool (some v275) fun b277 =>
  cnd b277
  (C0.hop h276 (.ixAA 4 1 (.v v49) (.v (iz 2))) fun v278 h279 =>
  C0.hop h279 (.store 1 (.v v278) (.v bt)) fun v280 h281 =>
  X8_4_0 d a0 v45 v49 x61 v153 k57N k57R h281)
  (C0.hop h276 (.fldA 1 (.v v153)) fun v282 h283 =>
  C0.hop h283 (.load false 1 (.v v282)) fun v284 h285 =>
  C0.int .i64 (some v284) fun x286 =>
  C0.hop h285 (.fldA 0 (.v v45)) fun v287 h288 =>
  C0.hop h288 (.fldA 1 (.v v287)) fun v289 h290 =>
  C0.hop h290 (.load false 1 (.v v289)) fun v291 h292 =>
  C0.int .i64 (some v291) fun x293 =>
  C0.hop h292 (.ixAA 4 1 (.v v49) (.v (iz 2))) fun v294 h295 =>
  C0.hop h295 (.store 1 (.v v294) (.v (.bool (x286 == x293)))) fun v296 h297 =>
  X8_4_0 d a0 v45 v49 x61 v153 k57N k57R h297)
theorem L8_4_s (d:Nat) (a0:List AV) (v45 v49:AV) (x61:Int) (v153:AV) (k57N:Int→Heap→Ans) (k57R:Bool→Heap→Ans) (n:Nat) (H:Heap):L8_4 d a0 v45 v49 x61 v153 k57N k57R (n+1) H=(C0.hop H (.ixAA 4 1 (.v v49) (.v (iz 2))) fun v273 h274 =>
 C0.hop h274 (.load false 1 (.v v273)) fun v275 h276 =>
 C0.bool (some v275) fun b277 =>
 cnd b277
 (C0.hop h276 (.ixAA 4 1 (.v v49) (.v (iz 2))) fun v278 h279 =>
 C0.hop h279 (.store 1 (.v v278) (.v bt)) fun v280 h281 =>
 X8_4_0 d a0 v45 v49 x61 v153 k57N k57R h281)
 (C0.hop h276 (.fldA 1 (.v v153)) fun v282 h283 =>
 C0.hop h283 (.load false 1 (.v v282)) fun v284 h285 =>
 C0.int .i64 (some v284) fun x286 =>
 C0.hop h285 (.fldA 0 (.v v45)) fun v287 h288 =>
 C0.hop h288 (.fldA 1 (.v v287)) fun v289 h290 =>
 C0.hop h290 (.load false 1 (.v v289)) fun v291 h292 =>
 C0.int .i64 (some v291) fun x293 =>
 C0.hop h292 (.ixAA 4 1 (.v v49) (.v (iz 2))) fun v294 h295 =>
 C0.hop h295 (.store 1 (.v v294) (.v (.bool (x286 == x293)))) fun v296 h297 =>
 X8_4_0 d a0 v45 v49 x61 v153 k57N k57R h297)):=by kernel_rfl
theorem it8_4 (d:Nat) (a0:List AV) (b23 b24 b25:Bool) (v26 v27 v28:AV) (b29 b30:Bool) (v31 v32 v33:AV) (x40 x41 x42 x43:Int) (b44:Bool) (v45 v49:AV) (x55:Int) (k57:Ex→St→Ans) (b59:Bool) (x61:Int) (v98 v99 v100 v101 v102 v103 v104 v105 v106 v107 v108 v109 v110 v111 v112 v113 v114 v115 v116 v117 v118 v119 v120 v121 v122 v123 v124 v125 v126 v127 v128 v129 v130 v131 v132 v133 v134 v135 v136 v137 v138 v139 v140 v141 v142 v143 v144 v145 v146:AV) (x151 x152:Int) (v153 v197:AV) (b198 b199:Bool) (v200 v201 v202 v203 v204 v205:AV) (b206:Bool) (v207 v248:AV) (b249 b250:Bool) (v251 v252 v253 v254 v255 v256:AV) (b257:Bool) (v258:AV) (k57N:Int→Heap→Ans) (k57R:Bool→Heap→Ans) (hk57N:∀ (b59:Bool) (v60:AV) (x61:Int) (v62 v63 v64 v65 v66 v67 v68 v69 v70 v71 v72 v73 v74 v75 v76 v77 v78 v79 v80 v81 v82 v83 v84 v85 v86 v87 v88 v89 v90 v91 v92 v93 v94 v95 v96 v97 v98 v99 v100 v101 v102 v103 v104 v105 v106 v107 v108 v109 v110 v111 v112 v113 v114 v115 v116 v117 v118 v119 v120 v121 v122 v123 v124 v125 v126 v127 v128 v129 v130 v131 v132 v133 v134 v135 v136 v137 v138 v139 v140 v141 v142 v143 v144 v145:AV) (H:Heap),k57 .normal ⟨[(.lst a0),tz,(bz b59),v45,(bz b44),v49,tz,v60,(bz b23),(bz b24),(bz b25),v26,v27,v28,(bz b29),(bz b30),v31,v32,v33,bf,tz,(.tup [(.agg [(iz x40),(iz x41),(iz x42),(iz x43)]),(bz b44)]),(.lst a0),(.tup [(.agg [(iz x40),(iz x41),(iz x42),(iz x43)]),(bz b44)]),(.agg [(iz x40),(iz x41),(iz x42),(iz x43)]),(bz b44),(.agg [bf,bf,bf,bf]),(.lst a0),(iz x55),(iz x61),v62,v63,v64,v65,v66,v67,v68,v69,v70,v71,v72,v73,v74,v75,v76,v77,v78,v79,v80,v81,v82,v83,v84,v85,v86,v87,v88,v89,v90,v91,v92,v93,v94,v95,v96,v97,v98,v99,v100,v101,v102,v103,v104,v105,v106,v107,v108,v109,v110,v111,v112,v113,v114,v115,v116,v117,v118,v119,v120,v121,v122,v123,v124,v125,v126,v127,v128,v129,v130,v131,v132,v133,v134,v135,v136,v137,v138,v139,v140,v141,v142,v143,v144,v145,tz,tz,tz,tz,tz,tz,tz,tz,tz,tz,tz,tz,tz,tz,tz,tz,tz,tz,tz,tz,tz,tz,tz,tz],H⟩=k57N x61 H) (hk57R:∀ (b775:Bool) (v776:AV) (x777:Int) (v778 v779:AV) (x781 x782:Int) (v783:AV) (b784 b785:Bool) (v786 v787 v788 v789 v790 v791:AV) (b792:Bool) (v793 v794:AV) (b795 b796:Bool) (v797 v798 v799 v800 v801 v802:AV) (b803:Bool) (v804 v805:AV) (b806 b807:Bool) (v808 v809 v810 v811 v812 v813:AV) (b814:Bool) (v815 v816:AV) (b817 b818:Bool) (v819 v820 v821 v822 v823 v824:AV) (b825:Bool) (v826 v827:AV) (x828:Int) (v829 v830:AV) (x831:Int) (b832 b833:Bool) (v834 v835 v836 v837 v838 v839:AV) (b840 b841:Bool) (v842 v843 v844 v845 v846 v847:AV) (b848 b849:Bool) (v850 v851 v852 v853 v854 v855:AV) (b856 b857:Bool) (v858 v859 v860 v861:AV) (b862:Bool) (v863:AV) (H:Heap),k57 .ret ⟨[(.lst a0),tz,(bz b775),v45,(bz b44),v49,tz,v776,(bz b23),(bz b24),(bz b25),v26,v27,v28,(bz b29),(bz b30),v31,v32,v33,bf,tz,(.tup [(.agg [(iz x40),(iz x41),(iz x42),(iz x43)]),(bz b44)]),(.lst a0),(.tup [(.agg [(iz x40),(iz x41),(iz x42),(iz x43)]),(bz b44)]),(.agg [(iz x40),(iz x41),(iz x42),(iz x43)]),(bz b44),(.agg [bf,bf,bf,bf]),(.lst a0),(iz x55),(iz x777),v778,v779,(.agg [(iz x781),(iz x782)]),v783,(bz b784),(bz b785),v786,v787,v788,v789,v790,v791,(bz b792),v793,v794,(bz b795),(bz b796),v797,v798,v799,v800,v801,v802,(bz b803),v804,v805,(bz b806),(bz b807),v808,v809,v810,v811,v812,v813,(bz b814),v815,v816,(bz b817),(bz b818),v819,v820,v821,v822,v823,v824,(bz b825),v826,v827,(iz x828),v829,v830,(iz x831),(bz b832),(bz b833),v834,v835,v836,v837,v838,v839,(bz b840),(bz b841),v842,v843,v844,v845,v846,v847,(bz b848),(bz b849),v850,v851,v852,v853,v854,v855,(bz b856),(bz b857),v858,v859,v860,v861,(bz b862),v863,tz,tz,tz,tz,tz,tz,tz,tz,tz,tz,tz,tz,tz,tz,tz,tz,tz,tz,tz,tz,tz,tz,tz,tz],H⟩=k57R b775 H):∀ (n:Nat) (v262 v263 v264 v265 v266 v267 v268 v269 v270 v271 v272:AV) (H:Heap),C0.iter (r8R4 C0 d a0 b23 b24 b25 v26 v27 v28 b29 b30 v31 v32 v33 x40 x41 x42 x43 b44 v45 v49 x55 k57 b59 x61 v98 v99 v100 v101 v102 v103 v104 v105 v106 v107 v108 v109 v110 v111 v112 v113 v114 v115 v116 v117 v118 v119 v120 v121 v122 v123 v124 v125 v126 v127 v128 v129 v130 v131 v132 v133 v134 v135 v136 v137 v138 v139 v140 v141 v142 v143 v144 v145 v146 x151 x152 v153 v197 b198 b199 v200 v201 v202 v203 v204 v205 b206 v207 v248 b249 b250 v251 v252 v253 v254 v255 v256 b257 v258) n ⟨[(.lst a0),tz,(bz b59),v45,(bz b44),v49,tz,v153,(bz b23),(bz b24),(bz b25),v26,v27,v28,(bz b29),(bz b30),v31,v32,v33,bf,tz,(.tup [(.agg [(iz x40),(iz x41),(iz x42),(iz x43)]),(bz b44)]),(.lst a0),(.tup [(.agg [(iz x40),(iz x41),(iz x42),(iz x43)]),(bz b44)]),(.agg [(iz x40),(iz x41),(iz x42),(iz x43)]),(bz b44),(.agg [bf,bf,bf,bf]),(.lst a0),(iz x55),(iz x61),bt,v146,(.agg [(iz x151),(iz x152)]),v197,(bz b198),(bz b199),v200,v201,v202,v203,v204,v205,(bz b206),v207,v248,(bz b249),(bz b250),v251,v252,v253,v254,v255,v256,(bz b257),v258,v262,v263,v264,v265,v266,v267,v268,v269,v270,v271,v272,v98,v99,v100,v101,v102,v103,v104,v105,v106,v107,v108,v109,v110,v111,v112,v113,v114,v115,v116,v117,v118,v119,v120,v121,v122,v123,v124,v125,v126,v127,v128,v129,v130,v131,v132,v133,v134,v135,v136,v137,v138,v139,v140,v141,v142,v143,v144,v145,tz,tz,tz,tz,tz,tz,tz,tz,tz,tz,tz,tz,tz,tz,tz,tz,tz,tz,tz,tz,tz,tz,tz,tz],H⟩ [2000000] [r8X4_0 C0 d a0 b23 b24 b25 v26 v27 v28 b29 b30 v31 v32 v33 x40 x41 x42 x43 b44 v45 v49 x55 k57 b59 x61 v98 v99 v100 v101 v102 v103 v104 v105 v106 v107 v108 v109 v110 v111 v112 v113 v114 v115 v116 v117 v118 v119 v120 v121 v122 v123 v124 v125 v126 v127 v128 v129 v130 v131 v132 v133 v134 v135 v136 v137 v138 v139 v140 v141 v142 v143 v144 v145 v146 x151 x152 v153 v197 b198 b199 v200 v201 v202 v203 v204 v205 b206 v207 v248 b249 b250 v251 v252 v253 v254 v255 v256 b257 v258] (r8E4 C0 d a0 b23 b24 b25 v26 v27 v28 b29 b30 v31 v32 v33 x40 x41 x42 x43 b44 v45 v49 x55 k57 b59 x61 v98 v99 v100 v101 v102 v103 v104 v105 v106 v107 v108 v109 v110 v111 v112 v113 v114 v115 v116 v117 v118 v119 v120 v121 v122 v123 v124 v125 v126 v127 v128 v129 v130 v131 v132 v133 v134 v135 v136 v137 v138 v139 v140 v141 v142 v143 v144 v145 v146 x151 x152 v153 v197 b198 b199 v200 v201 v202 v203 v204 v205 b206 v207 v248 b249 b250 v251 v252 v253 v254 v255 v256 b257 v258)=L8_4 d a0 v45 v49 x61 v153 k57N k57R n H:=by
 generalize hR:r8R4 C0 d a0 b23 b24 b25 v26 v27 v28 b29 b30 v31 v32 v33 x40 x41 x42 x43 b44 v45 v49 x55 k57 b59 x61 v98 v99 v100 v101 v102 v103 v104 v105 v106 v107 v108 v109 v110 v111 v112 v113 v114 v115 v116 v117 v118 v119 v120 v121 v122 v123 v124 v125 v126 v127 v128 v129 v130 v131 v132 v133 v134 v135 v136 v137 v138 v139 v140 v141 v142 v143 v144 v145 v146 x151 x152 v153 v197 b198 b199 v200 v201 v202 v203 v204 v205 b206 v207 v248 b249 b250 v251 v252 v253 v254 v255 v256 b257 v258=R
 intro n
 induction n with
 | zero=>intros; rfl
 | succ n ih =>
   intro v262 v263 v264 v265 v266 v267 v268 v269 v270 v271 v272 H
   simp only [it_ret] at ih
   rw [it_ret,xiter_s]
   refine Eq.trans (congrFun (congrFun hR.symm _) _) ?_
   unfold r8R4
   refine Eq.trans (pl_len (by rfl)) ?_; refine yt ySs ?_; refine yt yAs ?_; refine yt ySs ?_
   simp only [kIter_n,kIter_x,kIter_r,kOut_x,kOut_r,xgo_hit,xgo_miss,ih,X8_4_0_ok d a0 b23 b24 b25 v26 v27 v28 b29 b30 v31 v32 v33 x40 x41 x42 x43 b44 v45 v49 x55 k57 b59 x61 v98 v99 v100 v101 v102 v103 v104 v105 v106 v107 v108 v109 v110 v111 v112 v113 v114 v115 v116 v117 v118 v119 v120 v121 v122 v123 v124 v125 v126 v127 v128 v129 v130 v131 v132 v133 v134 v135 v136 v137 v138 v139 v140 v141 v142 v143 v144 v145 v146 x151 x152 v153 v197 b198 b199 v200 v201 v202 v203 v204 v205 b206 v207 v248 b249 b250 v251 v252 v253 v254 v255 v256 b257 v258 k57N k57R hk57N hk57R,E8_4_ok d a0 b23 b24 b25 v26 v27 v28 b29 b30 v31 v32 v33 x40 x41 x42 x43 b44 v45 v49 x55 k57 b59 x61 v98 v99 v100 v101 v102 v103 v104 v105 v106 v107 v108 v109 v110 v111 v112 v113 v114 v115 v116 v117 v118 v119 v120 v121 v122 v123 v124 v125 v126 v127 v128 v129 v130 v131 v132 v133 v134 v135 v136 v137 v138 v139 v140 v141 v142 v143 v144 v145 v146 x151 x152 v153 v197 b198 b199 v200 v201 v202 v203 v204 v205 b206 v207 v248 b249 b250 v251 v252 v253 v254 v255 v256 b257 v258 k57N k57R hk57N hk57R]
   exact (L8_4_s d a0 v45 v49 x61 v153 k57N k57R n H).symm
noncomputable def X8_3_0 (d:Nat) (a0:List AV) (v45 v49:AV) (x61:Int) (v153:AV) (k57N:Int→Heap→Ans) (k57R:Bool→Heap→Ans) (H:Heap):Ans :=
 L8_4 d a0 v45 v49 x61 v153 k57N k57R 1 H
theorem X8_3_0_ok (d:Nat) (a0:List AV) (b23 b24 b25:Bool) (v26 v27 v28:AV) (b29 b30:Bool) (v31 v32 v33:AV) (x40 x41 x42 x43:Int) (b44:Bool) (v45 v49:AV) (x55:Int) (k57:Ex→St→Ans) (b59:Bool) (x61:Int) (v87 v88 v89 v90 v91 v92 v93 v94 v95 v96 v97 v98 v99 v100 v101 v102 v103 v104 v105 v106 v107 v108 v109 v110 v111 v112 v113 v114 v115 v116 v117 v118 v119 v120 v121 v122 v123 v124 v125 v126 v127 v128 v129 v130 v131 v132 v133 v134 v135 v136 v137 v138 v139 v140 v141 v142 v143 v144 v145 v146:AV) (x151 x152:Int) (v153 v197:AV) (b198 b199:Bool) (v200 v201 v202 v203 v204 v205:AV) (b206:Bool) (v207:AV) (k57N:Int→Heap→Ans) (k57R:Bool→Heap→Ans) (hk57N:∀ (b59:Bool) (v60:AV) (x61:Int) (v62 v63 v64 v65 v66 v67 v68 v69 v70 v71 v72 v73 v74 v75 v76 v77 v78 v79 v80 v81 v82 v83 v84 v85 v86 v87 v88 v89 v90 v91 v92 v93 v94 v95 v96 v97 v98 v99 v100 v101 v102 v103 v104 v105 v106 v107 v108 v109 v110 v111 v112 v113 v114 v115 v116 v117 v118 v119 v120 v121 v122 v123 v124 v125 v126 v127 v128 v129 v130 v131 v132 v133 v134 v135 v136 v137 v138 v139 v140 v141 v142 v143 v144 v145:AV) (H:Heap),k57 .normal ⟨[(.lst a0),tz,(bz b59),v45,(bz b44),v49,tz,v60,(bz b23),(bz b24),(bz b25),v26,v27,v28,(bz b29),(bz b30),v31,v32,v33,bf,tz,(.tup [(.agg [(iz x40),(iz x41),(iz x42),(iz x43)]),(bz b44)]),(.lst a0),(.tup [(.agg [(iz x40),(iz x41),(iz x42),(iz x43)]),(bz b44)]),(.agg [(iz x40),(iz x41),(iz x42),(iz x43)]),(bz b44),(.agg [bf,bf,bf,bf]),(.lst a0),(iz x55),(iz x61),v62,v63,v64,v65,v66,v67,v68,v69,v70,v71,v72,v73,v74,v75,v76,v77,v78,v79,v80,v81,v82,v83,v84,v85,v86,v87,v88,v89,v90,v91,v92,v93,v94,v95,v96,v97,v98,v99,v100,v101,v102,v103,v104,v105,v106,v107,v108,v109,v110,v111,v112,v113,v114,v115,v116,v117,v118,v119,v120,v121,v122,v123,v124,v125,v126,v127,v128,v129,v130,v131,v132,v133,v134,v135,v136,v137,v138,v139,v140,v141,v142,v143,v144,v145,tz,tz,tz,tz,tz,tz,tz,tz,tz,tz,tz,tz,tz,tz,tz,tz,tz,tz,tz,tz,tz,tz,tz,tz],H⟩=k57N x61 H) (hk57R:∀ (b775:Bool) (v776:AV) (x777:Int) (v778 v779:AV) (x781 x782:Int) (v783:AV) (b784 b785:Bool) (v786 v787 v788 v789 v790 v791:AV) (b792:Bool) (v793 v794:AV) (b795 b796:Bool) (v797 v798 v799 v800 v801 v802:AV) (b803:Bool) (v804 v805:AV) (b806 b807:Bool) (v808 v809 v810 v811 v812 v813:AV) (b814:Bool) (v815 v816:AV) (b817 b818:Bool) (v819 v820 v821 v822 v823 v824:AV) (b825:Bool) (v826 v827:AV) (x828:Int) (v829 v830:AV) (x831:Int) (b832 b833:Bool) (v834 v835 v836 v837 v838 v839:AV) (b840 b841:Bool) (v842 v843 v844 v845 v846 v847:AV) (b848 b849:Bool) (v850 v851 v852 v853 v854 v855:AV) (b856 b857:Bool) (v858 v859 v860 v861:AV) (b862:Bool) (v863:AV) (H:Heap),k57 .ret ⟨[(.lst a0),tz,(bz b775),v45,(bz b44),v49,tz,v776,(bz b23),(bz b24),(bz b25),v26,v27,v28,(bz b29),(bz b30),v31,v32,v33,bf,tz,(.tup [(.agg [(iz x40),(iz x41),(iz x42),(iz x43)]),(bz b44)]),(.lst a0),(.tup [(.agg [(iz x40),(iz x41),(iz x42),(iz x43)]),(bz b44)]),(.agg [(iz x40),(iz x41),(iz x42),(iz x43)]),(bz b44),(.agg [bf,bf,bf,bf]),(.lst a0),(iz x55),(iz x777),v778,v779,(.agg [(iz x781),(iz x782)]),v783,(bz b784),(bz b785),v786,v787,v788,v789,v790,v791,(bz b792),v793,v794,(bz b795),(bz b796),v797,v798,v799,v800,v801,v802,(bz b803),v804,v805,(bz b806),(bz b807),v808,v809,v810,v811,v812,v813,(bz b814),v815,v816,(bz b817),(bz b818),v819,v820,v821,v822,v823,v824,(bz b825),v826,v827,(iz x828),v829,v830,(iz x831),(bz b832),(bz b833),v834,v835,v836,v837,v838,v839,(bz b840),(bz b841),v842,v843,v844,v845,v846,v847,(bz b848),(bz b849),v850,v851,v852,v853,v854,v855,(bz b856),(bz b857),v858,v859,v860,v861,(bz b862),v863,tz,tz,tz,tz,tz,tz,tz,tz,tz,tz,tz,tz,tz,tz,tz,tz,tz,tz,tz,tz,tz,tz,tz,tz],H⟩=k57R b775 H) (v248:AV) (b249 b250:Bool) (v251 v252 v253 v254 v255 v256:AV) (b257:Bool) (v258:AV) (H:Heap):r8X3_0 C0 d a0 b23 b24 b25 v26 v27 v28 b29 b30 v31 v32 v33 x40 x41 x42 x43 b44 v45 v49 x55 k57 b59 x61 v87 v88 v89 v90 v91 v92 v93 v94 v95 v96 v97 v98 v99 v100 v101 v102 v103 v104 v105 v106 v107 v108 v109 v110 v111 v112 v113 v114 v115 v116 v117 v118 v119 v120 v121 v122 v123 v124 v125 v126 v127 v128 v129 v130 v131 v132 v133 v134 v135 v136 v137 v138 v139 v140 v141 v142 v143 v144 v145 v146 x151 x152 v153 v197 b198 b199 v200 v201 v202 v203 v204 v205 b206 v207 ⟨[(.lst a0),tz,(bz b59),v45,(bz b44),v49,tz,v153,(bz b23),(bz b24),(bz b25),v26,v27,v28,(bz b29),(bz b30),v31,v32,v33,bf,tz,(.tup [(.agg [(iz x40),(iz x41),(iz x42),(iz x43)]),(bz b44)]),(.lst a0),(.tup [(.agg [(iz x40),(iz x41),(iz x42),(iz x43)]),(bz b44)]),(.agg [(iz x40),(iz x41),(iz x42),(iz x43)]),(bz b44),(.agg [bf,bf,bf,bf]),(.lst a0),(iz x55),(iz x61),bt,v146,(.agg [(iz x151),(iz x152)]),v197,(bz b198),(bz b199),v200,v201,v202,v203,v204,v205,(bz b206),v207,v248,(bz b249),(bz b250),v251,v252,v253,v254,v255,v256,(bz b257),v258,v87,v88,v89,v90,v91,v92,v93,v94,v95,v96,v97,v98,v99,v100,v101,v102,v103,v104,v105,v106,v107,v108,v109,v110,v111,v112,v113,v114,v115,v116,v117,v118,v119,v120,v121,v122,v123,v124,v125,v126,v127,v128,v129,v130,v131,v132,v133,v134,v135,v136,v137,v138,v139,v140,v141,v142,v143,v144,v145,tz,tz,tz,tz,tz,tz,tz,tz,tz,tz,tz,tz,tz,tz,tz,tz,tz,tz,tz,tz,tz,tz,tz,tz],H⟩=X8_3_0 d a0 v45 v49 x61 v153 k57N k57R H:=by
 have I0:=it8_4 d a0 b23 b24 b25 v26 v27 v28 b29 b30 v31 v32 v33 x40 x41 x42 x43 b44 v45 v49 x55 k57 b59 x61 v98 v99 v100 v101 v102 v103 v104 v105 v106 v107 v108 v109 v110 v111 v112 v113 v114 v115 v116 v117 v118 v119 v120 v121 v122 v123 v124 v125 v126 v127 v128 v129 v130 v131 v132 v133 v134 v135 v136 v137 v138 v139 v140 v141 v142 v143 v144 v145 v146 x151 x152 v153 v197 b198 b199 v200 v201 v202 v203 v204 v205 b206 v207 v248 b249 b250 v251 v252 v253 v254 v255 v256 b257 v258 k57N k57R hk57N hk57R
 try dsimp only at I0
 try dsimp only at hk57N
 try dsimp only at hk57R
 unfold r8X3_0; refine Eq.trans (pl_len (by rfl)) ?_; refine yt ySs ?_; refine yt yA ?_; (iterate 2 (refine yt yB ?_)); (iterate 6 (refine yt yA ?_)); refine yt yB ?_; refine yt yA ?_; refine yt ySs ?_
 first | (simp only [I0,hk57N,hk57R] <;> rfl) | rfl
noncomputable def E8_3 (d:Nat) (a0:List AV) (v45 v49:AV) (x61:Int) (v153:AV) (k57N:Int→Heap→Ans) (k57R:Bool→Heap→Ans) (H:Heap):Ans :=
 none
theorem E8_3_ok (d:Nat) (a0:List AV) (b23 b24 b25:Bool) (v26 v27 v28:AV) (b29 b30:Bool) (v31 v32 v33:AV) (x40 x41 x42 x43:Int) (b44:Bool) (v45 v49:AV) (x55:Int) (k57:Ex→St→Ans) (b59:Bool) (x61:Int) (v87 v88 v89 v90 v91 v92 v93 v94 v95 v96 v97 v98 v99 v100 v101 v102 v103 v104 v105 v106 v107 v108 v109 v110 v111 v112 v113 v114 v115 v116 v117 v118 v119 v120 v121 v122 v123 v124 v125 v126 v127 v128 v129 v130 v131 v132 v133 v134 v135 v136 v137 v138 v139 v140 v141 v142 v143 v144 v145 v146:AV) (x151 x152:Int) (v153 v197:AV) (b198 b199:Bool) (v200 v201 v202 v203 v204 v205:AV) (b206:Bool) (v207:AV) (k57N:Int→Heap→Ans) (k57R:Bool→Heap→Ans) (hk57N:∀ (b59:Bool) (v60:AV) (x61:Int) (v62 v63 v64 v65 v66 v67 v68 v69 v70 v71 v72 v73 v74 v75 v76 v77 v78 v79 v80 v81 v82 v83 v84 v85 v86 v87 v88 v89 v90 v91 v92 v93 v94 v95 v96 v97 v98 v99 v100 v101 v102 v103 v104 v105 v106 v107 v108 v109 v110 v111 v112 v113 v114 v115 v116 v117 v118 v119 v120 v121 v122 v123 v124 v125 v126 v127 v128 v129 v130 v131 v132 v133 v134 v135 v136 v137 v138 v139 v140 v141 v142 v143 v144 v145:AV) (H:Heap),k57 .normal ⟨[(.lst a0),tz,(bz b59),v45,(bz b44),v49,tz,v60,(bz b23),(bz b24),(bz b25),v26,v27,v28,(bz b29),(bz b30),v31,v32,v33,bf,tz,(.tup [(.agg [(iz x40),(iz x41),(iz x42),(iz x43)]),(bz b44)]),(.lst a0),(.tup [(.agg [(iz x40),(iz x41),(iz x42),(iz x43)]),(bz b44)]),(.agg [(iz x40),(iz x41),(iz x42),(iz x43)]),(bz b44),(.agg [bf,bf,bf,bf]),(.lst a0),(iz x55),(iz x61),v62,v63,v64,v65,v66,v67,v68,v69,v70,v71,v72,v73,v74,v75,v76,v77,v78,v79,v80,v81,v82,v83,v84,v85,v86,v87,v88,v89,v90,v91,v92,v93,v94,v95,v96,v97,v98,v99,v100,v101,v102,v103,v104,v105,v106,v107,v108,v109,v110,v111,v112,v113,v114,v115,v116,v117,v118,v119,v120,v121,v122,v123,v124,v125,v126,v127,v128,v129,v130,v131,v132,v133,v134,v135,v136,v137,v138,v139,v140,v141,v142,v143,v144,v145,tz,tz,tz,tz,tz,tz,tz,tz,tz,tz,tz,tz,tz,tz,tz,tz,tz,tz,tz,tz,tz,tz,tz,tz],H⟩=k57N x61 H) (hk57R:∀ (b775:Bool) (v776:AV) (x777:Int) (v778 v779:AV) (x781 x782:Int) (v783:AV) (b784 b785:Bool) (v786 v787 v788 v789 v790 v791:AV) (b792:Bool) (v793 v794:AV) (b795 b796:Bool) (v797 v798 v799 v800 v801 v802:AV) (b803:Bool) (v804 v805:AV) (b806 b807:Bool) (v808 v809 v810 v811 v812 v813:AV) (b814:Bool) (v815 v816:AV) (b817 b818:Bool) (v819 v820 v821 v822 v823 v824:AV) (b825:Bool) (v826 v827:AV) (x828:Int) (v829 v830:AV) (x831:Int) (b832 b833:Bool) (v834 v835 v836 v837 v838 v839:AV) (b840 b841:Bool) (v842 v843 v844 v845 v846 v847:AV) (b848 b849:Bool) (v850 v851 v852 v853 v854 v855:AV) (b856 b857:Bool) (v858 v859 v860 v861:AV) (b862:Bool) (v863:AV) (H:Heap),k57 .ret ⟨[(.lst a0),tz,(bz b775),v45,(bz b44),v49,tz,v776,(bz b23),(bz b24),(bz b25),v26,v27,v28,(bz b29),(bz b30),v31,v32,v33,bf,tz,(.tup [(.agg [(iz x40),(iz x41),(iz x42),(iz x43)]),(bz b44)]),(.lst a0),(.tup [(.agg [(iz x40),(iz x41),(iz x42),(iz x43)]),(bz b44)]),(.agg [(iz x40),(iz x41),(iz x42),(iz x43)]),(bz b44),(.agg [bf,bf,bf,bf]),(.lst a0),(iz x55),(iz x777),v778,v779,(.agg [(iz x781),(iz x782)]),v783,(bz b784),(bz b785),v786,v787,v788,v789,v790,v791,(bz b792),v793,v794,(bz b795),(bz b796),v797,v798,v799,v800,v801,v802,(bz b803),v804,v805,(bz b806),(bz b807),v808,v809,v810,v811,v812,v813,(bz b814),v815,v816,(bz b817),(bz b818),v819,v820,v821,v822,v823,v824,(bz b825),v826,v827,(iz x828),v829,v830,(iz x831),(bz b832),(bz b833),v834,v835,v836,v837,v838,v839,(bz b840),(bz b841),v842,v843,v844,v845,v846,v847,(bz b848),(bz b849),v850,v851,v852,v853,v854,v855,(bz b856),(bz b857),v858,v859,v860,v861,(bz b862),v863,tz,tz,tz,tz,tz,tz,tz,tz,tz,tz,tz,tz,tz,tz,tz,tz,tz,tz,tz,tz,tz,tz,tz,tz],H⟩=k57R b775 H) (v551 v552 v553 v554 v555 v556 v557 v558 v559 v560 v561:AV) (H:Heap):r8E3 C0 d a0 b23 b24 b25 v26 v27 v28 b29 b30 v31 v32 v33 x40 x41 x42 x43 b44 v45 v49 x55 k57 b59 x61 v87 v88 v89 v90 v91 v92 v93 v94 v95 v96 v97 v98 v99 v100 v101 v102 v103 v104 v105 v106 v107 v108 v109 v110 v111 v112 v113 v114 v115 v116 v117 v118 v119 v120 v121 v122 v123 v124 v125 v126 v127 v128 v129 v130 v131 v132 v133 v134 v135 v136 v137 v138 v139 v140 v141 v142 v143 v144 v145 v146 x151 x152 v153 v197 b198 b199 v200 v201 v202 v203 v204 v205 b206 v207 ⟨[(.lst a0),tz,(bz b59),v45,(bz b44),v49,tz,v153,(bz b23),(bz b24),(bz b25),v26,v27,v28,(bz b29),(bz b30),v31,v32,v33,bf,tz,(.tup [(.agg [(iz x40),(iz x41),(iz x42),(iz x43)]),(bz b44)]),(.lst a0),(.tup [(.agg [(iz x40),(iz x41),(iz x42),(iz x43)]),(bz b44)]),(.agg [(iz x40),(iz x41),(iz x42),(iz x43)]),(bz b44),(.agg [bf,bf,bf,bf]),(.lst a0),(iz x55),(iz x61),bt,v146,(.agg [(iz x151),(iz x152)]),v197,(bz b198),(bz b199),v200,v201,v202,v203,v204,v205,(bz b206),v207,v551,v552,v553,v554,v555,v556,v557,v558,v559,v560,v561,v87,v88,v89,v90,v91,v92,v93,v94,v95,v96,v97,v98,v99,v100,v101,v102,v103,v104,v105,v106,v107,v108,v109,v110,v111,v112,v113,v114,v115,v116,v117,v118,v119,v120,v121,v122,v123,v124,v125,v126,v127,v128,v129,v130,v131,v132,v133,v134,v135,v136,v137,v138,v139,v140,v141,v142,v143,v144,v145,tz,tz,tz,tz,tz,tz,tz,tz,tz,tz,tz,tz,tz,tz,tz,tz,tz,tz,tz,tz,tz,tz,tz,tz],H⟩=E8_3 d a0 v45 v49 x61 v153 k57N k57R H:=by
 try dsimp only at hk57N
 try dsimp only at hk57R
 unfold r8E3; refine Eq.trans (pl_len (by rfl)) ?_; refine yt ySs ?_; refine yt yAs ?_; refine yt ySs ?_
 first | (simp only [hk57N,hk57R] <;> rfl) | rfl
noncomputable def L8_3 (d:Nat) (a0:List AV) (v45 v49:AV) (x61:Int) (v153:AV) (k57N:Int→Heap→Ans) (k57R:Bool→Heap→Ans):Nat→Heap→Ans
 | 0,_=>none
 | n+1,H =>
 C0.hop H (.ixAA 4 1 (.v v49) (.v (iz 1))) fun v222 h223 =>
  C0.hop h223 (.load false 1 (.v v222)) fun v224 h225 =>
  C0.bool (some v224) fun b226 =>
  cnd b226
  (C0.hop h225 (.ixAA 4 1 (.v v49) (.v (iz 1))) fun v227 h228 =>
  C0.hop h228 (.store 1 (.v v227) (.v bt)) fun v229 h230 =>
  X8_3_0 d a0 v45 v49 x61 v153 k57N k57R h230)
  (C0.hop h225 (.fldA 0 (.v v153)) fun v231 h232 =>
  C0.hop h232 (.load false 1 (.v v231)) fun v233 h234 =>
  C0.int .i64 (some v233) fun x235 =>
  C0.hop h234 (.fldA 2 (.v v45)) fun v236 h237 =>
  C0.hop h237 (.fldA 0 (.v v236)) fun v238 h239 =>
  C0.hop h239 (.load false 1 (.v v238)) fun v240 h241 =>
  C0.int .i64 (some v240) fun x242 =>
  C0.hop h241 (.ixAA 4 1 (.v v49) (.v (iz 1))) fun v243 h244 =>
  C0.hop h244 (.store 1 (.v v243) (.v (.bool (x235 == x242)))) fun v245 h246 =>
  X8_3_0 d a0 v45 v49 x61 v153 k57N k57R h246)
theorem L8_3_s (d:Nat) (a0:List AV) (v45 v49:AV) (x61:Int) (v153:AV) (k57N:Int→Heap→Ans) (k57R:Bool→Heap→Ans) (n:Nat) (H:Heap):L8_3 d a0 v45 v49 x61 v153 k57N k57R (n+1) H=(C0.hop H (.ixAA 4 1 (.v v49) (.v (iz 1))) fun v222 h223 =>
 C0.hop h223 (.load false 1 (.v v222)) fun v224 h225 =>
 C0.bool (some v224) fun b226 =>
 cnd b226
 (C0.hop h225 (.ixAA 4 1 (.v v49) (.v (iz 1))) fun v227 h228 =>
 C0.hop h228 (.store 1 (.v v227) (.v bt)) fun v229 h230 =>
 X8_3_0 d a0 v45 v49 x61 v153 k57N k57R h230)
 (C0.hop h225 (.fldA 0 (.v v153)) fun v231 h232 =>
 C0.hop h232 (.load false 1 (.v v231)) fun v233 h234 =>
 C0.int .i64 (some v233) fun x235 =>
 C0.hop h234 (.fldA 2 (.v v45)) fun v236 h237 =>
 C0.hop h237 (.fldA 0 (.v v236)) fun v238 h239 =>
 C0.hop h239 (.load false 1 (.v v238)) fun v240 h241 =>
 C0.int .i64 (some v240) fun x242 =>
 C0.hop h241 (.ixAA 4 1 (.v v49) (.v (iz 1))) fun v243 h244 =>
 C0.hop h244 (.store 1 (.v v243) (.v (.bool (x235 == x242)))) fun v245 h246 =>
 X8_3_0 d a0 v45 v49 x61 v153 k57N k57R h246)):=by kernel_rfl
theorem it8_3 (d:Nat) (a0:List AV) (b23 b24 b25:Bool) (v26 v27 v28:AV) (b29 b30:Bool) (v31 v32 v33:AV) (x40 x41 x42 x43:Int) (b44:Bool) (v45 v49:AV) (x55:Int) (k57:Ex→St→Ans) (b59:Bool) (x61:Int) (v87 v88 v89 v90 v91 v92 v93 v94 v95 v96 v97 v98 v99 v100 v101 v102 v103 v104 v105 v106 v107 v108 v109 v110 v111 v112 v113 v114 v115 v116 v117 v118 v119 v120 v121 v122 v123 v124 v125 v126 v127 v128 v129 v130 v131 v132 v133 v134 v135 v136 v137 v138 v139 v140 v141 v142 v143 v144 v145 v146:AV) (x151 x152:Int) (v153 v197:AV) (b198 b199:Bool) (v200 v201 v202 v203 v204 v205:AV) (b206:Bool) (v207:AV) (k57N:Int→Heap→Ans) (k57R:Bool→Heap→Ans) (hk57N:∀ (b59:Bool) (v60:AV) (x61:Int) (v62 v63 v64 v65 v66 v67 v68 v69 v70 v71 v72 v73 v74 v75 v76 v77 v78 v79 v80 v81 v82 v83 v84 v85 v86 v87 v88 v89 v90 v91 v92 v93 v94 v95 v96 v97 v98 v99 v100 v101 v102 v103 v104 v105 v106 v107 v108 v109 v110 v111 v112 v113 v114 v115 v116 v117 v118 v119 v120 v121 v122 v123 v124 v125 v126 v127 v128 v129 v130 v131 v132 v133 v134 v135 v136 v137 v138 v139 v140 v141 v142 v143 v144 v145:AV) (H:Heap),k57 .normal ⟨[(.lst a0),tz,(bz b59),v45,(bz b44),v49,tz,v60,(bz b23),(bz b24),(bz b25),v26,v27,v28,(bz b29),(bz b30),v31,v32,v33,bf,tz,(.tup [(.agg [(iz x40),(iz x41),(iz x42),(iz x43)]),(bz b44)]),(.lst a0),(.tup [(.agg [(iz x40),(iz x41),(iz x42),(iz x43)]),(bz b44)]),(.agg [(iz x40),(iz x41),(iz x42),(iz x43)]),(bz b44),(.agg [bf,bf,bf,bf]),(.lst a0),(iz x55),(iz x61),v62,v63,v64,v65,v66,v67,v68,v69,v70,v71,v72,v73,v74,v75,v76,v77,v78,v79,v80,v81,v82,v83,v84,v85,v86,v87,v88,v89,v90,v91,v92,v93,v94,v95,v96,v97,v98,v99,v100,v101,v102,v103,v104,v105,v106,v107,v108,v109,v110,v111,v112,v113,v114,v115,v116,v117,v118,v119,v120,v121,v122,v123,v124,v125,v126,v127,v128,v129,v130,v131,v132,v133,v134,v135,v136,v137,v138,v139,v140,v141,v142,v143,v144,v145,tz,tz,tz,tz,tz,tz,tz,tz,tz,tz,tz,tz,tz,tz,tz,tz,tz,tz,tz,tz,tz,tz,tz,tz],H⟩=k57N x61 H) (hk57R:∀ (b775:Bool) (v776:AV) (x777:Int) (v778 v779:AV) (x781 x782:Int) (v783:AV) (b784 b785:Bool) (v786 v787 v788 v789 v790 v791:AV) (b792:Bool) (v793 v794:AV) (b795 b796:Bool) (v797 v798 v799 v800 v801 v802:AV) (b803:Bool) (v804 v805:AV) (b806 b807:Bool) (v808 v809 v810 v811 v812 v813:AV) (b814:Bool) (v815 v816:AV) (b817 b818:Bool) (v819 v820 v821 v822 v823 v824:AV) (b825:Bool) (v826 v827:AV) (x828:Int) (v829 v830:AV) (x831:Int) (b832 b833:Bool) (v834 v835 v836 v837 v838 v839:AV) (b840 b841:Bool) (v842 v843 v844 v845 v846 v847:AV) (b848 b849:Bool) (v850 v851 v852 v853 v854 v855:AV) (b856 b857:Bool) (v858 v859 v860 v861:AV) (b862:Bool) (v863:AV) (H:Heap),k57 .ret ⟨[(.lst a0),tz,(bz b775),v45,(bz b44),v49,tz,v776,(bz b23),(bz b24),(bz b25),v26,v27,v28,(bz b29),(bz b30),v31,v32,v33,bf,tz,(.tup [(.agg [(iz x40),(iz x41),(iz x42),(iz x43)]),(bz b44)]),(.lst a0),(.tup [(.agg [(iz x40),(iz x41),(iz x42),(iz x43)]),(bz b44)]),(.agg [(iz x40),(iz x41),(iz x42),(iz x43)]),(bz b44),(.agg [bf,bf,bf,bf]),(.lst a0),(iz x55),(iz x777),v778,v779,(.agg [(iz x781),(iz x782)]),v783,(bz b784),(bz b785),v786,v787,v788,v789,v790,v791,(bz b792),v793,v794,(bz b795),(bz b796),v797,v798,v799,v800,v801,v802,(bz b803),v804,v805,(bz b806),(bz b807),v808,v809,v810,v811,v812,v813,(bz b814),v815,v816,(bz b817),(bz b818),v819,v820,v821,v822,v823,v824,(bz b825),v826,v827,(iz x828),v829,v830,(iz x831),(bz b832),(bz b833),v834,v835,v836,v837,v838,v839,(bz b840),(bz b841),v842,v843,v844,v845,v846,v847,(bz b848),(bz b849),v850,v851,v852,v853,v854,v855,(bz b856),(bz b857),v858,v859,v860,v861,(bz b862),v863,tz,tz,tz,tz,tz,tz,tz,tz,tz,tz,tz,tz,tz,tz,tz,tz,tz,tz,tz,tz,tz,tz,tz,tz],H⟩=k57R b775 H):∀ (n:Nat) (v211 v212 v213 v214 v215 v216 v217 v218 v219 v220 v221:AV) (H:Heap),C0.iter (r8R3 C0 d a0 b23 b24 b25 v26 v27 v28 b29 b30 v31 v32 v33 x40 x41 x42 x43 b44 v45 v49 x55 k57 b59 x61 v87 v88 v89 v90 v91 v92 v93 v94 v95 v96 v97 v98 v99 v100 v101 v102 v103 v104 v105 v106 v107 v108 v109 v110 v111 v112 v113 v114 v115 v116 v117 v118 v119 v120 v121 v122 v123 v124 v125 v126 v127 v128 v129 v130 v131 v132 v133 v134 v135 v136 v137 v138 v139 v140 v141 v142 v143 v144 v145 v146 x151 x152 v153 v197 b198 b199 v200 v201 v202 v203 v204 v205 b206 v207) n ⟨[(.lst a0),tz,(bz b59),v45,(bz b44),v49,tz,v153,(bz b23),(bz b24),(bz b25),v26,v27,v28,(bz b29),(bz b30),v31,v32,v33,bf,tz,(.tup [(.agg [(iz x40),(iz x41),(iz x42),(iz x43)]),(bz b44)]),(.lst a0),(.tup [(.agg [(iz x40),(iz x41),(iz x42),(iz x43)]),(bz b44)]),(.agg [(iz x40),(iz x41),(iz x42),(iz x43)]),(bz b44),(.agg [bf,bf,bf,bf]),(.lst a0),(iz x55),(iz x61),bt,v146,(.agg [(iz x151),(iz x152)]),v197,(bz b198),(bz b199),v200,v201,v202,v203,v204,v205,(bz b206),v207,v211,v212,v213,v214,v215,v216,v217,v218,v219,v220,v221,v87,v88,v89,v90,v91,v92,v93,v94,v95,v96,v97,v98,v99,v100,v101,v102,v103,v104,v105,v106,v107,v108,v109,v110,v111,v112,v113,v114,v115,v116,v117,v118,v119,v120,v121,v122,v123,v124,v125,v126,v127,v128,v129,v130,v131,v132,v133,v134,v135,v136,v137,v138,v139,v140,v141,v142,v143,v144,v145,tz,tz,tz,tz,tz,tz,tz,tz,tz,tz,tz,tz,tz,tz,tz,tz,tz,tz,tz,tz,tz,tz,tz,tz],H⟩ [2000000] [r8X3_0 C0 d a0 b23 b24 b25 v26 v27 v28 b29 b30 v31 v32 v33 x40 x41 x42 x43 b44 v45 v49 x55 k57 b59 x61 v87 v88 v89 v90 v91 v92 v93 v94 v95 v96 v97 v98 v99 v100 v101 v102 v103 v104 v105 v106 v107 v108 v109 v110 v111 v112 v113 v114 v115 v116 v117 v118 v119 v120 v121 v122 v123 v124 v125 v126 v127 v128 v129 v130 v131 v132 v133 v134 v135 v136 v137 v138 v139 v140 v141 v142 v143 v144 v145 v146 x151 x152 v153 v197 b198 b199 v200 v201 v202 v203 v204 v205 b206 v207] (r8E3 C0 d a0 b23 b24 b25 v26 v27 v28 b29 b30 v31 v32 v33 x40 x41 x42 x43 b44 v45 v49 x55 k57 b59 x61 v87 v88 v89 v90 v91 v92 v93 v94 v95 v96 v97 v98 v99 v100 v101 v102 v103 v104 v105 v106 v107 v108 v109 v110 v111 v112 v113 v114 v115 v116 v117 v118 v119 v120 v121 v122 v123 v124 v125 v126 v127 v128 v129 v130 v131 v132 v133 v134 v135 v136 v137 v138 v139 v140 v141 v142 v143 v144 v145 v146 x151 x152 v153 v197 b198 b199 v200 v201 v202 v203 v204 v205 b206 v207)=L8_3 d a0 v45 v49 x61 v153 k57N k57R n H:=by
 generalize hR:r8R3 C0 d a0 b23 b24 b25 v26 v27 v28 b29 b30 v31 v32 v33 x40 x41 x42 x43 b44 v45 v49 x55 k57 b59 x61 v87 v88 v89 v90 v91 v92 v93 v94 v95 v96 v97 v98 v99 v100 v101 v102 v103 v104 v105 v106 v107 v108 v109 v110 v111 v112 v113 v114 v115 v116 v117 v118 v119 v120 v121 v122 v123 v124 v125 v126 v127 v128 v129 v130 v131 v132 v133 v134 v135 v136 v137 v138 v139 v140 v141 v142 v143 v144 v145 v146 x151 x152 v153 v197 b198 b199 v200 v201 v202 v203 v204 v205 b206 v207=R
 intro n
 induction n with
 | zero=>intros; rfl
 | succ n ih =>
   intro v211 v212 v213 v214 v215 v216 v217 v218 v219 v220 v221 H
   simp only [it_ret] at ih
   rw [it_ret,xiter_s]
   refine Eq.trans (congrFun (congrFun hR.symm _) _) ?_
   unfold r8R3
   refine Eq.trans (pl_len (by rfl)) ?_; refine yt ySs ?_; refine yt yAs ?_; refine yt ySs ?_
   simp only [kIter_n,kIter_x,kIter_r,kOut_x,kOut_r,xgo_hit,xgo_miss,ih,X8_3_0_ok d a0 b23 b24 b25 v26 v27 v28 b29 b30 v31 v32 v33 x40 x41 x42 x43 b44 v45 v49 x55 k57 b59 x61 v87 v88 v89 v90 v91 v92 v93 v94 v95 v96 v97 v98 v99 v100 v101 v102 v103 v104 v105 v106 v107 v108 v109 v110 v111 v112 v113 v114 v115 v116 v117 v118 v119 v120 v121 v122 v123 v124 v125 v126 v127 v128 v129 v130 v131 v132 v133 v134 v135 v136 v137 v138 v139 v140 v141 v142 v143 v144 v145 v146 x151 x152 v153 v197 b198 b199 v200 v201 v202 v203 v204 v205 b206 v207 k57N k57R hk57N hk57R,E8_3_ok d a0 b23 b24 b25 v26 v27 v28 b29 b30 v31 v32 v33 x40 x41 x42 x43 b44 v45 v49 x55 k57 b59 x61 v87 v88 v89 v90 v91 v92 v93 v94 v95 v96 v97 v98 v99 v100 v101 v102 v103 v104 v105 v106 v107 v108 v109 v110 v111 v112 v113 v114 v115 v116 v117 v118 v119 v120 v121 v122 v123 v124 v125 v126 v127 v128 v129 v130 v131 v132 v133 v134 v135 v136 v137 v138 v139 v140 v141 v142 v143 v144 v145 v146 x151 x152 v153 v197 b198 b199 v200 v201 v202 v203 v204 v205 b206 v207 k57N k57R hk57N hk57R]
   exact (L8_3_s d a0 v45 v49 x61 v153 k57N k57R n H).symm
noncomputable def X8_2_0 (d:Nat) (a0:List AV) (v45 v49:AV) (x61:Int) (v153:AV) (k57N:Int→Heap→Ans) (k57R:Bool→Heap→Ans) (H:Heap):Ans :=
 L8_3 d a0 v45 v49 x61 v153 k57N k57R 1 H
theorem X8_2_0_ok (d:Nat) (a0:List AV) (b23 b24 b25:Bool) (v26 v27 v28:AV) (b29 b30:Bool) (v31 v32 v33:AV) (x40 x41 x42 x43:Int) (b44:Bool) (v45 v49:AV) (x55:Int) (k57:Ex→St→Ans) (b59:Bool) (x61:Int) (v76 v77 v78 v79 v80 v81 v82 v83 v84 v85 v86 v87 v88 v89 v90 v91 v92 v93 v94 v95 v96 v97 v98 v99 v100 v101 v102 v103 v104 v105 v106 v107 v108 v109 v110 v111 v112 v113 v114 v115 v116 v117 v118 v119 v120 v121 v122 v123 v124 v125 v126 v127 v128 v129 v130 v131 v132 v133 v134 v135 v136 v137 v138 v139 v140 v141 v142 v143 v144 v145 v146:AV) (x151 x152:Int) (v153:AV) (k57N:Int→Heap→Ans) (k57R:Bool→Heap→Ans) (hk57N:∀ (b59:Bool) (v60:AV) (x61:Int) (v62 v63 v64 v65 v66 v67 v68 v69 v70 v71 v72 v73 v74 v75 v76 v77 v78 v79 v80 v81 v82 v83 v84 v85 v86 v87 v88 v89 v90 v91 v92 v93 v94 v95 v96 v97 v98 v99 v100 v101 v102 v103 v104 v105 v106 v107 v108 v109 v110 v111 v112 v113 v114 v115 v116 v117 v118 v119 v120 v121 v122 v123 v124 v125 v126 v127 v128 v129 v130 v131 v132 v133 v134 v135 v136 v137 v138 v139 v140 v141 v142 v143 v144 v145:AV) (H:Heap),k57 .normal ⟨[(.lst a0),tz,(bz b59),v45,(bz b44),v49,tz,v60,(bz b23),(bz b24),(bz b25),v26,v27,v28,(bz b29),(bz b30),v31,v32,v33,bf,tz,(.tup [(.agg [(iz x40),(iz x41),(iz x42),(iz x43)]),(bz b44)]),(.lst a0),(.tup [(.agg [(iz x40),(iz x41),(iz x42),(iz x43)]),(bz b44)]),(.agg [(iz x40),(iz x41),(iz x42),(iz x43)]),(bz b44),(.agg [bf,bf,bf,bf]),(.lst a0),(iz x55),(iz x61),v62,v63,v64,v65,v66,v67,v68,v69,v70,v71,v72,v73,v74,v75,v76,v77,v78,v79,v80,v81,v82,v83,v84,v85,v86,v87,v88,v89,v90,v91,v92,v93,v94,v95,v96,v97,v98,v99,v100,v101,v102,v103,v104,v105,v106,v107,v108,v109,v110,v111,v112,v113,v114,v115,v116,v117,v118,v119,v120,v121,v122,v123,v124,v125,v126,v127,v128,v129,v130,v131,v132,v133,v134,v135,v136,v137,v138,v139,v140,v141,v142,v143,v144,v145,tz,tz,tz,tz,tz,tz,tz,tz,tz,tz,tz,tz,tz,tz,tz,tz,tz,tz,tz,tz,tz,tz,tz,tz],H⟩=k57N x61 H) (hk57R:∀ (b775:Bool) (v776:AV) (x777:Int) (v778 v779:AV) (x781 x782:Int) (v783:AV) (b784 b785:Bool) (v786 v787 v788 v789 v790 v791:AV) (b792:Bool) (v793 v794:AV) (b795 b796:Bool) (v797 v798 v799 v800 v801 v802:AV) (b803:Bool) (v804 v805:AV) (b806 b807:Bool) (v808 v809 v810 v811 v812 v813:AV) (b814:Bool) (v815 v816:AV) (b817 b818:Bool) (v819 v820 v821 v822 v823 v824:AV) (b825:Bool) (v826 v827:AV) (x828:Int) (v829 v830:AV) (x831:Int) (b832 b833:Bool) (v834 v835 v836 v837 v838 v839:AV) (b840 b841:Bool) (v842 v843 v844 v845 v846 v847:AV) (b848 b849:Bool) (v850 v851 v852 v853 v854 v855:AV) (b856 b857:Bool) (v858 v859 v860 v861:AV) (b862:Bool) (v863:AV) (H:Heap),k57 .ret ⟨[(.lst a0),tz,(bz b775),v45,(bz b44),v49,tz,v776,(bz b23),(bz b24),(bz b25),v26,v27,v28,(bz b29),(bz b30),v31,v32,v33,bf,tz,(.tup [(.agg [(iz x40),(iz x41),(iz x42),(iz x43)]),(bz b44)]),(.lst a0),(.tup [(.agg [(iz x40),(iz x41),(iz x42),(iz x43)]),(bz b44)]),(.agg [(iz x40),(iz x41),(iz x42),(iz x43)]),(bz b44),(.agg [bf,bf,bf,bf]),(.lst a0),(iz x55),(iz x777),v778,v779,(.agg [(iz x781),(iz x782)]),v783,(bz b784),(bz b785),v786,v787,v788,v789,v790,v791,(bz b792),v793,v794,(bz b795),(bz b796),v797,v798,v799,v800,v801,v802,(bz b803),v804,v805,(bz b806),(bz b807),v808,v809,v810,v811,v812,v813,(bz b814),v815,v816,(bz b817),(bz b818),v819,v820,v821,v822,v823,v824,(bz b825),v826,v827,(iz x828),v829,v830,(iz x831),(bz b832),(bz b833),v834,v835,v836,v837,v838,v839,(bz b840),(bz b841),v842,v843,v844,v845,v846,v847,(bz b848),(bz b849),v850,v851,v852,v853,v854,v855,(bz b856),(bz b857),v858,v859,v860,v861,(bz b862),v863,tz,tz,tz,tz,tz,tz,tz,tz,tz,tz,tz,tz,tz,tz,tz,tz,tz,tz,tz,tz,tz,tz,tz,tz],H⟩=k57R b775 H) (v197:AV) (b198 b199:Bool) (v200 v201 v202 v203 v204 v205:AV) (b206:Bool) (v207:AV) (H:Heap):r8X2_0 C0 d a0 b23 b24 b25 v26 v27 v28 b29 b30 v31 v32 v33 x40 x41 x42 x43 b44 v45 v49 x55 k57 b59 x61 v76 v77 v78 v79 v80 v81 v82 v83 v84 v85 v86 v87 v88 v89 v90 v91 v92 v93 v94 v95 v96 v97 v98 v99 v100 v101 v102 v103 v104 v105 v106 v107 v108 v109 v110 v111 v112 v113 v114 v115 v116 v117 v118 v119 v120 v121 v122 v123 v124 v125 v126 v127 v128 v129 v130 v131 v132 v133 v134 v135 v136 v137 v138 v139 v140 v141 v142 v143 v144 v145 v146 x151 x152 v153 ⟨[(.lst a0),tz,(bz b59),v45,(bz b44),v49,tz,v153,(bz b23),(bz b24),(bz b25),v26,v27,v28,(bz b29),(bz b30),v31,v32,v33,bf,tz,(.tup [(.agg [(iz x40),(iz x41),(iz x42),(iz x43)]),(bz b44)]),(.lst a0),(.tup [(.agg [(iz x40),(iz x41),(iz x42),(iz x43)]),(bz b44)]),(.agg [(iz x40),(iz x41),(iz x42),(iz x43)]),(bz b44),(.agg [bf,bf,bf,bf]),(.lst a0),(iz x55),(iz x61),bt,v146,(.agg [(iz x151),(iz x152)]),v197,(bz b198),(bz b199),v200,v201,v202,v203,v204,v205,(bz b206),v207,v76,v77,v78,v79,v80,v81,v82,v83,v84,v85,v86,v87,v88,v89,v90,v91,v92,v93,v94,v95,v96,v97,v98,v99,v100,v101,v102,v103,v104,v105,v106,v107,v108,v109,v110,v111,v112,v113,v114,v115,v116,v117,v118,v119,v120,v121,v122,v123,v124,v125,v126,v127,v128,v129,v130,v131,v132,v133,v134,v135,v136,v137,v138,v139,v140,v141,v142,v143,v144,v145,tz,tz,tz,tz,tz,tz,tz,tz,tz,tz,tz,tz,tz,tz,tz,tz,tz,tz,tz,tz,tz,tz,tz,tz],H⟩=X8_2_0 d a0 v45 v49 x61 v153 k57N k57R H:=by
 have I0:=it8_3 d a0 b23 b24 b25 v26 v27 v28 b29 b30 v31 v32 v33 x40 x41 x42 x43 b44 v45 v49 x55 k57 b59 x61 v87 v88 v89 v90 v91 v92 v93 v94 v95 v96 v97 v98 v99 v100 v101 v102 v103 v104 v105 v106 v107 v108 v109 v110 v111 v112 v113 v114 v115 v116 v117 v118 v119 v120 v121 v122 v123 v124 v125 v126 v127 v128 v129 v130 v131 v132 v133 v134 v135 v136 v137 v138 v139 v140 v141 v142 v143 v144 v145 v146 x151 x152 v153 v197 b198 b199 v200 v201 v202 v203 v204 v205 b206 v207 k57N k57R hk57N hk57R
 try dsimp only at I0
 try dsimp only at hk57N
 try dsimp only at hk57R
 unfold r8X2_0; refine Eq.trans (pl_len (by rfl)) ?_; refine yt ySs ?_; refine yt yA ?_; (iterate 2 (refine yt yB ?_)); (iterate 6 (refine yt yA ?_)); refine yt yB ?_; refine yt yA ?_; refine yt ySs ?_
 first | (simp only [I0,hk57N,hk57R] <;> rfl) | rfl
noncomputable def E8_2 (d:Nat) (a0:List AV) (v45 v49:AV) (x61:Int) (v153:AV) (k57N:Int→Heap→Ans) (k57R:Bool→Heap→Ans) (H:Heap):Ans :=
 none
theorem E8_2_ok (d:Nat) (a0:List AV) (b23 b24 b25:Bool) (v26 v27 v28:AV) (b29 b30:Bool) (v31 v32 v33:AV) (x40 x41 x42 x43:Int) (b44:Bool) (v45 v49:AV) (x55:Int) (k57:Ex→St→Ans) (b59:Bool) (x61:Int) (v76 v77 v78 v79 v80 v81 v82 v83 v84 v85 v86 v87 v88 v89 v90 v91 v92 v93 v94 v95 v96 v97 v98 v99 v100 v101 v102 v103 v104 v105 v106 v107 v108 v109 v110 v111 v112 v113 v114 v115 v116 v117 v118 v119 v120 v121 v122 v123 v124 v125 v126 v127 v128 v129 v130 v131 v132 v133 v134 v135 v136 v137 v138 v139 v140 v141 v142 v143 v144 v145 v146:AV) (x151 x152:Int) (v153:AV) (k57N:Int→Heap→Ans) (k57R:Bool→Heap→Ans) (hk57N:∀ (b59:Bool) (v60:AV) (x61:Int) (v62 v63 v64 v65 v66 v67 v68 v69 v70 v71 v72 v73 v74 v75 v76 v77 v78 v79 v80 v81 v82 v83 v84 v85 v86 v87 v88 v89 v90 v91 v92 v93 v94 v95 v96 v97 v98 v99 v100 v101 v102 v103 v104 v105 v106 v107 v108 v109 v110 v111 v112 v113 v114 v115 v116 v117 v118 v119 v120 v121 v122 v123 v124 v125 v126 v127 v128 v129 v130 v131 v132 v133 v134 v135 v136 v137 v138 v139 v140 v141 v142 v143 v144 v145:AV) (H:Heap),k57 .normal ⟨[(.lst a0),tz,(bz b59),v45,(bz b44),v49,tz,v60,(bz b23),(bz b24),(bz b25),v26,v27,v28,(bz b29),(bz b30),v31,v32,v33,bf,tz,(.tup [(.agg [(iz x40),(iz x41),(iz x42),(iz x43)]),(bz b44)]),(.lst a0),(.tup [(.agg [(iz x40),(iz x41),(iz x42),(iz x43)]),(bz b44)]),(.agg [(iz x40),(iz x41),(iz x42),(iz x43)]),(bz b44),(.agg [bf,bf,bf,bf]),(.lst a0),(iz x55),(iz x61),v62,v63,v64,v65,v66,v67,v68,v69,v70,v71,v72,v73,v74,v75,v76,v77,v78,v79,v80,v81,v82,v83,v84,v85,v86,v87,v88,v89,v90,v91,v92,v93,v94,v95,v96,v97,v98,v99,v100,v101,v102,v103,v104,v105,v106,v107,v108,v109,v110,v111,v112,v113,v114,v115,v116,v117,v118,v119,v120,v121,v122,v123,v124,v125,v126,v127,v128,v129,v130,v131,v132,v133,v134,v135,v136,v137,v138,v139,v140,v141,v142,v143,v144,v145,tz,tz,tz,tz,tz,tz,tz,tz,tz,tz,tz,tz,tz,tz,tz,tz,tz,tz,tz,tz,tz,tz,tz,tz],H⟩=k57N x61 H) (hk57R:∀ (b775:Bool) (v776:AV) (x777:Int) (v778 v779:AV) (x781 x782:Int) (v783:AV) (b784 b785:Bool) (v786 v787 v788 v789 v790 v791:AV) (b792:Bool) (v793 v794:AV) (b795 b796:Bool) (v797 v798 v799 v800 v801 v802:AV) (b803:Bool) (v804 v805:AV) (b806 b807:Bool) (v808 v809 v810 v811 v812 v813:AV) (b814:Bool) (v815 v816:AV) (b817 b818:Bool) (v819 v820 v821 v822 v823 v824:AV) (b825:Bool) (v826 v827:AV) (x828:Int) (v829 v830:AV) (x831:Int) (b832 b833:Bool) (v834 v835 v836 v837 v838 v839:AV) (b840 b841:Bool) (v842 v843 v844 v845 v846 v847:AV) (b848 b849:Bool) (v850 v851 v852 v853 v854 v855:AV) (b856 b857:Bool) (v858 v859 v860 v861:AV) (b862:Bool) (v863:AV) (H:Heap),k57 .ret ⟨[(.lst a0),tz,(bz b775),v45,(bz b44),v49,tz,v776,(bz b23),(bz b24),(bz b25),v26,v27,v28,(bz b29),(bz b30),v31,v32,v33,bf,tz,(.tup [(.agg [(iz x40),(iz x41),(iz x42),(iz x43)]),(bz b44)]),(.lst a0),(.tup [(.agg [(iz x40),(iz x41),(iz x42),(iz x43)]),(bz b44)]),(.agg [(iz x40),(iz x41),(iz x42),(iz x43)]),(bz b44),(.agg [bf,bf,bf,bf]),(.lst a0),(iz x55),(iz x777),v778,v779,(.agg [(iz x781),(iz x782)]),v783,(bz b784),(bz b785),v786,v787,v788,v789,v790,v791,(bz b792),v793,v794,(bz b795),(bz b796),v797,v798,v799,v800,v801,v802,(bz b803),v804,v805,(bz b806),(bz b807),v808,v809,v810,v811,v812,v813,(bz b814),v815,v816,(bz b817),(bz b818),v819,v820,v821,v822,v823,v824,(bz b825),v826,v827,(iz x828),v829,v830,(iz x831),(bz b832),(bz b833),v834,v835,v836,v837,v838,v839,(bz b840),(bz b841),v842,v843,v844,v845,v846,v847,(bz b848),(bz b849),v850,v851,v852,v853,v854,v855,(bz b856),(bz b857),v858,v859,v860,v861,(bz b862),v863,tz,tz,tz,tz,tz,tz,tz,tz,tz,tz,tz,tz,tz,tz,tz,tz,tz,tz,tz,tz,tz,tz,tz,tz],H⟩=k57R b775 H) (v562 v563 v564 v565 v566 v567 v568 v569 v570 v571 v572:AV) (H:Heap):r8E2 C0 d a0 b23 b24 b25 v26 v27 v28 b29 b30 v31 v32 v33 x40 x41 x42 x43 b44 v45 v49 x55 k57 b59 x61 v76 v77 v78 v79 v80 v81 v82 v83 v84 v85 v86 v87 v88 v89 v90 v91 v92 v93 v94 v95 v96 v97 v98 v99 v100 v101 v102 v103 v104 v105 v106 v107 v108 v109 v110 v111 v112 v113 v114 v115 v116 v117 v118 v119 v120 v121 v122 v123 v124 v125 v126 v127 v128 v129 v130 v131 v132 v133 v134 v135 v136 v137 v138 v139 v140 v141 v142 v143 v144 v145 v146 x151 x152 v153 ⟨[(.lst a0),tz,(bz b59),v45,(bz b44),v49,tz,v153,(bz b23),(bz b24),(bz b25),v26,v27,v28,(bz b29),(bz b30),v31,v32,v33,bf,tz,(.tup [(.agg [(iz x40),(iz x41),(iz x42),(iz x43)]),(bz b44)]),(.lst a0),(.tup [(.agg [(iz x40),(iz x41),(iz x42),(iz x43)]),(bz b44)]),(.agg [(iz x40),(iz x41),(iz x42),(iz x43)]),(bz b44),(.agg [bf,bf,bf,bf]),(.lst a0),(iz x55),(iz x61),bt,v146,(.agg [(iz x151),(iz x152)]),v562,v563,v564,v565,v566,v567,v568,v569,v570,v571,v572,v76,v77,v78,v79,v80,v81,v82,v83,v84,v85,v86,v87,v88,v89,v90,v91,v92,v93,v94,v95,v96,v97,v98,v99,v100,v101,v102,v103,v104,v105,v106,v107,v108,v109,v110,v111,v112,v113,v114,v115,v116,v117,v118,v119,v120,v121,v122,v123,v124,v125,v126,v127,v128,v129,v130,v131,v132,v133,v134,v135,v136,v137,v138,v139,v140,v141,v142,v143,v144,v145,tz,tz,tz,tz,tz,tz,tz,tz,tz,tz,tz,tz,tz,tz,tz,tz,tz,tz,tz,tz,tz,tz,tz,tz],H⟩=E8_2 d a0 v45 v49 x61 v153 k57N k57R H:=by
 try dsimp only at hk57N
 try dsimp only at hk57R
 unfold r8E2; refine Eq.trans (pl_len (by rfl)) ?_; refine yt ySs ?_; refine yt yAs ?_; refine yt ySs ?_
 first | (simp only [hk57N,hk57R] <;> rfl) | rfl
noncomputable def L8_2 (d:Nat) (a0:List AV) (v45 v49:AV) (x61:Int) (v153:AV) (k57N:Int→Heap→Ans) (k57R:Bool→Heap→Ans):Nat→Heap→Ans
 | 0,_=>none
 | n+1,H =>
 C0.hop H (.ixAA 4 1 (.v v49) (.v (iz 0))) fun v171 h172 =>
  C0.hop h172 (.load false 1 (.v v171)) fun v173 h174 =>
  C0.bool (some v173) fun b175 =>
  cnd b175
  (C0.hop h174 (.ixAA 4 1 (.v v49) (.v (iz 0))) fun v176 h177 =>
  C0.hop h177 (.store 1 (.v v176) (.v bt)) fun v178 h179 =>
  X8_2_0 d a0 v45 v49 x61 v153 k57N k57R h179)
  (C0.hop h174 (.fldA 0 (.v v153)) fun v180 h181 =>
  C0.hop h181 (.load false 1 (.v v180)) fun v182 h183 =>
  C0.int .i64 (some v182) fun x184 =>
  C0.hop h183 (.fldA 0 (.v v45)) fun v185 h186 =>
  C0.hop h186 (.fldA 0 (.v v185)) fun v187 h188 =>
  C0.hop h188 (.load false 1 (.v v187)) fun v189 h190 =>
  C0.int .i64 (some v189) fun x191 =>
  C0.hop h190 (.ixAA 4 1 (.v v49) (.v (iz 0))) fun v192 h193 =>
  C0.hop h193 (.store 1 (.v v192) (.v (.bool (x184 == x191)))) fun v194 h195 =>
  X8_2_0 d a0 v45 v49 x61 v153 k57N k57R h195)
theorem L8_2_s (d:Nat) (a0:List AV) (v45 v49:AV) (x61:Int) (v153:AV) (k57N:Int→Heap→Ans) (k57R:Bool→Heap→Ans) (n:Nat) (H:Heap):L8_2 d a0 v45 v49 x61 v153 k57N k57R (n+1) H=(C0.hop H (.ixAA 4 1 (.v v49) (.v (iz 0))) fun v171 h172 =>
 C0.hop h172 (.load false 1 (.v v171)) fun v173 h174 =>
 C0.bool (some v173) fun b175 =>
 cnd b175
 (C0.hop h174 (.ixAA 4 1 (.v v49) (.v (iz 0))) fun v176 h177 =>
 C0.hop h177 (.store 1 (.v v176) (.v bt)) fun v178 h179 =>
 X8_2_0 d a0 v45 v49 x61 v153 k57N k57R h179)
 (C0.hop h174 (.fldA 0 (.v v153)) fun v180 h181 =>
 C0.hop h181 (.load false 1 (.v v180)) fun v182 h183 =>
 C0.int .i64 (some v182) fun x184 =>
 C0.hop h183 (.fldA 0 (.v v45)) fun v185 h186 =>
 C0.hop h186 (.fldA 0 (.v v185)) fun v187 h188 =>
 C0.hop h188 (.load false 1 (.v v187)) fun v189 h190 =>
 C0.int .i64 (some v189) fun x191 =>
 C0.hop h190 (.ixAA 4 1 (.v v49) (.v (iz 0))) fun v192 h193 =>
 C0.hop h193 (.store 1 (.v v192) (.v (.bool (x184 == x191)))) fun v194 h195 =>
 X8_2_0 d a0 v45 v49 x61 v153 k57N k57R h195)):=by kernel_rfl
theorem it8_2 (d:Nat) (a0:List AV) (b23 b24 b25:Bool) (v26 v27 v28:AV) (b29 b30:Bool) (v31 v32 v33:AV) (x40 x41 x42 x43:Int) (b44:Bool) (v45 v49:AV) (x55:Int) (k57:Ex→St→Ans) (b59:Bool) (x61:Int) (v76 v77 v78 v79 v80 v81 v82 v83 v84 v85 v86 v87 v88 v89 v90 v91 v92 v93 v94 v95 v96 v97 v98 v99 v100 v101 v102 v103 v104 v105 v106 v107 v108 v109 v110 v111 v112 v113 v114 v115 v116 v117 v118 v119 v120 v121 v122 v123 v124 v125 v126 v127 v128 v129 v130 v131 v132 v133 v134 v135 v136 v137 v138 v139 v140 v141 v142 v143 v144 v145 v146:AV) (x151 x152:Int) (v153:AV) (k57N:Int→Heap→Ans) (k57R:Bool→Heap→Ans) (hk57N:∀ (b59:Bool) (v60:AV) (x61:Int) (v62 v63 v64 v65 v66 v67 v68 v69 v70 v71 v72 v73 v74 v75 v76 v77 v78 v79 v80 v81 v82 v83 v84 v85 v86 v87 v88 v89 v90 v91 v92 v93 v94 v95 v96 v97 v98 v99 v100 v101 v102 v103 v104 v105 v106 v107 v108 v109 v110 v111 v112 v113 v114 v115 v116 v117 v118 v119 v120 v121 v122 v123 v124 v125 v126 v127 v128 v129 v130 v131 v132 v133 v134 v135 v136 v137 v138 v139 v140 v141 v142 v143 v144 v145:AV) (H:Heap),k57 .normal ⟨[(.lst a0),tz,(bz b59),v45,(bz b44),v49,tz,v60,(bz b23),(bz b24),(bz b25),v26,v27,v28,(bz b29),(bz b30),v31,v32,v33,bf,tz,(.tup [(.agg [(iz x40),(iz x41),(iz x42),(iz x43)]),(bz b44)]),(.lst a0),(.tup [(.agg [(iz x40),(iz x41),(iz x42),(iz x43)]),(bz b44)]),(.agg [(iz x40),(iz x41),(iz x42),(iz x43)]),(bz b44),(.agg [bf,bf,bf,bf]),(.lst a0),(iz x55),(iz x61),v62,v63,v64,v65,v66,v67,v68,v69,v70,v71,v72,v73,v74,v75,v76,v77,v78,v79,v80,v81,v82,v83,v84,v85,v86,v87,v88,v89,v90,v91,v92,v93,v94,v95,v96,v97,v98,v99,v100,v101,v102,v103,v104,v105,v106,v107,v108,v109,v110,v111,v112,v113,v114,v115,v116,v117,v118,v119,v120,v121,v122,v123,v124,v125,v126,v127,v128,v129,v130,v131,v132,v133,v134,v135,v136,v137,v138,v139,v140,v141,v142,v143,v144,v145,tz,tz,tz,tz,tz,tz,tz,tz,tz,tz,tz,tz,tz,tz,tz,tz,tz,tz,tz,tz,tz,tz,tz,tz],H⟩=k57N x61 H) (hk57R:∀ (b775:Bool) (v776:AV) (x777:Int) (v778 v779:AV) (x781 x782:Int) (v783:AV) (b784 b785:Bool) (v786 v787 v788 v789 v790 v791:AV) (b792:Bool) (v793 v794:AV) (b795 b796:Bool) (v797 v798 v799 v800 v801 v802:AV) (b803:Bool) (v804 v805:AV) (b806 b807:Bool) (v808 v809 v810 v811 v812 v813:AV) (b814:Bool) (v815 v816:AV) (b817 b818:Bool) (v819 v820 v821 v822 v823 v824:AV) (b825:Bool) (v826 v827:AV) (x828:Int) (v829 v830:AV) (x831:Int) (b832 b833:Bool) (v834 v835 v836 v837 v838 v839:AV) (b840 b841:Bool) (v842 v843 v844 v845 v846 v847:AV) (b848 b849:Bool) (v850 v851 v852 v853 v854 v855:AV) (b856 b857:Bool) (v858 v859 v860 v861:AV) (b862:Bool) (v863:AV) (H:Heap),k57 .ret ⟨[(.lst a0),tz,(bz b775),v45,(bz b44),v49,tz,v776,(bz b23),(bz b24),(bz b25),v26,v27,v28,(bz b29),(bz b30),v31,v32,v33,bf,tz,(.tup [(.agg [(iz x40),(iz x41),(iz x42),(iz x43)]),(bz b44)]),(.lst a0),(.tup [(.agg [(iz x40),(iz x41),(iz x42),(iz x43)]),(bz b44)]),(.agg [(iz x40),(iz x41),(iz x42),(iz x43)]),(bz b44),(.agg [bf,bf,bf,bf]),(.lst a0),(iz x55),(iz x777),v778,v779,(.agg [(iz x781),(iz x782)]),v783,(bz b784),(bz b785),v786,v787,v788,v789,v790,v791,(bz b792),v793,v794,(bz b795),(bz b796),v797,v798,v799,v800,v801,v802,(bz b803),v804,v805,(bz b806),(bz b807),v808,v809,v810,v811,v812,v813,(bz b814),v815,v816,(bz b817),(bz b818),v819,v820,v821,v822,v823,v824,(bz b825),v826,v827,(iz x828),v829,v830,(iz x831),(bz b832),(bz b833),v834,v835,v836,v837,v838,v839,(bz b840),(bz b841),v842,v843,v844,v845,v846,v847,(bz b848),(bz b849),v850,v851,v852,v853,v854,v855,(bz b856),(bz b857),v858,v859,v860,v861,(bz b862),v863,tz,tz,tz,tz,tz,tz,tz,tz,tz,tz,tz,tz,tz,tz,tz,tz,tz,tz,tz,tz,tz,tz,tz,tz],H⟩=k57R b775 H):∀ (n:Nat) (v160 v161 v162 v163 v164 v165 v166 v167 v168 v169 v170:AV) (H:Heap),C0.iter (r8R2 C0 d a0 b23 b24 b25 v26 v27 v28 b29 b30 v31 v32 v33 x40 x41 x42 x43 b44 v45 v49 x55 k57 b59 x61 v76 v77 v78 v79 v80 v81 v82 v83 v84 v85 v86 v87 v88 v89 v90 v91 v92 v93 v94 v95 v96 v97 v98 v99 v100 v101 v102 v103 v104 v105 v106 v107 v108 v109 v110 v111 v112 v113 v114 v115 v116 v117 v118 v119 v120 v121 v122 v123 v124 v125 v126 v127 v128 v129 v130 v131 v132 v133 v134 v135 v136 v137 v138 v139 v140 v141 v142 v143 v144 v145 v146 x151 x152 v153) n ⟨[(.lst a0),tz,(bz b59),v45,(bz b44),v49,tz,v153,(bz b23),(bz b24),(bz b25),v26,v27,v28,(bz b29),(bz b30),v31,v32,v33,bf,tz,(.tup [(.agg [(iz x40),(iz x41),(iz x42),(iz x43)]),(bz b44)]),(.lst a0),(.tup [(.agg [(iz x40),(iz x41),(iz x42),(iz x43)]),(bz b44)]),(.agg [(iz x40),(iz x41),(iz x42),(iz x43)]),(bz b44),(.agg [bf,bf,bf,bf]),(.lst a0),(iz x55),(iz x61),bt,v146,(.agg [(iz x151),(iz x152)]),v160,v161,v162,v163,v164,v165,v166,v167,v168,v169,v170,v76,v77,v78,v79,v80,v81,v82,v83,v84,v85,v86,v87,v88,v89,v90,v91,v92,v93,v94,v95,v96,v97,v98,v99,v100,v101,v102,v103,v104,v105,v106,v107,v108,v109,v110,v111,v112,v113,v114,v115,v116,v117,v118,v119,v120,v121,v122,v123,v124,v125,v126,v127,v128,v129,v130,v131,v132,v133,v134,v135,v136,v137,v138,v139,v140,v141,v142,v143,v144,v145,tz,tz,tz,tz,tz,tz,tz,tz,tz,tz,tz,tz,tz,tz,tz,tz,tz,tz,tz,tz,tz,tz,tz,tz],H⟩ [2000000] [r8X2_0 C0 d a0 b23 b24 b25 v26 v27 v28 b29 b30 v31 v32 v33 x40 x41 x42 x43 b44 v45 v49 x55 k57 b59 x61 v76 v77 v78 v79 v80 v81 v82 v83 v84 v85 v86 v87 v88 v89 v90 v91 v92 v93 v94 v95 v96 v97 v98 v99 v100 v101 v102 v103 v104 v105 v106 v107 v108 v109 v110 v111 v112 v113 v114 v115 v116 v117 v118 v119 v120 v121 v122 v123 v124 v125 v126 v127 v128 v129 v130 v131 v132 v133 v134 v135 v136 v137 v138 v139 v140 v141 v142 v143 v144 v145 v146 x151 x152 v153] (r8E2 C0 d a0 b23 b24 b25 v26 v27 v28 b29 b30 v31 v32 v33 x40 x41 x42 x43 b44 v45 v49 x55 k57 b59 x61 v76 v77 v78 v79 v80 v81 v82 v83 v84 v85 v86 v87 v88 v89 v90 v91 v92 v93 v94 v95 v96 v97 v98 v99 v100 v101 v102 v103 v104 v105 v106 v107 v108 v109 v110 v111 v112 v113 v114 v115 v116 v117 v118 v119 v120 v121 v122 v123 v124 v125 v126 v127 v128 v129 v130 v131 v132 v133 v134 v135 v136 v137 v138 v139 v140 v141 v142 v143 v144 v145 v146 x151 x152 v153)=L8_2 d a0 v45 v49 x61 v153 k57N k57R n H:=by
 generalize hR:r8R2 C0 d a0 b23 b24 b25 v26 v27 v28 b29 b30 v31 v32 v33 x40 x41 x42 x43 b44 v45 v49 x55 k57 b59 x61 v76 v77 v78 v79 v80 v81 v82 v83 v84 v85 v86 v87 v88 v89 v90 v91 v92 v93 v94 v95 v96 v97 v98 v99 v100 v101 v102 v103 v104 v105 v106 v107 v108 v109 v110 v111 v112 v113 v114 v115 v116 v117 v118 v119 v120 v121 v122 v123 v124 v125 v126 v127 v128 v129 v130 v131 v132 v133 v134 v135 v136 v137 v138 v139 v140 v141 v142 v143 v144 v145 v146 x151 x152 v153=R
 intro n
 induction n with
 | zero=>intros; rfl
 | succ n ih =>
   intro v160 v161 v162 v163 v164 v165 v166 v167 v168 v169 v170 H
   simp only [it_ret] at ih
   rw [it_ret,xiter_s]
   refine Eq.trans (congrFun (congrFun hR.symm _) _) ?_
   unfold r8R2
   refine Eq.trans (pl_len (by rfl)) ?_; refine yt ySs ?_; refine yt yAs ?_; refine yt ySs ?_
   simp only [kIter_n,kIter_x,kIter_r,kOut_x,kOut_r,xgo_hit,xgo_miss,ih,X8_2_0_ok d a0 b23 b24 b25 v26 v27 v28 b29 b30 v31 v32 v33 x40 x41 x42 x43 b44 v45 v49 x55 k57 b59 x61 v76 v77 v78 v79 v80 v81 v82 v83 v84 v85 v86 v87 v88 v89 v90 v91 v92 v93 v94 v95 v96 v97 v98 v99 v100 v101 v102 v103 v104 v105 v106 v107 v108 v109 v110 v111 v112 v113 v114 v115 v116 v117 v118 v119 v120 v121 v122 v123 v124 v125 v126 v127 v128 v129 v130 v131 v132 v133 v134 v135 v136 v137 v138 v139 v140 v141 v142 v143 v144 v145 v146 x151 x152 v153 k57N k57R hk57N hk57R,E8_2_ok d a0 b23 b24 b25 v26 v27 v28 b29 b30 v31 v32 v33 x40 x41 x42 x43 b44 v45 v49 x55 k57 b59 x61 v76 v77 v78 v79 v80 v81 v82 v83 v84 v85 v86 v87 v88 v89 v90 v91 v92 v93 v94 v95 v96 v97 v98 v99 v100 v101 v102 v103 v104 v105 v106 v107 v108 v109 v110 v111 v112 v113 v114 v115 v116 v117 v118 v119 v120 v121 v122 v123 v124 v125 v126 v127 v128 v129 v130 v131 v132 v133 v134 v135 v136 v137 v138 v139 v140 v141 v142 v143 v144 v145 v146 x151 x152 v153 k57N k57R hk57N hk57R]
   exact (L8_2_s d a0 v45 v49 x61 v153 k57N k57R n H).symm
noncomputable def X8_12_0 (d:Nat) (b44:Bool) (v45 v49:AV) (b725:Bool) (H:Heap):Ans :=
 C0.fin H (.bool b725)
theorem X8_12_0_ok (d:Nat) (a0:List AV) (b23 b24 b25:Bool) (v26 v27 v28:AV) (b29 b30:Bool) (v31 v32 v33:AV) (x40 x41 x42 x43:Int) (b44:Bool) (v45 v49:AV) (x55:Int) (v575:AV) (x576:Int) (v577 v578 v579 v580 v581 v582 v583 v584 v585 v586 v587 v588 v589 v590 v591 v592 v593 v594 v595 v596 v597 v598 v599 v600 v601 v602 v603 v604 v605 v606 v607 v608 v609 v610 v611 v612 v613 v614 v615 v616 v617 v618 v619 v620 v621 v622 v623 v624 v625 v626 v627 v628 v629 v630 v631 v632 v633 v634 v635 v636 v637 v638 v639 v640 v641 v642 v643 v644 v645 v646 v647 v648 v649 v650 v651 v652 v653 v654 v655 v656 v657 v658 v659 v660:AV) (b725 b726 b727:Bool) (v728 v729 v730:AV) (b731 b732:Bool) (v733 v734 v735 v736 v737 v738 v739:AV) (b740 b741:Bool) (v742 v743 v744 v745 v746 v747 v748:AV) (b749:Bool) (H:Heap):r8X12_0 C0 d a0 b23 b24 b25 v26 v27 v28 b29 b30 v31 v32 v33 x40 x41 x42 x43 b44 v45 v49 x55 v575 x576 v577 v578 v579 v580 v581 v582 v583 v584 v585 v586 v587 v588 v589 v590 v591 v592 v593 v594 v595 v596 v597 v598 v599 v600 v601 v602 v603 v604 v605 v606 v607 v608 v609 v610 v611 v612 v613 v614 v615 v616 v617 v618 v619 v620 v621 v622 v623 v624 v625 v626 v627 v628 v629 v630 v631 v632 v633 v634 v635 v636 v637 v638 v639 v640 v641 v642 v643 v644 v645 v646 v647 v648 v649 v650 v651 v652 v653 v654 v655 v656 v657 v658 v659 v660 ⟨[(.lst a0),tz,(bz b725),v45,(bz b44),v49,tz,v575,(bz b23),(bz b24),(bz b25),v26,v27,v28,(bz b29),(bz b30),v31,v32,v33,bf,tz,(.tup [(.agg [(iz x40),(iz x41),(iz x42),(iz x43)]),(bz b44)]),(.lst a0),(.tup [(.agg [(iz x40),(iz x41),(iz x42),(iz x43)]),(bz b44)]),(.agg [(iz x40),(iz x41),(iz x42),(iz x43)]),(bz b44),(.agg [bf,bf,bf,bf]),(.lst a0),(iz x55),(iz x576),v577,v578,v579,v580,v581,v582,v583,v584,v585,v586,v587,v588,v589,v590,v591,v592,v593,v594,v595,v596,v597,v598,v599,v600,v601,v602,v603,v604,v605,v606,v607,v608,v609,v610,v611,v612,v613,v614,v615,v616,v617,v618,v619,v620,v621,v622,v623,v624,v625,v626,v627,v628,v629,v630,v631,v632,v633,v634,v635,v636,v637,v638,v639,v640,v641,v642,v643,v644,v645,v646,v647,v648,v649,v650,v651,v652,v653,v654,v655,v656,v657,v658,v659,v660,(bz b726),(bz b727),v728,v729,v730,(bz b731),(bz b732),v733,v734,v735,v736,v737,v738,v739,(bz b740),(bz b741),v742,v743,v744,v745,v746,v747,v748,(bz b749)],H⟩=X8_12_0 d b44 v45 v49 b725 H:=by
 unfold r8X12_0; refine Eq.trans (pl_len (by rfl)) ?_; refine yt ySs ?_; refine yt yB ?_; refine yt ySs ?_; (iterate 2 (refine yt yB ?_)); refine yt yAs ?_; (iterate 2 (refine yt yB ?_)); refine yt yAs ?_; (iterate 2 (refine yt yB ?_)); refine yt yAs ?_; refine yt yB ?_
 rfl
noncomputable def E8_12 (d:Nat) (b44:Bool) (v45 v49:AV) (H:Heap):Ans :=
 none
theorem E8_12_ok (d:Nat) (a0:List AV) (b23 b24 b25:Bool) (v26 v27 v28:AV) (b29 b30:Bool) (v31 v32 v33:AV) (x40 x41 x42 x43:Int) (b44:Bool) (v45 v49:AV) (x55:Int) (v575:AV) (x576:Int) (v577 v578 v579 v580 v581 v582 v583 v584 v585 v586 v587 v588 v589 v590 v591 v592 v593 v594 v595 v596 v597 v598 v599 v600 v601 v602 v603 v604 v605 v606 v607 v608 v609 v610 v611 v612 v613 v614 v615 v616 v617 v618 v619 v620 v621 v622 v623 v624 v625 v626 v627 v628 v629 v630 v631 v632 v633 v634 v635 v636 v637 v638 v639 v640 v641 v642 v643 v644 v645 v646 v647 v648 v649 v650 v651 v652 v653 v654 v655 v656 v657 v658 v659 v660:AV) (b750:Bool) (v751 v752 v753 v754 v755 v756 v757 v758 v759 v760 v761 v762 v763 v764 v765 v766 v767 v768 v769 v770 v771 v772 v773 v774:AV) (H:Heap):r8E12 C0 d a0 b23 b24 b25 v26 v27 v28 b29 b30 v31 v32 v33 x40 x41 x42 x43 b44 v45 v49 x55 v575 x576 v577 v578 v579 v580 v581 v582 v583 v584 v585 v586 v587 v588 v589 v590 v591 v592 v593 v594 v595 v596 v597 v598 v599 v600 v601 v602 v603 v604 v605 v606 v607 v608 v609 v610 v611 v612 v613 v614 v615 v616 v617 v618 v619 v620 v621 v622 v623 v624 v625 v626 v627 v628 v629 v630 v631 v632 v633 v634 v635 v636 v637 v638 v639 v640 v641 v642 v643 v644 v645 v646 v647 v648 v649 v650 v651 v652 v653 v654 v655 v656 v657 v658 v659 v660 ⟨[(.lst a0),tz,(bz b750),v45,(bz b44),v49,tz,v575,(bz b23),(bz b24),(bz b25),v26,v27,v28,(bz b29),(bz b30),v31,v32,v33,bf,tz,(.tup [(.agg [(iz x40),(iz x41),(iz x42),(iz x43)]),(bz b44)]),(.lst a0),(.tup [(.agg [(iz x40),(iz x41),(iz x42),(iz x43)]),(bz b44)]),(.agg [(iz x40),(iz x41),(iz x42),(iz x43)]),(bz b44),(.agg [bf,bf,bf,bf]),(.lst a0),(iz x55),(iz x576),v577,v578,v579,v580,v581,v582,v583,v584,v585,v586,v587,v588,v589,v590,v591,v592,v593,v594,v595,v596,v597,v598,v599,v600,v601,v602,v603,v604,v605,v606,v607,v608,v609,v610,v611,v612,v613,v614,v615,v616,v617,v618,v619,v620,v621,v622,v623,v624,v625,v626,v627,v628,v629,v630,v631,v632,v633,v634,v635,v636,v637,v638,v639,v640,v641,v642,v643,v644,v645,v646,v647,v648,v649,v650,v651,v652,v653,v654,v655,v656,v657,v658,v659,v660,v751,v752,v753,v754,v755,v756,v757,v758,v759,v760,v761,v762,v763,v764,v765,v766,v767,v768,v769,v770,v771,v772,v773,v774],H⟩=E8_12 d b44 v45 v49 H:=by
 unfold r8E12; refine Eq.trans (pl_len (by rfl)) ?_; refine yt ySs ?_; refine yt yB ?_; refine yt ySs ?_; refine yt yAs ?_
 rfl
noncomputable def L8_12 (d:Nat) (b44:Bool) (v45 v49:AV):Nat→Heap→Ans
 | 0,_=>none
 | n+1,H =>
 cnd b44
  (C0.hop H (.load true 4 (.v v49)) fun v689 h690 =>
  C0.agg 4 (some v689) fun l691 =>
  C0.bool l691[0]? fun b692 =>
  C0.bool l691[1]? fun b693 =>
  C0.bool l691[2]? fun b694 =>
  C0.bool l691[3]? fun b695 =>
  cnd (xor false ((b692 == true) && ((b693 == true) && ((b694 == true) && ((b695 == true) && true)))))
  (C0.hop h690 (.fldA 0 (.v v45)) fun v696 h697 =>
  C0.hop h697 (.fldA 0 (.v v696)) fun v698 h699 =>
  C0.hop h699 (.load false 1 (.v v698)) fun v700 h701 =>
  C0.int .i64 (some v700) fun x702 =>
  C0.hop h701 (.fldA 2 (.v v45)) fun v703 h704 =>
  C0.hop h704 (.fldA 0 (.v v703)) fun v705 h706 =>
  C0.hop h706 (.load false 1 (.v v705)) fun v707 h708 =>
  C0.int .i64 (some v707) fun x709 =>
  cnd (decide (x702 < x709))
  (C0.hop h708 (.fldA 0 (.v v45)) fun v710 h711 =>
  C0.hop h711 (.fldA 1 (.v v710)) fun v712 h713 =>
  C0.hop h713 (.load false 1 (.v v712)) fun v714 h715 =>
  C0.int .i64 (some v714) fun x716 =>
  C0.hop h715 (.fldA 2 (.v v45)) fun v717 h718 =>
  C0.hop h718 (.fldA 1 (.v v717)) fun v719 h720 =>
  C0.hop h720 (.load false 1 (.v v719)) fun v721 h722 =>
  C0.int .i64 (some v721) fun x723 =>
  X8_12_0 d b44 v45 v49 (decide (x716 < x723)) h722)
  (X8_12_0 d b44 v45 v49 false h708))
  (X8_12_0 d b44 v45 v49 false h690))
  (X8_12_0 d b44 v45 v49 false H)
theorem L8_12_s (d:Nat) (b44:Bool) (v45 v49:AV) (n:Nat) (H:Heap):L8_12 d b44 v45 v49 (n+1) H=(cnd b44
 (C0.hop H (.load true 4 (.v v49)) fun v689 h690 =>
 C0.agg 4 (some v689) fun l691 =>
 C0.bool l691[0]? fun b692 =>
 C0.bool l691[1]? fun b693 =>
 C0.bool l691[2]? fun b694 =>
 C0.bool l691[3]? fun b695 =>
 cnd (xor false ((b692 == true) && ((b693 == true) && ((b694 == true) && ((b695 == true) && true)))))
 (C0.hop h690 (.fldA 0 (.v v45)) fun v696 h697 =>
 C0.hop h697 (.fldA 0 (.v v696)) fun v698 h699 =>
 C0.hop h699 (.load false 1 (.v v698)) fun v700 h701 =>
 C0.int .i64 (some v700) fun x702 =>
 C0.hop h701 (.fldA 2 (.v v45)) fun v703 h704 =>
 C0.hop h704 (.fldA 0 (.v v703)) fun v705 h706 =>
 C0.hop h706 (.load false 1 (.v v705)) fun v707 h708 =>
 C0.int .i64 (some v707) fun x709 =>
 cnd (decide (x702 < x709))
 (C0.hop h708 (.fldA 0 (.v v45)) fun v710 h711 =>
 C0.hop h711 (.fldA 1 (.v v710)) fun v712 h713 =>
 C0.hop h713 (.load false 1 (.v v712)) fun v714 h715 =>
 C0.int .i64 (some v714) fun x716 =>
 C0.hop h715 (.fldA 2 (.v v45)) fun v717 h718 =>
 C0.hop h718 (.fldA 1 (.v v717)) fun v719 h720 =>
 C0.hop h720 (.load false 1 (.v v719)) fun v721 h722 =>
 C0.int .i64 (some v721) fun x723 =>
 X8_12_0 d b44 v45 v49 (decide (x716 < x723)) h722)
 (X8_12_0 d b44 v45 v49 false h708))
 (X8_12_0 d b44 v45 v49 false h690))
 (X8_12_0 d b44 v45 v49 false H)):=by kernel_rfl
theorem it8_12 (d:Nat) (a0:List AV) (b23 b24 b25:Bool) (v26 v27 v28:AV) (b29 b30:Bool) (v31 v32 v33:AV) (x40 x41 x42 x43:Int) (b44:Bool) (v45 v49:AV) (x55:Int) (v575:AV) (x576:Int) (v577 v578 v579 v580 v581 v582 v583 v584 v585 v586 v587 v588 v589 v590 v591 v592 v593 v594 v595 v596 v597 v598 v599 v600 v601 v602 v603 v604 v605 v606 v607 v608 v609 v610 v611 v612 v613 v614 v615 v616 v617 v618 v619 v620 v621 v622 v623 v624 v625 v626 v627 v628 v629 v630 v631 v632 v633 v634 v635 v636 v637 v638 v639 v640 v641 v642 v643 v644 v645 v646 v647 v648 v649 v650 v651 v652 v653 v654 v655 v656 v657 v658 v659 v660:AV)  :∀ (n:Nat) (b664:Bool) (v665 v666 v667 v668 v669 v670 v671 v672 v673 v674 v675 v676 v677 v678 v679 v680 v681 v682 v683 v684 v685 v686 v687 v688:AV) (H:Heap),C0.iter (r8R12 C0 d a0 b23 b24 b25 v26 v27 v28 b29 b30 v31 v32 v33 x40 x41 x42 x43 b44 v45 v49 x55 v575 x576 v577 v578 v579 v580 v581 v582 v583 v584 v585 v586 v587 v588 v589 v590 v591 v592 v593 v594 v595 v596 v597 v598 v599 v600 v601 v602 v603 v604 v605 v606 v607 v608 v609 v610 v611 v612 v613 v614 v615 v616 v617 v618 v619 v620 v621 v622 v623 v624 v625 v626 v627 v628 v629 v630 v631 v632 v633 v634 v635 v636 v637 v638 v639 v640 v641 v642 v643 v644 v645 v646 v647 v648 v649 v650 v651 v652 v653 v654 v655 v656 v657 v658 v659 v660) n ⟨[(.lst a0),tz,(bz b664),v45,(bz b44),v49,tz,v575,(bz b23),(bz b24),(bz b25),v26,v27,v28,(bz b29),(bz b30),v31,v32,v33,bf,tz,(.tup [(.agg [(iz x40),(iz x41),(iz x42),(iz x43)]),(bz b44)]),(.lst a0),(.tup [(.agg [(iz x40),(iz x41),(iz x42),(iz x43)]),(bz b44)]),(.agg [(iz x40),(iz x41),(iz x42),(iz x43)]),(bz b44),(.agg [bf,bf,bf,bf]),(.lst a0),(iz x55),(iz x576),v577,v578,v579,v580,v581,v582,v583,v584,v585,v586,v587,v588,v589,v590,v591,v592,v593,v594,v595,v596,v597,v598,v599,v600,v601,v602,v603,v604,v605,v606,v607,v608,v609,v610,v611,v612,v613,v614,v615,v616,v617,v618,v619,v620,v621,v622,v623,v624,v625,v626,v627,v628,v629,v630,v631,v632,v633,v634,v635,v636,v637,v638,v639,v640,v641,v642,v643,v644,v645,v646,v647,v648,v649,v650,v651,v652,v653,v654,v655,v656,v657,v658,v659,v660,v665,v666,v667,v668,v669,v670,v671,v672,v673,v674,v675,v676,v677,v678,v679,v680,v681,v682,v683,v684,v685,v686,v687,v688],H⟩ [2000000] [r8X12_0 C0 d a0 b23 b24 b25 v26 v27 v28 b29 b30 v31 v32 v33 x40 x41 x42 x43 b44 v45 v49 x55 v575 x576 v577 v578 v579 v580 v581 v582 v583 v584 v585 v586 v587 v588 v589 v590 v591 v592 v593 v594 v595 v596 v597 v598 v599 v600 v601 v602 v603 v604 v605 v606 v607 v608 v609 v610 v611 v612 v613 v614 v615 v616 v617 v618 v619 v620 v621 v622 v623 v624 v625 v626 v627 v628 v629 v630 v631 v632 v633 v634 v635 v636 v637 v638 v639 v640 v641 v642 v643 v644 v645 v646 v647 v648 v649 v650 v651 v652 v653 v654 v655 v656 v657 v658 v659 v660] (r8E12 C0 d a0 b23 b24 b25 v26 v27 v28 b29 b30 v31 v32 v33 x40 x41 x42 x43 b44 v45 v49 x55 v575 x576 v577 v578 v579 v580 v581 v582 v583 v584 v585 v586 v587 v588 v589 v590 v591 v592 v593 v594 v595 v596 v597 v598 v599 v600 v601 v602 v603 v604 v605 v606 v607 v608 v609 v610 v611 v612 v613 v614 v615 v616 v617 v618 v619 v620 v621 v622 v623 v624 v625 v626 v627 v628 v629 v630 v631 v632 v633 v634 v635 v636 v637 v638 v639 v640 v641 v642 v643 v644 v645 v646 v647 v648 v649 v650 v651 v652 v653 v654 v655 v656 v657 v658 v659 v660)=L8_12 d b44 v45 v49 n H:=by
 generalize hR:r8R12 C0 d a0 b23 b24 b25 v26 v27 v28 b29 b30 v31 v32 v33 x40 x41 x42 x43 b44 v45 v49 x55 v575 x576 v577 v578 v579 v580 v581 v582 v583 v584 v585 v586 v587 v588 v589 v590 v591 v592 v593 v594 v595 v596 v597 v598 v599 v600 v601 v602 v603 v604 v605 v606 v607 v608 v609 v610 v611 v612 v613 v614 v615 v616 v617 v618 v619 v620 v621 v622 v623 v624 v625 v626 v627 v628 v629 v630 v631 v632 v633 v634 v635 v636 v637 v638 v639 v640 v641 v642 v643 v644 v645 v646 v647 v648 v649 v650 v651 v652 v653 v654 v655 v656 v657 v658 v659 v660=R
 intro n
 induction n with
 | zero=>intros; rfl
 | succ n ih =>
   intro b664 v665 v666 v667 v668 v669 v670 v671 v672 v673 v674 v675 v676 v677 v678 v679 v680 v681 v682 v683 v684 v685 v686 v687 v688 H
   simp only [it_ret] at ih
   rw [it_ret,xiter_s]
   refine Eq.trans (congrFun (congrFun hR.symm _) _) ?_
   unfold r8R12
   refine Eq.trans (pl_len (by rfl)) ?_; refine yt ySs ?_; refine yt yB ?_; refine yt ySs ?_; refine yt yAs ?_
   simp only [kIter_n,kIter_x,kIter_r,kOut_x,kOut_r,xgo_hit,xgo_miss,ih,X8_12_0_ok d a0 b23 b24 b25 v26 v27 v28 b29 b30 v31 v32 v33 x40 x41 x42 x43 b44 v45 v49 x55 v575 x576 v577 v578 v579 v580 v581 v582 v583 v584 v585 v586 v587 v588 v589 v590 v591 v592 v593 v594 v595 v596 v597 v598 v599 v600 v601 v602 v603 v604 v605 v606 v607 v608 v609 v610 v611 v612 v613 v614 v615 v616 v617 v618 v619 v620 v621 v622 v623 v624 v625 v626 v627 v628 v629 v630 v631 v632 v633 v634 v635 v636 v637 v638 v639 v640 v641 v642 v643 v644 v645 v646 v647 v648 v649 v650 v651 v652 v653 v654 v655 v656 v657 v658 v659 v660  ,E8_12_ok d a0 b23 b24 b25 v26 v27 v28 b29 b30 v31 v32 v33 x40 x41 x42 x43 b44 v45 v49 x55 v575 x576 v577 v578 v579 v580 v581 v582 v583 v584 v585 v586 v587 v588 v589 v590 v591 v592 v593 v594 v595 v596 v597 v598 v599 v600 v601 v602 v603 v604 v605 v606 v607 v608 v609 v610 v611 v612 v613 v614 v615 v616 v617 v618 v619 v620 v621 v622 v623 v624 v625 v626 v627 v628 v629 v630 v631 v632 v633 v634 v635 v636 v637 v638 v639 v640 v641 v642 v643 v644 v645 v646 v647 v648 v649 v650 v651 v652 v653 v654 v655 v656 v657 v658 v659 v660  ]
   exact (L8_12_s d b44 v45 v49 n H).symm
noncomputable def X8_1_0 (d:Nat) (a0:List AV) (b44:Bool) (v45 v49:AV) (x55:Int) (H:Heap):Ans :=
 L8_12 d b44 v45 v49 1 H
theorem X8_1_0_ok (d:Nat) (a0:List AV) (b23 b24 b25:Bool) (v26 v27 v28:AV) (b29 b30:Bool) (v31 v32 v33:AV) (x40 x41 x42 x43:Int) (b44:Bool) (v45 v49:AV) (x55:Int) (b574:Bool) (v575:AV) (x576:Int) (v577 v578 v579 v580 v581 v582 v583 v584 v585 v586 v587 v588 v589 v590 v591 v592 v593 v594 v595 v596 v597 v598 v599 v600 v601 v602 v603 v604 v605 v606 v607 v608 v609 v610 v611 v612 v613 v614 v615 v616 v617 v618 v619 v620 v621 v622 v623 v624 v625 v626 v627 v628 v629 v630 v631 v632 v633 v634 v635 v636 v637 v638 v639 v640 v641 v642 v643 v644 v645 v646 v647 v648 v649 v650 v651 v652 v653 v654 v655 v656 v657 v658 v659 v660:AV) (H:Heap):r8X1_0 C0 d a0 b23 b24 b25 v26 v27 v28 b29 b30 v31 v32 v33 x40 x41 x42 x43 b44 v45 v49 x55 ⟨[(.lst a0),tz,(bz b574),v45,(bz b44),v49,tz,v575,(bz b23),(bz b24),(bz b25),v26,v27,v28,(bz b29),(bz b30),v31,v32,v33,bf,tz,(.tup [(.agg [(iz x40),(iz x41),(iz x42),(iz x43)]),(bz b44)]),(.lst a0),(.tup [(.agg [(iz x40),(iz x41),(iz x42),(iz x43)]),(bz b44)]),(.agg [(iz x40),(iz x41),(iz x42),(iz x43)]),(bz b44),(.agg [bf,bf,bf,bf]),(.lst a0),(iz x55),(iz x576),v577,v578,v579,v580,v581,v582,v583,v584,v585,v586,v587,v588,v589,v590,v591,v592,v593,v594,v595,v596,v597,v598,v599,v600,v601,v602,v603,v604,v605,v606,v607,v608,v609,v610,v611,v612,v613,v614,v615,v616,v617,v618,v619,v620,v621,v622,v623,v624,v625,v626,v627,v628,v629,v630,v631,v632,v633,v634,v635,v636,v637,v638,v639,v640,v641,v642,v643,v644,v645,v646,v647,v648,v649,v650,v651,v652,v653,v654,v655,v656,v657,v658,v659,v660,tz,tz,tz,tz,tz,tz,tz,tz,tz,tz,tz,tz,tz,tz,tz,tz,tz,tz,tz,tz,tz,tz,tz,tz],H⟩=X8_1_0 d a0 b44 v45 v49 x55 H:=by
 unfold r8X1_0; refine Eq.trans (pl_len (by rfl)) ?_; refine yt ySs ?_; refine yt yB ?_; refine yt ySs ?_; refine yt yA ?_; refine yt ySs ?_; refine yt yI ?_; (iterate 84 (refine yt yA ?_)); refine yt ySs ?_
 first | (simp only [it8_12] <;> rfl) | rfl
noncomputable def E8_1 (d:Nat) (a0:List AV) (b44:Bool) (v45 v49:AV) (x55:Int) (b775:Bool) (H:Heap):Ans :=
 C0.fin H (.bool b775)
theorem E8_1_ok (d:Nat) (a0:List AV) (b23 b24 b25:Bool) (v26 v27 v28:AV) (b29 b30:Bool) (v31 v32 v33:AV) (x40 x41 x42 x43:Int) (b44:Bool) (v45 v49:AV) (x55:Int) (b775:Bool) (v776:AV) (x777:Int) (v778 v779:AV) (x781 x782:Int) (v783:AV) (b784 b785:Bool) (v786 v787 v788 v789 v790 v791:AV) (b792:Bool) (v793 v794:AV) (b795 b796:Bool) (v797 v798 v799 v800 v801 v802:AV) (b803:Bool) (v804 v805:AV) (b806 b807:Bool) (v808 v809 v810 v811 v812 v813:AV) (b814:Bool) (v815 v816:AV) (b817 b818:Bool) (v819 v820 v821 v822 v823 v824:AV) (b825:Bool) (v826 v827:AV) (x828:Int) (v829 v830:AV) (x831:Int) (b832 b833:Bool) (v834 v835 v836 v837 v838 v839:AV) (b840 b841:Bool) (v842 v843 v844 v845 v846 v847:AV) (b848 b849:Bool) (v850 v851 v852 v853 v854 v855:AV) (b856 b857:Bool) (v858 v859 v860 v861:AV) (b862:Bool) (v863:AV) (H:Heap):r8E1 C0 d a0 b23 b24 b25 v26 v27 v28 b29 b30 v31 v32 v33 x40 x41 x42 x43 b44 v45 v49 x55 ⟨[(.lst a0),tz,(bz b775),v45,(bz b44),v49,tz,v776,(bz b23),(bz b24),(bz b25),v26,v27,v28,(bz b29),(bz b30),v31,v32,v33,bf,tz,(.tup [(.agg [(iz x40),(iz x41),(iz x42),(iz x43)]),(bz b44)]),(.lst a0),(.tup [(.agg [(iz x40),(iz x41),(iz x42),(iz x43)]),(bz b44)]),(.agg [(iz x40),(iz x41),(iz x42),(iz x43)]),(bz b44),(.agg [bf,bf,bf,bf]),(.lst a0),(iz x55),(iz x777),v778,v779,(.agg [(iz x781),(iz x782)]),v783,(bz b784),(bz b785),v786,v787,v788,v789,v790,v791,(bz b792),v793,v794,(bz b795),(bz b796),v797,v798,v799,v800,v801,v802,(bz b803),v804,v805,(bz b806),(bz b807),v808,v809,v810,v811,v812,v813,(bz b814),v815,v816,(bz b817),(bz b818),v819,v820,v821,v822,v823,v824,(bz b825),v826,v827,(iz x828),v829,v830,(iz x831),(bz b832),(bz b833),v834,v835,v836,v837,v838,v839,(bz b840),(bz b841),v842,v843,v844,v845,v846,v847,(bz b848),(bz b849),v850,v851,v852,v853,v854,v855,(bz b856),(bz b857),v858,v859,v860,v861,(bz b862),v863,tz,tz,tz,tz,tz,tz,tz,tz,tz,tz,tz,tz,tz,tz,tz,tz,tz,tz,tz,tz,tz,tz,tz,tz],H⟩=E8_1 d a0 b44 v45 v49 x55 b775 H:=by
 unfold r8E1; refine Eq.trans (pl_len (by rfl)) ?_; refine yt ySs ?_; refine yt yB ?_; refine yt ySs ?_; refine yt yA ?_; refine yt ySs ?_; refine yt yI ?_; refine yt yAs ?_; refine yt yG ?_; (iterate 2 (refine yt yI ?_)); refine yt yA ?_; (iterate 2 (refine yt yB ?_)); refine yt yAs ?_; refine yt yB ?_; refine yt yAs ?_; (iterate 2 (refine yt yB ?_)); refine yt yAs ?_; refine yt yB ?_; refine yt yAs ?_; (iterate 2 (refine yt yB ?_)); refine yt yAs ?_; refine yt yB ?_; refine yt yAs ?_; (iterate 2 (refine yt yB ?_)); refine yt yAs ?_; refine yt yB ?_; refine yt yAs ?_; refine yt yI ?_; refine yt yAs ?_; refine yt yI ?_; (iterate 2 (refine yt yB ?_)); refine yt yAs ?_; (iterate 2 (refine yt yB ?_)); refine yt yAs ?_; (iterate 2 (refine yt yB ?_)); refine yt yAs ?_; (iterate 2 (refine yt yB ?_)); refine yt yAs ?_; refine yt yB ?_; refine yt yA ?_; refine yt ySs ?_
 rfl
noncomputable def L8_1 (d:Nat) (a0:List AV) (b44:Bool) (v45 v49:AV) (x55:Int):Nat→Int→Heap→Ans
 | 0,_,_=>none
 | n+1,x61,H =>
 cnd (decide (x61 < x55))
  (C0.hop H (.ixAS .any 2 (.v (.lst a0)) (.v (iz x61))) fun v146 h147 =>
  C0.hop h147 (.load true 2 (.v v146)) fun v148 h149 =>
  C0.agg 2 (some v148) fun l150 =>
  C0.int .i64 l150[0]? fun x151 =>
  C0.int .i64 l150[1]? fun x152 =>
  C0.hop h149 (.alloc E24) fun v153 h154 =>
  C0.hop h154 (.store 2 (.v v153) (.v (.agg [(iz x151),(iz x152)]))) fun v155 h156 =>
  L8_2 d a0 v45 v49 x61 v153 (fun x61 H=>L8_1 d a0 b44 v45 v49 x55 n x61 H) (fun b775 H=>E8_1 d a0 b44 v45 v49 x55 b775 H) 1 h156)
  (X8_1_0 d a0 b44 v45 v49 x55 H)
theorem L8_1_s (d:Nat) (a0:List AV) (b44:Bool) (v45 v49:AV) (x55:Int) (n:Nat) (x61:Int) (H:Heap):L8_1 d a0 b44 v45 v49 x55 (n+1) x61 H=(cnd (decide (x61 < x55))
 (C0.hop H (.ixAS .any 2 (.v (.lst a0)) (.v (iz x61))) fun v146 h147 =>
 C0.hop h147 (.load true 2 (.v v146)) fun v148 h149 =>
 C0.agg 2 (some v148) fun l150 =>
 C0.int .i64 l150[0]? fun x151 =>
 C0.int .i64 l150[1]? fun x152 =>
 C0.hop h149 (.alloc E24) fun v153 h154 =>
 C0.hop h154 (.store 2 (.v v153) (.v (.agg [(iz x151),(iz x152)]))) fun v155 h156 =>
 L8_2 d a0 v45 v49 x61 v153 (fun x61 H=>L8_1 d a0 b44 v45 v49 x55 n x61 H) (fun b775 H=>E8_1 d a0 b44 v45 v49 x55 b775 H) 1 h156)
 (X8_1_0 d a0 b44 v45 v49 x55 H)):=by kernel_rfl
theorem it8_1 (d:Nat) (a0:List AV) (b23 b24 b25:Bool) (v26 v27 v28:AV) (b29 b30:Bool) (v31 v32 v33:AV) (x40 x41 x42 x43:Int) (b44:Bool) (v45 v49:AV) (x55:Int)  :∀ (n:Nat) (b59:Bool) (v60:AV) (x61:Int) (v62 v63 v64 v65 v66 v67 v68 v69 v70 v71 v72 v73 v74 v75 v76 v77 v78 v79 v80 v81 v82 v83 v84 v85 v86 v87 v88 v89 v90 v91 v92 v93 v94 v95 v96 v97 v98 v99 v100 v101 v102 v103 v104 v105 v106 v107 v108 v109 v110 v111 v112 v113 v114 v115 v116 v117 v118 v119 v120 v121 v122 v123 v124 v125 v126 v127 v128 v129 v130 v131 v132 v133 v134 v135 v136 v137 v138 v139 v140 v141 v142 v143 v144 v145:AV) (H:Heap),C0.iter (r8R1 C0 d a0 b23 b24 b25 v26 v27 v28 b29 b30 v31 v32 v33 x40 x41 x42 x43 b44 v45 v49 x55) n ⟨[(.lst a0),tz,(bz b59),v45,(bz b44),v49,tz,v60,(bz b23),(bz b24),(bz b25),v26,v27,v28,(bz b29),(bz b30),v31,v32,v33,bf,tz,(.tup [(.agg [(iz x40),(iz x41),(iz x42),(iz x43)]),(bz b44)]),(.lst a0),(.tup [(.agg [(iz x40),(iz x41),(iz x42),(iz x43)]),(bz b44)]),(.agg [(iz x40),(iz x41),(iz x42),(iz x43)]),(bz b44),(.agg [bf,bf,bf,bf]),(.lst a0),(iz x55),(iz x61),v62,v63,v64,v65,v66,v67,v68,v69,v70,v71,v72,v73,v74,v75,v76,v77,v78,v79,v80,v81,v82,v83,v84,v85,v86,v87,v88,v89,v90,v91,v92,v93,v94,v95,v96,v97,v98,v99,v100,v101,v102,v103,v104,v105,v106,v107,v108,v109,v110,v111,v112,v113,v114,v115,v116,v117,v118,v119,v120,v121,v122,v123,v124,v125,v126,v127,v128,v129,v130,v131,v132,v133,v134,v135,v136,v137,v138,v139,v140,v141,v142,v143,v144,v145,tz,tz,tz,tz,tz,tz,tz,tz,tz,tz,tz,tz,tz,tz,tz,tz,tz,tz,tz,tz,tz,tz,tz,tz],H⟩ [0] [r8X1_0 C0 d a0 b23 b24 b25 v26 v27 v28 b29 b30 v31 v32 v33 x40 x41 x42 x43 b44 v45 v49 x55] (r8E1 C0 d a0 b23 b24 b25 v26 v27 v28 b29 b30 v31 v32 v33 x40 x41 x42 x43 b44 v45 v49 x55)=L8_1 d a0 b44 v45 v49 x55 n x61 H:=by
 generalize hR:r8R1 C0 d a0 b23 b24 b25 v26 v27 v28 b29 b30 v31 v32 v33 x40 x41 x42 x43 b44 v45 v49 x55=R
 intro n
 induction n with
 | zero=>intros; rfl
 | succ n ih =>
   intro b59 v60 x61 v62 v63 v64 v65 v66 v67 v68 v69 v70 v71 v72 v73 v74 v75 v76 v77 v78 v79 v80 v81 v82 v83 v84 v85 v86 v87 v88 v89 v90 v91 v92 v93 v94 v95 v96 v97 v98 v99 v100 v101 v102 v103 v104 v105 v106 v107 v108 v109 v110 v111 v112 v113 v114 v115 v116 v117 v118 v119 v120 v121 v122 v123 v124 v125 v126 v127 v128 v129 v130 v131 v132 v133 v134 v135 v136 v137 v138 v139 v140 v141 v142 v143 v144 v145 H
   simp only [it_ret] at ih
   rw [it_ret,xiter_s]
   refine Eq.trans (congrFun (congrFun hR.symm _) _) ?_
   unfold r8R1
   refine Eq.trans (pl_len (by rfl)) ?_; refine yt ySs ?_; refine yt yB ?_; refine yt ySs ?_; refine yt yA ?_; refine yt ySs ?_; refine yt yI ?_; (iterate 84 (refine yt yA ?_)); refine yt ySs ?_
   have I0:=fun (v146:AV) (x151 x152:Int) (v153:AV)=>it8_2 d a0 b23 b24 b25 v26 v27 v28 b29 b30 v31 v32 v33 x40 x41 x42 x43 b44 v45 v49 x55 (kIter R n (kOut [0] [r8X1_0 C0 d a0 b23 b24 b25 v26 v27 v28 b29 b30 v31 v32 v33 x40 x41 x42 x43 b44 v45 v49 x55] (r8E1 C0 d a0 b23 b24 b25 v26 v27 v28 b29 b30 v31 v32 v33 x40 x41 x42 x43 b44 v45 v49 x55))) b59 x61 v76 v77 v78 v79 v80 v81 v82 v83 v84 v85 v86 v87 v88 v89 v90 v91 v92 v93 v94 v95 v96 v97 v98 v99 v100 v101 v102 v103 v104 v105 v106 v107 v108 v109 v110 v111 v112 v113 v114 v115 v116 v117 v118 v119 v120 v121 v122 v123 v124 v125 v126 v127 v128 v129 v130 v131 v132 v133 v134 v135 v136 v137 v138 v139 v140 v141 v142 v143 v144 v145 v146 x151 x152 v153 (fun x61 H=>L8_1 d a0 b44 v45 v49 x55 n x61 H) (fun b775 H=>E8_1 d a0 b44 v45 v49 x55 b775 H) (fun b59 v60 x61 v62 v63 v64 v65 v66 v67 v68 v69 v70 v71 v72 v73 v74 v75 v76 v77 v78 v79 v80 v81 v82 v83 v84 v85 v86 v87 v88 v89 v90 v91 v92 v93 v94 v95 v96 v97 v98 v99 v100 v101 v102 v103 v104 v105 v106 v107 v108 v109 v110 v111 v112 v113 v114 v115 v116 v117 v118 v119 v120 v121 v122 v123 v124 v125 v126 v127 v128 v129 v130 v131 v132 v133 v134 v135 v136 v137 v138 v139 v140 v141 v142 v143 v144 v145 H=>ih b59 v60 x61 v62 v63 v64 v65 v66 v67 v68 v69 v70 v71 v72 v73 v74 v75 v76 v77 v78 v79 v80 v81 v82 v83 v84 v85 v86 v87 v88 v89 v90 v91 v92 v93 v94 v95 v96 v97 v98 v99 v100 v101 v102 v103 v104 v105 v106 v107 v108 v109 v110 v111 v112 v113 v114 v115 v116 v117 v118 v119 v120 v121 v122 v123 v124 v125 v126 v127 v128 v129 v130 v131 v132 v133 v134 v135 v136 v137 v138 v139 v140 v141 v142 v143 v144 v145 H) (fun b775 v776 x777 v778 v779 x781 x782 v783 b784 b785 v786 v787 v788 v789 v790 v791 b792 v793 v794 b795 b796 v797 v798 v799 v800 v801 v802 b803 v804 v805 b806 b807 v808 v809 v810 v811 v812 v813 b814 v815 v816 b817 b818 v819 v820 v821 v822 v823 v824 b825 v826 v827 x828 v829 v830 x831 b832 b833 v834 v835 v836 v837 v838 v839 b840 b841 v842 v843 v844 v845 v846 v847 b848 b849 v850 v851 v852 v853 v854 v855 b856 b857 v858 v859 v860 v861 b862 v863 H=>E8_1_ok d a0 b23 b24 b25 v26 v27 v28 b29 b30 v31 v32 v33 x40 x41 x42 x43 b44 v45 v49 x55   b775 v776 x777 v778 v779 x781 x782 v783 b784 b785 v786 v787 v788 v789 v790 v791 b792 v793 v794 b795 b796 v797 v798 v799 v800 v801 v802 b803 v804 v805 b806 b807 v808 v809 v810 v811 v812 v813 b814 v815 v816 b817 b818 v819 v820 v821 v822 v823 v824 b825 v826 v827 x828 v829 v830 x831 b832 b833 v834 v835 v836 v837 v838 v839 b840 b841 v842 v843 v844 v845 v846 v847 b848 b849 v850 v851 v852 v853 v854 v855 b856 b857 v858 v859 v860 v861 b862 v863 H)
   try dsimp only at I0
   simp only [kIter_n,kIter_x,kIter_r,kOut_x,kOut_r,xgo_hit,xgo_miss,ih,I0,X8_1_0_ok d a0 b23 b24 b25 v26 v27 v28 b29 b30 v31 v32 v33 x40 x41 x42 x43 b44 v45 v49 x55  ,E8_1_ok d a0 b23 b24 b25 v26 v27 v28 b29 b30 v31 v32 v33 x40 x41 x42 x43 b44 v45 v49 x55  ]
   exact (L8_1_s d a0 b44 v45 v49 x55 n x61 H).symm
noncomputable def X8_0_0 (d:Nat) (a0:List AV) (b34:Bool) (H:Heap):Ans :=
 cnd b34
  (C0.bool (pcall M d 9 []) fun b35 =>
  C0.fin H (.bool b35))
  (C0.snp H [(.lst a0)] fun l36 b37 =>
  C0.tup 2 (pcall M d 11 l36) fun l38 =>
  C0.agg 4 l38[0]? fun l39 =>
  C0.int .i64 l39[0]? fun x40 =>
  C0.int .i64 l39[1]? fun x41 =>
  C0.int .i64 l39[2]? fun x42 =>
  C0.int .i64 l39[3]? fun x43 =>
  C0.bool l38[1]? fun b44 =>
  cnd (b37 || true)
  (C0.hop H (.alloc E28) fun v45 h46 =>
  C0.hop h46 (.store 4 (.v v45) (.v (.agg [(iz x40),(iz x41),(iz x42),(iz x43)]))) fun v47 h48 =>
  C0.hop h48 (.alloc E48) fun v49 h50 =>
  C0.hop h50 (.store 4 (.v v49) (.v (.agg [bf,bf,bf,bf]))) fun v51 h52 =>
  C0.hop h52 (.bk .lenV [(.v (.lst a0))]) fun v53 h54 =>
  C0.int .i64 (some v53) fun x55 =>
  L8_1 d a0 b44 v45 v49 x55 1000000000000000000 0 h54)
  (none))
theorem X8_0_0_ok (d:Nat) (a0:List AV) (b23 b24 b25:Bool) (v26 v27 v28:AV) (b29 b30:Bool) (v31 v32 v33:AV) (b34:Bool) (H:Heap):r8X0_0 C0 d a0 ⟨[(.lst a0),tz,bf,tz,tz,tz,tz,tz,(bz b23),(bz b24),(bz b25),v26,v27,v28,(bz b29),(bz b30),v31,v32,v33,(bz b34),tz,tz,tz,tz,tz,tz,tz,tz,tz,tz,tz,tz,tz,tz,tz,tz,tz,tz,tz,tz,tz,tz,tz,tz,tz,tz,tz,tz,tz,tz,tz,tz,tz,tz,tz,tz,tz,tz,tz,tz,tz,tz,tz,tz,tz,tz,tz,tz,tz,tz,tz,tz,tz,tz,tz,tz,tz,tz,tz,tz,tz,tz,tz,tz,tz,tz,tz,tz,tz,tz,tz,tz,tz,tz,tz,tz,tz,tz,tz,tz,tz,tz,tz,tz,tz,tz,tz,tz,tz,tz,tz,tz,tz,tz,tz,tz,tz,tz,tz,tz,tz,tz,tz,tz,tz,tz,tz,tz,tz,tz,tz,tz,tz,tz,tz,tz,tz,tz],H⟩=X8_0_0 d a0 b34 H:=by
 unfold r8X0_0; refine Eq.trans (pl_len (by rfl)) ?_; refine yt ySs ?_; (iterate 3 (refine yt yB ?_)); (iterate 3 (refine yt yA ?_)); (iterate 2 (refine yt yB ?_)); (iterate 3 (refine yt yA ?_)); refine yt yB ?_; refine yt ySs ?_
 first | (simp only [it8_1] <;> rfl) | rfl
noncomputable def E8_0 (d:Nat) (a0:List AV) (H:Heap):Ans :=
 none
theorem E8_0_ok (d:Nat) (a0:List AV) (v864 v865 v866 v867 v868 v869 v870 v871 v872 v873 v874 v875:AV) (H:Heap):r8E0 C0 d a0 ⟨[(.lst a0),tz,bf,tz,tz,tz,tz,tz,v864,v865,v866,v867,v868,v869,v870,v871,v872,v873,v874,v875,tz,tz,tz,tz,tz,tz,tz,tz,tz,tz,tz,tz,tz,tz,tz,tz,tz,tz,tz,tz,tz,tz,tz,tz,tz,tz,tz,tz,tz,tz,tz,tz,tz,tz,tz,tz,tz,tz,tz,tz,tz,tz,tz,tz,tz,tz,tz,tz,tz,tz,tz,tz,tz,tz,tz,tz,tz,tz,tz,tz,tz,tz,tz,tz,tz,tz,tz,tz,tz,tz,tz,tz,tz,tz,tz,tz,tz,tz,tz,tz,tz,tz,tz,tz,tz,tz,tz,tz,tz,tz,tz,tz,tz,tz,tz,tz,tz,tz,tz,tz,tz,tz,tz,tz,tz,tz,tz,tz,tz,tz,tz,tz,tz,tz,tz,tz,tz,tz],H⟩=E8_0 d a0 H:=by
 unfold r8E0; refine Eq.trans (pl_len (by rfl)) ?_; refine yt ySs ?_; refine yt yAs ?_; refine yt ySs ?_
 rfl
noncomputable def L8_0 (d:Nat) (a0:List AV):Nat→Heap→Ans
 | 0,_=>none
 | n+1,H =>
 C0.bool (pcall M d 9 []) fun b15 =>
  cnd (!b15)
  (X8_0_0 d a0 true H)
  (C0.snp H [(.lst a0)] fun l16 b17 =>
  C0.bool (pcall M d 10 l16) fun b18 =>
  cnd (b17 || true)
  (cnd (!b18)
  (X8_0_0 d a0 true H)
  (C0.snp H [(.lst a0)] fun l19 b20 =>
  C0.bool (pcall M d 12 l19) fun b21 =>
  cnd (b20 || true)
  (X8_0_0 d a0 (!b21) H)
  (none)))
  (none))
theorem L8_0_s (d:Nat) (a0:List AV) (n:Nat) (H:Heap):L8_0 d a0 (n+1) H=(C0.bool (pcall M d 9 []) fun b15 =>
 cnd (!b15)
 (X8_0_0 d a0 true H)
 (C0.snp H [(.lst a0)] fun l16 b17 =>
 C0.bool (pcall M d 10 l16) fun b18 =>
 cnd (b17 || true)
 (cnd (!b18)
 (X8_0_0 d a0 true H)
 (C0.snp H [(.lst a0)] fun l19 b20 =>
 C0.bool (pcall M d 12 l19) fun b21 =>
 cnd (b20 || true)
 (X8_0_0 d a0 (!b21) H)
 (none)))
 (none))):=by kernel_rfl
theorem it8_0 (d:Nat) (a0:List AV)  :∀ (n:Nat) (v3 v4 v5 v6 v7 v8 v9 v10 v11 v12 v13 v14:AV) (H:Heap),C0.iter (r8R0 C0 d a0) n ⟨[(.lst a0),tz,bf,tz,tz,tz,tz,tz,v3,v4,v5,v6,v7,v8,v9,v10,v11,v12,v13,v14,tz,tz,tz,tz,tz,tz,tz,tz,tz,tz,tz,tz,tz,tz,tz,tz,tz,tz,tz,tz,tz,tz,tz,tz,tz,tz,tz,tz,tz,tz,tz,tz,tz,tz,tz,tz,tz,tz,tz,tz,tz,tz,tz,tz,tz,tz,tz,tz,tz,tz,tz,tz,tz,tz,tz,tz,tz,tz,tz,tz,tz,tz,tz,tz,tz,tz,tz,tz,tz,tz,tz,tz,tz,tz,tz,tz,tz,tz,tz,tz,tz,tz,tz,tz,tz,tz,tz,tz,tz,tz,tz,tz,tz,tz,tz,tz,tz,tz,tz,tz,tz,tz,tz,tz,tz,tz,tz,tz,tz,tz,tz,tz,tz,tz,tz,tz,tz,tz],H⟩ [2000000] [r8X0_0 C0 d a0] (r8E0 C0 d a0)=L8_0 d a0 n H:=by
 generalize hR:r8R0 C0 d a0=R
 intro n
 induction n with
 | zero=>intros; rfl
 | succ n ih =>
   intro v3 v4 v5 v6 v7 v8 v9 v10 v11 v12 v13 v14 H
   simp only [it_ret] at ih
   rw [it_ret,xiter_s]
   refine Eq.trans (congrFun (congrFun hR.symm _) _) ?_
   unfold r8R0
   refine Eq.trans (pl_len (by rfl)) ?_; refine yt ySs ?_; refine yt yAs ?_; refine yt ySs ?_
   simp only [kIter_n,kIter_x,kIter_r,kOut_x,kOut_r,xgo_hit,xgo_miss,ih,X8_0_0_ok d a0  ,E8_0_ok d a0  ]
   exact (L8_0_s d a0 n H).symm
theorem q8 (d:Nat) (a0:List AV):xcall C0 M unr d 8 [(.lst a0)] =
 L8_0 d a0 1 []:=(r8 C0 d a0).trans (by simp only [it8_0])
end Go.Proofs.Ytkfppigcjdapnaa.AE

namespace Go.Proofs.Ytkfppigcjdapnaa.AE
set_option linter.unusedVariables false
set_option linter.unusedSimpArgs false
set_option linter.constructorNameAsVariable false
open Go Go.WideShapes

inductive CT where
 | i (k:IntKind)
 | b
 | s
 | sl (ag:Bool) (es:List CT)
mutual
def CTok:CT→AV→Prop
 | .i k,v=>∃ n,v=.int k n∧(Lit.int k n).wf=true
 | .b,v=>∃ x,v=.bool x
 | .s,v=>∃ x,v=.str x∧x.length≤maxLen
 | .sl ag es,v=>∃ l,v=.lst l∧l.length≤maxLen∧∀ x ∈ l,∃ cs,(match ag with
   | true=>x=.agg cs
   | false=>cs=[x])∧CTall es cs
def CTall:List CT→List AV→Prop
 | [],l=>l=[]
 | c::cs,l=>∃ x t,l=x::t∧CTok c x∧CTall cs t
end
def TyOK (ag:Bool) (cs:List CT) (v:AV):Prop:=∃ l,(match ag with
 | true=>v=.agg l
 | false=>l=[v])∧CTall cs l
theorem CTall_len:∀ {cs:List CT} {l:List AV},CTall cs l→l.length=cs.length
 | [],l,h=>by simp only [CTall] at h; subst h; rfl
 | c::cs,l,h=>by
   simp only [CTall] at h
   obtain ⟨x,t,rfl,_,h⟩:=h
   simp [CTall_len h]
theorem CTall_app:∀ {a b:List CT} {l m:List AV},CTall a l→CTall b m→CTall (a ++ b) (l ++ m)
 | [],b,l,m,h,h'=>by simp only [CTall] at h; subst h; exact h'
 | c::cs,b,l,m,h,h'=>by
   simp only [CTall] at h
   obtain ⟨x,t,rfl,h1,h⟩:=h
   simp only [List.cons_append,CTall]
   exact ⟨x,t ++ m,rfl,h1,CTall_app h h'⟩

section
variable (P:Program)
def ctFs (g:TypeId→Option (List CT)):List Field→Nat→Option (List CT)
 | [],_=>some []
 | f::fs,off=>if f.offset=off then match g f.type with
     | some l=>if P.cellsOf f.type=l.length then match ctFs g fs (off+l.length) with
        | some m=>some (l ++ m)
        | none=>none
       else none
     | none=>none
   else none
def ctOf:Nat→TypeId→Option (List CT)
 | 0,_=>none
 | d+1,t=>match P.underlying t with
   | some (.int k)=>some [.i k]
   | some .bool=>some [.b]
   | some .string=>some [.s]
   | some (.slice e)=>match ctOf d e,agB P e with
     | some l,some ag=>if P.cellsOf e=l.length∧0 < l.length∧(ag || l.length == 1)=true then some [.sl ag l] else none
     | _,_=>none
   | some (.struct fs)=>match ctFs P (ctOf d) fs.toList 0 with
     | some l=>if P.cellsOf t=l.length then some l else none
     | none=>none
   | some (.array n e)=>match ctOf d e with
     | some l=>if P.cellsOf e=l.length∧P.cellsOf t=n * l.length then some (List.replicate n l).flatten else none
     | none=>none
   | _=>none
end

section
variable {H:Type} {enc:TypeId × Value→H} {P:Program} {w:World} {base:Nat} {spare:Nat→Bool} {held:Bool}
abbrev noBad:Nat→Prop:=fun _=>False

def Cells (w:World) (avs:List AV) (cs:List Value):Prop:=∀ (i:Nat) (c:AV) (u:Value),avs[i]?=some c→cs[i]?=some u→FRep w noBad c u

theorem cells_one {c:AV} {u:Value} (h:FRep w noBad c u):Cells w [c] [u]:=by
 intro i a b ha hb
 match i with
 | 0=>cases ha; cases hb; exact h
 | i+1=>cases ha

theorem ctFs_open {g:TypeId→Option (List CT)} {cs:List Value} (hg:∀ t l (ds:List Value) fuel x,g t=some l→DataW.trod enc P w base spare held fuel t ds=some x→∃ avs,avs.length=ds.length∧CTall l avs∧Cells w avs ds) :
 ∀ (fs:List Field) (off:Nat) (l:List CT),ctFs P g fs off=some l→(∀ f ∈ fs,∃ fuel y,DataW.trod enc P w base spare held fuel f.type ((cs.drop f.offset).take (P.cellsOf f.type))=some y) →
   ∃ avs,CTall l avs∧Cells w avs (cs.drop off)
 | [],off,l,h,_=>by
   simp only [ctFs] at h; cases h
   exact ⟨[],rfl,fun i c u hc _=>by cases hc⟩
 | f::fs,off,l,h,ht=>by
   simp only [ctFs] at h
   split at h
   ·rename_i ho
    split at h <;> (try (cases h; done))
    rename_i l1 h1
    split at h
    ·rename_i hn
     split at h <;> (try (cases h; done))
     rename_i m hm
     cases h
     obtain ⟨fuel,y,hy⟩:=ht f (List.mem_cons_self ..)
     obtain ⟨a1,e1,e2,e3⟩:=hg _ _ _ _ _ h1 hy
     obtain ⟨a2,q1,q2⟩:=ctFs_open hg fs (off+l1.length) m hm (fun f hf=>ht f (List.mem_cons_of_mem _ hf))
     refine ⟨a1 ++ a2,CTall_app e2 q1,?_⟩
     have hl:a1.length=l1.length:=CTall_len e2
     intro i c u hc hu
     by_cases hi:i < a1.length
     ·rw [List.getElem?_append_left hi] at hc
      refine e3 i c u hc ?_
      rw [ho,hn,List.getElem?_take,if_pos (by omega)]; exact hu
     ·rw [List.getElem?_append_right (by omega)] at hc
      refine q2 (i - a1.length) c u hc ?_
      rw [List.getElem?_drop] at hu ⊢
      rw [← hu]; congr 1; omega
    ·cases h
   ·cases h

theorem cells?_at {a:Addr} {n:Nat} {cs:List Value} (h:w.cells? base a n=some cs):cs.length=n∧∀ j u,cs[j]?=some u→w.cell? (a.add j)=some u:=by
 unfold World.cells? at h
 split at h
 ·have hl:cs.length=n:=by simpa using mapM_some_length h
  refine ⟨hl,fun j u hu=>?_⟩
  have hj:j < n:=by
   rcases Nat.lt_or_ge j n with h1 | h1
   ·exact h1
   ·rw [List.getElem?_eq_none (by omega)] at hu; cases hu
  have:=mapM_some_get h j j (by simp [hj])
  rw [hu] at this
  exact this
 ·cases h

theorem rng_at {n i j:Nat} (h:(List.range n)[i]?=some j):i < n∧i=j:=by
 rcases Nat.lt_or_ge i n with h1 | h1
 ·rw [List.getElem?_range h1] at h; exact ⟨h1,Option.some.inj h⟩
 ·rw [List.getElem?_eq_none (by simpa using h1)] at h; cases h
theorem add_pl (b o n:Nat):(⟨b,o,none⟩:Addr).add n=⟨b,o+n,none⟩:=by
 unfold Addr.add; split <;> simp_all

theorem open_cells:∀ (d:Nat) (t:TypeId) (l:List CT) (cs:List Value) (fuel:Nat) (x:DataW H × List MemPlace),ctOf P d t=some l→DataW.trod enc P w base spare held fuel t cs=some x →
 ∃ avs,avs.length=cs.length∧CTall l avs∧Cells w avs cs
 | 0,t,l,cs,fuel,x,h,_=>by cases h
 | d+1,t,l,cs,fuel,x,h,ht=>by
   simp only [ctOf] at h
   split at h <;> (try (cases h; done))
   ·rename_i k hu
    cases h
    obtain ⟨n,rfl,_,hw⟩:=DataW.trod_int hu ht
    exact ⟨[.int k n],rfl,⟨_,_,rfl,⟨n,rfl,hw⟩,rfl⟩,cells_one (.int k n)⟩
   ·rename_i hu
    cases h
    obtain ⟨b,rfl,_⟩:=DataW.trod_bool hu ht
    exact ⟨[.bool b],rfl,⟨_,_,rfl,⟨b,rfl⟩,rfl⟩,cells_one (.bool b)⟩
   ·rename_i hu
    cases h
    obtain ⟨s,rfl,_,hs⟩:=DataW.trod_string hu ht
    refine ⟨[.str s.data.toList],rfl,⟨_,_,rfl,⟨_,rfl,by simpa using hs⟩,rfl⟩,cells_one ?_⟩
    have:=FRep.str (w:=w) (bad:=noBad) s.data.toList
    simpa using this
   ·rename_i e hu
    split at h <;> (try (cases h; done))
    rename_i le ag hle hag
    split at h
    ·rename_i hc
     obtain ⟨hc1,hc2,hc3⟩:=hc
     cases h
     rcases DataW.trod_slice hu ht with ⟨rfl,_⟩ | ⟨a,len,cap,elems,rest,n,_,rfl,_,hb,hl,hm,hel,hat,_,_⟩
     ·exact ⟨[.lst []],rfl,⟨_,_,rfl,⟨[],rfl,by simp,fun x hx=>by cases hx⟩,rfl⟩,cells_one (.lst0 none 0 fun _=>rfl)⟩
     ·have each:∀ i,i < len→∃ ex:List AV × List Value,w.cells? base (a.add (i * P.cellsOf e)) (P.cellsOf e)=some ex.2∧CTall le ex.1∧Cells w ex.1 ex.2:=by
       intro i hi
       have h1:=hat i hi
       rw [List.getElem?_eq_getElem (by omega)] at h1
       obtain ⟨ds,h2,h3⟩:=Option.bind_eq_some_iff.mp h1
       obtain ⟨avs,_,q2,q3⟩:=open_cells d e le ds n _ hle h3
       exact ⟨(avs,ds),h2,q2,q3⟩
      obtain ⟨f,hf⟩:=Go.Deep.choose_lt each
      let el:List AV→AV:=fun cs=>match ag with
       | true=>.agg cs
       | false=>cs.headD .undef
      have elc:∀ cs,CTall le cs→(el cs).cells=cs ∨ (ag=false∧∃ v,cs=[v]∧el cs=v):=by
       intro cs hcs
       cases ag with
       | true=>exact .inl rfl
       | false =>
         have hl1:le.length=1:=by simpa using hc3
         have:=CTall_len hcs
         match cs,this.trans hl1 with
         | [v],_=>exact .inr ⟨rfl,v,rfl,rfl⟩
      have scal:∀ cs,CTall le cs→(el cs).cells=cs:=by
       intro cs hcs
       rcases elc cs hcs with h1 | ⟨hag',v,rfl,h2⟩
       ·exact h1
       ·rw [h2]
        match v,hcs with
        | .agg l',hcs =>
          exfalso
          cases le with
          | nil=>simp only [CTall] at hcs; cases hcs
          | cons c cs' =>
            simp only [CTall] at hcs
            obtain ⟨x',t',hx',hok,_⟩:=hcs
            injection hx' with hx1 _
            subst hx1
            cases c <;> simp [CTok] at hok
        | .int ..,_ | .bool _,_ | .str _,_ | .nilp,_ | .zsl _,_ | .ptr ..,_ | .slc ..,_ | .lst _,_ | .fptr ..,_ | .tup _,_ | .fn ..,_ | .nilf,_ | .undef,_ | .emp,_=>rfl
      have hlen:∀ i,i < len→((f i).1).length=P.cellsOf e:=fun i hi=>by rw [CTall_len (hf i hi).2.1,hc1]
      refine ⟨[.lst ((List.range len).map fun i=>el (f i).1)],rfl,⟨_,_,rfl,⟨_,rfl,by simp; omega,?_⟩,rfl⟩,cells_one ?_⟩
      ·intro y hy
       obtain ⟨i,hi,rfl⟩:=List.mem_map.mp hy
       have hi:=List.mem_range.mp hi
       refine ⟨(f i).1,?_,(hf i hi).2.1⟩
       cases ag with
       | true=>rfl
       | false =>
         rcases elc _ (hf i hi).2.1 with h1 | ⟨_,v,h1,h2⟩
         ·have h3:=scal _ (hf i hi).2.1
          have hl1:le.length=1:=by simpa using hc3
          have h4:=(CTall_len (hf i hi).2.1).trans hl1
          show (f i).1=[(f i).1.headD .undef]
          match (f i).1,h4 with
          | [v],_=>rfl
         ·show (f i).1=[(f i).1.headD .undef]
          rw [h1]; rfl
      ·by_cases h0:len=0
       ·subst h0; exact .lst0 (some a) cap (fun h=>by cases h)
       ·have hsp:a.spot=none∧a.block < w.heap.size:=by
         obtain ⟨g1,g2,g3⟩:=hf 0 (by omega)
         obtain ⟨g4,g5⟩:=cells?_at g1
         have h6:∃ u,(f 0).2[0]?=some u:=⟨_,List.getElem?_eq_getElem (by omega)⟩
         obtain ⟨u,hu0⟩:=h6
         have:=g5 0 u hu0
         rw [Nat.zero_mul,show (a.add 0).add 0=a by simp [Addr.add]] at this
         unfold World.cell? at this
         split at this
         ·rename_i c _ _ hh
          split at this
          ·cases this
          ·rename_i hs
           refine ⟨by simpa using hs,?_⟩
           rcases Nat.lt_or_ge a.block w.heap.size with h7 | h7
           ·exact h7
           ·rw [Array.getElem?_eq_none h7] at hh; cases hh
         ·cases this
        obtain ⟨b,o,sp⟩:=a
        obtain ⟨hsp1,hsp2⟩:=hsp
        simp only at hsp1 hsp2
        subst hsp1
        have hlm:((List.range len).map fun i=>el (f i).1).length=len:=by simp
        have key:=FRep.lst (w:=w) (bad:=noBad) ((List.range len).map fun i=>el (f i).1) b o (P.cellsOf e) cap (fun i j=>(f i).2.getD j (.bool false)) (by rw [hlm]; exact hl) (by omega) (fun h=>h) hsp2 ?_ ?_ ?_
        ·rw [hlm] at key; exact key
        ·intro i y hy
         rw [List.getElem?_map] at hy
         obtain ⟨i',h1,rfl⟩:=Option.map_eq_some_iff.mp hy
         obtain ⟨h2,rfl⟩:=rng_at h1
         rw [scal _ (hf _ h2).2.1,hlen _ h2]
        ·intro i y j c hy hc
         rw [List.getElem?_map] at hy
         obtain ⟨i',h1,rfl⟩:=Option.map_eq_some_iff.mp hy
         obtain ⟨h2,rfl⟩:=rng_at h1
         rw [scal _ (hf _ h2).2.1] at hc
         obtain ⟨g4,g5⟩:=cells?_at (hf _ h2).1
         have hj:j < (f i).2.length:=by
          rw [g4,← hlen _ h2]
          rcases Nat.lt_or_ge j (f i).1.length with h7 | h7
          ·exact h7
          ·rw [List.getElem?_eq_none h7] at hc; cases hc
         have:=g5 j _ (List.getElem?_eq_getElem hj)
         rw [add_pl,add_pl] at this
         rw [List.getD_eq_getElem?_getD,List.getElem?_eq_getElem hj]
         simp only [Option.getD_some]
         rw [← Nat.add_assoc]; exact this
        ·intro i y j c hy hc
         rw [List.getElem?_map] at hy
         obtain ⟨i',h1,rfl⟩:=Option.map_eq_some_iff.mp hy
         obtain ⟨h2,rfl⟩:=rng_at h1
         rw [scal _ (hf _ h2).2.1] at hc
         obtain ⟨g4,g5⟩:=cells?_at (hf _ h2).1
         have hj:j < (f i).2.length:=by
          rw [g4,← hlen _ h2]
          rcases Nat.lt_or_ge j (f i).1.length with h7 | h7
          ·exact h7
          ·rw [List.getElem?_eq_none h7] at hc; cases hc
         refine (hf _ h2).2.2 j c _ hc ?_
         rw [List.getD_eq_getElem?_getD,List.getElem?_eq_getElem hj]; rfl
    ·cases h
   ·rename_i fs hu
    split at h <;> (try (cases h; done))
    rename_i l' hl'
    split at h
    ·rename_i hc
     cases h
     obtain ⟨xs,n,_,_,hlen,hxs,hf⟩:=DataW.trod_struct hu ht
     obtain ⟨avs,q1,q2⟩:=ctFs_open (cs:=cs) (enc:=enc) (base:=base) (spare:=spare) (held:=held) (fun t l ds fuel x=>open_cells d t l ds fuel x) fs.toList 0 l hl' (fun f hfm=>by
      obtain ⟨i,hi⟩:=List.getElem?_of_mem hfm
      have h1:=hf i f (by simpa using hi)
      have hi':i < xs.length:=by
       rw [hxs]
       rcases Nat.lt_or_ge i fs.size with h7 | h7
       ·exact h7
       ·rw [List.getElem?_eq_none (by simpa using h7)] at hi; cases hi
      exact ⟨n,_,h1.trans (List.getElem?_eq_getElem hi')⟩)
     exact ⟨avs,by rw [CTall_len q1,hlen,hc],q1,by simpa using q2⟩
    ·cases h
   ·rename_i n e hu
    split at h <;> (try (cases h; done))
    rename_i le hle
    split at h
    ·rename_i hc
     obtain ⟨hc1,hc2⟩:=hc
     cases h
     obtain ⟨xs,m,_,_,hlen,hxs,hf⟩:=DataW.trod_array hu ht
     have key:∀ k,k≤n→∃ avs,CTall (List.replicate k le).flatten avs∧Cells w avs (cs.drop ((n - k) * le.length)):=by
      intro k
      induction k with
      | zero=>intro _; exact ⟨[],rfl,fun i c u hc _=>by cases hc⟩
      | succ k ih =>
        intro hk
        obtain ⟨a2,q1,q2⟩:=ih (by omega)
        have h1:=hf (n - (k+1)) (by omega)
        rw [List.getElem?_eq_getElem (by omega)] at h1
        obtain ⟨a1,e1,e2,e3⟩:=open_cells d e le _ m _ hle h1
        refine ⟨a1 ++ a2,by rw [List.replicate_succ,List.flatten_cons]; exact CTall_app e2 q1,?_⟩
        have hl:a1.length=le.length:=CTall_len e2
        intro i c u hc hu
        by_cases hi:i < a1.length
        ·rw [List.getElem?_append_left hi] at hc
         refine e3 i c u hc ?_
         rw [hc1,List.getElem?_take,if_pos (by omega)]; exact hu
        ·rw [List.getElem?_append_right (by omega)] at hc
         refine q2 (i - a1.length) c u hc ?_
         rw [List.getElem?_drop] at hu ⊢
         rw [← hu]; congr 1
         have:n - k=n - (k+1)+1:=by omega
         rw [this,Nat.add_mul]; omega
     obtain ⟨avs,q1,q2⟩:=key n (Nat.le_refl _)
     refine ⟨avs,?_,q1,by simpa using q2⟩
     rw [CTall_len q1,hlen,hc2]; simp
    ·cases h

theorem okWide_array {r:Reach} {n:Nat} {t e:TypeId} {v:Value} (ht:P.underlying t=some (.array n e)) (h:Value.okWide P w r base t v):∃ cs,v=.agg cs∧cs.size=P.cellsOf t:=by
 simp only [Value.okWide,ht] at h
 obtain ⟨cs,h1,h2,_⟩:=h
 exact ⟨cs,h1,h2⟩
theorem open_sc {t:TypeId} {v:Value} {d:DataW H} {ps:List MemPlace} {l:List CT} (hv:v.cells.toList=[v]) (hl:ctOf P 9 t=some l) (h:DataW.Trod enc P w base spare held t v d ps) :
 ∃ a,TyOK false l a∧FRep w noBad a v:=by
 obtain ⟨fuel,h⟩:=h
 obtain ⟨avs,h1,h2,h3⟩:=open_cells 9 t l _ fuel _ hl h
 rw [hv] at h1 h3
 match avs,h1 with
 | [a],_=>exact ⟨a,⟨_,rfl,h2⟩,h3 0 a v rfl rfl⟩
theorem open_ag {t:TypeId} {cs:Array Value} {d:DataW H} {ps:List MemPlace} {l:List CT} (hl:ctOf P 9 t=some l) (h:DataW.Trod enc P w base spare held t (.agg cs) d ps) :
 ∃ a,TyOK true l a∧FRep w noBad a (.agg cs):=by
 obtain ⟨fuel,h⟩:=h
 obtain ⟨avs,h1,h2,h3⟩:=open_cells 9 t l _ fuel _ hl h
 refine ⟨.agg avs,⟨_,rfl,h2⟩,?_⟩
 have:=FRep.agg (w:=w) (bad:=noBad) avs cs.toList h1 h3
 simpa using this
end
end Go.Proofs.Ytkfppigcjdapnaa.AE

namespace Go.Proofs.Ytkfppigcjdapnaa.AE
set_option linter.unusedVariables false
set_option linter.unusedSimpArgs false
set_option linter.constructorNameAsVariable false
open Go Go.Proofs.Ytkfppigcjdapnaa.Geo
theorem maxLen_eq:Go.maxLen=9223372036854775807:=by decide
theorem rows_pts:∀ l:List AV,(∀ x ∈ l,∃ cs,x=.agg cs∧CTall [(.i .i64),(.i .i64)] cs)→∃ ps:List Pt,l=ps.map pt
 | [],_=>⟨[],rfl⟩
 | x::l,h=>by
   obtain ⟨ps,rfl⟩:=rows_pts l fun y hy=>h y (List.mem_cons_of_mem _ hy)
   obtain ⟨_,rfl,_,_,rfl,⟨a,rfl,_⟩,_,_,rfl,⟨b,rfl,_⟩,rfl⟩:=h x (List.mem_cons_self ..)
   exact ⟨(a,b)::ps,rfl⟩
theorem ty_pts {v:AV} (h:TyOK false [(.sl true [(.i .i64),(.i .i64)])] v):∃ ps:List Pt,v=.lst (ps.map pt)∧ps.length≤9223372036854775807:=by
 obtain ⟨_,rfl,_,_,e,⟨l,rfl,hl,hx⟩,rfl⟩:=h
 injection e with e _
 subst e
 obtain ⟨ps,rfl⟩:=rows_pts l hx
 exact ⟨ps,rfl,by rw [← maxLen_eq]; simpa using hl⟩
end Go.Proofs.Ytkfppigcjdapnaa.AE

namespace Go.Proofs.Ytkfppigcjdapnaa.AE
set_option linter.unusedVariables false
set_option linter.unusedSimpArgs false
set_option linter.constructorNameAsVariable false
open Go Go.Proofs.Ytkfppigcjdapnaa.Geo
set_option maxRecDepth 100000
attribute [local irreducible] pcall C0
def metB (ps:List Pt) (f:Pt→Int) (x:Int) (i:Nat) (b:Bool):Prop:=b=true ↔ ∃ j,j < i∧f (vv ps j)=x
theorem met_step {ps:List Pt} {f:Pt→Int} {x:Int} {i:Nat} {b:Bool} (h:metB ps f x i b):metB ps f x (i+1) (b || (f (vv ps i) == x)):=by
 unfold metB at *
 rw [Bool.or_eq_true,h,beq_iff_eq]
 constructor
 ·rintro (⟨j,h1,h2⟩ | h)
  ·exact ⟨j,by omega,h2⟩
  ·exact ⟨i,by omega,h⟩
 ·rintro ⟨j,h1,h2⟩
  by_cases e:j=i
  ·subst e; exact .inr h2
  ·exact .inl ⟨j,by omega,h2⟩
abbrev met4 (a b c e:Bool):AV:=.agg [.bool a,.bool b,.bool c,.bool e]
section
variable (ps:List Pt) (hl:ps.length≤1000000) (hr:rightB ps=true)
include hl hr
theorem down1:∀ (m i f:Nat) (a b c e:Bool) (G:Heap),i+m=ps.length→m < f→metB ps (·.1) (bbX ps).1.1 i a→metB ps (·.1) (bbX ps).2.1 i b→metB ps (·.2) (bbX ps).1.2 i c→metB ps (·.2) (bbX ps).2.2 i e →
 L8_1 40 (ps.map pt) true (.ptr 0 0 0) (.ptr 1 0 0) (ps.length:Nat) f (i:Nat) ([some ⟨E28,[bx (bbX ps)]⟩,some ⟨E48,[met4 a b c e]⟩] ++ G)=some (.bool true):=by
 have ok:=(right_ok hr).2.2
 have h3:=(right_ok hr).1
 intro m
 induction m with
 | zero =>
   intro i f a b c e G hi hf ha hb hc he
   obtain ⟨f,rfl⟩:∃ g,f=g+1:=⟨f - 1,by omega⟩
   obtain ⟨s1,s2⟩:=spread hr
   have all:∀ {g:Pt→Int} {x:Int} {t:Bool},metB ps g x i t→(∃ q ∈ ps,g q=x)→t=true:=by
    intro g x t ht ⟨q,hq,hx⟩
    obtain ⟨j,hj,rfl⟩:=mem_vv hq
    exact ht.mpr ⟨j,by omega,hx⟩
   obtain ⟨g1,g2,g3,g4⟩:=bb_hit (ps:=ps) (by omega)
   rw [L8_1,decide_eq_false (by omega),cnd_f,X8_1_0,L8_12,all ha g1,all hb g2,all hc g3,all he g4]
   repeat with_reducible first | refine tt sh_ptr ?_ | refine tt sh_fptr ?_ | refine tt w2 ?_ | refine tt w3 ?_ | refine tt w8 ?_ | refine tt w9 ?_ | refine tt wf ?_ | refine tt wg ?_ | refine tt wh ?_ | refine tt wi ?_ | refine tt wj ?_ | refine tt wk ?_ | refine tt wl ?_ | refine tt wn ?_ | refine tt c_ort ?_ | refine tt c_nt ?_ | refine tt c_nf ?_ | refine tt (cnd_t _ _) ?_ | refine tt (cnd_f _ _) ?_ | refine tt w6 ?_ | refine tt w4 ?_ | refine tt w5 ?_ | refine tt w7 ?_ | refine tt wm ?_ | refine tt wo ?_ | refine tt wx ?_ | refine tt nil_ptr ?_ | refine tt len_lst ?_ | refine tt len_zsl ?_
   refine Eq.trans (pl_len (by rfl)) ?_
   repeat with_reducible first | refine tt sh_ptr ?_ | refine tt sh_fptr ?_ | refine tt w2 ?_ | refine tt w3 ?_ | refine tt w8 ?_ | refine tt w9 ?_ | refine tt wf ?_ | refine tt wg ?_ | refine tt wh ?_ | refine tt wi ?_ | refine tt wj ?_ | refine tt wk ?_ | refine tt wl ?_ | refine tt wn ?_ | refine tt c_ort ?_ | refine tt c_nt ?_ | refine tt c_nf ?_ | refine tt (cnd_t _ _) ?_ | refine tt (cnd_f _ _) ?_ | refine tt w6 ?_ | refine tt w4 ?_ | refine tt w5 ?_ | refine tt w7 ?_ | refine tt wm ?_ | refine tt wo ?_ | refine tt wx ?_ | refine tt nil_ptr ?_ | refine tt len_lst ?_ | refine tt len_zsl ?_
   rw [decide_eq_true s1]
   repeat with_reducible first | refine tt sh_ptr ?_ | refine tt sh_fptr ?_ | refine tt w2 ?_ | refine tt w3 ?_ | refine tt w8 ?_ | refine tt w9 ?_ | refine tt wf ?_ | refine tt wg ?_ | refine tt wh ?_ | refine tt wi ?_ | refine tt wj ?_ | refine tt wk ?_ | refine tt wl ?_ | refine tt wn ?_ | refine tt c_ort ?_ | refine tt c_nt ?_ | refine tt c_nf ?_ | refine tt (cnd_t _ _) ?_ | refine tt (cnd_f _ _) ?_ | refine tt w6 ?_ | refine tt w4 ?_ | refine tt w5 ?_ | refine tt w7 ?_ | refine tt wm ?_ | refine tt wo ?_ | refine tt wx ?_ | refine tt nil_ptr ?_ | refine tt len_lst ?_ | refine tt len_zsl ?_
   rw [decide_eq_true s2,X8_12_0]
   exact f_free (by rfl)
 | succ m ih =>
   intro i f a b c e G hi hf ha hb hc he
   obtain ⟨f,rfl⟩:∃ g,f=g+1:=⟨f - 1,by omega⟩
   have hil:i < ps.length:=by omega
   obtain ⟨b1,b2,b3,b4⟩:=bb_all ps hil
   have z0:sideB ps (vv ps i)=0:=sideB_on hr (okb_t.mpr (vv_ok ok hil)) hil (On_a _ _)
   have ha:=met_step ha
   have hb:=met_step hb
   have hc:=met_step hc
   have he:=met_step he
   generalize hk:(fun (x61:Int) (H:Heap)=>L8_1 40 (ps.map pt) true (.ptr 0 0 0) (.ptr 1 0 0) (ps.length:Nat) f x61 H)=kN
   generalize hkR:(fun (b775:Bool) (H:Heap)=>E8_1 40 (ps.map pt) true (.ptr 0 0 0) (.ptr 1 0 0) (ps.length:Nat) b775 H)=kR
   have h6:L8_6 40 (ps.map pt) (.ptr 0 0 0) (i:Nat) (.ptr (2+(G.length+0)) 0 0) kN kR 1
    ([some ⟨E28,[bx (bbX ps)]⟩,some ⟨E48,[met4 (a || ((vv ps i).1 == (bbX ps).1.1)) (b || ((vv ps i).1 == (bbX ps).2.1)) (c || ((vv ps i).2 == (bbX ps).1.2)) (e || ((vv ps i).2 == (bbX ps).2.2))]⟩] ++ (G ++ [some ⟨E24,[pt (vv ps i)]⟩]))=some (.bool true):=by
    rw [L8_6]
    repeat with_reducible first | refine tt sh_ptr ?_ | refine tt sh_fptr ?_ | refine tt w2 ?_ | refine tt w3 ?_ | refine tt w8 ?_ | refine tt w9 ?_ | refine tt wf ?_ | refine tt wg ?_ | refine tt wh ?_ | refine tt wi ?_ | refine tt wj ?_ | refine tt wk ?_ | refine tt wl ?_ | refine tt wn ?_ | refine tt c_ort ?_ | refine tt c_nt ?_ | refine tt c_nf ?_ | refine tt (cnd_t _ _) ?_ | refine tt (cnd_f _ _) ?_ | refine tt w6 ?_ | refine tt w4 ?_ | refine tt w5 ?_ | refine tt w7 ?_ | refine tt wm ?_ | refine tt wo ?_ | refine tt wx ?_ | refine tt nil_ptr ?_ | refine tt len_lst ?_ | refine tt len_zsl ?_
    rw [decide_eq_false (by omega)]
    repeat with_reducible first | refine tt sh_ptr ?_ | refine tt sh_fptr ?_ | refine tt w2 ?_ | refine tt w3 ?_ | refine tt w8 ?_ | refine tt w9 ?_ | refine tt wf ?_ | refine tt wg ?_ | refine tt wh ?_ | refine tt wi ?_ | refine tt wj ?_ | refine tt wk ?_ | refine tt wl ?_ | refine tt wn ?_ | refine tt c_ort ?_ | refine tt c_nt ?_ | refine tt c_nf ?_ | refine tt (cnd_t _ _) ?_ | refine tt (cnd_f _ _) ?_ | refine tt w6 ?_ | refine tt w4 ?_ | refine tt w5 ?_ | refine tt w7 ?_ | refine tt wm ?_ | refine tt wo ?_ | refine tt wx ?_ | refine tt nil_ptr ?_ | refine tt len_lst ?_ | refine tt len_zsl ?_
    rw [decide_eq_false (by omega)]
    repeat with_reducible first | refine tt sh_ptr ?_ | refine tt sh_fptr ?_ | refine tt w2 ?_ | refine tt w3 ?_ | refine tt w8 ?_ | refine tt w9 ?_ | refine tt wf ?_ | refine tt wg ?_ | refine tt wh ?_ | refine tt wi ?_ | refine tt wj ?_ | refine tt wk ?_ | refine tt wl ?_ | refine tt wn ?_ | refine tt c_ort ?_ | refine tt c_nt ?_ | refine tt c_nf ?_ | refine tt (cnd_t _ _) ?_ | refine tt (cnd_f _ _) ?_ | refine tt w6 ?_ | refine tt w4 ?_ | refine tt w5 ?_ | refine tt w7 ?_ | refine tt wm ?_ | refine tt wo ?_ | refine tt wx ?_ | refine tt nil_ptr ?_ | refine tt len_lst ?_ | refine tt len_zsl ?_
    rw [decide_eq_false (by omega)]
    repeat with_reducible first | refine tt sh_ptr ?_ | refine tt sh_fptr ?_ | refine tt w2 ?_ | refine tt w3 ?_ | refine tt w8 ?_ | refine tt w9 ?_ | refine tt wf ?_ | refine tt wg ?_ | refine tt wh ?_ | refine tt wi ?_ | refine tt wj ?_ | refine tt wk ?_ | refine tt wl ?_ | refine tt wn ?_ | refine tt c_ort ?_ | refine tt c_nt ?_ | refine tt c_nf ?_ | refine tt (cnd_t _ _) ?_ | refine tt (cnd_f _ _) ?_ | refine tt w6 ?_ | refine tt w4 ?_ | refine tt w5 ?_ | refine tt w7 ?_ | refine tt wm ?_ | refine tt wo ?_ | refine tt wx ?_ | refine tt nil_ptr ?_ | refine tt len_lst ?_ | refine tt len_zsl ?_
    rw [decide_eq_false (by omega)]
    repeat with_reducible first | refine tt sh_ptr ?_ | refine tt sh_fptr ?_ | refine tt w2 ?_ | refine tt w3 ?_ | refine tt w8 ?_ | refine tt w9 ?_ | refine tt wf ?_ | refine tt wg ?_ | refine tt wh ?_ | refine tt wi ?_ | refine tt wj ?_ | refine tt wk ?_ | refine tt wl ?_ | refine tt wn ?_ | refine tt c_ort ?_ | refine tt c_nt ?_ | refine tt c_nf ?_ | refine tt (cnd_t _ _) ?_ | refine tt (cnd_f _ _) ?_ | refine tt w6 ?_ | refine tt w4 ?_ | refine tt w5 ?_ | refine tt w7 ?_ | refine tt wm ?_ | refine tt wo ?_ | refine tt wx ?_ | refine tt nil_ptr ?_ | refine tt len_lst ?_ | refine tt len_zsl ?_
    refine Eq.trans (pl_int (s16 27 ps (vv ps i) (by omega))) ?_
    rw [z0]
    repeat with_reducible first | refine tt sh_ptr ?_ | refine tt sh_fptr ?_ | refine tt w2 ?_ | refine tt w3 ?_ | refine tt w8 ?_ | refine tt w9 ?_ | refine tt wf ?_ | refine tt wg ?_ | refine tt wh ?_ | refine tt wi ?_ | refine tt wj ?_ | refine tt wk ?_ | refine tt wl ?_ | refine tt wn ?_ | refine tt c_ort ?_ | refine tt c_nt ?_ | refine tt c_nf ?_ | refine tt (cnd_t _ _) ?_ | refine tt (cnd_f _ _) ?_ | refine tt w6 ?_ | refine tt w4 ?_ | refine tt w5 ?_ | refine tt w7 ?_ | refine tt wm ?_ | refine tt wo ?_ | refine tt wx ?_ | refine tt nil_ptr ?_ | refine tt len_lst ?_ | refine tt len_zsl ?_
    rw [X8_6_0,show decide ((0:Int) < 0)=false from rfl,cnd_f,wsuc (by omega),← hk]
    exact ih (i+1) f _ _ _ _ _ (by omega) (by omega) ha hb hc he
   have h5:L8_5 40 (ps.map pt) (.ptr 0 0 0) (.ptr 1 0 0) (i:Nat) (.ptr (2+(G.length+0)) 0 0) kN kR 1
    ([some ⟨E28,[bx (bbX ps)]⟩,some ⟨E48,[met4 (a || ((vv ps i).1 == (bbX ps).1.1)) (b || ((vv ps i).1 == (bbX ps).2.1)) (c || ((vv ps i).2 == (bbX ps).1.2)) e]⟩] ++ (G ++ [some ⟨E24,[pt (vv ps i)]⟩]))=some (.bool true):=by
    rw [L8_5]
    repeat with_reducible first | refine tt sh_ptr ?_ | refine tt sh_fptr ?_ | refine tt w2 ?_ | refine tt w3 ?_ | refine tt w8 ?_ | refine tt w9 ?_ | refine tt wf ?_ | refine tt wg ?_ | refine tt wh ?_ | refine tt wi ?_ | refine tt wj ?_ | refine tt wk ?_ | refine tt wl ?_ | refine tt wn ?_ | refine tt c_ort ?_ | refine tt c_nt ?_ | refine tt c_nf ?_ | refine tt (cnd_t _ _) ?_ | refine tt (cnd_f _ _) ?_ | refine tt w6 ?_ | refine tt w4 ?_ | refine tt w5 ?_ | refine tt w7 ?_ | refine tt wm ?_ | refine tt wo ?_ | refine tt wx ?_ | refine tt nil_ptr ?_ | refine tt len_lst ?_ | refine tt len_zsl ?_
    cases e
    ·repeat with_reducible first | refine tt sh_ptr ?_ | refine tt sh_fptr ?_ | refine tt w2 ?_ | refine tt w3 ?_ | refine tt w8 ?_ | refine tt w9 ?_ | refine tt wf ?_ | refine tt wg ?_ | refine tt wh ?_ | refine tt wi ?_ | refine tt wj ?_ | refine tt wk ?_ | refine tt wl ?_ | refine tt wn ?_ | refine tt c_ort ?_ | refine tt c_nt ?_ | refine tt c_nf ?_ | refine tt (cnd_t _ _) ?_ | refine tt (cnd_f _ _) ?_ | refine tt w6 ?_ | refine tt w4 ?_ | refine tt w5 ?_ | refine tt w7 ?_ | refine tt wm ?_ | refine tt wo ?_ | refine tt wx ?_ | refine tt nil_ptr ?_ | refine tt len_lst ?_ | refine tt len_zsl ?_
     rw [X8_5_0]; exact h6
    ·repeat with_reducible first | refine tt sh_ptr ?_ | refine tt sh_fptr ?_ | refine tt w2 ?_ | refine tt w3 ?_ | refine tt w8 ?_ | refine tt w9 ?_ | refine tt wf ?_ | refine tt wg ?_ | refine tt wh ?_ | refine tt wi ?_ | refine tt wj ?_ | refine tt wk ?_ | refine tt wl ?_ | refine tt wn ?_ | refine tt c_ort ?_ | refine tt c_nt ?_ | refine tt c_nf ?_ | refine tt (cnd_t _ _) ?_ | refine tt (cnd_f _ _) ?_ | refine tt w6 ?_ | refine tt w4 ?_ | refine tt w5 ?_ | refine tt w7 ?_ | refine tt wm ?_ | refine tt wo ?_ | refine tt wx ?_ | refine tt nil_ptr ?_ | refine tt len_lst ?_ | refine tt len_zsl ?_
     rw [X8_5_0]; exact h6
   have h4:L8_4 40 (ps.map pt) (.ptr 0 0 0) (.ptr 1 0 0) (i:Nat) (.ptr (2+(G.length+0)) 0 0) kN kR 1
    ([some ⟨E28,[bx (bbX ps)]⟩,some ⟨E48,[met4 (a || ((vv ps i).1 == (bbX ps).1.1)) (b || ((vv ps i).1 == (bbX ps).2.1)) c e]⟩] ++ (G ++ [some ⟨E24,[pt (vv ps i)]⟩]))=some (.bool true):=by
    rw [L8_4]
    repeat with_reducible first | refine tt sh_ptr ?_ | refine tt sh_fptr ?_ | refine tt w2 ?_ | refine tt w3 ?_ | refine tt w8 ?_ | refine tt w9 ?_ | refine tt wf ?_ | refine tt wg ?_ | refine tt wh ?_ | refine tt wi ?_ | refine tt wj ?_ | refine tt wk ?_ | refine tt wl ?_ | refine tt wn ?_ | refine tt c_ort ?_ | refine tt c_nt ?_ | refine tt c_nf ?_ | refine tt (cnd_t _ _) ?_ | refine tt (cnd_f _ _) ?_ | refine tt w6 ?_ | refine tt w4 ?_ | refine tt w5 ?_ | refine tt w7 ?_ | refine tt wm ?_ | refine tt wo ?_ | refine tt wx ?_ | refine tt nil_ptr ?_ | refine tt len_lst ?_ | refine tt len_zsl ?_
    cases c
    ·repeat with_reducible first | refine tt sh_ptr ?_ | refine tt sh_fptr ?_ | refine tt w2 ?_ | refine tt w3 ?_ | refine tt w8 ?_ | refine tt w9 ?_ | refine tt wf ?_ | refine tt wg ?_ | refine tt wh ?_ | refine tt wi ?_ | refine tt wj ?_ | refine tt wk ?_ | refine tt wl ?_ | refine tt wn ?_ | refine tt c_ort ?_ | refine tt c_nt ?_ | refine tt c_nf ?_ | refine tt (cnd_t _ _) ?_ | refine tt (cnd_f _ _) ?_ | refine tt w6 ?_ | refine tt w4 ?_ | refine tt w5 ?_ | refine tt w7 ?_ | refine tt wm ?_ | refine tt wo ?_ | refine tt wx ?_ | refine tt nil_ptr ?_ | refine tt len_lst ?_ | refine tt len_zsl ?_
     rw [X8_4_0]; exact h5
    ·repeat with_reducible first | refine tt sh_ptr ?_ | refine tt sh_fptr ?_ | refine tt w2 ?_ | refine tt w3 ?_ | refine tt w8 ?_ | refine tt w9 ?_ | refine tt wf ?_ | refine tt wg ?_ | refine tt wh ?_ | refine tt wi ?_ | refine tt wj ?_ | refine tt wk ?_ | refine tt wl ?_ | refine tt wn ?_ | refine tt c_ort ?_ | refine tt c_nt ?_ | refine tt c_nf ?_ | refine tt (cnd_t _ _) ?_ | refine tt (cnd_f _ _) ?_ | refine tt w6 ?_ | refine tt w4 ?_ | refine tt w5 ?_ | refine tt w7 ?_ | refine tt wm ?_ | refine tt wo ?_ | refine tt wx ?_ | refine tt nil_ptr ?_ | refine tt len_lst ?_ | refine tt len_zsl ?_
     rw [X8_4_0]; exact h5
   have h3:L8_3 40 (ps.map pt) (.ptr 0 0 0) (.ptr 1 0 0) (i:Nat) (.ptr (2+(G.length+0)) 0 0) kN kR 1
    ([some ⟨E28,[bx (bbX ps)]⟩,some ⟨E48,[met4 (a || ((vv ps i).1 == (bbX ps).1.1)) b c e]⟩] ++ (G ++ [some ⟨E24,[pt (vv ps i)]⟩]))=some (.bool true):=by
    rw [L8_3]
    repeat with_reducible first | refine tt sh_ptr ?_ | refine tt sh_fptr ?_ | refine tt w2 ?_ | refine tt w3 ?_ | refine tt w8 ?_ | refine tt w9 ?_ | refine tt wf ?_ | refine tt wg ?_ | refine tt wh ?_ | refine tt wi ?_ | refine tt wj ?_ | refine tt wk ?_ | refine tt wl ?_ | refine tt wn ?_ | refine tt c_ort ?_ | refine tt c_nt ?_ | refine tt c_nf ?_ | refine tt (cnd_t _ _) ?_ | refine tt (cnd_f _ _) ?_ | refine tt w6 ?_ | refine tt w4 ?_ | refine tt w5 ?_ | refine tt w7 ?_ | refine tt wm ?_ | refine tt wo ?_ | refine tt wx ?_ | refine tt nil_ptr ?_ | refine tt len_lst ?_ | refine tt len_zsl ?_
    cases b
    ·repeat with_reducible first | refine tt sh_ptr ?_ | refine tt sh_fptr ?_ | refine tt w2 ?_ | refine tt w3 ?_ | refine tt w8 ?_ | refine tt w9 ?_ | refine tt wf ?_ | refine tt wg ?_ | refine tt wh ?_ | refine tt wi ?_ | refine tt wj ?_ | refine tt wk ?_ | refine tt wl ?_ | refine tt wn ?_ | refine tt c_ort ?_ | refine tt c_nt ?_ | refine tt c_nf ?_ | refine tt (cnd_t _ _) ?_ | refine tt (cnd_f _ _) ?_ | refine tt w6 ?_ | refine tt w4 ?_ | refine tt w5 ?_ | refine tt w7 ?_ | refine tt wm ?_ | refine tt wo ?_ | refine tt wx ?_ | refine tt nil_ptr ?_ | refine tt len_lst ?_ | refine tt len_zsl ?_
     rw [X8_3_0]; exact h4
    ·repeat with_reducible first | refine tt sh_ptr ?_ | refine tt sh_fptr ?_ | refine tt w2 ?_ | refine tt w3 ?_ | refine tt w8 ?_ | refine tt w9 ?_ | refine tt wf ?_ | refine tt wg ?_ | refine tt wh ?_ | refine tt wi ?_ | refine tt wj ?_ | refine tt wk ?_ | refine tt wl ?_ | refine tt wn ?_ | refine tt c_ort ?_ | refine tt c_nt ?_ | refine tt c_nf ?_ | refine tt (cnd_t _ _) ?_ | refine tt (cnd_f _ _) ?_ | refine tt w6 ?_ | refine tt w4 ?_ | refine tt w5 ?_ | refine tt w7 ?_ | refine tt wm ?_ | refine tt wo ?_ | refine tt wx ?_ | refine tt nil_ptr ?_ | refine tt len_lst ?_ | refine tt len_zsl ?_
     rw [X8_3_0]; exact h4
   have h2:L8_2 40 (ps.map pt) (.ptr 0 0 0) (.ptr 1 0 0) (i:Nat) (.ptr (2+(G.length+0)) 0 0) kN kR 1
    ([some ⟨E28,[bx (bbX ps)]⟩,some ⟨E48,[met4 a b c e]⟩] ++ (G ++ [some ⟨E24,[pt (vv ps i)]⟩]))=some (.bool true):=by
    rw [L8_2]
    repeat with_reducible first | refine tt sh_ptr ?_ | refine tt sh_fptr ?_ | refine tt w2 ?_ | refine tt w3 ?_ | refine tt w8 ?_ | refine tt w9 ?_ | refine tt wf ?_ | refine tt wg ?_ | refine tt wh ?_ | refine tt wi ?_ | refine tt wj ?_ | refine tt wk ?_ | refine tt wl ?_ | refine tt wn ?_ | refine tt c_ort ?_ | refine tt c_nt ?_ | refine tt c_nf ?_ | refine tt (cnd_t _ _) ?_ | refine tt (cnd_f _ _) ?_ | refine tt w6 ?_ | refine tt w4 ?_ | refine tt w5 ?_ | refine tt w7 ?_ | refine tt wm ?_ | refine tt wo ?_ | refine tt wx ?_ | refine tt nil_ptr ?_ | refine tt len_lst ?_ | refine tt len_zsl ?_
    cases a
    ·repeat with_reducible first | refine tt sh_ptr ?_ | refine tt sh_fptr ?_ | refine tt w2 ?_ | refine tt w3 ?_ | refine tt w8 ?_ | refine tt w9 ?_ | refine tt wf ?_ | refine tt wg ?_ | refine tt wh ?_ | refine tt wi ?_ | refine tt wj ?_ | refine tt wk ?_ | refine tt wl ?_ | refine tt wn ?_ | refine tt c_ort ?_ | refine tt c_nt ?_ | refine tt c_nf ?_ | refine tt (cnd_t _ _) ?_ | refine tt (cnd_f _ _) ?_ | refine tt w6 ?_ | refine tt w4 ?_ | refine tt w5 ?_ | refine tt w7 ?_ | refine tt wm ?_ | refine tt wo ?_ | refine tt wx ?_ | refine tt nil_ptr ?_ | refine tt len_lst ?_ | refine tt len_zsl ?_
     rw [X8_2_0]; exact h3
    ·repeat with_reducible first | refine tt sh_ptr ?_ | refine tt sh_fptr ?_ | refine tt w2 ?_ | refine tt w3 ?_ | refine tt w8 ?_ | refine tt w9 ?_ | refine tt wf ?_ | refine tt wg ?_ | refine tt wh ?_ | refine tt wi ?_ | refine tt wj ?_ | refine tt wk ?_ | refine tt wl ?_ | refine tt wn ?_ | refine tt c_ort ?_ | refine tt c_nt ?_ | refine tt c_nf ?_ | refine tt (cnd_t _ _) ?_ | refine tt (cnd_f _ _) ?_ | refine tt w6 ?_ | refine tt w4 ?_ | refine tt w5 ?_ | refine tt w7 ?_ | refine tt wm ?_ | refine tt wo ?_ | refine tt wx ?_ | refine tt nil_ptr ?_ | refine tt len_lst ?_ | refine tt len_zsl ?_
     rw [X8_2_0]; exact h3
   rw [L8_1,decide_eq_true (by omega),cnd_t,hk,hkR]
   refine Eq.trans h_more ?_
   repeat with_reducible first | refine tt sh_ptr ?_ | refine tt sh_fptr ?_ | refine tt w2 ?_ | refine tt w3 ?_ | refine tt w8 ?_ | refine tt w9 ?_ | refine tt wf ?_ | refine tt wg ?_ | refine tt wh ?_ | refine tt wi ?_ | refine tt wj ?_ | refine tt wk ?_ | refine tt wl ?_ | refine tt wn ?_ | refine tt c_ort ?_ | refine tt c_nt ?_ | refine tt c_nf ?_ | refine tt (cnd_t _ _) ?_ | refine tt (cnd_f _ _) ?_ | refine tt w6 ?_ | refine tt w4 ?_ | refine tt w5 ?_ | refine tt w7 ?_ | refine tt wm ?_ | refine tt wo ?_ | refine tt wx ?_ | refine tt nil_ptr ?_ | refine tt len_lst ?_ | refine tt len_zsl ?_ | refine tt (ix_pts hil) ?_
   exact h2
end
theorem down_core (ps:List Pt):pcall M 41 8 [.lst (ps.map pt)]=some (.bool true):=told (q8 40 _) (by
 have base:X8_0_0 40 (ps.map pt) true []=some (.bool true):=by
  rw [X8_0_0,cnd_t]
  refine Eq.trans (pl_bool awake) ?_
  exact f_free (by rfl)
 rw [L8_0]
 refine Eq.trans (pl_bool awake) ?_
 repeat with_reducible first | refine tt sh_ptr ?_ | refine tt sh_fptr ?_ | refine tt w2 ?_ | refine tt w3 ?_ | refine tt w8 ?_ | refine tt w9 ?_ | refine tt wf ?_ | refine tt wg ?_ | refine tt wh ?_ | refine tt wi ?_ | refine tt wj ?_ | refine tt wk ?_ | refine tt wl ?_ | refine tt wn ?_ | refine tt c_ort ?_ | refine tt c_nt ?_ | refine tt c_nf ?_ | refine tt (cnd_t _ _) ?_ | refine tt (cnd_f _ _) ?_ | refine tt w6 ?_ | refine tt w4 ?_ | refine tt w5 ?_ | refine tt w7 ?_ | refine tt wm ?_ | refine tt wo ?_ | refine tt wx ?_ | refine tt nil_ptr ?_ | refine tt len_lst ?_ | refine tt len_zsl ?_
 refine Eq.trans (pl_bool (s10 39 ps)) ?_
 repeat with_reducible first | refine tt sh_ptr ?_ | refine tt sh_fptr ?_ | refine tt w2 ?_ | refine tt w3 ?_ | refine tt w8 ?_ | refine tt w9 ?_ | refine tt wf ?_ | refine tt wg ?_ | refine tt wh ?_ | refine tt wi ?_ | refine tt wj ?_ | refine tt wk ?_ | refine tt wl ?_ | refine tt wn ?_ | refine tt c_ort ?_ | refine tt c_nt ?_ | refine tt c_nf ?_ | refine tt (cnd_t _ _) ?_ | refine tt (cnd_f _ _) ?_ | refine tt w6 ?_ | refine tt w4 ?_ | refine tt w5 ?_ | refine tt w7 ?_ | refine tt wm ?_ | refine tt wo ?_ | refine tt wx ?_ | refine tt nil_ptr ?_ | refine tt len_lst ?_ | refine tt len_zsl ?_
 by_cases hf:(ps.length:Int)≤12
 ·rw [decide_eq_true hf]
  repeat with_reducible first | refine tt sh_ptr ?_ | refine tt sh_fptr ?_ | refine tt w2 ?_ | refine tt w3 ?_ | refine tt w8 ?_ | refine tt w9 ?_ | refine tt wf ?_ | refine tt wg ?_ | refine tt wh ?_ | refine tt wi ?_ | refine tt wj ?_ | refine tt wk ?_ | refine tt wl ?_ | refine tt wn ?_ | refine tt c_ort ?_ | refine tt c_nt ?_ | refine tt c_nf ?_ | refine tt (cnd_t _ _) ?_ | refine tt (cnd_f _ _) ?_ | refine tt w6 ?_ | refine tt w4 ?_ | refine tt w5 ?_ | refine tt w7 ?_ | refine tt wm ?_ | refine tt wo ?_ | refine tt wx ?_ | refine tt nil_ptr ?_ | refine tt len_lst ?_ | refine tt len_zsl ?_
  refine Eq.trans (pl_bool (s12 31 ps (by omega))) ?_
  repeat with_reducible first | refine tt sh_ptr ?_ | refine tt sh_fptr ?_ | refine tt w2 ?_ | refine tt w3 ?_ | refine tt w8 ?_ | refine tt w9 ?_ | refine tt wf ?_ | refine tt wg ?_ | refine tt wh ?_ | refine tt wi ?_ | refine tt wj ?_ | refine tt wk ?_ | refine tt wl ?_ | refine tt wn ?_ | refine tt c_ort ?_ | refine tt c_nt ?_ | refine tt c_nf ?_ | refine tt (cnd_t _ _) ?_ | refine tt (cnd_f _ _) ?_ | refine tt w6 ?_ | refine tt w4 ?_ | refine tt w5 ?_ | refine tt w7 ?_ | refine tt wm ?_ | refine tt wo ?_ | refine tt wx ?_ | refine tt nil_ptr ?_ | refine tt len_lst ?_ | refine tt len_zsl ?_
  cases hr:rightB ps
  ·exact base
  ·rw [X8_0_0]
   repeat with_reducible first | refine tt sh_ptr ?_ | refine tt sh_fptr ?_ | refine tt w2 ?_ | refine tt w3 ?_ | refine tt w8 ?_ | refine tt w9 ?_ | refine tt wf ?_ | refine tt wg ?_ | refine tt wh ?_ | refine tt wi ?_ | refine tt wj ?_ | refine tt wk ?_ | refine tt wl ?_ | refine tt wn ?_ | refine tt c_ort ?_ | refine tt c_nt ?_ | refine tt c_nf ?_ | refine tt (cnd_t _ _) ?_ | refine tt (cnd_f _ _) ?_ | refine tt w6 ?_ | refine tt w4 ?_ | refine tt w5 ?_ | refine tt w7 ?_ | refine tt wm ?_ | refine tt wo ?_ | refine tt wx ?_ | refine tt nil_ptr ?_ | refine tt len_lst ?_ | refine tt len_zsl ?_
   refine Eq.trans (pl_tup (s11 27 ps (by omega)) (by rfl)) ?_
   rw [hr]
   repeat with_reducible first | refine tt sh_ptr ?_ | refine tt sh_fptr ?_ | refine tt w2 ?_ | refine tt w3 ?_ | refine tt w8 ?_ | refine tt w9 ?_ | refine tt wf ?_ | refine tt wg ?_ | refine tt wh ?_ | refine tt wi ?_ | refine tt wj ?_ | refine tt wk ?_ | refine tt wl ?_ | refine tt wn ?_ | refine tt c_ort ?_ | refine tt c_nt ?_ | refine tt c_nf ?_ | refine tt (cnd_t _ _) ?_ | refine tt (cnd_f _ _) ?_ | refine tt w6 ?_ | refine tt w4 ?_ | refine tt w5 ?_ | refine tt w7 ?_ | refine tt wm ?_ | refine tt wo ?_ | refine tt wx ?_ | refine tt nil_ptr ?_ | refine tt len_lst ?_ | refine tt len_zsl ?_
   refine Eq.trans h_start ?_
   repeat with_reducible first | refine tt sh_ptr ?_ | refine tt sh_fptr ?_ | refine tt w2 ?_ | refine tt w3 ?_ | refine tt w8 ?_ | refine tt w9 ?_ | refine tt wf ?_ | refine tt wg ?_ | refine tt wh ?_ | refine tt wi ?_ | refine tt wj ?_ | refine tt wk ?_ | refine tt wl ?_ | refine tt wn ?_ | refine tt c_ort ?_ | refine tt c_nt ?_ | refine tt c_nf ?_ | refine tt (cnd_t _ _) ?_ | refine tt (cnd_f _ _) ?_ | refine tt w6 ?_ | refine tt w4 ?_ | refine tt w5 ?_ | refine tt w7 ?_ | refine tt wm ?_ | refine tt wo ?_ | refine tt wx ?_ | refine tt nil_ptr ?_ | refine tt len_lst ?_ | refine tt len_zsl ?_
   rw [pmap_len]
   obtain ⟨fuel,hfuel⟩:∃ f:Nat,f=1000000000000000000:=⟨_,rfl⟩; rw [← hfuel]
   have none0:∀ (f:Pt→Int) (x:Int),metB ps f x 0 false:=fun f x=>⟨fun h=>(by cases h),fun ⟨j,h,_⟩=>(by omega)⟩
   exact down1 ps (by omega) hr ps.length 0 fuel false false false false [] (by omega) (by omega) (none0 _ _) (none0 _ _) (none0 _ _) (none0 _ _)
 ·rw [decide_eq_false hf]
  repeat with_reducible first | refine tt sh_ptr ?_ | refine tt sh_fptr ?_ | refine tt w2 ?_ | refine tt w3 ?_ | refine tt w8 ?_ | refine tt w9 ?_ | refine tt wf ?_ | refine tt wg ?_ | refine tt wh ?_ | refine tt wi ?_ | refine tt wj ?_ | refine tt wk ?_ | refine tt wl ?_ | refine tt wn ?_ | refine tt c_ort ?_ | refine tt c_nt ?_ | refine tt c_nf ?_ | refine tt (cnd_t _ _) ?_ | refine tt (cnd_f _ _) ?_ | refine tt w6 ?_ | refine tt w4 ?_ | refine tt w5 ?_ | refine tt w7 ?_ | refine tt wm ?_ | refine tt wo ?_ | refine tt wx ?_ | refine tt nil_ptr ?_ | refine tt len_lst ?_ | refine tt len_zsl ?_
  exact base)
theorem law_PolyDown (a0:AV) (w0:TyOK false [(.sl true [(.i .i64),(.i .i64)])] a0) :
 pcall M 41 8 [a0]=some (.bool true):=by
 obtain ⟨ps,rfl,hl⟩:=ty_pts w0
 exact down_core ps
end Go.Proofs.Ytkfppigcjdapnaa.AE

namespace Go.Proofs.Ytkfppigcjdapnaa.AE
set_option linter.unusedVariables false
set_option linter.unusedSimpArgs false
set_option linter.constructorNameAsVariable false
open Go Go.RowKit

theorem frl_nil {w:World} {bad:Nat→Prop}:∀ (i:Nat) (c:AV) (u:Value),([]:List AV)[i]?=some c→([]:List Value)[i]?=some u→FRep w bad c u:=fun _ _ _ h=>by cases h
theorem frl_cons {w:World} {bad:Nat→Prop} {c0:AV} {u0:Value} {cs:List AV} {us:List Value} (h0:FRep w bad c0 u0) (h:∀ (i:Nat) (c:AV) (u:Value),cs[i]?=some c→us[i]?=some u→FRep w bad c u) :
 ∀ (i:Nat) (c:AV) (u:Value),(c0::cs)[i]?=some c→(u0::us)[i]?=some u→FRep w bad c u
 | 0,c,u,hc,hu=>by cases hc; cases hu; exact h0
 | i+1,c,u,hc,hu=>h i c u hc hu
theorem law_calls {d:Nat} {g:FuncId} {args:List AV} {vs:List Value} (h:pcall M d g args=some (.bool true)) (W:World) (hl:args.length=vs.length)
 (hr:∀ (i:Nat) (c:AV) (u:Value),args[i]?=some c→vs[i]?=some u→FRep W (fun _=>False) c u) (hc:(cFn Try.prog g).isSome=true:=by kernel_rfl):Calls Try.prog g vs.toArray W fun e W'=>e=.returned (.bool true)∧Below W.heap.size W W':=by
 obtain ⟨fn,hfn⟩:=Option.isSome_iff_exists.mp hc
 rcases pcall_law modOK d g args _ h W (fun _=>False) vs (fun _ h=>h.elim) hl hr with ⟨cv,w',h1,_⟩ | ⟨_,h2⟩
 ·rw [enter_run hfn] at h1; cases h1
 ·refine h2.mono ?_
  rintro e W' ⟨cv,rfl,hf,hb⟩
  cases hf
  exact ⟨rfl,hb⟩
theorem str_size {w:World} {bad:Nat→Prop} {b:List UInt8} {s:ByteArray} (h:FRep w bad (.str b) (.string s)):s.data.toList.length=b.length:=by
 cases h
 rfl
end Go.Proofs.Ytkfppigcjdapnaa.AE
