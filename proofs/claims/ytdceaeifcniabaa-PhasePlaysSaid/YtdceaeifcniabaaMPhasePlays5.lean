/- The texts that the law PhasePlays needs, part 5. No conditions. -/
import Derived.Test.YtdceaeifcniabaaMPhasePlays4
namespace Go.Proofs.Ytdceaeifcniabaa.AE
set_option linter.unusedVariables false
set_option linter.unusedSimpArgs false
set_option linter.constructorNameAsVariable false
open Go
set_option maxRecDepth 100000
set_option maxHeartbeats 0
noncomputable def X3_3_0 (d:Nat) (v0 v64 v112 v277:AV) (k310R:Bool→Heap→Ans) (k310X0:Heap→Ans) (b524:Bool) (H:Heap):Ans :=
 C0.hop H (.fldA 1 (.v v277)) fun v546 h547 =>
  C0.hop h547 (.load false 1 (.v v546)) fun v548 h549 =>
  C0.int .i64 (some v548) fun x550 =>
  C0.hop h549 (.fldA 2 (.v v277)) fun v551 h552 =>
  C0.hop h552 (.load false 1 (.v v551)) fun v553 h554 =>
  C0.int .i64 (some v553) fun x555 =>
  C0.cal M (pcall M d) 12 true 15 [v64,(iz x550),(iz x555)] h554 fun v556 h557 =>
  C0.bool (some v556) fun b558 =>
  cnd (xor true (b558 == b524))
  (k310R false h557)
  (cnd b524
  (C0.grow h557 [] fun n559 h560 =>
  C0.hop h560 (.fldA 1 (.v v277)) fun v561 h562 =>
  C0.hop h562 (.load false 1 (.v v561)) fun v563 h564 =>
  C0.int .i64 (some v563) fun x565 =>
  C0.hop h564 (.fldA 2 (.v v277)) fun v566 h567 =>
  C0.hop h567 (.load false 1 (.v v566)) fun v568 h569 =>
  C0.int .i64 (some v568) fun x570 =>
  C0.hop h569 (.nilck (.v v112)) fun v571 h572 =>
  C0.hop h572 (.fldA 9 (.v v571)) fun v573 h574 =>
  C0.hop h574 (.store 1 (.v v573) (.v (iz x565))) fun v575 h576 =>
  C0.keep h574 h576 [v566] <|
  C0.hop h576 (.nilck (.v v112)) fun v577 h578 =>
  C0.hop h578 (.fldA 10 (.v v577)) fun v579 h580 =>
  C0.hop h580 (.store 1 (.v v579) (.v (iz x570))) fun v581 h582 =>
  k310X0 h582)
  (k310X0 h557))
theorem X3_3_0_ok (d:Nat) (a0:List AV) (a1 a2 a3 a4 a5 a6 a7 a8:Int) (a9:List AV) (v0:AV) (b37 b38 b39:Bool) (v40 v41 v42:AV) (b43 b44:Bool) (v45 v46 v47 v53:AV) (x54 x55 x56 x57 x58 x59 x60 x61:Int) (v64 v68:AV) (x69 x70 x71 x72 x73 x74 x75 x76 x79:Int) (v89:AV) (x90 x91 x92 x93 x94 x95 x96 x97:Int) (v101:AV) (x102 x103 x104 x105 x106 x107 x108 x109 x110 x111:Int) (v112:AV) (x116 x123:Int) (v220 v221 v222 v223 v224 v225 v226 v227 v228 v229 v230 v231 v232 v233 v234 v235 v236 v237 v238 v239 v240 v241 v242 v243 v244 v245 v246 v247 v248 v249 v250 v251 v252 v253 v254 v255 v256 v257 v258 v259 v260 v261 v262 v263 v264 v265:AV) (x270 x271 x272:Int) (b273 b274 b275:Bool) (x276:Int) (v277 v283:AV) (x287:Int) (v288:AV) (b292 b295:Bool) (v296:AV) (x300:Int) (v301:AV) (b305 b308:Bool) (k310:Ex→St→Ans) (b312:Bool) (v337 v338 v339 v340 v341 v342 v343 v344 v345 v346 v347 v348 v349 v350 v351 v352 v353 v354 v355 v358 v359 v360 v361 v362 v363 v364 v365 v366 v367 v368 v369 v370 v373 v374 v375 v376 v377 v378 v379 v380 v381 v382 v383 v384 v385 v386 v387 v388 v389 v390 v391 v392 v393 v394:AV) (x398:Int) (k310R:Bool→Heap→Ans) (k310X0:Heap→Ans) (hk310R:∀ (b895:Bool) (v896 v897:AV) (x898:Int) (v899 v900 v901 v902 v903 v904 v905 v906 v907 v908 v909 v910 v911 v912 v913 v914 v915 v916 v917 v918 v919 v920 v921 v922 v923 v924 v925 v926 v927 v928 v929 v930 v931 v932 v933 v934 v935 v936 v937 v938:AV) (b939 b940:Bool) (v941 v942 v943 v944 v945 v946 v947 v948 v949 v950 v951 v952 v953 v954 v955 v956 v957 v958 v959 v960 v961 v962 v963 v964 v965 v966 v967 v968 v969 v970 v971 v972 v973 v974 v975 v976:AV) (H:Heap),k310 .ret ⟨[(.agg [(.lst a0),(iz a1),(iz a2),(iz a3),(iz a4),(iz a5),(iz a6),(iz a7),(iz a8)]),(.lst a9),v0,tz,(bz b895),v64,v112,tz,v277,v896,(bz b37),(bz b38),(bz b39),v40,v41,v42,(bz b43),(bz b44),v45,v46,v47,bf,tz,(.agg [v53,(iz x54),(iz x55),(iz x56),(iz x57),(iz x58),(iz x59),(iz x60),(iz x61)]),v64,(.agg [v68,(iz x69),(iz x70),(iz x71),(iz x72),(iz x73),(iz x74),(iz x75),(iz x76)]),(iz x79),bf,tz,tz,v64,bf,(.agg [v89,(iz x90),(iz x91),(iz x92),(iz x93),(iz x94),(iz x95),(iz x96),(iz x97)]),(.agg [v101,(iz x102),(iz x103),(iz x104),(iz x105),(iz x106),(iz x107),(iz x108),(iz x109),(iz x110),(iz x111)]),v112,(.lst a9),(iz x116),(iz x123),bt,v265,(.agg [(iz x270),(iz x271),(iz x272),(bz b273),(bz b274),(bz b275),(iz x276)]),v64,v283,(iz x287),v288,(bz b292),(bz b295),v112,v296,(iz x300),v301,(bz b305),(bz b308),bf,v897,(iz x898),v899,v900,v901,v902,v903,v904,v905,v906,v907,v908,v909,v910,v911,v912,v913,v914,v915,v916,v917,v918,v919,v920,v921,v922,v923,v924,v925,v926,v927,v928,v929,v930,v931,v932,v933,v934,v935,v936,v937,v938,(bz b939),(bz b940),v941,v942,v943,v944,v945,v946,v947,v948,v949,v950,v951,v952,v953,v954,v955,v956,v957,v958,v959,v960,v961,v962,v963,v964,v965,v966,v967,v968,v969,v970,v971,v972,v973,v974,v975,v976,v220,v221,v222,v223,v224,v225,v226,v227,v228,v229,v230,v231,v232,v233,v234,v235,v236,v237,v238,v239,v240,v241,v242,v243,v244,v245,v246,v247,v248,v249,v250,v251,v252,v253,v254,v255,v256,v257,v258,v259,v260,v261,v262,v263,v264],H⟩=k310R b895 H) (hk310X0:∀ (b606:Bool) (v607 v608:AV) (x609:Int) (v610 v611 v612 v613 v614 v615 v616 v617 v618 v619 v620 v621 v622 v623 v624 v625 v626 v627 v628 v629 v630 v631 v632 v633 v634 v635 v636 v637 v638 v639 v640 v641 v642 v643 v644 v645 v646 v647 v648 v649:AV) (b650 b651:Bool) (v652 v653 v654 v655 v656 v657 v658 v659 v660 v661 v662 v663 v664 v665 v666 v667 v668 v669 v670 v671 v672 v673 v674 v675 v676 v677 v678 v679 v680 v681 v682 v683 v684 v685 v686 v687:AV) (H:Heap),k310 (.exit 2000000) ⟨[(.agg [(.lst a0),(iz a1),(iz a2),(iz a3),(iz a4),(iz a5),(iz a6),(iz a7),(iz a8)]),(.lst a9),v0,tz,(bz b606),v64,v112,tz,v277,v607,(bz b37),(bz b38),(bz b39),v40,v41,v42,(bz b43),(bz b44),v45,v46,v47,bf,tz,(.agg [v53,(iz x54),(iz x55),(iz x56),(iz x57),(iz x58),(iz x59),(iz x60),(iz x61)]),v64,(.agg [v68,(iz x69),(iz x70),(iz x71),(iz x72),(iz x73),(iz x74),(iz x75),(iz x76)]),(iz x79),bf,tz,tz,v64,bf,(.agg [v89,(iz x90),(iz x91),(iz x92),(iz x93),(iz x94),(iz x95),(iz x96),(iz x97)]),(.agg [v101,(iz x102),(iz x103),(iz x104),(iz x105),(iz x106),(iz x107),(iz x108),(iz x109),(iz x110),(iz x111)]),v112,(.lst a9),(iz x116),(iz x123),bt,v265,(.agg [(iz x270),(iz x271),(iz x272),(bz b273),(bz b274),(bz b275),(iz x276)]),v64,v283,(iz x287),v288,(bz b292),(bz b295),v112,v296,(iz x300),v301,(bz b305),(bz b308),bf,v608,(iz x609),v610,v611,v612,v613,v614,v615,v616,v617,v618,v619,v620,v621,v622,v623,v624,v625,v626,v627,v628,v629,v630,v631,v632,v633,v634,v635,v636,v637,v638,v639,v640,v641,v642,v643,v644,v645,v646,v647,v648,v649,(bz b650),(bz b651),v652,v653,v654,v655,v656,v657,v658,v659,v660,v661,v662,v663,v664,v665,v666,v667,v668,v669,v670,v671,v672,v673,v674,v675,v676,v677,v678,v679,v680,v681,v682,v683,v684,v685,v686,v687,v220,v221,v222,v223,v224,v225,v226,v227,v228,v229,v230,v231,v232,v233,v234,v235,v236,v237,v238,v239,v240,v241,v242,v243,v244,v245,v246,v247,v248,v249,v250,v251,v252,v253,v254,v255,v256,v257,v258,v259,v260,v261,v262,v263,v264],H⟩=k310X0 H) (b524:Bool) (v525:AV) (x526:Int) (b527 b528:Bool) (v529 v530 v531 v532 v533 v534:AV) (b535 b536:Bool) (v537 v538 v539:AV) (b540 b541:Bool) (v542 v543 v544:AV) (b545:Bool) (H:Heap):r3X3_0 C0 d a0 a1 a2 a3 a4 a5 a6 a7 a8 a9 v0 b37 b38 b39 v40 v41 v42 b43 b44 v45 v46 v47 v53 x54 x55 x56 x57 x58 x59 x60 x61 v64 v68 x69 x70 x71 x72 x73 x74 x75 x76 x79 v89 x90 x91 x92 x93 x94 x95 x96 x97 v101 x102 x103 x104 x105 x106 x107 x108 x109 x110 x111 v112 x116 x123 v220 v221 v222 v223 v224 v225 v226 v227 v228 v229 v230 v231 v232 v233 v234 v235 v236 v237 v238 v239 v240 v241 v242 v243 v244 v245 v246 v247 v248 v249 v250 v251 v252 v253 v254 v255 v256 v257 v258 v259 v260 v261 v262 v263 v264 v265 x270 x271 x272 b273 b274 b275 x276 v277 v283 x287 v288 b292 b295 v296 x300 v301 b305 b308 k310 b312 v337 v338 v339 v340 v341 v342 v343 v344 v345 v346 v347 v348 v349 v350 v351 v352 v353 v354 v355 v358 v359 v360 v361 v362 v363 v364 v365 v366 v367 v368 v369 v370 v373 v374 v375 v376 v377 v378 v379 v380 v381 v382 v383 v384 v385 v386 v387 v388 v389 v390 v391 v392 v393 v394 x398 ⟨[(.agg [(.lst a0),(iz a1),(iz a2),(iz a3),(iz a4),(iz a5),(iz a6),(iz a7),(iz a8)]),(.lst a9),v0,tz,(bz b312),v64,v112,tz,v277,(bz b524),(bz b37),(bz b38),(bz b39),v40,v41,v42,(bz b43),(bz b44),v45,v46,v47,bf,tz,(.agg [v53,(iz x54),(iz x55),(iz x56),(iz x57),(iz x58),(iz x59),(iz x60),(iz x61)]),v64,(.agg [v68,(iz x69),(iz x70),(iz x71),(iz x72),(iz x73),(iz x74),(iz x75),(iz x76)]),(iz x79),bf,tz,tz,v64,bf,(.agg [v89,(iz x90),(iz x91),(iz x92),(iz x93),(iz x94),(iz x95),(iz x96),(iz x97)]),(.agg [v101,(iz x102),(iz x103),(iz x104),(iz x105),(iz x106),(iz x107),(iz x108),(iz x109),(iz x110),(iz x111)]),v112,(.lst a9),(iz x116),(iz x123),bt,v265,(.agg [(iz x270),(iz x271),(iz x272),(bz b273),(bz b274),(bz b275),(iz x276)]),v64,v283,(iz x287),v288,(bz b292),(bz b295),v112,v296,(iz x300),v301,(bz b305),(bz b308),bf,v394,(iz x398),v525,(iz x526),(bz b527),(bz b528),v529,v530,v531,v532,v533,v534,(bz b535),(bz b536),v537,v538,v539,(bz b540),(bz b541),v542,v543,v544,(bz b545),v337,v338,v339,v340,v341,v342,v343,v344,v345,v346,v347,v348,v349,v350,v351,v352,v353,v354,v355,bf,(bz (x398 == 1)),v358,v359,v360,v361,v362,v363,v364,v365,v366,v367,v368,v369,v370,bf,(bz (x398 == 2)),v373,v374,v375,v376,v377,v378,v379,v380,v381,v382,v383,v384,v385,v386,v387,v388,v389,v390,v391,v392,v393,v220,v221,v222,v223,v224,v225,v226,v227,v228,v229,v230,v231,v232,v233,v234,v235,v236,v237,v238,v239,v240,v241,v242,v243,v244,v245,v246,v247,v248,v249,v250,v251,v252,v253,v254,v255,v256,v257,v258,v259,v260,v261,v262,v263,v264],H⟩=X3_3_0 d v0 v64 v112 v277 k310R k310X0 b524 H:=by
 try dsimp only at hk310R
 try dsimp only at hk310X0
 unfold r3X3_0; refine Eq.trans (pl_len (by rfl)) ?_; refine yt ySs ?_; refine yt yB ?_; refine yt ySs ?_; refine yt yA ?_; refine yt yI ?_; (iterate 2 (refine yt yB ?_)); (iterate 6 (refine yt yA ?_)); (iterate 2 (refine yt yB ?_)); (iterate 3 (refine yt yA ?_)); (iterate 2 (refine yt yB ?_)); (iterate 3 (refine yt yA ?_)); refine yt yB ?_; refine yt ySs ?_
 first | (simp only [hk310R,hk310X0] <;> rfl) | rfl
noncomputable def E3_3 (d:Nat) (v0 v64 v112 v277:AV) (k310R:Bool→Heap→Ans) (k310X0:Heap→Ans) (H:Heap):Ans :=
 none
theorem E3_3_ok (d:Nat) (a0:List AV) (a1 a2 a3 a4 a5 a6 a7 a8:Int) (a9:List AV) (v0:AV) (b37 b38 b39:Bool) (v40 v41 v42:AV) (b43 b44:Bool) (v45 v46 v47 v53:AV) (x54 x55 x56 x57 x58 x59 x60 x61:Int) (v64 v68:AV) (x69 x70 x71 x72 x73 x74 x75 x76 x79:Int) (v89:AV) (x90 x91 x92 x93 x94 x95 x96 x97:Int) (v101:AV) (x102 x103 x104 x105 x106 x107 x108 x109 x110 x111:Int) (v112:AV) (x116 x123:Int) (v220 v221 v222 v223 v224 v225 v226 v227 v228 v229 v230 v231 v232 v233 v234 v235 v236 v237 v238 v239 v240 v241 v242 v243 v244 v245 v246 v247 v248 v249 v250 v251 v252 v253 v254 v255 v256 v257 v258 v259 v260 v261 v262 v263 v264 v265:AV) (x270 x271 x272:Int) (b273 b274 b275:Bool) (x276:Int) (v277 v283:AV) (x287:Int) (v288:AV) (b292 b295:Bool) (v296:AV) (x300:Int) (v301:AV) (b305 b308:Bool) (k310:Ex→St→Ans) (b312:Bool) (v337 v338 v339 v340 v341 v342 v343 v344 v345 v346 v347 v348 v349 v350 v351 v352 v353 v354 v355 v358 v359 v360 v361 v362 v363 v364 v365 v366 v367 v368 v369 v370 v373 v374 v375 v376 v377 v378 v379 v380 v381 v382 v383 v384 v385 v386 v387 v388 v389 v390 v391 v392 v393 v394:AV) (x398:Int) (k310R:Bool→Heap→Ans) (k310X0:Heap→Ans) (hk310R:∀ (b895:Bool) (v896 v897:AV) (x898:Int) (v899 v900 v901 v902 v903 v904 v905 v906 v907 v908 v909 v910 v911 v912 v913 v914 v915 v916 v917 v918 v919 v920 v921 v922 v923 v924 v925 v926 v927 v928 v929 v930 v931 v932 v933 v934 v935 v936 v937 v938:AV) (b939 b940:Bool) (v941 v942 v943 v944 v945 v946 v947 v948 v949 v950 v951 v952 v953 v954 v955 v956 v957 v958 v959 v960 v961 v962 v963 v964 v965 v966 v967 v968 v969 v970 v971 v972 v973 v974 v975 v976:AV) (H:Heap),k310 .ret ⟨[(.agg [(.lst a0),(iz a1),(iz a2),(iz a3),(iz a4),(iz a5),(iz a6),(iz a7),(iz a8)]),(.lst a9),v0,tz,(bz b895),v64,v112,tz,v277,v896,(bz b37),(bz b38),(bz b39),v40,v41,v42,(bz b43),(bz b44),v45,v46,v47,bf,tz,(.agg [v53,(iz x54),(iz x55),(iz x56),(iz x57),(iz x58),(iz x59),(iz x60),(iz x61)]),v64,(.agg [v68,(iz x69),(iz x70),(iz x71),(iz x72),(iz x73),(iz x74),(iz x75),(iz x76)]),(iz x79),bf,tz,tz,v64,bf,(.agg [v89,(iz x90),(iz x91),(iz x92),(iz x93),(iz x94),(iz x95),(iz x96),(iz x97)]),(.agg [v101,(iz x102),(iz x103),(iz x104),(iz x105),(iz x106),(iz x107),(iz x108),(iz x109),(iz x110),(iz x111)]),v112,(.lst a9),(iz x116),(iz x123),bt,v265,(.agg [(iz x270),(iz x271),(iz x272),(bz b273),(bz b274),(bz b275),(iz x276)]),v64,v283,(iz x287),v288,(bz b292),(bz b295),v112,v296,(iz x300),v301,(bz b305),(bz b308),bf,v897,(iz x898),v899,v900,v901,v902,v903,v904,v905,v906,v907,v908,v909,v910,v911,v912,v913,v914,v915,v916,v917,v918,v919,v920,v921,v922,v923,v924,v925,v926,v927,v928,v929,v930,v931,v932,v933,v934,v935,v936,v937,v938,(bz b939),(bz b940),v941,v942,v943,v944,v945,v946,v947,v948,v949,v950,v951,v952,v953,v954,v955,v956,v957,v958,v959,v960,v961,v962,v963,v964,v965,v966,v967,v968,v969,v970,v971,v972,v973,v974,v975,v976,v220,v221,v222,v223,v224,v225,v226,v227,v228,v229,v230,v231,v232,v233,v234,v235,v236,v237,v238,v239,v240,v241,v242,v243,v244,v245,v246,v247,v248,v249,v250,v251,v252,v253,v254,v255,v256,v257,v258,v259,v260,v261,v262,v263,v264],H⟩=k310R b895 H) (hk310X0:∀ (b606:Bool) (v607 v608:AV) (x609:Int) (v610 v611 v612 v613 v614 v615 v616 v617 v618 v619 v620 v621 v622 v623 v624 v625 v626 v627 v628 v629 v630 v631 v632 v633 v634 v635 v636 v637 v638 v639 v640 v641 v642 v643 v644 v645 v646 v647 v648 v649:AV) (b650 b651:Bool) (v652 v653 v654 v655 v656 v657 v658 v659 v660 v661 v662 v663 v664 v665 v666 v667 v668 v669 v670 v671 v672 v673 v674 v675 v676 v677 v678 v679 v680 v681 v682 v683 v684 v685 v686 v687:AV) (H:Heap),k310 (.exit 2000000) ⟨[(.agg [(.lst a0),(iz a1),(iz a2),(iz a3),(iz a4),(iz a5),(iz a6),(iz a7),(iz a8)]),(.lst a9),v0,tz,(bz b606),v64,v112,tz,v277,v607,(bz b37),(bz b38),(bz b39),v40,v41,v42,(bz b43),(bz b44),v45,v46,v47,bf,tz,(.agg [v53,(iz x54),(iz x55),(iz x56),(iz x57),(iz x58),(iz x59),(iz x60),(iz x61)]),v64,(.agg [v68,(iz x69),(iz x70),(iz x71),(iz x72),(iz x73),(iz x74),(iz x75),(iz x76)]),(iz x79),bf,tz,tz,v64,bf,(.agg [v89,(iz x90),(iz x91),(iz x92),(iz x93),(iz x94),(iz x95),(iz x96),(iz x97)]),(.agg [v101,(iz x102),(iz x103),(iz x104),(iz x105),(iz x106),(iz x107),(iz x108),(iz x109),(iz x110),(iz x111)]),v112,(.lst a9),(iz x116),(iz x123),bt,v265,(.agg [(iz x270),(iz x271),(iz x272),(bz b273),(bz b274),(bz b275),(iz x276)]),v64,v283,(iz x287),v288,(bz b292),(bz b295),v112,v296,(iz x300),v301,(bz b305),(bz b308),bf,v608,(iz x609),v610,v611,v612,v613,v614,v615,v616,v617,v618,v619,v620,v621,v622,v623,v624,v625,v626,v627,v628,v629,v630,v631,v632,v633,v634,v635,v636,v637,v638,v639,v640,v641,v642,v643,v644,v645,v646,v647,v648,v649,(bz b650),(bz b651),v652,v653,v654,v655,v656,v657,v658,v659,v660,v661,v662,v663,v664,v665,v666,v667,v668,v669,v670,v671,v672,v673,v674,v675,v676,v677,v678,v679,v680,v681,v682,v683,v684,v685,v686,v687,v220,v221,v222,v223,v224,v225,v226,v227,v228,v229,v230,v231,v232,v233,v234,v235,v236,v237,v238,v239,v240,v241,v242,v243,v244,v245,v246,v247,v248,v249,v250,v251,v252,v253,v254,v255,v256,v257,v258,v259,v260,v261,v262,v263,v264],H⟩=k310X0 H) (v583 v584 v585 v586 v587 v588 v589 v590 v591 v592 v593 v594 v595 v596 v597 v598 v599 v600 v601 v602 v603 v604:AV) (H:Heap):r3E3 C0 d a0 a1 a2 a3 a4 a5 a6 a7 a8 a9 v0 b37 b38 b39 v40 v41 v42 b43 b44 v45 v46 v47 v53 x54 x55 x56 x57 x58 x59 x60 x61 v64 v68 x69 x70 x71 x72 x73 x74 x75 x76 x79 v89 x90 x91 x92 x93 x94 x95 x96 x97 v101 x102 x103 x104 x105 x106 x107 x108 x109 x110 x111 v112 x116 x123 v220 v221 v222 v223 v224 v225 v226 v227 v228 v229 v230 v231 v232 v233 v234 v235 v236 v237 v238 v239 v240 v241 v242 v243 v244 v245 v246 v247 v248 v249 v250 v251 v252 v253 v254 v255 v256 v257 v258 v259 v260 v261 v262 v263 v264 v265 x270 x271 x272 b273 b274 b275 x276 v277 v283 x287 v288 b292 b295 v296 x300 v301 b305 b308 k310 b312 v337 v338 v339 v340 v341 v342 v343 v344 v345 v346 v347 v348 v349 v350 v351 v352 v353 v354 v355 v358 v359 v360 v361 v362 v363 v364 v365 v366 v367 v368 v369 v370 v373 v374 v375 v376 v377 v378 v379 v380 v381 v382 v383 v384 v385 v386 v387 v388 v389 v390 v391 v392 v393 v394 x398 ⟨[(.agg [(.lst a0),(iz a1),(iz a2),(iz a3),(iz a4),(iz a5),(iz a6),(iz a7),(iz a8)]),(.lst a9),v0,tz,(bz b312),v64,v112,tz,v277,v583,(bz b37),(bz b38),(bz b39),v40,v41,v42,(bz b43),(bz b44),v45,v46,v47,bf,tz,(.agg [v53,(iz x54),(iz x55),(iz x56),(iz x57),(iz x58),(iz x59),(iz x60),(iz x61)]),v64,(.agg [v68,(iz x69),(iz x70),(iz x71),(iz x72),(iz x73),(iz x74),(iz x75),(iz x76)]),(iz x79),bf,tz,tz,v64,bf,(.agg [v89,(iz x90),(iz x91),(iz x92),(iz x93),(iz x94),(iz x95),(iz x96),(iz x97)]),(.agg [v101,(iz x102),(iz x103),(iz x104),(iz x105),(iz x106),(iz x107),(iz x108),(iz x109),(iz x110),(iz x111)]),v112,(.lst a9),(iz x116),(iz x123),bt,v265,(.agg [(iz x270),(iz x271),(iz x272),(bz b273),(bz b274),(bz b275),(iz x276)]),v64,v283,(iz x287),v288,(bz b292),(bz b295),v112,v296,(iz x300),v301,(bz b305),(bz b308),bf,v394,(iz x398),v584,v585,v586,v587,v588,v589,v590,v591,v592,v593,v594,v595,v596,v597,v598,v599,v600,v601,v602,v603,v604,v337,v338,v339,v340,v341,v342,v343,v344,v345,v346,v347,v348,v349,v350,v351,v352,v353,v354,v355,bf,(bz (x398 == 1)),v358,v359,v360,v361,v362,v363,v364,v365,v366,v367,v368,v369,v370,bf,(bz (x398 == 2)),v373,v374,v375,v376,v377,v378,v379,v380,v381,v382,v383,v384,v385,v386,v387,v388,v389,v390,v391,v392,v393,v220,v221,v222,v223,v224,v225,v226,v227,v228,v229,v230,v231,v232,v233,v234,v235,v236,v237,v238,v239,v240,v241,v242,v243,v244,v245,v246,v247,v248,v249,v250,v251,v252,v253,v254,v255,v256,v257,v258,v259,v260,v261,v262,v263,v264],H⟩=E3_3 d v0 v64 v112 v277 k310R k310X0 H:=by
 try dsimp only at hk310R
 try dsimp only at hk310X0
 unfold r3E3; refine Eq.trans (pl_len (by rfl)) ?_; refine yt ySs ?_; refine yt yA ?_; refine yt ySs ?_; refine yt yAs ?_; refine yt ySs ?_
 first | (simp only [hk310R,hk310X0] <;> rfl) | rfl
noncomputable def L3_3 (d:Nat) (v0 v64 v112 v277:AV) (k310R:Bool→Heap→Ans) (k310X0:Heap→Ans):Nat→Heap→Ans
 | 0,_=>none
 | n+1,H =>
 C0.hop H (.fldA 1 (.v v277)) fun v496 h497 =>
  C0.hop h497 (.load false 1 (.v v496)) fun v498 h499 =>
  C0.int .i64 (some v498) fun x500 =>
  cnd (decide (x500 ≥ 0))
  (C0.hop h499 (.fldA 1 (.v v277)) fun v501 h502 =>
  C0.hop h502 (.load false 1 (.v v501)) fun v503 h504 =>
  C0.int .i64 (some v503) fun x505 =>
  C0.hop h504 (.fldA 0 (.v v0)) fun v506 h507 =>
  C0.hop h507 (.load false 1 (.v v506)) fun v508 h509 =>
  C0.hop h509 (.bk .lenV [(.v v508)]) fun v510 h511 =>
  C0.int .i64 (some v510) fun x512 =>
  cnd (decide (x505 < x512))
  (C0.hop h511 (.fldA 2 (.v v277)) fun v513 h514 =>
  C0.hop h514 (.load false 1 (.v v513)) fun v515 h516 =>
  C0.int .i64 (some v515) fun x517 =>
  cnd (decide (x517 ≥ 0))
  (C0.hop h516 (.fldA 2 (.v v277)) fun v518 h519 =>
  C0.hop h519 (.load false 1 (.v v518)) fun v520 h521 =>
  C0.int .i64 (some v520) fun x522 =>
  X3_3_0 d v0 v64 v112 v277 k310R k310X0 (decide (x522≤1000000)) h521)
  (X3_3_0 d v0 v64 v112 v277 k310R k310X0 false h516))
  (X3_3_0 d v0 v64 v112 v277 k310R k310X0 false h511))
  (X3_3_0 d v0 v64 v112 v277 k310R k310X0 false h499)
theorem L3_3_s (d:Nat) (v0 v64 v112 v277:AV) (k310R:Bool→Heap→Ans) (k310X0:Heap→Ans) (n:Nat) (H:Heap):L3_3 d v0 v64 v112 v277 k310R k310X0 (n+1) H=(C0.hop H (.fldA 1 (.v v277)) fun v496 h497 =>
 C0.hop h497 (.load false 1 (.v v496)) fun v498 h499 =>
 C0.int .i64 (some v498) fun x500 =>
 cnd (decide (x500 ≥ 0))
 (C0.hop h499 (.fldA 1 (.v v277)) fun v501 h502 =>
 C0.hop h502 (.load false 1 (.v v501)) fun v503 h504 =>
 C0.int .i64 (some v503) fun x505 =>
 C0.hop h504 (.fldA 0 (.v v0)) fun v506 h507 =>
 C0.hop h507 (.load false 1 (.v v506)) fun v508 h509 =>
 C0.hop h509 (.bk .lenV [(.v v508)]) fun v510 h511 =>
 C0.int .i64 (some v510) fun x512 =>
 cnd (decide (x505 < x512))
 (C0.hop h511 (.fldA 2 (.v v277)) fun v513 h514 =>
 C0.hop h514 (.load false 1 (.v v513)) fun v515 h516 =>
 C0.int .i64 (some v515) fun x517 =>
 cnd (decide (x517 ≥ 0))
 (C0.hop h516 (.fldA 2 (.v v277)) fun v518 h519 =>
 C0.hop h519 (.load false 1 (.v v518)) fun v520 h521 =>
 C0.int .i64 (some v520) fun x522 =>
 X3_3_0 d v0 v64 v112 v277 k310R k310X0 (decide (x522≤1000000)) h521)
 (X3_3_0 d v0 v64 v112 v277 k310R k310X0 false h516))
 (X3_3_0 d v0 v64 v112 v277 k310R k310X0 false h511))
 (X3_3_0 d v0 v64 v112 v277 k310R k310X0 false h499)):=by kernel_rfl
theorem it3_3 (d:Nat) (a0:List AV) (a1 a2 a3 a4 a5 a6 a7 a8:Int) (a9:List AV) (v0:AV) (b37 b38 b39:Bool) (v40 v41 v42:AV) (b43 b44:Bool) (v45 v46 v47 v53:AV) (x54 x55 x56 x57 x58 x59 x60 x61:Int) (v64 v68:AV) (x69 x70 x71 x72 x73 x74 x75 x76 x79:Int) (v89:AV) (x90 x91 x92 x93 x94 x95 x96 x97:Int) (v101:AV) (x102 x103 x104 x105 x106 x107 x108 x109 x110 x111:Int) (v112:AV) (x116 x123:Int) (v220 v221 v222 v223 v224 v225 v226 v227 v228 v229 v230 v231 v232 v233 v234 v235 v236 v237 v238 v239 v240 v241 v242 v243 v244 v245 v246 v247 v248 v249 v250 v251 v252 v253 v254 v255 v256 v257 v258 v259 v260 v261 v262 v263 v264 v265:AV) (x270 x271 x272:Int) (b273 b274 b275:Bool) (x276:Int) (v277 v283:AV) (x287:Int) (v288:AV) (b292 b295:Bool) (v296:AV) (x300:Int) (v301:AV) (b305 b308:Bool) (k310:Ex→St→Ans) (b312:Bool) (v337 v338 v339 v340 v341 v342 v343 v344 v345 v346 v347 v348 v349 v350 v351 v352 v353 v354 v355 v358 v359 v360 v361 v362 v363 v364 v365 v366 v367 v368 v369 v370 v373 v374 v375 v376 v377 v378 v379 v380 v381 v382 v383 v384 v385 v386 v387 v388 v389 v390 v391 v392 v393 v394:AV) (x398:Int) (k310R:Bool→Heap→Ans) (k310X0:Heap→Ans) (hk310R:∀ (b895:Bool) (v896 v897:AV) (x898:Int) (v899 v900 v901 v902 v903 v904 v905 v906 v907 v908 v909 v910 v911 v912 v913 v914 v915 v916 v917 v918 v919 v920 v921 v922 v923 v924 v925 v926 v927 v928 v929 v930 v931 v932 v933 v934 v935 v936 v937 v938:AV) (b939 b940:Bool) (v941 v942 v943 v944 v945 v946 v947 v948 v949 v950 v951 v952 v953 v954 v955 v956 v957 v958 v959 v960 v961 v962 v963 v964 v965 v966 v967 v968 v969 v970 v971 v972 v973 v974 v975 v976:AV) (H:Heap),k310 .ret ⟨[(.agg [(.lst a0),(iz a1),(iz a2),(iz a3),(iz a4),(iz a5),(iz a6),(iz a7),(iz a8)]),(.lst a9),v0,tz,(bz b895),v64,v112,tz,v277,v896,(bz b37),(bz b38),(bz b39),v40,v41,v42,(bz b43),(bz b44),v45,v46,v47,bf,tz,(.agg [v53,(iz x54),(iz x55),(iz x56),(iz x57),(iz x58),(iz x59),(iz x60),(iz x61)]),v64,(.agg [v68,(iz x69),(iz x70),(iz x71),(iz x72),(iz x73),(iz x74),(iz x75),(iz x76)]),(iz x79),bf,tz,tz,v64,bf,(.agg [v89,(iz x90),(iz x91),(iz x92),(iz x93),(iz x94),(iz x95),(iz x96),(iz x97)]),(.agg [v101,(iz x102),(iz x103),(iz x104),(iz x105),(iz x106),(iz x107),(iz x108),(iz x109),(iz x110),(iz x111)]),v112,(.lst a9),(iz x116),(iz x123),bt,v265,(.agg [(iz x270),(iz x271),(iz x272),(bz b273),(bz b274),(bz b275),(iz x276)]),v64,v283,(iz x287),v288,(bz b292),(bz b295),v112,v296,(iz x300),v301,(bz b305),(bz b308),bf,v897,(iz x898),v899,v900,v901,v902,v903,v904,v905,v906,v907,v908,v909,v910,v911,v912,v913,v914,v915,v916,v917,v918,v919,v920,v921,v922,v923,v924,v925,v926,v927,v928,v929,v930,v931,v932,v933,v934,v935,v936,v937,v938,(bz b939),(bz b940),v941,v942,v943,v944,v945,v946,v947,v948,v949,v950,v951,v952,v953,v954,v955,v956,v957,v958,v959,v960,v961,v962,v963,v964,v965,v966,v967,v968,v969,v970,v971,v972,v973,v974,v975,v976,v220,v221,v222,v223,v224,v225,v226,v227,v228,v229,v230,v231,v232,v233,v234,v235,v236,v237,v238,v239,v240,v241,v242,v243,v244,v245,v246,v247,v248,v249,v250,v251,v252,v253,v254,v255,v256,v257,v258,v259,v260,v261,v262,v263,v264],H⟩=k310R b895 H) (hk310X0:∀ (b606:Bool) (v607 v608:AV) (x609:Int) (v610 v611 v612 v613 v614 v615 v616 v617 v618 v619 v620 v621 v622 v623 v624 v625 v626 v627 v628 v629 v630 v631 v632 v633 v634 v635 v636 v637 v638 v639 v640 v641 v642 v643 v644 v645 v646 v647 v648 v649:AV) (b650 b651:Bool) (v652 v653 v654 v655 v656 v657 v658 v659 v660 v661 v662 v663 v664 v665 v666 v667 v668 v669 v670 v671 v672 v673 v674 v675 v676 v677 v678 v679 v680 v681 v682 v683 v684 v685 v686 v687:AV) (H:Heap),k310 (.exit 2000000) ⟨[(.agg [(.lst a0),(iz a1),(iz a2),(iz a3),(iz a4),(iz a5),(iz a6),(iz a7),(iz a8)]),(.lst a9),v0,tz,(bz b606),v64,v112,tz,v277,v607,(bz b37),(bz b38),(bz b39),v40,v41,v42,(bz b43),(bz b44),v45,v46,v47,bf,tz,(.agg [v53,(iz x54),(iz x55),(iz x56),(iz x57),(iz x58),(iz x59),(iz x60),(iz x61)]),v64,(.agg [v68,(iz x69),(iz x70),(iz x71),(iz x72),(iz x73),(iz x74),(iz x75),(iz x76)]),(iz x79),bf,tz,tz,v64,bf,(.agg [v89,(iz x90),(iz x91),(iz x92),(iz x93),(iz x94),(iz x95),(iz x96),(iz x97)]),(.agg [v101,(iz x102),(iz x103),(iz x104),(iz x105),(iz x106),(iz x107),(iz x108),(iz x109),(iz x110),(iz x111)]),v112,(.lst a9),(iz x116),(iz x123),bt,v265,(.agg [(iz x270),(iz x271),(iz x272),(bz b273),(bz b274),(bz b275),(iz x276)]),v64,v283,(iz x287),v288,(bz b292),(bz b295),v112,v296,(iz x300),v301,(bz b305),(bz b308),bf,v608,(iz x609),v610,v611,v612,v613,v614,v615,v616,v617,v618,v619,v620,v621,v622,v623,v624,v625,v626,v627,v628,v629,v630,v631,v632,v633,v634,v635,v636,v637,v638,v639,v640,v641,v642,v643,v644,v645,v646,v647,v648,v649,(bz b650),(bz b651),v652,v653,v654,v655,v656,v657,v658,v659,v660,v661,v662,v663,v664,v665,v666,v667,v668,v669,v670,v671,v672,v673,v674,v675,v676,v677,v678,v679,v680,v681,v682,v683,v684,v685,v686,v687,v220,v221,v222,v223,v224,v225,v226,v227,v228,v229,v230,v231,v232,v233,v234,v235,v236,v237,v238,v239,v240,v241,v242,v243,v244,v245,v246,v247,v248,v249,v250,v251,v252,v253,v254,v255,v256,v257,v258,v259,v260,v261,v262,v263,v264],H⟩=k310X0 H):∀ (n:Nat) (v474 v475 v476 v477 v478 v479 v480 v481 v482 v483 v484 v485 v486 v487 v488 v489 v490 v491 v492 v493 v494 v495:AV) (H:Heap),C0.iter (r3R3 C0 d a0 a1 a2 a3 a4 a5 a6 a7 a8 a9 v0 b37 b38 b39 v40 v41 v42 b43 b44 v45 v46 v47 v53 x54 x55 x56 x57 x58 x59 x60 x61 v64 v68 x69 x70 x71 x72 x73 x74 x75 x76 x79 v89 x90 x91 x92 x93 x94 x95 x96 x97 v101 x102 x103 x104 x105 x106 x107 x108 x109 x110 x111 v112 x116 x123 v220 v221 v222 v223 v224 v225 v226 v227 v228 v229 v230 v231 v232 v233 v234 v235 v236 v237 v238 v239 v240 v241 v242 v243 v244 v245 v246 v247 v248 v249 v250 v251 v252 v253 v254 v255 v256 v257 v258 v259 v260 v261 v262 v263 v264 v265 x270 x271 x272 b273 b274 b275 x276 v277 v283 x287 v288 b292 b295 v296 x300 v301 b305 b308 k310 b312 v337 v338 v339 v340 v341 v342 v343 v344 v345 v346 v347 v348 v349 v350 v351 v352 v353 v354 v355 v358 v359 v360 v361 v362 v363 v364 v365 v366 v367 v368 v369 v370 v373 v374 v375 v376 v377 v378 v379 v380 v381 v382 v383 v384 v385 v386 v387 v388 v389 v390 v391 v392 v393 v394 x398) n ⟨[(.agg [(.lst a0),(iz a1),(iz a2),(iz a3),(iz a4),(iz a5),(iz a6),(iz a7),(iz a8)]),(.lst a9),v0,tz,(bz b312),v64,v112,tz,v277,v474,(bz b37),(bz b38),(bz b39),v40,v41,v42,(bz b43),(bz b44),v45,v46,v47,bf,tz,(.agg [v53,(iz x54),(iz x55),(iz x56),(iz x57),(iz x58),(iz x59),(iz x60),(iz x61)]),v64,(.agg [v68,(iz x69),(iz x70),(iz x71),(iz x72),(iz x73),(iz x74),(iz x75),(iz x76)]),(iz x79),bf,tz,tz,v64,bf,(.agg [v89,(iz x90),(iz x91),(iz x92),(iz x93),(iz x94),(iz x95),(iz x96),(iz x97)]),(.agg [v101,(iz x102),(iz x103),(iz x104),(iz x105),(iz x106),(iz x107),(iz x108),(iz x109),(iz x110),(iz x111)]),v112,(.lst a9),(iz x116),(iz x123),bt,v265,(.agg [(iz x270),(iz x271),(iz x272),(bz b273),(bz b274),(bz b275),(iz x276)]),v64,v283,(iz x287),v288,(bz b292),(bz b295),v112,v296,(iz x300),v301,(bz b305),(bz b308),bf,v394,(iz x398),v475,v476,v477,v478,v479,v480,v481,v482,v483,v484,v485,v486,v487,v488,v489,v490,v491,v492,v493,v494,v495,v337,v338,v339,v340,v341,v342,v343,v344,v345,v346,v347,v348,v349,v350,v351,v352,v353,v354,v355,bf,(bz (x398 == 1)),v358,v359,v360,v361,v362,v363,v364,v365,v366,v367,v368,v369,v370,bf,(bz (x398 == 2)),v373,v374,v375,v376,v377,v378,v379,v380,v381,v382,v383,v384,v385,v386,v387,v388,v389,v390,v391,v392,v393,v220,v221,v222,v223,v224,v225,v226,v227,v228,v229,v230,v231,v232,v233,v234,v235,v236,v237,v238,v239,v240,v241,v242,v243,v244,v245,v246,v247,v248,v249,v250,v251,v252,v253,v254,v255,v256,v257,v258,v259,v260,v261,v262,v263,v264],H⟩ [2000000] [r3X3_0 C0 d a0 a1 a2 a3 a4 a5 a6 a7 a8 a9 v0 b37 b38 b39 v40 v41 v42 b43 b44 v45 v46 v47 v53 x54 x55 x56 x57 x58 x59 x60 x61 v64 v68 x69 x70 x71 x72 x73 x74 x75 x76 x79 v89 x90 x91 x92 x93 x94 x95 x96 x97 v101 x102 x103 x104 x105 x106 x107 x108 x109 x110 x111 v112 x116 x123 v220 v221 v222 v223 v224 v225 v226 v227 v228 v229 v230 v231 v232 v233 v234 v235 v236 v237 v238 v239 v240 v241 v242 v243 v244 v245 v246 v247 v248 v249 v250 v251 v252 v253 v254 v255 v256 v257 v258 v259 v260 v261 v262 v263 v264 v265 x270 x271 x272 b273 b274 b275 x276 v277 v283 x287 v288 b292 b295 v296 x300 v301 b305 b308 k310 b312 v337 v338 v339 v340 v341 v342 v343 v344 v345 v346 v347 v348 v349 v350 v351 v352 v353 v354 v355 v358 v359 v360 v361 v362 v363 v364 v365 v366 v367 v368 v369 v370 v373 v374 v375 v376 v377 v378 v379 v380 v381 v382 v383 v384 v385 v386 v387 v388 v389 v390 v391 v392 v393 v394 x398] (r3E3 C0 d a0 a1 a2 a3 a4 a5 a6 a7 a8 a9 v0 b37 b38 b39 v40 v41 v42 b43 b44 v45 v46 v47 v53 x54 x55 x56 x57 x58 x59 x60 x61 v64 v68 x69 x70 x71 x72 x73 x74 x75 x76 x79 v89 x90 x91 x92 x93 x94 x95 x96 x97 v101 x102 x103 x104 x105 x106 x107 x108 x109 x110 x111 v112 x116 x123 v220 v221 v222 v223 v224 v225 v226 v227 v228 v229 v230 v231 v232 v233 v234 v235 v236 v237 v238 v239 v240 v241 v242 v243 v244 v245 v246 v247 v248 v249 v250 v251 v252 v253 v254 v255 v256 v257 v258 v259 v260 v261 v262 v263 v264 v265 x270 x271 x272 b273 b274 b275 x276 v277 v283 x287 v288 b292 b295 v296 x300 v301 b305 b308 k310 b312 v337 v338 v339 v340 v341 v342 v343 v344 v345 v346 v347 v348 v349 v350 v351 v352 v353 v354 v355 v358 v359 v360 v361 v362 v363 v364 v365 v366 v367 v368 v369 v370 v373 v374 v375 v376 v377 v378 v379 v380 v381 v382 v383 v384 v385 v386 v387 v388 v389 v390 v391 v392 v393 v394 x398)=L3_3 d v0 v64 v112 v277 k310R k310X0 n H:=by
 generalize hR:r3R3 C0 d a0 a1 a2 a3 a4 a5 a6 a7 a8 a9 v0 b37 b38 b39 v40 v41 v42 b43 b44 v45 v46 v47 v53 x54 x55 x56 x57 x58 x59 x60 x61 v64 v68 x69 x70 x71 x72 x73 x74 x75 x76 x79 v89 x90 x91 x92 x93 x94 x95 x96 x97 v101 x102 x103 x104 x105 x106 x107 x108 x109 x110 x111 v112 x116 x123 v220 v221 v222 v223 v224 v225 v226 v227 v228 v229 v230 v231 v232 v233 v234 v235 v236 v237 v238 v239 v240 v241 v242 v243 v244 v245 v246 v247 v248 v249 v250 v251 v252 v253 v254 v255 v256 v257 v258 v259 v260 v261 v262 v263 v264 v265 x270 x271 x272 b273 b274 b275 x276 v277 v283 x287 v288 b292 b295 v296 x300 v301 b305 b308 k310 b312 v337 v338 v339 v340 v341 v342 v343 v344 v345 v346 v347 v348 v349 v350 v351 v352 v353 v354 v355 v358 v359 v360 v361 v362 v363 v364 v365 v366 v367 v368 v369 v370 v373 v374 v375 v376 v377 v378 v379 v380 v381 v382 v383 v384 v385 v386 v387 v388 v389 v390 v391 v392 v393 v394 x398=R
 intro n
 induction n with
 | zero=>intros; rfl
 | succ n ih =>
   intro v474 v475 v476 v477 v478 v479 v480 v481 v482 v483 v484 v485 v486 v487 v488 v489 v490 v491 v492 v493 v494 v495 H
   simp only [it_ret] at ih
   rw [it_ret,xiter_s]
   refine Eq.trans (congrFun (congrFun hR.symm _) _) ?_
   unfold r3R3
   refine Eq.trans (pl_len (by rfl)) ?_; refine yt ySs ?_; refine yt yA ?_; refine yt ySs ?_; refine yt yAs ?_; refine yt ySs ?_
   simp only [kIter_n,kIter_x,kIter_r,kOut_x,kOut_r,xgo_hit,xgo_miss,ih,X3_3_0_ok d a0 a1 a2 a3 a4 a5 a6 a7 a8 a9 v0 b37 b38 b39 v40 v41 v42 b43 b44 v45 v46 v47 v53 x54 x55 x56 x57 x58 x59 x60 x61 v64 v68 x69 x70 x71 x72 x73 x74 x75 x76 x79 v89 x90 x91 x92 x93 x94 x95 x96 x97 v101 x102 x103 x104 x105 x106 x107 x108 x109 x110 x111 v112 x116 x123 v220 v221 v222 v223 v224 v225 v226 v227 v228 v229 v230 v231 v232 v233 v234 v235 v236 v237 v238 v239 v240 v241 v242 v243 v244 v245 v246 v247 v248 v249 v250 v251 v252 v253 v254 v255 v256 v257 v258 v259 v260 v261 v262 v263 v264 v265 x270 x271 x272 b273 b274 b275 x276 v277 v283 x287 v288 b292 b295 v296 x300 v301 b305 b308 k310 b312 v337 v338 v339 v340 v341 v342 v343 v344 v345 v346 v347 v348 v349 v350 v351 v352 v353 v354 v355 v358 v359 v360 v361 v362 v363 v364 v365 v366 v367 v368 v369 v370 v373 v374 v375 v376 v377 v378 v379 v380 v381 v382 v383 v384 v385 v386 v387 v388 v389 v390 v391 v392 v393 v394 x398 k310R k310X0 hk310R hk310X0,E3_3_ok d a0 a1 a2 a3 a4 a5 a6 a7 a8 a9 v0 b37 b38 b39 v40 v41 v42 b43 b44 v45 v46 v47 v53 x54 x55 x56 x57 x58 x59 x60 x61 v64 v68 x69 x70 x71 x72 x73 x74 x75 x76 x79 v89 x90 x91 x92 x93 x94 x95 x96 x97 v101 x102 x103 x104 x105 x106 x107 x108 x109 x110 x111 v112 x116 x123 v220 v221 v222 v223 v224 v225 v226 v227 v228 v229 v230 v231 v232 v233 v234 v235 v236 v237 v238 v239 v240 v241 v242 v243 v244 v245 v246 v247 v248 v249 v250 v251 v252 v253 v254 v255 v256 v257 v258 v259 v260 v261 v262 v263 v264 v265 x270 x271 x272 b273 b274 b275 x276 v277 v283 x287 v288 b292 b295 v296 x300 v301 b305 b308 k310 b312 v337 v338 v339 v340 v341 v342 v343 v344 v345 v346 v347 v348 v349 v350 v351 v352 v353 v354 v355 v358 v359 v360 v361 v362 v363 v364 v365 v366 v367 v368 v369 v370 v373 v374 v375 v376 v377 v378 v379 v380 v381 v382 v383 v384 v385 v386 v387 v388 v389 v390 v391 v392 v393 v394 x398 k310R k310X0 hk310R hk310X0]
   exact (L3_3_s d v0 v64 v112 v277 k310R k310X0 n H).symm
noncomputable def X3_5_0 (d:Nat) (v0 v64 v112:AV) (x123:Int) (k118N:Int→Heap→Ans) (k118R:Bool→Heap→Ans) (b850:Bool) (H:Heap):Ans :=
 cnd b850
  (k118R false H)
  (k118N (IntKind.wrap .i64 (x123+1)) H)
theorem X3_5_0_ok (d:Nat) (a0:List AV) (a1 a2 a3 a4 a5 a6 a7 a8:Int) (a9:List AV) (v0:AV) (b37 b38 b39:Bool) (v40 v41 v42:AV) (b43 b44:Bool) (v45 v46 v47 v53:AV) (x54 x55 x56 x57 x58 x59 x60 x61:Int) (v64 v68:AV) (x69 x70 x71 x72 x73 x74 x75 x76 x79:Int) (v89:AV) (x90 x91 x92 x93 x94 x95 x96 x97:Int) (v101:AV) (x102 x103 x104 x105 x106 x107 x108 x109 x110 x111:Int) (v112:AV) (x116:Int) (k118:Ex→St→Ans) (x123:Int) (v264 v265:AV) (x270 x271 x272:Int) (b273 b274 b275:Bool) (x276:Int) (v277 v283:AV) (x287:Int) (v288:AV) (b292 b295:Bool) (v296:AV) (x300:Int) (v301:AV) (b305 b308 b606:Bool) (v607 v608:AV) (x609:Int) (v610 v611 v612 v613 v614 v615 v616 v617 v618 v619 v620 v621 v622 v623 v624 v625 v626 v627 v628 v629 v630 v631 v632 v633 v634 v635 v636 v637 v638 v639 v640 v641 v642 v643 v644 v645 v646 v647 v648 v649:AV) (b650 b651:Bool) (v652 v653 v654 v655 v656 v657 v658 v659 v660 v661 v662 v663 v664 v665 v666 v667 v668 v669 v670 v671 v672 v673 v674 v675 v676 v677 v678 v679 v680 v681 v682 v683 v684 v685 v686 v687:AV) (k118N:Int→Heap→Ans) (k118R:Bool→Heap→Ans) (hk118N:∀ (b120:Bool) (v121 v122:AV) (x123:Int) (v124 v125 v126 v127 v128 v129 v130 v131 v132 v133 v134 v135 v136 v137 v138 v139 v140 v141 v142 v143 v144 v145 v146 v147 v148 v149 v150 v151 v152 v153 v154 v155 v156 v157 v158 v159 v160 v161 v162 v163 v164 v165 v166 v167 v168 v169 v170 v171 v172 v173 v174 v175 v176 v177 v178 v179 v180 v181 v182 v183 v184 v185 v186 v187 v188 v189 v190 v191 v192 v193 v194 v195 v196 v197 v198 v199 v200 v201 v202 v203 v204 v205 v206 v207 v208 v209 v210 v211 v212 v213 v214 v215 v216 v217 v218 v219 v220 v221 v222 v223 v224 v225 v226 v227 v228 v229 v230 v231 v232 v233 v234 v235 v236 v237 v238 v239 v240 v241 v242 v243 v244 v245 v246 v247 v248 v249 v250 v251 v252 v253 v254 v255 v256 v257 v258 v259 v260 v261 v262 v263 v264:AV) (H:Heap),k118 .normal ⟨[(.agg [(.lst a0),(iz a1),(iz a2),(iz a3),(iz a4),(iz a5),(iz a6),(iz a7),(iz a8)]),(.lst a9),v0,tz,(bz b120),v64,v112,tz,v121,v122,(bz b37),(bz b38),(bz b39),v40,v41,v42,(bz b43),(bz b44),v45,v46,v47,bf,tz,(.agg [v53,(iz x54),(iz x55),(iz x56),(iz x57),(iz x58),(iz x59),(iz x60),(iz x61)]),v64,(.agg [v68,(iz x69),(iz x70),(iz x71),(iz x72),(iz x73),(iz x74),(iz x75),(iz x76)]),(iz x79),bf,tz,tz,v64,bf,(.agg [v89,(iz x90),(iz x91),(iz x92),(iz x93),(iz x94),(iz x95),(iz x96),(iz x97)]),(.agg [v101,(iz x102),(iz x103),(iz x104),(iz x105),(iz x106),(iz x107),(iz x108),(iz x109),(iz x110),(iz x111)]),v112,(.lst a9),(iz x116),(iz x123),v124,v125,v126,v127,v128,v129,v130,v131,v132,v133,v134,v135,v136,v137,v138,v139,v140,v141,v142,v143,v144,v145,v146,v147,v148,v149,v150,v151,v152,v153,v154,v155,v156,v157,v158,v159,v160,v161,v162,v163,v164,v165,v166,v167,v168,v169,v170,v171,v172,v173,v174,v175,v176,v177,v178,v179,v180,v181,v182,v183,v184,v185,v186,v187,v188,v189,v190,v191,v192,v193,v194,v195,v196,v197,v198,v199,v200,v201,v202,v203,v204,v205,v206,v207,v208,v209,v210,v211,v212,v213,v214,v215,v216,v217,v218,v219,v220,v221,v222,v223,v224,v225,v226,v227,v228,v229,v230,v231,v232,v233,v234,v235,v236,v237,v238,v239,v240,v241,v242,v243,v244,v245,v246,v247,v248,v249,v250,v251,v252,v253,v254,v255,v256,v257,v258,v259,v260,v261,v262,v263,v264],H⟩=k118N x123 H) (hk118R:∀ (b1123:Bool) (v1124 v1125:AV) (x1126:Int) (v1127 v1128:AV) (x1130 x1131 x1132:Int) (b1133 b1134 b1135:Bool) (x1136:Int) (v1137 v1138:AV) (x1139:Int) (v1140:AV) (b1141 b1142:Bool) (v1143 v1144:AV) (x1145:Int) (v1146:AV) (b1147 b1148 b1149:Bool) (v1150 v1151 v1152 v1153 v1154 v1155 v1156 v1157 v1158 v1159 v1160 v1161 v1162 v1163 v1164 v1165 v1166 v1167 v1168 v1169 v1170 v1171 v1172 v1173 v1174 v1175 v1176 v1177 v1178 v1179 v1180 v1181 v1182 v1183 v1184 v1185 v1186 v1187 v1188 v1189 v1190 v1191 v1192 v1193 v1194 v1195 v1196 v1197 v1198 v1199 v1200 v1201 v1202 v1203 v1204 v1205 v1206 v1207 v1208 v1209 v1210 v1211 v1212 v1213 v1214 v1215 v1216 v1217 v1218 v1219 v1220 v1221 v1222 v1223 v1224 v1225 v1226 v1227 v1228 v1229 v1230 v1231 v1232 v1233 v1234 v1235 v1236 v1237 v1238 v1239 v1240 v1241 v1242 v1243 v1244 v1245 v1246 v1247 v1248 v1249 v1250 v1251 v1252 v1253 v1254 v1255 v1256 v1257 v1258 v1259 v1260 v1261 v1262 v1263 v1264 v1265 v1266 v1267 v1268 v1269 v1270 v1271 v1272 v1273 v1274:AV) (H:Heap),k118 .ret ⟨[(.agg [(.lst a0),(iz a1),(iz a2),(iz a3),(iz a4),(iz a5),(iz a6),(iz a7),(iz a8)]),(.lst a9),v0,tz,(bz b1123),v64,v112,tz,v1124,v1125,(bz b37),(bz b38),(bz b39),v40,v41,v42,(bz b43),(bz b44),v45,v46,v47,bf,tz,(.agg [v53,(iz x54),(iz x55),(iz x56),(iz x57),(iz x58),(iz x59),(iz x60),(iz x61)]),v64,(.agg [v68,(iz x69),(iz x70),(iz x71),(iz x72),(iz x73),(iz x74),(iz x75),(iz x76)]),(iz x79),bf,tz,tz,v64,bf,(.agg [v89,(iz x90),(iz x91),(iz x92),(iz x93),(iz x94),(iz x95),(iz x96),(iz x97)]),(.agg [v101,(iz x102),(iz x103),(iz x104),(iz x105),(iz x106),(iz x107),(iz x108),(iz x109),(iz x110),(iz x111)]),v112,(.lst a9),(iz x116),(iz x1126),v1127,v1128,(.agg [(iz x1130),(iz x1131),(iz x1132),(bz b1133),(bz b1134),(bz b1135),(iz x1136)]),v1137,v1138,(iz x1139),v1140,(bz b1141),(bz b1142),v1143,v1144,(iz x1145),v1146,(bz b1147),(bz b1148),(bz b1149),v1150,v1151,v1152,v1153,v1154,v1155,v1156,v1157,v1158,v1159,v1160,v1161,v1162,v1163,v1164,v1165,v1166,v1167,v1168,v1169,v1170,v1171,v1172,v1173,v1174,v1175,v1176,v1177,v1178,v1179,v1180,v1181,v1182,v1183,v1184,v1185,v1186,v1187,v1188,v1189,v1190,v1191,v1192,v1193,v1194,v1195,v1196,v1197,v1198,v1199,v1200,v1201,v1202,v1203,v1204,v1205,v1206,v1207,v1208,v1209,v1210,v1211,v1212,v1213,v1214,v1215,v1216,v1217,v1218,v1219,v1220,v1221,v1222,v1223,v1224,v1225,v1226,v1227,v1228,v1229,v1230,v1231,v1232,v1233,v1234,v1235,v1236,v1237,v1238,v1239,v1240,v1241,v1242,v1243,v1244,v1245,v1246,v1247,v1248,v1249,v1250,v1251,v1252,v1253,v1254,v1255,v1256,v1257,v1258,v1259,v1260,v1261,v1262,v1263,v1264,v1265,v1266,v1267,v1268,v1269,v1270,v1271,v1272,v1273,v1274],H⟩=k118R b1123 H) (v807:AV) (x808:Int) (v809 v810 v811:AV) (x812:Int) (b813 b814:Bool) (v815 v816 v817 v818 v819 v820 v821:AV) (b822 b823:Bool) (v824 v825 v826 v827 v828 v829 v830 v831 v832 v833 v834 v835:AV) (b836 b837:Bool) (v838 v839 v840 v841 v842 v843 v844 v845 v846 v847 v848 v849:AV) (b850:Bool) (H:Heap):r3X5_0 C0 d a0 a1 a2 a3 a4 a5 a6 a7 a8 a9 v0 b37 b38 b39 v40 v41 v42 b43 b44 v45 v46 v47 v53 x54 x55 x56 x57 x58 x59 x60 x61 v64 v68 x69 x70 x71 x72 x73 x74 x75 x76 x79 v89 x90 x91 x92 x93 x94 x95 x96 x97 v101 x102 x103 x104 x105 x106 x107 x108 x109 x110 x111 v112 x116 k118 x123 v264 v265 x270 x271 x272 b273 b274 b275 x276 v277 v283 x287 v288 b292 b295 v296 x300 v301 b305 b308 b606 v607 v608 x609 v610 v611 v612 v613 v614 v615 v616 v617 v618 v619 v620 v621 v622 v623 v624 v625 v626 v627 v628 v629 v630 v631 v632 v633 v634 v635 v636 v637 v638 v639 v640 v641 v642 v643 v644 v645 v646 v647 v648 v649 b650 b651 v652 v653 v654 v655 v656 v657 v658 v659 v660 v661 v662 v663 v664 v665 v666 v667 v668 v669 v670 v671 v672 v673 v674 v675 v676 v677 v678 v679 v680 v681 v682 v683 v684 v685 v686 v687 ⟨[(.agg [(.lst a0),(iz a1),(iz a2),(iz a3),(iz a4),(iz a5),(iz a6),(iz a7),(iz a8)]),(.lst a9),v0,tz,(bz b606),v64,v112,tz,v277,v607,(bz b37),(bz b38),(bz b39),v40,v41,v42,(bz b43),(bz b44),v45,v46,v47,bf,tz,(.agg [v53,(iz x54),(iz x55),(iz x56),(iz x57),(iz x58),(iz x59),(iz x60),(iz x61)]),v64,(.agg [v68,(iz x69),(iz x70),(iz x71),(iz x72),(iz x73),(iz x74),(iz x75),(iz x76)]),(iz x79),bf,tz,tz,v64,bf,(.agg [v89,(iz x90),(iz x91),(iz x92),(iz x93),(iz x94),(iz x95),(iz x96),(iz x97)]),(.agg [v101,(iz x102),(iz x103),(iz x104),(iz x105),(iz x106),(iz x107),(iz x108),(iz x109),(iz x110),(iz x111)]),v112,(.lst a9),(iz x116),(iz x123),bt,v265,(.agg [(iz x270),(iz x271),(iz x272),(bz b273),(bz b274),(bz b275),(iz x276)]),v64,v283,(iz x287),v288,(bz b292),(bz b295),v112,v296,(iz x300),v301,(bz b305),(bz b308),bf,v608,(iz x609),v610,v611,v612,v613,v614,v615,v616,v617,v618,v619,v620,v621,v622,v623,v624,v625,v626,v627,v628,v629,v630,v631,v632,v633,v634,v635,v636,v637,v638,v639,v640,v641,v642,v643,v644,v645,v646,v647,v648,v649,(bz b650),(bz b651),v652,v653,v654,v655,v656,v657,v658,v659,v660,v661,v662,v663,v664,v665,v666,v667,v668,v669,v670,v671,v672,v673,v674,v675,v676,v677,v678,v679,v680,v681,v682,v683,v684,v685,v686,v687,v807,(iz x808),v809,v810,v811,(iz x812),(bz b813),(bz b814),v815,v816,v817,v818,v819,v820,v821,(bz b822),(bz b823),v824,v825,v826,v827,v828,v829,v830,v831,v832,v833,v834,v835,(bz b836),(bz b837),v838,v839,v840,v841,v842,v843,v844,v845,v846,v847,v848,v849,(bz b850),v264],H⟩=X3_5_0 d v0 v64 v112 x123 k118N k118R b850 H:=by
 try dsimp only at hk118N
 try dsimp only at hk118R
 unfold r3X5_0; refine Eq.trans (pl_len (by rfl)) ?_; refine yt ySs ?_; refine yt yA ?_; refine yt yI ?_; (iterate 3 (refine yt yA ?_)); refine yt yI ?_; (iterate 2 (refine yt yB ?_)); (iterate 7 (refine yt yA ?_)); (iterate 2 (refine yt yB ?_)); (iterate 12 (refine yt yA ?_)); (iterate 2 (refine yt yB ?_)); (iterate 12 (refine yt yA ?_)); refine yt yB ?_; refine yt yS ?_
 first | (simp only [hk118N,hk118R] <;> rfl) | rfl
noncomputable def E3_5 (d:Nat) (v0 v64 v112:AV) (x123:Int) (k118N:Int→Heap→Ans) (k118R:Bool→Heap→Ans) (H:Heap):Ans :=
 none
theorem E3_5_ok (d:Nat) (a0:List AV) (a1 a2 a3 a4 a5 a6 a7 a8:Int) (a9:List AV) (v0:AV) (b37 b38 b39:Bool) (v40 v41 v42:AV) (b43 b44:Bool) (v45 v46 v47 v53:AV) (x54 x55 x56 x57 x58 x59 x60 x61:Int) (v64 v68:AV) (x69 x70 x71 x72 x73 x74 x75 x76 x79:Int) (v89:AV) (x90 x91 x92 x93 x94 x95 x96 x97:Int) (v101:AV) (x102 x103 x104 x105 x106 x107 x108 x109 x110 x111:Int) (v112:AV) (x116:Int) (k118:Ex→St→Ans) (x123:Int) (v264 v265:AV) (x270 x271 x272:Int) (b273 b274 b275:Bool) (x276:Int) (v277 v283:AV) (x287:Int) (v288:AV) (b292 b295:Bool) (v296:AV) (x300:Int) (v301:AV) (b305 b308 b606:Bool) (v607 v608:AV) (x609:Int) (v610 v611 v612 v613 v614 v615 v616 v617 v618 v619 v620 v621 v622 v623 v624 v625 v626 v627 v628 v629 v630 v631 v632 v633 v634 v635 v636 v637 v638 v639 v640 v641 v642 v643 v644 v645 v646 v647 v648 v649:AV) (b650 b651:Bool) (v652 v653 v654 v655 v656 v657 v658 v659 v660 v661 v662 v663 v664 v665 v666 v667 v668 v669 v670 v671 v672 v673 v674 v675 v676 v677 v678 v679 v680 v681 v682 v683 v684 v685 v686 v687:AV) (k118N:Int→Heap→Ans) (k118R:Bool→Heap→Ans) (hk118N:∀ (b120:Bool) (v121 v122:AV) (x123:Int) (v124 v125 v126 v127 v128 v129 v130 v131 v132 v133 v134 v135 v136 v137 v138 v139 v140 v141 v142 v143 v144 v145 v146 v147 v148 v149 v150 v151 v152 v153 v154 v155 v156 v157 v158 v159 v160 v161 v162 v163 v164 v165 v166 v167 v168 v169 v170 v171 v172 v173 v174 v175 v176 v177 v178 v179 v180 v181 v182 v183 v184 v185 v186 v187 v188 v189 v190 v191 v192 v193 v194 v195 v196 v197 v198 v199 v200 v201 v202 v203 v204 v205 v206 v207 v208 v209 v210 v211 v212 v213 v214 v215 v216 v217 v218 v219 v220 v221 v222 v223 v224 v225 v226 v227 v228 v229 v230 v231 v232 v233 v234 v235 v236 v237 v238 v239 v240 v241 v242 v243 v244 v245 v246 v247 v248 v249 v250 v251 v252 v253 v254 v255 v256 v257 v258 v259 v260 v261 v262 v263 v264:AV) (H:Heap),k118 .normal ⟨[(.agg [(.lst a0),(iz a1),(iz a2),(iz a3),(iz a4),(iz a5),(iz a6),(iz a7),(iz a8)]),(.lst a9),v0,tz,(bz b120),v64,v112,tz,v121,v122,(bz b37),(bz b38),(bz b39),v40,v41,v42,(bz b43),(bz b44),v45,v46,v47,bf,tz,(.agg [v53,(iz x54),(iz x55),(iz x56),(iz x57),(iz x58),(iz x59),(iz x60),(iz x61)]),v64,(.agg [v68,(iz x69),(iz x70),(iz x71),(iz x72),(iz x73),(iz x74),(iz x75),(iz x76)]),(iz x79),bf,tz,tz,v64,bf,(.agg [v89,(iz x90),(iz x91),(iz x92),(iz x93),(iz x94),(iz x95),(iz x96),(iz x97)]),(.agg [v101,(iz x102),(iz x103),(iz x104),(iz x105),(iz x106),(iz x107),(iz x108),(iz x109),(iz x110),(iz x111)]),v112,(.lst a9),(iz x116),(iz x123),v124,v125,v126,v127,v128,v129,v130,v131,v132,v133,v134,v135,v136,v137,v138,v139,v140,v141,v142,v143,v144,v145,v146,v147,v148,v149,v150,v151,v152,v153,v154,v155,v156,v157,v158,v159,v160,v161,v162,v163,v164,v165,v166,v167,v168,v169,v170,v171,v172,v173,v174,v175,v176,v177,v178,v179,v180,v181,v182,v183,v184,v185,v186,v187,v188,v189,v190,v191,v192,v193,v194,v195,v196,v197,v198,v199,v200,v201,v202,v203,v204,v205,v206,v207,v208,v209,v210,v211,v212,v213,v214,v215,v216,v217,v218,v219,v220,v221,v222,v223,v224,v225,v226,v227,v228,v229,v230,v231,v232,v233,v234,v235,v236,v237,v238,v239,v240,v241,v242,v243,v244,v245,v246,v247,v248,v249,v250,v251,v252,v253,v254,v255,v256,v257,v258,v259,v260,v261,v262,v263,v264],H⟩=k118N x123 H) (hk118R:∀ (b1123:Bool) (v1124 v1125:AV) (x1126:Int) (v1127 v1128:AV) (x1130 x1131 x1132:Int) (b1133 b1134 b1135:Bool) (x1136:Int) (v1137 v1138:AV) (x1139:Int) (v1140:AV) (b1141 b1142:Bool) (v1143 v1144:AV) (x1145:Int) (v1146:AV) (b1147 b1148 b1149:Bool) (v1150 v1151 v1152 v1153 v1154 v1155 v1156 v1157 v1158 v1159 v1160 v1161 v1162 v1163 v1164 v1165 v1166 v1167 v1168 v1169 v1170 v1171 v1172 v1173 v1174 v1175 v1176 v1177 v1178 v1179 v1180 v1181 v1182 v1183 v1184 v1185 v1186 v1187 v1188 v1189 v1190 v1191 v1192 v1193 v1194 v1195 v1196 v1197 v1198 v1199 v1200 v1201 v1202 v1203 v1204 v1205 v1206 v1207 v1208 v1209 v1210 v1211 v1212 v1213 v1214 v1215 v1216 v1217 v1218 v1219 v1220 v1221 v1222 v1223 v1224 v1225 v1226 v1227 v1228 v1229 v1230 v1231 v1232 v1233 v1234 v1235 v1236 v1237 v1238 v1239 v1240 v1241 v1242 v1243 v1244 v1245 v1246 v1247 v1248 v1249 v1250 v1251 v1252 v1253 v1254 v1255 v1256 v1257 v1258 v1259 v1260 v1261 v1262 v1263 v1264 v1265 v1266 v1267 v1268 v1269 v1270 v1271 v1272 v1273 v1274:AV) (H:Heap),k118 .ret ⟨[(.agg [(.lst a0),(iz a1),(iz a2),(iz a3),(iz a4),(iz a5),(iz a6),(iz a7),(iz a8)]),(.lst a9),v0,tz,(bz b1123),v64,v112,tz,v1124,v1125,(bz b37),(bz b38),(bz b39),v40,v41,v42,(bz b43),(bz b44),v45,v46,v47,bf,tz,(.agg [v53,(iz x54),(iz x55),(iz x56),(iz x57),(iz x58),(iz x59),(iz x60),(iz x61)]),v64,(.agg [v68,(iz x69),(iz x70),(iz x71),(iz x72),(iz x73),(iz x74),(iz x75),(iz x76)]),(iz x79),bf,tz,tz,v64,bf,(.agg [v89,(iz x90),(iz x91),(iz x92),(iz x93),(iz x94),(iz x95),(iz x96),(iz x97)]),(.agg [v101,(iz x102),(iz x103),(iz x104),(iz x105),(iz x106),(iz x107),(iz x108),(iz x109),(iz x110),(iz x111)]),v112,(.lst a9),(iz x116),(iz x1126),v1127,v1128,(.agg [(iz x1130),(iz x1131),(iz x1132),(bz b1133),(bz b1134),(bz b1135),(iz x1136)]),v1137,v1138,(iz x1139),v1140,(bz b1141),(bz b1142),v1143,v1144,(iz x1145),v1146,(bz b1147),(bz b1148),(bz b1149),v1150,v1151,v1152,v1153,v1154,v1155,v1156,v1157,v1158,v1159,v1160,v1161,v1162,v1163,v1164,v1165,v1166,v1167,v1168,v1169,v1170,v1171,v1172,v1173,v1174,v1175,v1176,v1177,v1178,v1179,v1180,v1181,v1182,v1183,v1184,v1185,v1186,v1187,v1188,v1189,v1190,v1191,v1192,v1193,v1194,v1195,v1196,v1197,v1198,v1199,v1200,v1201,v1202,v1203,v1204,v1205,v1206,v1207,v1208,v1209,v1210,v1211,v1212,v1213,v1214,v1215,v1216,v1217,v1218,v1219,v1220,v1221,v1222,v1223,v1224,v1225,v1226,v1227,v1228,v1229,v1230,v1231,v1232,v1233,v1234,v1235,v1236,v1237,v1238,v1239,v1240,v1241,v1242,v1243,v1244,v1245,v1246,v1247,v1248,v1249,v1250,v1251,v1252,v1253,v1254,v1255,v1256,v1257,v1258,v1259,v1260,v1261,v1262,v1263,v1264,v1265,v1266,v1267,v1268,v1269,v1270,v1271,v1272,v1273,v1274],H⟩=k118R b1123 H) (v851 v852 v853 v854 v855 v856 v857 v858 v859 v860 v861 v862 v863 v864 v865 v866 v867 v868 v869 v870 v871 v872 v873 v874 v875 v876 v877 v878 v879 v880 v881 v882 v883 v884 v885 v886 v887 v888 v889 v890 v891 v892 v893 v894:AV) (H:Heap):r3E5 C0 d a0 a1 a2 a3 a4 a5 a6 a7 a8 a9 v0 b37 b38 b39 v40 v41 v42 b43 b44 v45 v46 v47 v53 x54 x55 x56 x57 x58 x59 x60 x61 v64 v68 x69 x70 x71 x72 x73 x74 x75 x76 x79 v89 x90 x91 x92 x93 x94 x95 x96 x97 v101 x102 x103 x104 x105 x106 x107 x108 x109 x110 x111 v112 x116 k118 x123 v264 v265 x270 x271 x272 b273 b274 b275 x276 v277 v283 x287 v288 b292 b295 v296 x300 v301 b305 b308 b606 v607 v608 x609 v610 v611 v612 v613 v614 v615 v616 v617 v618 v619 v620 v621 v622 v623 v624 v625 v626 v627 v628 v629 v630 v631 v632 v633 v634 v635 v636 v637 v638 v639 v640 v641 v642 v643 v644 v645 v646 v647 v648 v649 b650 b651 v652 v653 v654 v655 v656 v657 v658 v659 v660 v661 v662 v663 v664 v665 v666 v667 v668 v669 v670 v671 v672 v673 v674 v675 v676 v677 v678 v679 v680 v681 v682 v683 v684 v685 v686 v687 ⟨[(.agg [(.lst a0),(iz a1),(iz a2),(iz a3),(iz a4),(iz a5),(iz a6),(iz a7),(iz a8)]),(.lst a9),v0,tz,(bz b606),v64,v112,tz,v277,v607,(bz b37),(bz b38),(bz b39),v40,v41,v42,(bz b43),(bz b44),v45,v46,v47,bf,tz,(.agg [v53,(iz x54),(iz x55),(iz x56),(iz x57),(iz x58),(iz x59),(iz x60),(iz x61)]),v64,(.agg [v68,(iz x69),(iz x70),(iz x71),(iz x72),(iz x73),(iz x74),(iz x75),(iz x76)]),(iz x79),bf,tz,tz,v64,bf,(.agg [v89,(iz x90),(iz x91),(iz x92),(iz x93),(iz x94),(iz x95),(iz x96),(iz x97)]),(.agg [v101,(iz x102),(iz x103),(iz x104),(iz x105),(iz x106),(iz x107),(iz x108),(iz x109),(iz x110),(iz x111)]),v112,(.lst a9),(iz x116),(iz x123),bt,v265,(.agg [(iz x270),(iz x271),(iz x272),(bz b273),(bz b274),(bz b275),(iz x276)]),v64,v283,(iz x287),v288,(bz b292),(bz b295),v112,v296,(iz x300),v301,(bz b305),(bz b308),bf,v608,(iz x609),v610,v611,v612,v613,v614,v615,v616,v617,v618,v619,v620,v621,v622,v623,v624,v625,v626,v627,v628,v629,v630,v631,v632,v633,v634,v635,v636,v637,v638,v639,v640,v641,v642,v643,v644,v645,v646,v647,v648,v649,(bz b650),(bz b651),v652,v653,v654,v655,v656,v657,v658,v659,v660,v661,v662,v663,v664,v665,v666,v667,v668,v669,v670,v671,v672,v673,v674,v675,v676,v677,v678,v679,v680,v681,v682,v683,v684,v685,v686,v687,v851,v852,v853,v854,v855,v856,v857,v858,v859,v860,v861,v862,v863,v864,v865,v866,v867,v868,v869,v870,v871,v872,v873,v874,v875,v876,v877,v878,v879,v880,v881,v882,v883,v884,v885,v886,v887,v888,v889,v890,v891,v892,v893,v894,v264],H⟩=E3_5 d v0 v64 v112 x123 k118N k118R H:=by
 try dsimp only at hk118N
 try dsimp only at hk118R
 unfold r3E5; refine Eq.trans (pl_len (by rfl)) ?_; refine yt ySs ?_; refine yt yAs ?_; refine yt yS ?_
 first | (simp only [hk118N,hk118R] <;> rfl) | rfl
noncomputable def L3_5 (d:Nat) (v0 v64 v112:AV) (x123:Int) (k118N:Int→Heap→Ans) (k118R:Bool→Heap→Ans):Nat→Heap→Ans
 | 0,_=>none
 | n+1,H =>
 C0.grow H [] fun n735 h736 =>
  C0.cal M (pcall M d) 12 true 16 [v64] h736 fun v737 h738 =>
  C0.int .i64 (some v737) fun x739 =>
  C0.hop h738 (.nilck (.v v112)) fun v740 h741 =>
  C0.hop h741 (.fldA 9 (.v v740)) fun v742 h743 =>
  C0.hop h743 (.load false 1 (.v v742)) fun v744 h745 =>
  C0.int .i64 (some v744) fun x746 =>
  C0.keep h736 h738 [v742] <|
  cnd (x739 != x746)
  (X3_5_0 d v0 v64 v112 x123 k118N k118R true h745)
  (C0.cal M (pcall M d) 12 true 17 [v64] h745 fun v747 h748 =>
  C0.int .i64 (some v747) fun x749 =>
  C0.hop h748 (.nilck (.v v112)) fun v750 h751 =>
  C0.hop h751 (.fldA 10 (.v v750)) fun v752 h753 =>
  C0.hop h753 (.load false 1 (.v v752)) fun v754 h755 =>
  C0.int .i64 (some v754) fun x756 =>
  C0.keep h745 h748 [v752] <|
  cnd (x749 != x756)
  (X3_5_0 d v0 v64 v112 x123 k118N k118R true h755)
  (C0.cal M (pcall M d) 12 true 18 [v64] h755 fun v757 h758 =>
  C0.bool (some v757) fun b759 =>
  C0.hop h758 (.nilck (.v v112)) fun v760 h761 =>
  C0.hop h761 (.fldA 9 (.v v760)) fun v762 h763 =>
  C0.hop h763 (.load false 1 (.v v762)) fun v764 h765 =>
  C0.int .i64 (some v764) fun x766 =>
  C0.keep h755 h758 [v762] <|
  C0.hop h765 (.fldA 0 (.v v0)) fun v767 h768 =>
  C0.hop h768 (.load false 1 (.v v767)) fun v769 h770 =>
  C0.keep h755 h758 [v767] <|
  C0.hop h770 (.bk .lenV [(.v v769)]) fun v771 h772 =>
  C0.int .i64 (some v771) fun x773 =>
  C0.keep h755 h758 [v769] <|
  cnd (xor true (b759 == ((IntKind.wrap .i64 (x766+1)) == x773)))
  (X3_5_0 d v0 v64 v112 x123 k118N k118R true h772)
  (C0.cal M (pcall M d) 12 true 20 [v64] h772 fun v774 h775 =>
  C0.agg 5 (some v774) fun l776 =>
  C0.any l776[0]? fun v777 =>
  C0.int .i64 l776[1]? fun x778 =>
  C0.int .i64 l776[2]? fun x779 =>
  C0.int .i64 l776[3]? fun x780 =>
  C0.int .i64 l776[4]? fun x781 =>
  C0.hop h775 (.fldA 0 (.v v0)) fun v782 h783 =>
  C0.hop h783 (.load false 1 (.v v782)) fun v784 h785 =>
  C0.keep h772 h775 [v782] <|
  C0.hop h785 (.nilck (.v v112)) fun v786 h787 =>
  C0.hop h787 (.fldA 9 (.v v786)) fun v788 h789 =>
  C0.hop h789 (.load false 1 (.v v788)) fun v790 h791 =>
  C0.int .i64 (some v790) fun x792 =>
  C0.keep h772 h775 [v788] <|
  C0.hop h791 (.ixAS .any 5 (.v v784) (.v (iz x792))) fun v793 h794 =>
  C0.keep h772 h775 [v784] <|
  C0.hop h794 (.load true 5 (.v v793)) fun v795 h796 =>
  C0.agg 5 (some v795) fun l797 =>
  C0.any l797[0]? fun v798 =>
  C0.int .i64 l797[1]? fun x799 =>
  C0.int .i64 l797[2]? fun x800 =>
  C0.int .i64 l797[3]? fun x801 =>
  C0.int .i64 l797[4]? fun x802 =>
  C0.keep h772 h775 [v793] <|
  C0.snp h796 [(.agg [v777,(iz x778),(iz x779),(iz x780),(iz x781)]),(.agg [v798,(iz x799),(iz x800),(iz x801),(iz x802)])] fun l803 b804 =>
  C0.bool (pcall M d 19 l803) fun b805 =>
  cnd (b804 || true)
  (X3_5_0 d v0 v64 v112 x123 k118N k118R (!b805) h796)
  (none))))
theorem L3_5_s (d:Nat) (v0 v64 v112:AV) (x123:Int) (k118N:Int→Heap→Ans) (k118R:Bool→Heap→Ans) (n:Nat) (H:Heap):L3_5 d v0 v64 v112 x123 k118N k118R (n+1) H=(C0.grow H [] fun n735 h736 =>
 C0.cal M (pcall M d) 12 true 16 [v64] h736 fun v737 h738 =>
 C0.int .i64 (some v737) fun x739 =>
 C0.hop h738 (.nilck (.v v112)) fun v740 h741 =>
 C0.hop h741 (.fldA 9 (.v v740)) fun v742 h743 =>
 C0.hop h743 (.load false 1 (.v v742)) fun v744 h745 =>
 C0.int .i64 (some v744) fun x746 =>
 C0.keep h736 h738 [v742] <|
 cnd (x739 != x746)
 (X3_5_0 d v0 v64 v112 x123 k118N k118R true h745)
 (C0.cal M (pcall M d) 12 true 17 [v64] h745 fun v747 h748 =>
 C0.int .i64 (some v747) fun x749 =>
 C0.hop h748 (.nilck (.v v112)) fun v750 h751 =>
 C0.hop h751 (.fldA 10 (.v v750)) fun v752 h753 =>
 C0.hop h753 (.load false 1 (.v v752)) fun v754 h755 =>
 C0.int .i64 (some v754) fun x756 =>
 C0.keep h745 h748 [v752] <|
 cnd (x749 != x756)
 (X3_5_0 d v0 v64 v112 x123 k118N k118R true h755)
 (C0.cal M (pcall M d) 12 true 18 [v64] h755 fun v757 h758 =>
 C0.bool (some v757) fun b759 =>
 C0.hop h758 (.nilck (.v v112)) fun v760 h761 =>
 C0.hop h761 (.fldA 9 (.v v760)) fun v762 h763 =>
 C0.hop h763 (.load false 1 (.v v762)) fun v764 h765 =>
 C0.int .i64 (some v764) fun x766 =>
 C0.keep h755 h758 [v762] <|
 C0.hop h765 (.fldA 0 (.v v0)) fun v767 h768 =>
 C0.hop h768 (.load false 1 (.v v767)) fun v769 h770 =>
 C0.keep h755 h758 [v767] <|
 C0.hop h770 (.bk .lenV [(.v v769)]) fun v771 h772 =>
 C0.int .i64 (some v771) fun x773 =>
 C0.keep h755 h758 [v769] <|
 cnd (xor true (b759 == ((IntKind.wrap .i64 (x766+1)) == x773)))
 (X3_5_0 d v0 v64 v112 x123 k118N k118R true h772)
 (C0.cal M (pcall M d) 12 true 20 [v64] h772 fun v774 h775 =>
 C0.agg 5 (some v774) fun l776 =>
 C0.any l776[0]? fun v777 =>
 C0.int .i64 l776[1]? fun x778 =>
 C0.int .i64 l776[2]? fun x779 =>
 C0.int .i64 l776[3]? fun x780 =>
 C0.int .i64 l776[4]? fun x781 =>
 C0.hop h775 (.fldA 0 (.v v0)) fun v782 h783 =>
 C0.hop h783 (.load false 1 (.v v782)) fun v784 h785 =>
 C0.keep h772 h775 [v782] <|
 C0.hop h785 (.nilck (.v v112)) fun v786 h787 =>
 C0.hop h787 (.fldA 9 (.v v786)) fun v788 h789 =>
 C0.hop h789 (.load false 1 (.v v788)) fun v790 h791 =>
 C0.int .i64 (some v790) fun x792 =>
 C0.keep h772 h775 [v788] <|
 C0.hop h791 (.ixAS .any 5 (.v v784) (.v (iz x792))) fun v793 h794 =>
 C0.keep h772 h775 [v784] <|
 C0.hop h794 (.load true 5 (.v v793)) fun v795 h796 =>
 C0.agg 5 (some v795) fun l797 =>
 C0.any l797[0]? fun v798 =>
 C0.int .i64 l797[1]? fun x799 =>
 C0.int .i64 l797[2]? fun x800 =>
 C0.int .i64 l797[3]? fun x801 =>
 C0.int .i64 l797[4]? fun x802 =>
 C0.keep h772 h775 [v793] <|
 C0.snp h796 [(.agg [v777,(iz x778),(iz x779),(iz x780),(iz x781)]),(.agg [v798,(iz x799),(iz x800),(iz x801),(iz x802)])] fun l803 b804 =>
 C0.bool (pcall M d 19 l803) fun b805 =>
 cnd (b804 || true)
 (X3_5_0 d v0 v64 v112 x123 k118N k118R (!b805) h796)
 (none))))):=by kernel_rfl
theorem it3_5 (d:Nat) (a0:List AV) (a1 a2 a3 a4 a5 a6 a7 a8:Int) (a9:List AV) (v0:AV) (b37 b38 b39:Bool) (v40 v41 v42:AV) (b43 b44:Bool) (v45 v46 v47 v53:AV) (x54 x55 x56 x57 x58 x59 x60 x61:Int) (v64 v68:AV) (x69 x70 x71 x72 x73 x74 x75 x76 x79:Int) (v89:AV) (x90 x91 x92 x93 x94 x95 x96 x97:Int) (v101:AV) (x102 x103 x104 x105 x106 x107 x108 x109 x110 x111:Int) (v112:AV) (x116:Int) (k118:Ex→St→Ans) (x123:Int) (v264 v265:AV) (x270 x271 x272:Int) (b273 b274 b275:Bool) (x276:Int) (v277 v283:AV) (x287:Int) (v288:AV) (b292 b295:Bool) (v296:AV) (x300:Int) (v301:AV) (b305 b308 b606:Bool) (v607 v608:AV) (x609:Int) (v610 v611 v612 v613 v614 v615 v616 v617 v618 v619 v620 v621 v622 v623 v624 v625 v626 v627 v628 v629 v630 v631 v632 v633 v634 v635 v636 v637 v638 v639 v640 v641 v642 v643 v644 v645 v646 v647 v648 v649:AV) (b650 b651:Bool) (v652 v653 v654 v655 v656 v657 v658 v659 v660 v661 v662 v663 v664 v665 v666 v667 v668 v669 v670 v671 v672 v673 v674 v675 v676 v677 v678 v679 v680 v681 v682 v683 v684 v685 v686 v687:AV) (k118N:Int→Heap→Ans) (k118R:Bool→Heap→Ans) (hk118N:∀ (b120:Bool) (v121 v122:AV) (x123:Int) (v124 v125 v126 v127 v128 v129 v130 v131 v132 v133 v134 v135 v136 v137 v138 v139 v140 v141 v142 v143 v144 v145 v146 v147 v148 v149 v150 v151 v152 v153 v154 v155 v156 v157 v158 v159 v160 v161 v162 v163 v164 v165 v166 v167 v168 v169 v170 v171 v172 v173 v174 v175 v176 v177 v178 v179 v180 v181 v182 v183 v184 v185 v186 v187 v188 v189 v190 v191 v192 v193 v194 v195 v196 v197 v198 v199 v200 v201 v202 v203 v204 v205 v206 v207 v208 v209 v210 v211 v212 v213 v214 v215 v216 v217 v218 v219 v220 v221 v222 v223 v224 v225 v226 v227 v228 v229 v230 v231 v232 v233 v234 v235 v236 v237 v238 v239 v240 v241 v242 v243 v244 v245 v246 v247 v248 v249 v250 v251 v252 v253 v254 v255 v256 v257 v258 v259 v260 v261 v262 v263 v264:AV) (H:Heap),k118 .normal ⟨[(.agg [(.lst a0),(iz a1),(iz a2),(iz a3),(iz a4),(iz a5),(iz a6),(iz a7),(iz a8)]),(.lst a9),v0,tz,(bz b120),v64,v112,tz,v121,v122,(bz b37),(bz b38),(bz b39),v40,v41,v42,(bz b43),(bz b44),v45,v46,v47,bf,tz,(.agg [v53,(iz x54),(iz x55),(iz x56),(iz x57),(iz x58),(iz x59),(iz x60),(iz x61)]),v64,(.agg [v68,(iz x69),(iz x70),(iz x71),(iz x72),(iz x73),(iz x74),(iz x75),(iz x76)]),(iz x79),bf,tz,tz,v64,bf,(.agg [v89,(iz x90),(iz x91),(iz x92),(iz x93),(iz x94),(iz x95),(iz x96),(iz x97)]),(.agg [v101,(iz x102),(iz x103),(iz x104),(iz x105),(iz x106),(iz x107),(iz x108),(iz x109),(iz x110),(iz x111)]),v112,(.lst a9),(iz x116),(iz x123),v124,v125,v126,v127,v128,v129,v130,v131,v132,v133,v134,v135,v136,v137,v138,v139,v140,v141,v142,v143,v144,v145,v146,v147,v148,v149,v150,v151,v152,v153,v154,v155,v156,v157,v158,v159,v160,v161,v162,v163,v164,v165,v166,v167,v168,v169,v170,v171,v172,v173,v174,v175,v176,v177,v178,v179,v180,v181,v182,v183,v184,v185,v186,v187,v188,v189,v190,v191,v192,v193,v194,v195,v196,v197,v198,v199,v200,v201,v202,v203,v204,v205,v206,v207,v208,v209,v210,v211,v212,v213,v214,v215,v216,v217,v218,v219,v220,v221,v222,v223,v224,v225,v226,v227,v228,v229,v230,v231,v232,v233,v234,v235,v236,v237,v238,v239,v240,v241,v242,v243,v244,v245,v246,v247,v248,v249,v250,v251,v252,v253,v254,v255,v256,v257,v258,v259,v260,v261,v262,v263,v264],H⟩=k118N x123 H) (hk118R:∀ (b1123:Bool) (v1124 v1125:AV) (x1126:Int) (v1127 v1128:AV) (x1130 x1131 x1132:Int) (b1133 b1134 b1135:Bool) (x1136:Int) (v1137 v1138:AV) (x1139:Int) (v1140:AV) (b1141 b1142:Bool) (v1143 v1144:AV) (x1145:Int) (v1146:AV) (b1147 b1148 b1149:Bool) (v1150 v1151 v1152 v1153 v1154 v1155 v1156 v1157 v1158 v1159 v1160 v1161 v1162 v1163 v1164 v1165 v1166 v1167 v1168 v1169 v1170 v1171 v1172 v1173 v1174 v1175 v1176 v1177 v1178 v1179 v1180 v1181 v1182 v1183 v1184 v1185 v1186 v1187 v1188 v1189 v1190 v1191 v1192 v1193 v1194 v1195 v1196 v1197 v1198 v1199 v1200 v1201 v1202 v1203 v1204 v1205 v1206 v1207 v1208 v1209 v1210 v1211 v1212 v1213 v1214 v1215 v1216 v1217 v1218 v1219 v1220 v1221 v1222 v1223 v1224 v1225 v1226 v1227 v1228 v1229 v1230 v1231 v1232 v1233 v1234 v1235 v1236 v1237 v1238 v1239 v1240 v1241 v1242 v1243 v1244 v1245 v1246 v1247 v1248 v1249 v1250 v1251 v1252 v1253 v1254 v1255 v1256 v1257 v1258 v1259 v1260 v1261 v1262 v1263 v1264 v1265 v1266 v1267 v1268 v1269 v1270 v1271 v1272 v1273 v1274:AV) (H:Heap),k118 .ret ⟨[(.agg [(.lst a0),(iz a1),(iz a2),(iz a3),(iz a4),(iz a5),(iz a6),(iz a7),(iz a8)]),(.lst a9),v0,tz,(bz b1123),v64,v112,tz,v1124,v1125,(bz b37),(bz b38),(bz b39),v40,v41,v42,(bz b43),(bz b44),v45,v46,v47,bf,tz,(.agg [v53,(iz x54),(iz x55),(iz x56),(iz x57),(iz x58),(iz x59),(iz x60),(iz x61)]),v64,(.agg [v68,(iz x69),(iz x70),(iz x71),(iz x72),(iz x73),(iz x74),(iz x75),(iz x76)]),(iz x79),bf,tz,tz,v64,bf,(.agg [v89,(iz x90),(iz x91),(iz x92),(iz x93),(iz x94),(iz x95),(iz x96),(iz x97)]),(.agg [v101,(iz x102),(iz x103),(iz x104),(iz x105),(iz x106),(iz x107),(iz x108),(iz x109),(iz x110),(iz x111)]),v112,(.lst a9),(iz x116),(iz x1126),v1127,v1128,(.agg [(iz x1130),(iz x1131),(iz x1132),(bz b1133),(bz b1134),(bz b1135),(iz x1136)]),v1137,v1138,(iz x1139),v1140,(bz b1141),(bz b1142),v1143,v1144,(iz x1145),v1146,(bz b1147),(bz b1148),(bz b1149),v1150,v1151,v1152,v1153,v1154,v1155,v1156,v1157,v1158,v1159,v1160,v1161,v1162,v1163,v1164,v1165,v1166,v1167,v1168,v1169,v1170,v1171,v1172,v1173,v1174,v1175,v1176,v1177,v1178,v1179,v1180,v1181,v1182,v1183,v1184,v1185,v1186,v1187,v1188,v1189,v1190,v1191,v1192,v1193,v1194,v1195,v1196,v1197,v1198,v1199,v1200,v1201,v1202,v1203,v1204,v1205,v1206,v1207,v1208,v1209,v1210,v1211,v1212,v1213,v1214,v1215,v1216,v1217,v1218,v1219,v1220,v1221,v1222,v1223,v1224,v1225,v1226,v1227,v1228,v1229,v1230,v1231,v1232,v1233,v1234,v1235,v1236,v1237,v1238,v1239,v1240,v1241,v1242,v1243,v1244,v1245,v1246,v1247,v1248,v1249,v1250,v1251,v1252,v1253,v1254,v1255,v1256,v1257,v1258,v1259,v1260,v1261,v1262,v1263,v1264,v1265,v1266,v1267,v1268,v1269,v1270,v1271,v1272,v1273,v1274],H⟩=k118R b1123 H):∀ (n:Nat) (v691 v692 v693 v694 v695 v696 v697 v698 v699 v700 v701 v702 v703 v704 v705 v706 v707 v708 v709 v710 v711 v712 v713 v714 v715 v716 v717 v718 v719 v720 v721 v722 v723 v724 v725 v726 v727 v728 v729 v730 v731 v732 v733 v734:AV) (H:Heap),C0.iter (r3R5 C0 d a0 a1 a2 a3 a4 a5 a6 a7 a8 a9 v0 b37 b38 b39 v40 v41 v42 b43 b44 v45 v46 v47 v53 x54 x55 x56 x57 x58 x59 x60 x61 v64 v68 x69 x70 x71 x72 x73 x74 x75 x76 x79 v89 x90 x91 x92 x93 x94 x95 x96 x97 v101 x102 x103 x104 x105 x106 x107 x108 x109 x110 x111 v112 x116 k118 x123 v264 v265 x270 x271 x272 b273 b274 b275 x276 v277 v283 x287 v288 b292 b295 v296 x300 v301 b305 b308 b606 v607 v608 x609 v610 v611 v612 v613 v614 v615 v616 v617 v618 v619 v620 v621 v622 v623 v624 v625 v626 v627 v628 v629 v630 v631 v632 v633 v634 v635 v636 v637 v638 v639 v640 v641 v642 v643 v644 v645 v646 v647 v648 v649 b650 b651 v652 v653 v654 v655 v656 v657 v658 v659 v660 v661 v662 v663 v664 v665 v666 v667 v668 v669 v670 v671 v672 v673 v674 v675 v676 v677 v678 v679 v680 v681 v682 v683 v684 v685 v686 v687) n ⟨[(.agg [(.lst a0),(iz a1),(iz a2),(iz a3),(iz a4),(iz a5),(iz a6),(iz a7),(iz a8)]),(.lst a9),v0,tz,(bz b606),v64,v112,tz,v277,v607,(bz b37),(bz b38),(bz b39),v40,v41,v42,(bz b43),(bz b44),v45,v46,v47,bf,tz,(.agg [v53,(iz x54),(iz x55),(iz x56),(iz x57),(iz x58),(iz x59),(iz x60),(iz x61)]),v64,(.agg [v68,(iz x69),(iz x70),(iz x71),(iz x72),(iz x73),(iz x74),(iz x75),(iz x76)]),(iz x79),bf,tz,tz,v64,bf,(.agg [v89,(iz x90),(iz x91),(iz x92),(iz x93),(iz x94),(iz x95),(iz x96),(iz x97)]),(.agg [v101,(iz x102),(iz x103),(iz x104),(iz x105),(iz x106),(iz x107),(iz x108),(iz x109),(iz x110),(iz x111)]),v112,(.lst a9),(iz x116),(iz x123),bt,v265,(.agg [(iz x270),(iz x271),(iz x272),(bz b273),(bz b274),(bz b275),(iz x276)]),v64,v283,(iz x287),v288,(bz b292),(bz b295),v112,v296,(iz x300),v301,(bz b305),(bz b308),bf,v608,(iz x609),v610,v611,v612,v613,v614,v615,v616,v617,v618,v619,v620,v621,v622,v623,v624,v625,v626,v627,v628,v629,v630,v631,v632,v633,v634,v635,v636,v637,v638,v639,v640,v641,v642,v643,v644,v645,v646,v647,v648,v649,(bz b650),(bz b651),v652,v653,v654,v655,v656,v657,v658,v659,v660,v661,v662,v663,v664,v665,v666,v667,v668,v669,v670,v671,v672,v673,v674,v675,v676,v677,v678,v679,v680,v681,v682,v683,v684,v685,v686,v687,v691,v692,v693,v694,v695,v696,v697,v698,v699,v700,v701,v702,v703,v704,v705,v706,v707,v708,v709,v710,v711,v712,v713,v714,v715,v716,v717,v718,v719,v720,v721,v722,v723,v724,v725,v726,v727,v728,v729,v730,v731,v732,v733,v734,v264],H⟩ [2000000] [r3X5_0 C0 d a0 a1 a2 a3 a4 a5 a6 a7 a8 a9 v0 b37 b38 b39 v40 v41 v42 b43 b44 v45 v46 v47 v53 x54 x55 x56 x57 x58 x59 x60 x61 v64 v68 x69 x70 x71 x72 x73 x74 x75 x76 x79 v89 x90 x91 x92 x93 x94 x95 x96 x97 v101 x102 x103 x104 x105 x106 x107 x108 x109 x110 x111 v112 x116 k118 x123 v264 v265 x270 x271 x272 b273 b274 b275 x276 v277 v283 x287 v288 b292 b295 v296 x300 v301 b305 b308 b606 v607 v608 x609 v610 v611 v612 v613 v614 v615 v616 v617 v618 v619 v620 v621 v622 v623 v624 v625 v626 v627 v628 v629 v630 v631 v632 v633 v634 v635 v636 v637 v638 v639 v640 v641 v642 v643 v644 v645 v646 v647 v648 v649 b650 b651 v652 v653 v654 v655 v656 v657 v658 v659 v660 v661 v662 v663 v664 v665 v666 v667 v668 v669 v670 v671 v672 v673 v674 v675 v676 v677 v678 v679 v680 v681 v682 v683 v684 v685 v686 v687] (r3E5 C0 d a0 a1 a2 a3 a4 a5 a6 a7 a8 a9 v0 b37 b38 b39 v40 v41 v42 b43 b44 v45 v46 v47 v53 x54 x55 x56 x57 x58 x59 x60 x61 v64 v68 x69 x70 x71 x72 x73 x74 x75 x76 x79 v89 x90 x91 x92 x93 x94 x95 x96 x97 v101 x102 x103 x104 x105 x106 x107 x108 x109 x110 x111 v112 x116 k118 x123 v264 v265 x270 x271 x272 b273 b274 b275 x276 v277 v283 x287 v288 b292 b295 v296 x300 v301 b305 b308 b606 v607 v608 x609 v610 v611 v612 v613 v614 v615 v616 v617 v618 v619 v620 v621 v622 v623 v624 v625 v626 v627 v628 v629 v630 v631 v632 v633 v634 v635 v636 v637 v638 v639 v640 v641 v642 v643 v644 v645 v646 v647 v648 v649 b650 b651 v652 v653 v654 v655 v656 v657 v658 v659 v660 v661 v662 v663 v664 v665 v666 v667 v668 v669 v670 v671 v672 v673 v674 v675 v676 v677 v678 v679 v680 v681 v682 v683 v684 v685 v686 v687)=L3_5 d v0 v64 v112 x123 k118N k118R n H:=by
 generalize hR:r3R5 C0 d a0 a1 a2 a3 a4 a5 a6 a7 a8 a9 v0 b37 b38 b39 v40 v41 v42 b43 b44 v45 v46 v47 v53 x54 x55 x56 x57 x58 x59 x60 x61 v64 v68 x69 x70 x71 x72 x73 x74 x75 x76 x79 v89 x90 x91 x92 x93 x94 x95 x96 x97 v101 x102 x103 x104 x105 x106 x107 x108 x109 x110 x111 v112 x116 k118 x123 v264 v265 x270 x271 x272 b273 b274 b275 x276 v277 v283 x287 v288 b292 b295 v296 x300 v301 b305 b308 b606 v607 v608 x609 v610 v611 v612 v613 v614 v615 v616 v617 v618 v619 v620 v621 v622 v623 v624 v625 v626 v627 v628 v629 v630 v631 v632 v633 v634 v635 v636 v637 v638 v639 v640 v641 v642 v643 v644 v645 v646 v647 v648 v649 b650 b651 v652 v653 v654 v655 v656 v657 v658 v659 v660 v661 v662 v663 v664 v665 v666 v667 v668 v669 v670 v671 v672 v673 v674 v675 v676 v677 v678 v679 v680 v681 v682 v683 v684 v685 v686 v687=R
 intro n
 induction n with
 | zero=>intros; rfl
 | succ n ih =>
   intro v691 v692 v693 v694 v695 v696 v697 v698 v699 v700 v701 v702 v703 v704 v705 v706 v707 v708 v709 v710 v711 v712 v713 v714 v715 v716 v717 v718 v719 v720 v721 v722 v723 v724 v725 v726 v727 v728 v729 v730 v731 v732 v733 v734 H
   simp only [it_ret] at ih
   rw [it_ret,xiter_s]
   refine Eq.trans (congrFun (congrFun hR.symm _) _) ?_
   unfold r3R5
   refine Eq.trans (pl_len (by rfl)) ?_; refine yt ySs ?_; refine yt yAs ?_; refine yt yS ?_
   simp only [kIter_n,kIter_x,kIter_r,kOut_x,kOut_r,xgo_hit,xgo_miss,ih,X3_5_0_ok d a0 a1 a2 a3 a4 a5 a6 a7 a8 a9 v0 b37 b38 b39 v40 v41 v42 b43 b44 v45 v46 v47 v53 x54 x55 x56 x57 x58 x59 x60 x61 v64 v68 x69 x70 x71 x72 x73 x74 x75 x76 x79 v89 x90 x91 x92 x93 x94 x95 x96 x97 v101 x102 x103 x104 x105 x106 x107 x108 x109 x110 x111 v112 x116 k118 x123 v264 v265 x270 x271 x272 b273 b274 b275 x276 v277 v283 x287 v288 b292 b295 v296 x300 v301 b305 b308 b606 v607 v608 x609 v610 v611 v612 v613 v614 v615 v616 v617 v618 v619 v620 v621 v622 v623 v624 v625 v626 v627 v628 v629 v630 v631 v632 v633 v634 v635 v636 v637 v638 v639 v640 v641 v642 v643 v644 v645 v646 v647 v648 v649 b650 b651 v652 v653 v654 v655 v656 v657 v658 v659 v660 v661 v662 v663 v664 v665 v666 v667 v668 v669 v670 v671 v672 v673 v674 v675 v676 v677 v678 v679 v680 v681 v682 v683 v684 v685 v686 v687 k118N k118R hk118N hk118R,E3_5_ok d a0 a1 a2 a3 a4 a5 a6 a7 a8 a9 v0 b37 b38 b39 v40 v41 v42 b43 b44 v45 v46 v47 v53 x54 x55 x56 x57 x58 x59 x60 x61 v64 v68 x69 x70 x71 x72 x73 x74 x75 x76 x79 v89 x90 x91 x92 x93 x94 x95 x96 x97 v101 x102 x103 x104 x105 x106 x107 x108 x109 x110 x111 v112 x116 k118 x123 v264 v265 x270 x271 x272 b273 b274 b275 x276 v277 v283 x287 v288 b292 b295 v296 x300 v301 b305 b308 b606 v607 v608 x609 v610 v611 v612 v613 v614 v615 v616 v617 v618 v619 v620 v621 v622 v623 v624 v625 v626 v627 v628 v629 v630 v631 v632 v633 v634 v635 v636 v637 v638 v639 v640 v641 v642 v643 v644 v645 v646 v647 v648 v649 b650 b651 v652 v653 v654 v655 v656 v657 v658 v659 v660 v661 v662 v663 v664 v665 v666 v667 v668 v669 v670 v671 v672 v673 v674 v675 v676 v677 v678 v679 v680 v681 v682 v683 v684 v685 v686 v687 k118N k118R hk118N hk118R]
   exact (L3_5_s d v0 v64 v112 x123 k118N k118R n H).symm
noncomputable def X3_2_0 (d:Nat) (v0 v64 v112:AV) (x123:Int) (v277:AV) (k118N:Int→Heap→Ans) (k118R:Bool→Heap→Ans) (H:Heap):Ans :=
 L3_5 d v0 v64 v112 x123 k118N k118R 1 H
theorem X3_2_0_ok (d:Nat) (a0:List AV) (a1 a2 a3 a4 a5 a6 a7 a8:Int) (a9:List AV) (v0:AV) (b37 b38 b39:Bool) (v40 v41 v42:AV) (b43 b44:Bool) (v45 v46 v47 v53:AV) (x54 x55 x56 x57 x58 x59 x60 x61:Int) (v64 v68:AV) (x69 x70 x71 x72 x73 x74 x75 x76 x79:Int) (v89:AV) (x90 x91 x92 x93 x94 x95 x96 x97:Int) (v101:AV) (x102 x103 x104 x105 x106 x107 x108 x109 x110 x111:Int) (v112:AV) (x116:Int) (k118:Ex→St→Ans) (x123:Int) (v220 v221 v222 v223 v224 v225 v226 v227 v228 v229 v230 v231 v232 v233 v234 v235 v236 v237 v238 v239 v240 v241 v242 v243 v244 v245 v246 v247 v248 v249 v250 v251 v252 v253 v254 v255 v256 v257 v258 v259 v260 v261 v262 v263 v264 v265:AV) (x270 x271 x272:Int) (b273 b274 b275:Bool) (x276:Int) (v277 v283:AV) (x287:Int) (v288:AV) (b292 b295:Bool) (v296:AV) (x300:Int) (v301:AV) (b305 b308:Bool) (k118N:Int→Heap→Ans) (k118R:Bool→Heap→Ans) (hk118N:∀ (b120:Bool) (v121 v122:AV) (x123:Int) (v124 v125 v126 v127 v128 v129 v130 v131 v132 v133 v134 v135 v136 v137 v138 v139 v140 v141 v142 v143 v144 v145 v146 v147 v148 v149 v150 v151 v152 v153 v154 v155 v156 v157 v158 v159 v160 v161 v162 v163 v164 v165 v166 v167 v168 v169 v170 v171 v172 v173 v174 v175 v176 v177 v178 v179 v180 v181 v182 v183 v184 v185 v186 v187 v188 v189 v190 v191 v192 v193 v194 v195 v196 v197 v198 v199 v200 v201 v202 v203 v204 v205 v206 v207 v208 v209 v210 v211 v212 v213 v214 v215 v216 v217 v218 v219 v220 v221 v222 v223 v224 v225 v226 v227 v228 v229 v230 v231 v232 v233 v234 v235 v236 v237 v238 v239 v240 v241 v242 v243 v244 v245 v246 v247 v248 v249 v250 v251 v252 v253 v254 v255 v256 v257 v258 v259 v260 v261 v262 v263 v264:AV) (H:Heap),k118 .normal ⟨[(.agg [(.lst a0),(iz a1),(iz a2),(iz a3),(iz a4),(iz a5),(iz a6),(iz a7),(iz a8)]),(.lst a9),v0,tz,(bz b120),v64,v112,tz,v121,v122,(bz b37),(bz b38),(bz b39),v40,v41,v42,(bz b43),(bz b44),v45,v46,v47,bf,tz,(.agg [v53,(iz x54),(iz x55),(iz x56),(iz x57),(iz x58),(iz x59),(iz x60),(iz x61)]),v64,(.agg [v68,(iz x69),(iz x70),(iz x71),(iz x72),(iz x73),(iz x74),(iz x75),(iz x76)]),(iz x79),bf,tz,tz,v64,bf,(.agg [v89,(iz x90),(iz x91),(iz x92),(iz x93),(iz x94),(iz x95),(iz x96),(iz x97)]),(.agg [v101,(iz x102),(iz x103),(iz x104),(iz x105),(iz x106),(iz x107),(iz x108),(iz x109),(iz x110),(iz x111)]),v112,(.lst a9),(iz x116),(iz x123),v124,v125,v126,v127,v128,v129,v130,v131,v132,v133,v134,v135,v136,v137,v138,v139,v140,v141,v142,v143,v144,v145,v146,v147,v148,v149,v150,v151,v152,v153,v154,v155,v156,v157,v158,v159,v160,v161,v162,v163,v164,v165,v166,v167,v168,v169,v170,v171,v172,v173,v174,v175,v176,v177,v178,v179,v180,v181,v182,v183,v184,v185,v186,v187,v188,v189,v190,v191,v192,v193,v194,v195,v196,v197,v198,v199,v200,v201,v202,v203,v204,v205,v206,v207,v208,v209,v210,v211,v212,v213,v214,v215,v216,v217,v218,v219,v220,v221,v222,v223,v224,v225,v226,v227,v228,v229,v230,v231,v232,v233,v234,v235,v236,v237,v238,v239,v240,v241,v242,v243,v244,v245,v246,v247,v248,v249,v250,v251,v252,v253,v254,v255,v256,v257,v258,v259,v260,v261,v262,v263,v264],H⟩=k118N x123 H) (hk118R:∀ (b1123:Bool) (v1124 v1125:AV) (x1126:Int) (v1127 v1128:AV) (x1130 x1131 x1132:Int) (b1133 b1134 b1135:Bool) (x1136:Int) (v1137 v1138:AV) (x1139:Int) (v1140:AV) (b1141 b1142:Bool) (v1143 v1144:AV) (x1145:Int) (v1146:AV) (b1147 b1148 b1149:Bool) (v1150 v1151 v1152 v1153 v1154 v1155 v1156 v1157 v1158 v1159 v1160 v1161 v1162 v1163 v1164 v1165 v1166 v1167 v1168 v1169 v1170 v1171 v1172 v1173 v1174 v1175 v1176 v1177 v1178 v1179 v1180 v1181 v1182 v1183 v1184 v1185 v1186 v1187 v1188 v1189 v1190 v1191 v1192 v1193 v1194 v1195 v1196 v1197 v1198 v1199 v1200 v1201 v1202 v1203 v1204 v1205 v1206 v1207 v1208 v1209 v1210 v1211 v1212 v1213 v1214 v1215 v1216 v1217 v1218 v1219 v1220 v1221 v1222 v1223 v1224 v1225 v1226 v1227 v1228 v1229 v1230 v1231 v1232 v1233 v1234 v1235 v1236 v1237 v1238 v1239 v1240 v1241 v1242 v1243 v1244 v1245 v1246 v1247 v1248 v1249 v1250 v1251 v1252 v1253 v1254 v1255 v1256 v1257 v1258 v1259 v1260 v1261 v1262 v1263 v1264 v1265 v1266 v1267 v1268 v1269 v1270 v1271 v1272 v1273 v1274:AV) (H:Heap),k118 .ret ⟨[(.agg [(.lst a0),(iz a1),(iz a2),(iz a3),(iz a4),(iz a5),(iz a6),(iz a7),(iz a8)]),(.lst a9),v0,tz,(bz b1123),v64,v112,tz,v1124,v1125,(bz b37),(bz b38),(bz b39),v40,v41,v42,(bz b43),(bz b44),v45,v46,v47,bf,tz,(.agg [v53,(iz x54),(iz x55),(iz x56),(iz x57),(iz x58),(iz x59),(iz x60),(iz x61)]),v64,(.agg [v68,(iz x69),(iz x70),(iz x71),(iz x72),(iz x73),(iz x74),(iz x75),(iz x76)]),(iz x79),bf,tz,tz,v64,bf,(.agg [v89,(iz x90),(iz x91),(iz x92),(iz x93),(iz x94),(iz x95),(iz x96),(iz x97)]),(.agg [v101,(iz x102),(iz x103),(iz x104),(iz x105),(iz x106),(iz x107),(iz x108),(iz x109),(iz x110),(iz x111)]),v112,(.lst a9),(iz x116),(iz x1126),v1127,v1128,(.agg [(iz x1130),(iz x1131),(iz x1132),(bz b1133),(bz b1134),(bz b1135),(iz x1136)]),v1137,v1138,(iz x1139),v1140,(bz b1141),(bz b1142),v1143,v1144,(iz x1145),v1146,(bz b1147),(bz b1148),(bz b1149),v1150,v1151,v1152,v1153,v1154,v1155,v1156,v1157,v1158,v1159,v1160,v1161,v1162,v1163,v1164,v1165,v1166,v1167,v1168,v1169,v1170,v1171,v1172,v1173,v1174,v1175,v1176,v1177,v1178,v1179,v1180,v1181,v1182,v1183,v1184,v1185,v1186,v1187,v1188,v1189,v1190,v1191,v1192,v1193,v1194,v1195,v1196,v1197,v1198,v1199,v1200,v1201,v1202,v1203,v1204,v1205,v1206,v1207,v1208,v1209,v1210,v1211,v1212,v1213,v1214,v1215,v1216,v1217,v1218,v1219,v1220,v1221,v1222,v1223,v1224,v1225,v1226,v1227,v1228,v1229,v1230,v1231,v1232,v1233,v1234,v1235,v1236,v1237,v1238,v1239,v1240,v1241,v1242,v1243,v1244,v1245,v1246,v1247,v1248,v1249,v1250,v1251,v1252,v1253,v1254,v1255,v1256,v1257,v1258,v1259,v1260,v1261,v1262,v1263,v1264,v1265,v1266,v1267,v1268,v1269,v1270,v1271,v1272,v1273,v1274],H⟩=k118R b1123 H) (b606:Bool) (v607 v608:AV) (x609:Int) (v610 v611 v612 v613 v614 v615 v616 v617 v618 v619 v620 v621 v622 v623 v624 v625 v626 v627 v628 v629 v630 v631 v632 v633 v634 v635 v636 v637 v638 v639 v640 v641 v642 v643 v644 v645 v646 v647 v648 v649:AV) (b650 b651:Bool) (v652 v653 v654 v655 v656 v657 v658 v659 v660 v661 v662 v663 v664 v665 v666 v667 v668 v669 v670 v671 v672 v673 v674 v675 v676 v677 v678 v679 v680 v681 v682 v683 v684 v685 v686 v687:AV) (H:Heap):r3X2_0 C0 d a0 a1 a2 a3 a4 a5 a6 a7 a8 a9 v0 b37 b38 b39 v40 v41 v42 b43 b44 v45 v46 v47 v53 x54 x55 x56 x57 x58 x59 x60 x61 v64 v68 x69 x70 x71 x72 x73 x74 x75 x76 x79 v89 x90 x91 x92 x93 x94 x95 x96 x97 v101 x102 x103 x104 x105 x106 x107 x108 x109 x110 x111 v112 x116 k118 x123 v220 v221 v222 v223 v224 v225 v226 v227 v228 v229 v230 v231 v232 v233 v234 v235 v236 v237 v238 v239 v240 v241 v242 v243 v244 v245 v246 v247 v248 v249 v250 v251 v252 v253 v254 v255 v256 v257 v258 v259 v260 v261 v262 v263 v264 v265 x270 x271 x272 b273 b274 b275 x276 v277 v283 x287 v288 b292 b295 v296 x300 v301 b305 b308 ⟨[(.agg [(.lst a0),(iz a1),(iz a2),(iz a3),(iz a4),(iz a5),(iz a6),(iz a7),(iz a8)]),(.lst a9),v0,tz,(bz b606),v64,v112,tz,v277,v607,(bz b37),(bz b38),(bz b39),v40,v41,v42,(bz b43),(bz b44),v45,v46,v47,bf,tz,(.agg [v53,(iz x54),(iz x55),(iz x56),(iz x57),(iz x58),(iz x59),(iz x60),(iz x61)]),v64,(.agg [v68,(iz x69),(iz x70),(iz x71),(iz x72),(iz x73),(iz x74),(iz x75),(iz x76)]),(iz x79),bf,tz,tz,v64,bf,(.agg [v89,(iz x90),(iz x91),(iz x92),(iz x93),(iz x94),(iz x95),(iz x96),(iz x97)]),(.agg [v101,(iz x102),(iz x103),(iz x104),(iz x105),(iz x106),(iz x107),(iz x108),(iz x109),(iz x110),(iz x111)]),v112,(.lst a9),(iz x116),(iz x123),bt,v265,(.agg [(iz x270),(iz x271),(iz x272),(bz b273),(bz b274),(bz b275),(iz x276)]),v64,v283,(iz x287),v288,(bz b292),(bz b295),v112,v296,(iz x300),v301,(bz b305),(bz b308),bf,v608,(iz x609),v610,v611,v612,v613,v614,v615,v616,v617,v618,v619,v620,v621,v622,v623,v624,v625,v626,v627,v628,v629,v630,v631,v632,v633,v634,v635,v636,v637,v638,v639,v640,v641,v642,v643,v644,v645,v646,v647,v648,v649,(bz b650),(bz b651),v652,v653,v654,v655,v656,v657,v658,v659,v660,v661,v662,v663,v664,v665,v666,v667,v668,v669,v670,v671,v672,v673,v674,v675,v676,v677,v678,v679,v680,v681,v682,v683,v684,v685,v686,v687,v220,v221,v222,v223,v224,v225,v226,v227,v228,v229,v230,v231,v232,v233,v234,v235,v236,v237,v238,v239,v240,v241,v242,v243,v244,v245,v246,v247,v248,v249,v250,v251,v252,v253,v254,v255,v256,v257,v258,v259,v260,v261,v262,v263,v264],H⟩=X3_2_0 d v0 v64 v112 x123 v277 k118N k118R H:=by
 have I0:=it3_5 d a0 a1 a2 a3 a4 a5 a6 a7 a8 a9 v0 b37 b38 b39 v40 v41 v42 b43 b44 v45 v46 v47 v53 x54 x55 x56 x57 x58 x59 x60 x61 v64 v68 x69 x70 x71 x72 x73 x74 x75 x76 x79 v89 x90 x91 x92 x93 x94 x95 x96 x97 v101 x102 x103 x104 x105 x106 x107 x108 x109 x110 x111 v112 x116 k118 x123 v264 v265 x270 x271 x272 b273 b274 b275 x276 v277 v283 x287 v288 b292 b295 v296 x300 v301 b305 b308 b606 v607 v608 x609 v610 v611 v612 v613 v614 v615 v616 v617 v618 v619 v620 v621 v622 v623 v624 v625 v626 v627 v628 v629 v630 v631 v632 v633 v634 v635 v636 v637 v638 v639 v640 v641 v642 v643 v644 v645 v646 v647 v648 v649 b650 b651 v652 v653 v654 v655 v656 v657 v658 v659 v660 v661 v662 v663 v664 v665 v666 v667 v668 v669 v670 v671 v672 v673 v674 v675 v676 v677 v678 v679 v680 v681 v682 v683 v684 v685 v686 v687 k118N k118R hk118N hk118R
 try dsimp only at I0
 try dsimp only at hk118N
 try dsimp only at hk118R
 unfold r3X2_0; refine Eq.trans (pl_len (by rfl)) ?_; refine yt ySs ?_; refine yt yB ?_; refine yt ySs ?_; refine yt yA ?_; refine yt ySs ?_; refine yt yA ?_; refine yt yI ?_; (iterate 40 (refine yt yA ?_)); (iterate 2 (refine yt yB ?_)); (iterate 36 (refine yt yA ?_)); refine yt ySs ?_
 first | (simp only [I0,hk118N,hk118R] <;> rfl) | rfl
noncomputable def E3_2 (d:Nat) (v0 v64 v112:AV) (x123:Int) (v277:AV) (k118N:Int→Heap→Ans) (k118R:Bool→Heap→Ans) (b895:Bool) (H:Heap):Ans :=
 k118R b895 H
theorem E3_2_ok (d:Nat) (a0:List AV) (a1 a2 a3 a4 a5 a6 a7 a8:Int) (a9:List AV) (v0:AV) (b37 b38 b39:Bool) (v40 v41 v42:AV) (b43 b44:Bool) (v45 v46 v47 v53:AV) (x54 x55 x56 x57 x58 x59 x60 x61:Int) (v64 v68:AV) (x69 x70 x71 x72 x73 x74 x75 x76 x79:Int) (v89:AV) (x90 x91 x92 x93 x94 x95 x96 x97:Int) (v101:AV) (x102 x103 x104 x105 x106 x107 x108 x109 x110 x111:Int) (v112:AV) (x116:Int) (k118:Ex→St→Ans) (x123:Int) (v220 v221 v222 v223 v224 v225 v226 v227 v228 v229 v230 v231 v232 v233 v234 v235 v236 v237 v238 v239 v240 v241 v242 v243 v244 v245 v246 v247 v248 v249 v250 v251 v252 v253 v254 v255 v256 v257 v258 v259 v260 v261 v262 v263 v264 v265:AV) (x270 x271 x272:Int) (b273 b274 b275:Bool) (x276:Int) (v277 v283:AV) (x287:Int) (v288:AV) (b292 b295:Bool) (v296:AV) (x300:Int) (v301:AV) (b305 b308:Bool) (k118N:Int→Heap→Ans) (k118R:Bool→Heap→Ans) (hk118N:∀ (b120:Bool) (v121 v122:AV) (x123:Int) (v124 v125 v126 v127 v128 v129 v130 v131 v132 v133 v134 v135 v136 v137 v138 v139 v140 v141 v142 v143 v144 v145 v146 v147 v148 v149 v150 v151 v152 v153 v154 v155 v156 v157 v158 v159 v160 v161 v162 v163 v164 v165 v166 v167 v168 v169 v170 v171 v172 v173 v174 v175 v176 v177 v178 v179 v180 v181 v182 v183 v184 v185 v186 v187 v188 v189 v190 v191 v192 v193 v194 v195 v196 v197 v198 v199 v200 v201 v202 v203 v204 v205 v206 v207 v208 v209 v210 v211 v212 v213 v214 v215 v216 v217 v218 v219 v220 v221 v222 v223 v224 v225 v226 v227 v228 v229 v230 v231 v232 v233 v234 v235 v236 v237 v238 v239 v240 v241 v242 v243 v244 v245 v246 v247 v248 v249 v250 v251 v252 v253 v254 v255 v256 v257 v258 v259 v260 v261 v262 v263 v264:AV) (H:Heap),k118 .normal ⟨[(.agg [(.lst a0),(iz a1),(iz a2),(iz a3),(iz a4),(iz a5),(iz a6),(iz a7),(iz a8)]),(.lst a9),v0,tz,(bz b120),v64,v112,tz,v121,v122,(bz b37),(bz b38),(bz b39),v40,v41,v42,(bz b43),(bz b44),v45,v46,v47,bf,tz,(.agg [v53,(iz x54),(iz x55),(iz x56),(iz x57),(iz x58),(iz x59),(iz x60),(iz x61)]),v64,(.agg [v68,(iz x69),(iz x70),(iz x71),(iz x72),(iz x73),(iz x74),(iz x75),(iz x76)]),(iz x79),bf,tz,tz,v64,bf,(.agg [v89,(iz x90),(iz x91),(iz x92),(iz x93),(iz x94),(iz x95),(iz x96),(iz x97)]),(.agg [v101,(iz x102),(iz x103),(iz x104),(iz x105),(iz x106),(iz x107),(iz x108),(iz x109),(iz x110),(iz x111)]),v112,(.lst a9),(iz x116),(iz x123),v124,v125,v126,v127,v128,v129,v130,v131,v132,v133,v134,v135,v136,v137,v138,v139,v140,v141,v142,v143,v144,v145,v146,v147,v148,v149,v150,v151,v152,v153,v154,v155,v156,v157,v158,v159,v160,v161,v162,v163,v164,v165,v166,v167,v168,v169,v170,v171,v172,v173,v174,v175,v176,v177,v178,v179,v180,v181,v182,v183,v184,v185,v186,v187,v188,v189,v190,v191,v192,v193,v194,v195,v196,v197,v198,v199,v200,v201,v202,v203,v204,v205,v206,v207,v208,v209,v210,v211,v212,v213,v214,v215,v216,v217,v218,v219,v220,v221,v222,v223,v224,v225,v226,v227,v228,v229,v230,v231,v232,v233,v234,v235,v236,v237,v238,v239,v240,v241,v242,v243,v244,v245,v246,v247,v248,v249,v250,v251,v252,v253,v254,v255,v256,v257,v258,v259,v260,v261,v262,v263,v264],H⟩=k118N x123 H) (hk118R:∀ (b1123:Bool) (v1124 v1125:AV) (x1126:Int) (v1127 v1128:AV) (x1130 x1131 x1132:Int) (b1133 b1134 b1135:Bool) (x1136:Int) (v1137 v1138:AV) (x1139:Int) (v1140:AV) (b1141 b1142:Bool) (v1143 v1144:AV) (x1145:Int) (v1146:AV) (b1147 b1148 b1149:Bool) (v1150 v1151 v1152 v1153 v1154 v1155 v1156 v1157 v1158 v1159 v1160 v1161 v1162 v1163 v1164 v1165 v1166 v1167 v1168 v1169 v1170 v1171 v1172 v1173 v1174 v1175 v1176 v1177 v1178 v1179 v1180 v1181 v1182 v1183 v1184 v1185 v1186 v1187 v1188 v1189 v1190 v1191 v1192 v1193 v1194 v1195 v1196 v1197 v1198 v1199 v1200 v1201 v1202 v1203 v1204 v1205 v1206 v1207 v1208 v1209 v1210 v1211 v1212 v1213 v1214 v1215 v1216 v1217 v1218 v1219 v1220 v1221 v1222 v1223 v1224 v1225 v1226 v1227 v1228 v1229 v1230 v1231 v1232 v1233 v1234 v1235 v1236 v1237 v1238 v1239 v1240 v1241 v1242 v1243 v1244 v1245 v1246 v1247 v1248 v1249 v1250 v1251 v1252 v1253 v1254 v1255 v1256 v1257 v1258 v1259 v1260 v1261 v1262 v1263 v1264 v1265 v1266 v1267 v1268 v1269 v1270 v1271 v1272 v1273 v1274:AV) (H:Heap),k118 .ret ⟨[(.agg [(.lst a0),(iz a1),(iz a2),(iz a3),(iz a4),(iz a5),(iz a6),(iz a7),(iz a8)]),(.lst a9),v0,tz,(bz b1123),v64,v112,tz,v1124,v1125,(bz b37),(bz b38),(bz b39),v40,v41,v42,(bz b43),(bz b44),v45,v46,v47,bf,tz,(.agg [v53,(iz x54),(iz x55),(iz x56),(iz x57),(iz x58),(iz x59),(iz x60),(iz x61)]),v64,(.agg [v68,(iz x69),(iz x70),(iz x71),(iz x72),(iz x73),(iz x74),(iz x75),(iz x76)]),(iz x79),bf,tz,tz,v64,bf,(.agg [v89,(iz x90),(iz x91),(iz x92),(iz x93),(iz x94),(iz x95),(iz x96),(iz x97)]),(.agg [v101,(iz x102),(iz x103),(iz x104),(iz x105),(iz x106),(iz x107),(iz x108),(iz x109),(iz x110),(iz x111)]),v112,(.lst a9),(iz x116),(iz x1126),v1127,v1128,(.agg [(iz x1130),(iz x1131),(iz x1132),(bz b1133),(bz b1134),(bz b1135),(iz x1136)]),v1137,v1138,(iz x1139),v1140,(bz b1141),(bz b1142),v1143,v1144,(iz x1145),v1146,(bz b1147),(bz b1148),(bz b1149),v1150,v1151,v1152,v1153,v1154,v1155,v1156,v1157,v1158,v1159,v1160,v1161,v1162,v1163,v1164,v1165,v1166,v1167,v1168,v1169,v1170,v1171,v1172,v1173,v1174,v1175,v1176,v1177,v1178,v1179,v1180,v1181,v1182,v1183,v1184,v1185,v1186,v1187,v1188,v1189,v1190,v1191,v1192,v1193,v1194,v1195,v1196,v1197,v1198,v1199,v1200,v1201,v1202,v1203,v1204,v1205,v1206,v1207,v1208,v1209,v1210,v1211,v1212,v1213,v1214,v1215,v1216,v1217,v1218,v1219,v1220,v1221,v1222,v1223,v1224,v1225,v1226,v1227,v1228,v1229,v1230,v1231,v1232,v1233,v1234,v1235,v1236,v1237,v1238,v1239,v1240,v1241,v1242,v1243,v1244,v1245,v1246,v1247,v1248,v1249,v1250,v1251,v1252,v1253,v1254,v1255,v1256,v1257,v1258,v1259,v1260,v1261,v1262,v1263,v1264,v1265,v1266,v1267,v1268,v1269,v1270,v1271,v1272,v1273,v1274],H⟩=k118R b1123 H) (b895:Bool) (v896 v897:AV) (x898:Int) (v899 v900 v901 v902 v903 v904 v905 v906 v907 v908 v909 v910 v911 v912 v913 v914 v915 v916 v917 v918 v919 v920 v921 v922 v923 v924 v925 v926 v927 v928 v929 v930 v931 v932 v933 v934 v935 v936 v937 v938:AV) (b939 b940:Bool) (v941 v942 v943 v944 v945 v946 v947 v948 v949 v950 v951 v952 v953 v954 v955 v956 v957 v958 v959 v960 v961 v962 v963 v964 v965 v966 v967 v968 v969 v970 v971 v972 v973 v974 v975 v976:AV) (H:Heap):r3E2 C0 d a0 a1 a2 a3 a4 a5 a6 a7 a8 a9 v0 b37 b38 b39 v40 v41 v42 b43 b44 v45 v46 v47 v53 x54 x55 x56 x57 x58 x59 x60 x61 v64 v68 x69 x70 x71 x72 x73 x74 x75 x76 x79 v89 x90 x91 x92 x93 x94 x95 x96 x97 v101 x102 x103 x104 x105 x106 x107 x108 x109 x110 x111 v112 x116 k118 x123 v220 v221 v222 v223 v224 v225 v226 v227 v228 v229 v230 v231 v232 v233 v234 v235 v236 v237 v238 v239 v240 v241 v242 v243 v244 v245 v246 v247 v248 v249 v250 v251 v252 v253 v254 v255 v256 v257 v258 v259 v260 v261 v262 v263 v264 v265 x270 x271 x272 b273 b274 b275 x276 v277 v283 x287 v288 b292 b295 v296 x300 v301 b305 b308 ⟨[(.agg [(.lst a0),(iz a1),(iz a2),(iz a3),(iz a4),(iz a5),(iz a6),(iz a7),(iz a8)]),(.lst a9),v0,tz,(bz b895),v64,v112,tz,v277,v896,(bz b37),(bz b38),(bz b39),v40,v41,v42,(bz b43),(bz b44),v45,v46,v47,bf,tz,(.agg [v53,(iz x54),(iz x55),(iz x56),(iz x57),(iz x58),(iz x59),(iz x60),(iz x61)]),v64,(.agg [v68,(iz x69),(iz x70),(iz x71),(iz x72),(iz x73),(iz x74),(iz x75),(iz x76)]),(iz x79),bf,tz,tz,v64,bf,(.agg [v89,(iz x90),(iz x91),(iz x92),(iz x93),(iz x94),(iz x95),(iz x96),(iz x97)]),(.agg [v101,(iz x102),(iz x103),(iz x104),(iz x105),(iz x106),(iz x107),(iz x108),(iz x109),(iz x110),(iz x111)]),v112,(.lst a9),(iz x116),(iz x123),bt,v265,(.agg [(iz x270),(iz x271),(iz x272),(bz b273),(bz b274),(bz b275),(iz x276)]),v64,v283,(iz x287),v288,(bz b292),(bz b295),v112,v296,(iz x300),v301,(bz b305),(bz b308),bf,v897,(iz x898),v899,v900,v901,v902,v903,v904,v905,v906,v907,v908,v909,v910,v911,v912,v913,v914,v915,v916,v917,v918,v919,v920,v921,v922,v923,v924,v925,v926,v927,v928,v929,v930,v931,v932,v933,v934,v935,v936,v937,v938,(bz b939),(bz b940),v941,v942,v943,v944,v945,v946,v947,v948,v949,v950,v951,v952,v953,v954,v955,v956,v957,v958,v959,v960,v961,v962,v963,v964,v965,v966,v967,v968,v969,v970,v971,v972,v973,v974,v975,v976,v220,v221,v222,v223,v224,v225,v226,v227,v228,v229,v230,v231,v232,v233,v234,v235,v236,v237,v238,v239,v240,v241,v242,v243,v244,v245,v246,v247,v248,v249,v250,v251,v252,v253,v254,v255,v256,v257,v258,v259,v260,v261,v262,v263,v264],H⟩=E3_2 d v0 v64 v112 x123 v277 k118N k118R b895 H:=by
 try dsimp only at hk118N
 try dsimp only at hk118R
 unfold r3E2; refine Eq.trans (pl_len (by rfl)) ?_; refine yt ySs ?_; refine yt yB ?_; refine yt ySs ?_; refine yt yA ?_; refine yt ySs ?_; refine yt yA ?_; refine yt yI ?_; (iterate 40 (refine yt yA ?_)); (iterate 2 (refine yt yB ?_)); (iterate 36 (refine yt yA ?_)); refine yt ySs ?_
 first | (simp only [hk118N,hk118R] <;> rfl) | rfl
noncomputable def L3_2 (d:Nat) (v0 v64 v112:AV) (x123:Int) (v277:AV) (k118N:Int→Heap→Ans) (k118R:Bool→Heap→Ans):Nat→Heap→Ans
 | 0,_=>none
 | n+1,H =>
 C0.hop H (.fldA 0 (.v v277)) fun v394 h395 =>
  C0.hop h395 (.load false 1 (.v v394)) fun v396 h397 =>
  C0.int .i64 (some v396) fun x398 =>
  cnd (x398 == 1)
  (C0.grow h397 [] fun n399 h400 =>
  C0.hop h400 (.fldA 3 (.v v277)) fun v401 h402 =>
  C0.hop h402 (.load false 1 (.v v401)) fun v403 h404 =>
  C0.bool (some v403) fun b405 =>
  C0.hop h404 (.fldA 4 (.v v277)) fun v406 h407 =>
  C0.hop h407 (.load false 1 (.v v406)) fun v408 h409 =>
  C0.bool (some v408) fun b410 =>
  C0.cal M (pcall M d) 12 true 13 [v64,(.bool b405),(.bool b410)] h409 fun v411 h412 =>
  C0.bool (some v411) fun b413 =>
  C0.hop h412 (.fldA 3 (.v v277)) fun v414 h415 =>
  C0.hop h415 (.load false 1 (.v v414)) fun v416 h417 =>
  C0.bool (some v416) fun b418 =>
  C0.keep h409 h412 [v414] <|
  C0.hop h417 (.fldA 4 (.v v277)) fun v419 h420 =>
  C0.hop h420 (.load false 1 (.v v419)) fun v421 h422 =>
  C0.bool (some v421) fun b423 =>
  C0.keep h409 h412 [v419] <|
  C0.cal M (pcall M d) 12 true 14 [v112,(.bool b418),(.bool b423)] h422 fun v424 h425 =>
  C0.bool (some v424) fun b426 =>
  cnd (xor true (b413 == b426))
  (E3_2 d v0 v64 v112 x123 v277 k118N k118R false h425)
  (X3_2_0 d v0 v64 v112 x123 v277 k118N k118R h425))
  (cnd (x398 == 2)
  (C0.grow h397 [] fun n427 h428 =>
  C0.hop h428 (.fldA 6 (.v v277)) fun v429 h430 =>
  C0.hop h430 (.load false 1 (.v v429)) fun v431 h432 =>
  C0.int .i64 (some v431) fun x433 =>
  C0.hop h432 (.fldA 5 (.v v277)) fun v434 h435 =>
  C0.hop h435 (.load false 1 (.v v434)) fun v436 h437 =>
  C0.bool (some v436) fun b438 =>
  C0.cal M (pcall M d) 12 true 11 [v64,(iz x433),(.bool b438)] h437 fun v439 h440 =>
  C0.bool (some v439) fun b441 =>
  C0.hop h440 (.fldA 4 (.v v277)) fun v442 h443 =>
  C0.hop h443 (.load false 1 (.v v442)) fun v444 h445 =>
  C0.bool (some v444) fun b446 =>
  C0.keep h437 h440 [v442] <|
  C0.cal M (pcall M d) 12 true 13 [v64,(.bool b441),(.bool b446)] h445 fun v447 h448 =>
  C0.bool (some v447) fun b449 =>
  C0.hop h448 (.fldA 6 (.v v277)) fun v450 h451 =>
  C0.hop h451 (.load false 1 (.v v450)) fun v452 h453 =>
  C0.int .i64 (some v452) fun x454 =>
  C0.keep h445 h448 [v450] <|
  C0.keep h437 h440 [v450] <|
  C0.hop h453 (.fldA 5 (.v v277)) fun v455 h456 =>
  C0.hop h456 (.load false 1 (.v v455)) fun v457 h458 =>
  C0.bool (some v457) fun b459 =>
  C0.keep h445 h448 [v455] <|
  C0.keep h437 h440 [v455] <|
  C0.cal M (pcall M d) 12 true 12 [v112,(iz x454),(.bool b459)] h458 fun v460 h461 =>
  C0.bool (some v460) fun b462 =>
  C0.hop h461 (.fldA 4 (.v v277)) fun v463 h464 =>
  C0.hop h464 (.load false 1 (.v v463)) fun v465 h466 =>
  C0.bool (some v465) fun b467 =>
  C0.keep h458 h461 [v463] <|
  C0.keep h445 h448 [v463] <|
  C0.keep h437 h440 [v463] <|
  C0.cal M (pcall M d) 12 true 14 [v112,(.bool b462),(.bool b467)] h466 fun v468 h469 =>
  C0.bool (some v468) fun b470 =>
  cnd (xor true (b449 == b470))
  (E3_2 d v0 v64 v112 x123 v277 k118N k118R false h469)
  (X3_2_0 d v0 v64 v112 x123 v277 k118N k118R h469))
  (L3_3 d v0 v64 v112 v277 (fun b895 H=>E3_2 d v0 v64 v112 x123 v277 k118N k118R b895 H) (fun H=>X3_2_0 d v0 v64 v112 x123 v277 k118N k118R H) 1 h397))
theorem L3_2_s (d:Nat) (v0 v64 v112:AV) (x123:Int) (v277:AV) (k118N:Int→Heap→Ans) (k118R:Bool→Heap→Ans) (n:Nat) (H:Heap):L3_2 d v0 v64 v112 x123 v277 k118N k118R (n+1) H=(C0.hop H (.fldA 0 (.v v277)) fun v394 h395 =>
 C0.hop h395 (.load false 1 (.v v394)) fun v396 h397 =>
 C0.int .i64 (some v396) fun x398 =>
 cnd (x398 == 1)
 (C0.grow h397 [] fun n399 h400 =>
 C0.hop h400 (.fldA 3 (.v v277)) fun v401 h402 =>
 C0.hop h402 (.load false 1 (.v v401)) fun v403 h404 =>
 C0.bool (some v403) fun b405 =>
 C0.hop h404 (.fldA 4 (.v v277)) fun v406 h407 =>
 C0.hop h407 (.load false 1 (.v v406)) fun v408 h409 =>
 C0.bool (some v408) fun b410 =>
 C0.cal M (pcall M d) 12 true 13 [v64,(.bool b405),(.bool b410)] h409 fun v411 h412 =>
 C0.bool (some v411) fun b413 =>
 C0.hop h412 (.fldA 3 (.v v277)) fun v414 h415 =>
 C0.hop h415 (.load false 1 (.v v414)) fun v416 h417 =>
 C0.bool (some v416) fun b418 =>
 C0.keep h409 h412 [v414] <|
 C0.hop h417 (.fldA 4 (.v v277)) fun v419 h420 =>
 C0.hop h420 (.load false 1 (.v v419)) fun v421 h422 =>
 C0.bool (some v421) fun b423 =>
 C0.keep h409 h412 [v419] <|
 C0.cal M (pcall M d) 12 true 14 [v112,(.bool b418),(.bool b423)] h422 fun v424 h425 =>
 C0.bool (some v424) fun b426 =>
 cnd (xor true (b413 == b426))
 (E3_2 d v0 v64 v112 x123 v277 k118N k118R false h425)
 (X3_2_0 d v0 v64 v112 x123 v277 k118N k118R h425))
 (cnd (x398 == 2)
 (C0.grow h397 [] fun n427 h428 =>
 C0.hop h428 (.fldA 6 (.v v277)) fun v429 h430 =>
 C0.hop h430 (.load false 1 (.v v429)) fun v431 h432 =>
 C0.int .i64 (some v431) fun x433 =>
 C0.hop h432 (.fldA 5 (.v v277)) fun v434 h435 =>
 C0.hop h435 (.load false 1 (.v v434)) fun v436 h437 =>
 C0.bool (some v436) fun b438 =>
 C0.cal M (pcall M d) 12 true 11 [v64,(iz x433),(.bool b438)] h437 fun v439 h440 =>
 C0.bool (some v439) fun b441 =>
 C0.hop h440 (.fldA 4 (.v v277)) fun v442 h443 =>
 C0.hop h443 (.load false 1 (.v v442)) fun v444 h445 =>
 C0.bool (some v444) fun b446 =>
 C0.keep h437 h440 [v442] <|
 C0.cal M (pcall M d) 12 true 13 [v64,(.bool b441),(.bool b446)] h445 fun v447 h448 =>
 C0.bool (some v447) fun b449 =>
 C0.hop h448 (.fldA 6 (.v v277)) fun v450 h451 =>
 C0.hop h451 (.load false 1 (.v v450)) fun v452 h453 =>
 C0.int .i64 (some v452) fun x454 =>
 C0.keep h445 h448 [v450] <|
 C0.keep h437 h440 [v450] <|
 C0.hop h453 (.fldA 5 (.v v277)) fun v455 h456 =>
 C0.hop h456 (.load false 1 (.v v455)) fun v457 h458 =>
 C0.bool (some v457) fun b459 =>
 C0.keep h445 h448 [v455] <|
 C0.keep h437 h440 [v455] <|
 C0.cal M (pcall M d) 12 true 12 [v112,(iz x454),(.bool b459)] h458 fun v460 h461 =>
 C0.bool (some v460) fun b462 =>
 C0.hop h461 (.fldA 4 (.v v277)) fun v463 h464 =>
 C0.hop h464 (.load false 1 (.v v463)) fun v465 h466 =>
 C0.bool (some v465) fun b467 =>
 C0.keep h458 h461 [v463] <|
 C0.keep h445 h448 [v463] <|
 C0.keep h437 h440 [v463] <|
 C0.cal M (pcall M d) 12 true 14 [v112,(.bool b462),(.bool b467)] h466 fun v468 h469 =>
 C0.bool (some v468) fun b470 =>
 cnd (xor true (b449 == b470))
 (E3_2 d v0 v64 v112 x123 v277 k118N k118R false h469)
 (X3_2_0 d v0 v64 v112 x123 v277 k118N k118R h469))
 (L3_3 d v0 v64 v112 v277 (fun b895 H=>E3_2 d v0 v64 v112 x123 v277 k118N k118R b895 H) (fun H=>X3_2_0 d v0 v64 v112 x123 v277 k118N k118R H) 1 h397))):=by kernel_rfl
theorem it3_2 (d:Nat) (a0:List AV) (a1 a2 a3 a4 a5 a6 a7 a8:Int) (a9:List AV) (v0:AV) (b37 b38 b39:Bool) (v40 v41 v42:AV) (b43 b44:Bool) (v45 v46 v47 v53:AV) (x54 x55 x56 x57 x58 x59 x60 x61:Int) (v64 v68:AV) (x69 x70 x71 x72 x73 x74 x75 x76 x79:Int) (v89:AV) (x90 x91 x92 x93 x94 x95 x96 x97:Int) (v101:AV) (x102 x103 x104 x105 x106 x107 x108 x109 x110 x111:Int) (v112:AV) (x116:Int) (k118:Ex→St→Ans) (x123:Int) (v220 v221 v222 v223 v224 v225 v226 v227 v228 v229 v230 v231 v232 v233 v234 v235 v236 v237 v238 v239 v240 v241 v242 v243 v244 v245 v246 v247 v248 v249 v250 v251 v252 v253 v254 v255 v256 v257 v258 v259 v260 v261 v262 v263 v264 v265:AV) (x270 x271 x272:Int) (b273 b274 b275:Bool) (x276:Int) (v277 v283:AV) (x287:Int) (v288:AV) (b292 b295:Bool) (v296:AV) (x300:Int) (v301:AV) (b305 b308:Bool) (k118N:Int→Heap→Ans) (k118R:Bool→Heap→Ans) (hk118N:∀ (b120:Bool) (v121 v122:AV) (x123:Int) (v124 v125 v126 v127 v128 v129 v130 v131 v132 v133 v134 v135 v136 v137 v138 v139 v140 v141 v142 v143 v144 v145 v146 v147 v148 v149 v150 v151 v152 v153 v154 v155 v156 v157 v158 v159 v160 v161 v162 v163 v164 v165 v166 v167 v168 v169 v170 v171 v172 v173 v174 v175 v176 v177 v178 v179 v180 v181 v182 v183 v184 v185 v186 v187 v188 v189 v190 v191 v192 v193 v194 v195 v196 v197 v198 v199 v200 v201 v202 v203 v204 v205 v206 v207 v208 v209 v210 v211 v212 v213 v214 v215 v216 v217 v218 v219 v220 v221 v222 v223 v224 v225 v226 v227 v228 v229 v230 v231 v232 v233 v234 v235 v236 v237 v238 v239 v240 v241 v242 v243 v244 v245 v246 v247 v248 v249 v250 v251 v252 v253 v254 v255 v256 v257 v258 v259 v260 v261 v262 v263 v264:AV) (H:Heap),k118 .normal ⟨[(.agg [(.lst a0),(iz a1),(iz a2),(iz a3),(iz a4),(iz a5),(iz a6),(iz a7),(iz a8)]),(.lst a9),v0,tz,(bz b120),v64,v112,tz,v121,v122,(bz b37),(bz b38),(bz b39),v40,v41,v42,(bz b43),(bz b44),v45,v46,v47,bf,tz,(.agg [v53,(iz x54),(iz x55),(iz x56),(iz x57),(iz x58),(iz x59),(iz x60),(iz x61)]),v64,(.agg [v68,(iz x69),(iz x70),(iz x71),(iz x72),(iz x73),(iz x74),(iz x75),(iz x76)]),(iz x79),bf,tz,tz,v64,bf,(.agg [v89,(iz x90),(iz x91),(iz x92),(iz x93),(iz x94),(iz x95),(iz x96),(iz x97)]),(.agg [v101,(iz x102),(iz x103),(iz x104),(iz x105),(iz x106),(iz x107),(iz x108),(iz x109),(iz x110),(iz x111)]),v112,(.lst a9),(iz x116),(iz x123),v124,v125,v126,v127,v128,v129,v130,v131,v132,v133,v134,v135,v136,v137,v138,v139,v140,v141,v142,v143,v144,v145,v146,v147,v148,v149,v150,v151,v152,v153,v154,v155,v156,v157,v158,v159,v160,v161,v162,v163,v164,v165,v166,v167,v168,v169,v170,v171,v172,v173,v174,v175,v176,v177,v178,v179,v180,v181,v182,v183,v184,v185,v186,v187,v188,v189,v190,v191,v192,v193,v194,v195,v196,v197,v198,v199,v200,v201,v202,v203,v204,v205,v206,v207,v208,v209,v210,v211,v212,v213,v214,v215,v216,v217,v218,v219,v220,v221,v222,v223,v224,v225,v226,v227,v228,v229,v230,v231,v232,v233,v234,v235,v236,v237,v238,v239,v240,v241,v242,v243,v244,v245,v246,v247,v248,v249,v250,v251,v252,v253,v254,v255,v256,v257,v258,v259,v260,v261,v262,v263,v264],H⟩=k118N x123 H) (hk118R:∀ (b1123:Bool) (v1124 v1125:AV) (x1126:Int) (v1127 v1128:AV) (x1130 x1131 x1132:Int) (b1133 b1134 b1135:Bool) (x1136:Int) (v1137 v1138:AV) (x1139:Int) (v1140:AV) (b1141 b1142:Bool) (v1143 v1144:AV) (x1145:Int) (v1146:AV) (b1147 b1148 b1149:Bool) (v1150 v1151 v1152 v1153 v1154 v1155 v1156 v1157 v1158 v1159 v1160 v1161 v1162 v1163 v1164 v1165 v1166 v1167 v1168 v1169 v1170 v1171 v1172 v1173 v1174 v1175 v1176 v1177 v1178 v1179 v1180 v1181 v1182 v1183 v1184 v1185 v1186 v1187 v1188 v1189 v1190 v1191 v1192 v1193 v1194 v1195 v1196 v1197 v1198 v1199 v1200 v1201 v1202 v1203 v1204 v1205 v1206 v1207 v1208 v1209 v1210 v1211 v1212 v1213 v1214 v1215 v1216 v1217 v1218 v1219 v1220 v1221 v1222 v1223 v1224 v1225 v1226 v1227 v1228 v1229 v1230 v1231 v1232 v1233 v1234 v1235 v1236 v1237 v1238 v1239 v1240 v1241 v1242 v1243 v1244 v1245 v1246 v1247 v1248 v1249 v1250 v1251 v1252 v1253 v1254 v1255 v1256 v1257 v1258 v1259 v1260 v1261 v1262 v1263 v1264 v1265 v1266 v1267 v1268 v1269 v1270 v1271 v1272 v1273 v1274:AV) (H:Heap),k118 .ret ⟨[(.agg [(.lst a0),(iz a1),(iz a2),(iz a3),(iz a4),(iz a5),(iz a6),(iz a7),(iz a8)]),(.lst a9),v0,tz,(bz b1123),v64,v112,tz,v1124,v1125,(bz b37),(bz b38),(bz b39),v40,v41,v42,(bz b43),(bz b44),v45,v46,v47,bf,tz,(.agg [v53,(iz x54),(iz x55),(iz x56),(iz x57),(iz x58),(iz x59),(iz x60),(iz x61)]),v64,(.agg [v68,(iz x69),(iz x70),(iz x71),(iz x72),(iz x73),(iz x74),(iz x75),(iz x76)]),(iz x79),bf,tz,tz,v64,bf,(.agg [v89,(iz x90),(iz x91),(iz x92),(iz x93),(iz x94),(iz x95),(iz x96),(iz x97)]),(.agg [v101,(iz x102),(iz x103),(iz x104),(iz x105),(iz x106),(iz x107),(iz x108),(iz x109),(iz x110),(iz x111)]),v112,(.lst a9),(iz x116),(iz x1126),v1127,v1128,(.agg [(iz x1130),(iz x1131),(iz x1132),(bz b1133),(bz b1134),(bz b1135),(iz x1136)]),v1137,v1138,(iz x1139),v1140,(bz b1141),(bz b1142),v1143,v1144,(iz x1145),v1146,(bz b1147),(bz b1148),(bz b1149),v1150,v1151,v1152,v1153,v1154,v1155,v1156,v1157,v1158,v1159,v1160,v1161,v1162,v1163,v1164,v1165,v1166,v1167,v1168,v1169,v1170,v1171,v1172,v1173,v1174,v1175,v1176,v1177,v1178,v1179,v1180,v1181,v1182,v1183,v1184,v1185,v1186,v1187,v1188,v1189,v1190,v1191,v1192,v1193,v1194,v1195,v1196,v1197,v1198,v1199,v1200,v1201,v1202,v1203,v1204,v1205,v1206,v1207,v1208,v1209,v1210,v1211,v1212,v1213,v1214,v1215,v1216,v1217,v1218,v1219,v1220,v1221,v1222,v1223,v1224,v1225,v1226,v1227,v1228,v1229,v1230,v1231,v1232,v1233,v1234,v1235,v1236,v1237,v1238,v1239,v1240,v1241,v1242,v1243,v1244,v1245,v1246,v1247,v1248,v1249,v1250,v1251,v1252,v1253,v1254,v1255,v1256,v1257,v1258,v1259,v1260,v1261,v1262,v1263,v1264,v1265,v1266,v1267,v1268,v1269,v1270,v1271,v1272,v1273,v1274],H⟩=k118R b1123 H):∀ (n:Nat) (b312:Bool) (v313 v314 v315 v316 v317 v318 v319 v320 v321 v322 v323 v324 v325 v326 v327 v328 v329 v330 v331 v332 v333 v334 v335 v336 v337 v338 v339 v340 v341 v342 v343 v344 v345 v346 v347 v348 v349 v350 v351 v352 v353 v354 v355 v356 v357 v358 v359 v360 v361 v362 v363 v364 v365 v366 v367 v368 v369 v370 v371 v372 v373 v374 v375 v376 v377 v378 v379 v380 v381 v382 v383 v384 v385 v386 v387 v388 v389 v390 v391 v392 v393:AV) (H:Heap),C0.iter (r3R2 C0 d a0 a1 a2 a3 a4 a5 a6 a7 a8 a9 v0 b37 b38 b39 v40 v41 v42 b43 b44 v45 v46 v47 v53 x54 x55 x56 x57 x58 x59 x60 x61 v64 v68 x69 x70 x71 x72 x73 x74 x75 x76 x79 v89 x90 x91 x92 x93 x94 x95 x96 x97 v101 x102 x103 x104 x105 x106 x107 x108 x109 x110 x111 v112 x116 k118 x123 v220 v221 v222 v223 v224 v225 v226 v227 v228 v229 v230 v231 v232 v233 v234 v235 v236 v237 v238 v239 v240 v241 v242 v243 v244 v245 v246 v247 v248 v249 v250 v251 v252 v253 v254 v255 v256 v257 v258 v259 v260 v261 v262 v263 v264 v265 x270 x271 x272 b273 b274 b275 x276 v277 v283 x287 v288 b292 b295 v296 x300 v301 b305 b308) n ⟨[(.agg [(.lst a0),(iz a1),(iz a2),(iz a3),(iz a4),(iz a5),(iz a6),(iz a7),(iz a8)]),(.lst a9),v0,tz,(bz b312),v64,v112,tz,v277,v313,(bz b37),(bz b38),(bz b39),v40,v41,v42,(bz b43),(bz b44),v45,v46,v47,bf,tz,(.agg [v53,(iz x54),(iz x55),(iz x56),(iz x57),(iz x58),(iz x59),(iz x60),(iz x61)]),v64,(.agg [v68,(iz x69),(iz x70),(iz x71),(iz x72),(iz x73),(iz x74),(iz x75),(iz x76)]),(iz x79),bf,tz,tz,v64,bf,(.agg [v89,(iz x90),(iz x91),(iz x92),(iz x93),(iz x94),(iz x95),(iz x96),(iz x97)]),(.agg [v101,(iz x102),(iz x103),(iz x104),(iz x105),(iz x106),(iz x107),(iz x108),(iz x109),(iz x110),(iz x111)]),v112,(.lst a9),(iz x116),(iz x123),bt,v265,(.agg [(iz x270),(iz x271),(iz x272),(bz b273),(bz b274),(bz b275),(iz x276)]),v64,v283,(iz x287),v288,(bz b292),(bz b295),v112,v296,(iz x300),v301,(bz b305),(bz b308),bf,v314,v315,v316,v317,v318,v319,v320,v321,v322,v323,v324,v325,v326,v327,v328,v329,v330,v331,v332,v333,v334,v335,v336,v337,v338,v339,v340,v341,v342,v343,v344,v345,v346,v347,v348,v349,v350,v351,v352,v353,v354,v355,v356,v357,v358,v359,v360,v361,v362,v363,v364,v365,v366,v367,v368,v369,v370,v371,v372,v373,v374,v375,v376,v377,v378,v379,v380,v381,v382,v383,v384,v385,v386,v387,v388,v389,v390,v391,v392,v393,v220,v221,v222,v223,v224,v225,v226,v227,v228,v229,v230,v231,v232,v233,v234,v235,v236,v237,v238,v239,v240,v241,v242,v243,v244,v245,v246,v247,v248,v249,v250,v251,v252,v253,v254,v255,v256,v257,v258,v259,v260,v261,v262,v263,v264],H⟩ [2000000] [r3X2_0 C0 d a0 a1 a2 a3 a4 a5 a6 a7 a8 a9 v0 b37 b38 b39 v40 v41 v42 b43 b44 v45 v46 v47 v53 x54 x55 x56 x57 x58 x59 x60 x61 v64 v68 x69 x70 x71 x72 x73 x74 x75 x76 x79 v89 x90 x91 x92 x93 x94 x95 x96 x97 v101 x102 x103 x104 x105 x106 x107 x108 x109 x110 x111 v112 x116 k118 x123 v220 v221 v222 v223 v224 v225 v226 v227 v228 v229 v230 v231 v232 v233 v234 v235 v236 v237 v238 v239 v240 v241 v242 v243 v244 v245 v246 v247 v248 v249 v250 v251 v252 v253 v254 v255 v256 v257 v258 v259 v260 v261 v262 v263 v264 v265 x270 x271 x272 b273 b274 b275 x276 v277 v283 x287 v288 b292 b295 v296 x300 v301 b305 b308] (r3E2 C0 d a0 a1 a2 a3 a4 a5 a6 a7 a8 a9 v0 b37 b38 b39 v40 v41 v42 b43 b44 v45 v46 v47 v53 x54 x55 x56 x57 x58 x59 x60 x61 v64 v68 x69 x70 x71 x72 x73 x74 x75 x76 x79 v89 x90 x91 x92 x93 x94 x95 x96 x97 v101 x102 x103 x104 x105 x106 x107 x108 x109 x110 x111 v112 x116 k118 x123 v220 v221 v222 v223 v224 v225 v226 v227 v228 v229 v230 v231 v232 v233 v234 v235 v236 v237 v238 v239 v240 v241 v242 v243 v244 v245 v246 v247 v248 v249 v250 v251 v252 v253 v254 v255 v256 v257 v258 v259 v260 v261 v262 v263 v264 v265 x270 x271 x272 b273 b274 b275 x276 v277 v283 x287 v288 b292 b295 v296 x300 v301 b305 b308)=L3_2 d v0 v64 v112 x123 v277 k118N k118R n H:=by
 generalize hR:r3R2 C0 d a0 a1 a2 a3 a4 a5 a6 a7 a8 a9 v0 b37 b38 b39 v40 v41 v42 b43 b44 v45 v46 v47 v53 x54 x55 x56 x57 x58 x59 x60 x61 v64 v68 x69 x70 x71 x72 x73 x74 x75 x76 x79 v89 x90 x91 x92 x93 x94 x95 x96 x97 v101 x102 x103 x104 x105 x106 x107 x108 x109 x110 x111 v112 x116 k118 x123 v220 v221 v222 v223 v224 v225 v226 v227 v228 v229 v230 v231 v232 v233 v234 v235 v236 v237 v238 v239 v240 v241 v242 v243 v244 v245 v246 v247 v248 v249 v250 v251 v252 v253 v254 v255 v256 v257 v258 v259 v260 v261 v262 v263 v264 v265 x270 x271 x272 b273 b274 b275 x276 v277 v283 x287 v288 b292 b295 v296 x300 v301 b305 b308=R
 intro n
 induction n with
 | zero=>intros; rfl
 | succ n ih =>
   intro b312 v313 v314 v315 v316 v317 v318 v319 v320 v321 v322 v323 v324 v325 v326 v327 v328 v329 v330 v331 v332 v333 v334 v335 v336 v337 v338 v339 v340 v341 v342 v343 v344 v345 v346 v347 v348 v349 v350 v351 v352 v353 v354 v355 v356 v357 v358 v359 v360 v361 v362 v363 v364 v365 v366 v367 v368 v369 v370 v371 v372 v373 v374 v375 v376 v377 v378 v379 v380 v381 v382 v383 v384 v385 v386 v387 v388 v389 v390 v391 v392 v393 H
   simp only [it_ret] at ih
   rw [it_ret,xiter_s]
   refine Eq.trans (congrFun (congrFun hR.symm _) _) ?_
   unfold r3R2
   refine Eq.trans (pl_len (by rfl)) ?_; refine yt ySs ?_; refine yt yB ?_; refine yt ySs ?_; refine yt yA ?_; refine yt ySs ?_; refine yt yAs ?_; (iterate 40 (refine yt yA ?_)); refine yt yAs ?_; (iterate 36 (refine yt yA ?_)); refine yt ySs ?_
   have I0:=fun (v394:AV) (x398:Int)=>it3_3 d a0 a1 a2 a3 a4 a5 a6 a7 a8 a9 v0 b37 b38 b39 v40 v41 v42 b43 b44 v45 v46 v47 v53 x54 x55 x56 x57 x58 x59 x60 x61 v64 v68 x69 x70 x71 x72 x73 x74 x75 x76 x79 v89 x90 x91 x92 x93 x94 x95 x96 x97 v101 x102 x103 x104 x105 x106 x107 x108 x109 x110 x111 v112 x116 x123 v220 v221 v222 v223 v224 v225 v226 v227 v228 v229 v230 v231 v232 v233 v234 v235 v236 v237 v238 v239 v240 v241 v242 v243 v244 v245 v246 v247 v248 v249 v250 v251 v252 v253 v254 v255 v256 v257 v258 v259 v260 v261 v262 v263 v264 v265 x270 x271 x272 b273 b274 b275 x276 v277 v283 x287 v288 b292 b295 v296 x300 v301 b305 b308 (kIter R n (kOut [2000000] [r3X2_0 C0 d a0 a1 a2 a3 a4 a5 a6 a7 a8 a9 v0 b37 b38 b39 v40 v41 v42 b43 b44 v45 v46 v47 v53 x54 x55 x56 x57 x58 x59 x60 x61 v64 v68 x69 x70 x71 x72 x73 x74 x75 x76 x79 v89 x90 x91 x92 x93 x94 x95 x96 x97 v101 x102 x103 x104 x105 x106 x107 x108 x109 x110 x111 v112 x116 k118 x123 v220 v221 v222 v223 v224 v225 v226 v227 v228 v229 v230 v231 v232 v233 v234 v235 v236 v237 v238 v239 v240 v241 v242 v243 v244 v245 v246 v247 v248 v249 v250 v251 v252 v253 v254 v255 v256 v257 v258 v259 v260 v261 v262 v263 v264 v265 x270 x271 x272 b273 b274 b275 x276 v277 v283 x287 v288 b292 b295 v296 x300 v301 b305 b308] (r3E2 C0 d a0 a1 a2 a3 a4 a5 a6 a7 a8 a9 v0 b37 b38 b39 v40 v41 v42 b43 b44 v45 v46 v47 v53 x54 x55 x56 x57 x58 x59 x60 x61 v64 v68 x69 x70 x71 x72 x73 x74 x75 x76 x79 v89 x90 x91 x92 x93 x94 x95 x96 x97 v101 x102 x103 x104 x105 x106 x107 x108 x109 x110 x111 v112 x116 k118 x123 v220 v221 v222 v223 v224 v225 v226 v227 v228 v229 v230 v231 v232 v233 v234 v235 v236 v237 v238 v239 v240 v241 v242 v243 v244 v245 v246 v247 v248 v249 v250 v251 v252 v253 v254 v255 v256 v257 v258 v259 v260 v261 v262 v263 v264 v265 x270 x271 x272 b273 b274 b275 x276 v277 v283 x287 v288 b292 b295 v296 x300 v301 b305 b308))) b312 v337 v338 v339 v340 v341 v342 v343 v344 v345 v346 v347 v348 v349 v350 v351 v352 v353 v354 v355 v358 v359 v360 v361 v362 v363 v364 v365 v366 v367 v368 v369 v370 v373 v374 v375 v376 v377 v378 v379 v380 v381 v382 v383 v384 v385 v386 v387 v388 v389 v390 v391 v392 v393 v394 x398 (fun b895 H=>E3_2 d v0 v64 v112 x123 v277 k118N k118R b895 H) (fun H=>X3_2_0 d v0 v64 v112 x123 v277 k118N k118R H) (fun b895 v896 v897 x898 v899 v900 v901 v902 v903 v904 v905 v906 v907 v908 v909 v910 v911 v912 v913 v914 v915 v916 v917 v918 v919 v920 v921 v922 v923 v924 v925 v926 v927 v928 v929 v930 v931 v932 v933 v934 v935 v936 v937 v938 b939 b940 v941 v942 v943 v944 v945 v946 v947 v948 v949 v950 v951 v952 v953 v954 v955 v956 v957 v958 v959 v960 v961 v962 v963 v964 v965 v966 v967 v968 v969 v970 v971 v972 v973 v974 v975 v976 H=>E3_2_ok d a0 a1 a2 a3 a4 a5 a6 a7 a8 a9 v0 b37 b38 b39 v40 v41 v42 b43 b44 v45 v46 v47 v53 x54 x55 x56 x57 x58 x59 x60 x61 v64 v68 x69 x70 x71 x72 x73 x74 x75 x76 x79 v89 x90 x91 x92 x93 x94 x95 x96 x97 v101 x102 x103 x104 x105 x106 x107 x108 x109 x110 x111 v112 x116 k118 x123 v220 v221 v222 v223 v224 v225 v226 v227 v228 v229 v230 v231 v232 v233 v234 v235 v236 v237 v238 v239 v240 v241 v242 v243 v244 v245 v246 v247 v248 v249 v250 v251 v252 v253 v254 v255 v256 v257 v258 v259 v260 v261 v262 v263 v264 v265 x270 x271 x272 b273 b274 b275 x276 v277 v283 x287 v288 b292 b295 v296 x300 v301 b305 b308 k118N k118R hk118N hk118R b895 v896 v897 x898 v899 v900 v901 v902 v903 v904 v905 v906 v907 v908 v909 v910 v911 v912 v913 v914 v915 v916 v917 v918 v919 v920 v921 v922 v923 v924 v925 v926 v927 v928 v929 v930 v931 v932 v933 v934 v935 v936 v937 v938 b939 b940 v941 v942 v943 v944 v945 v946 v947 v948 v949 v950 v951 v952 v953 v954 v955 v956 v957 v958 v959 v960 v961 v962 v963 v964 v965 v966 v967 v968 v969 v970 v971 v972 v973 v974 v975 v976 H) (fun b606 v607 v608 x609 v610 v611 v612 v613 v614 v615 v616 v617 v618 v619 v620 v621 v622 v623 v624 v625 v626 v627 v628 v629 v630 v631 v632 v633 v634 v635 v636 v637 v638 v639 v640 v641 v642 v643 v644 v645 v646 v647 v648 v649 b650 b651 v652 v653 v654 v655 v656 v657 v658 v659 v660 v661 v662 v663 v664 v665 v666 v667 v668 v669 v670 v671 v672 v673 v674 v675 v676 v677 v678 v679 v680 v681 v682 v683 v684 v685 v686 v687 H=>(by simp only [kIter_x,kOut_x,xgo_hit,xgo_miss]; exact X3_2_0_ok d a0 a1 a2 a3 a4 a5 a6 a7 a8 a9 v0 b37 b38 b39 v40 v41 v42 b43 b44 v45 v46 v47 v53 x54 x55 x56 x57 x58 x59 x60 x61 v64 v68 x69 x70 x71 x72 x73 x74 x75 x76 x79 v89 x90 x91 x92 x93 x94 x95 x96 x97 v101 x102 x103 x104 x105 x106 x107 x108 x109 x110 x111 v112 x116 k118 x123 v220 v221 v222 v223 v224 v225 v226 v227 v228 v229 v230 v231 v232 v233 v234 v235 v236 v237 v238 v239 v240 v241 v242 v243 v244 v245 v246 v247 v248 v249 v250 v251 v252 v253 v254 v255 v256 v257 v258 v259 v260 v261 v262 v263 v264 v265 x270 x271 x272 b273 b274 b275 x276 v277 v283 x287 v288 b292 b295 v296 x300 v301 b305 b308 k118N k118R hk118N hk118R b606 v607 v608 x609 v610 v611 v612 v613 v614 v615 v616 v617 v618 v619 v620 v621 v622 v623 v624 v625 v626 v627 v628 v629 v630 v631 v632 v633 v634 v635 v636 v637 v638 v639 v640 v641 v642 v643 v644 v645 v646 v647 v648 v649 b650 b651 v652 v653 v654 v655 v656 v657 v658 v659 v660 v661 v662 v663 v664 v665 v666 v667 v668 v669 v670 v671 v672 v673 v674 v675 v676 v677 v678 v679 v680 v681 v682 v683 v684 v685 v686 v687 H))
   try dsimp only at I0
   simp only [kIter_n,kIter_x,kIter_r,kOut_x,kOut_r,xgo_hit,xgo_miss,ih,I0,X3_2_0_ok d a0 a1 a2 a3 a4 a5 a6 a7 a8 a9 v0 b37 b38 b39 v40 v41 v42 b43 b44 v45 v46 v47 v53 x54 x55 x56 x57 x58 x59 x60 x61 v64 v68 x69 x70 x71 x72 x73 x74 x75 x76 x79 v89 x90 x91 x92 x93 x94 x95 x96 x97 v101 x102 x103 x104 x105 x106 x107 x108 x109 x110 x111 v112 x116 k118 x123 v220 v221 v222 v223 v224 v225 v226 v227 v228 v229 v230 v231 v232 v233 v234 v235 v236 v237 v238 v239 v240 v241 v242 v243 v244 v245 v246 v247 v248 v249 v250 v251 v252 v253 v254 v255 v256 v257 v258 v259 v260 v261 v262 v263 v264 v265 x270 x271 x272 b273 b274 b275 x276 v277 v283 x287 v288 b292 b295 v296 x300 v301 b305 b308 k118N k118R hk118N hk118R,E3_2_ok d a0 a1 a2 a3 a4 a5 a6 a7 a8 a9 v0 b37 b38 b39 v40 v41 v42 b43 b44 v45 v46 v47 v53 x54 x55 x56 x57 x58 x59 x60 x61 v64 v68 x69 x70 x71 x72 x73 x74 x75 x76 x79 v89 x90 x91 x92 x93 x94 x95 x96 x97 v101 x102 x103 x104 x105 x106 x107 x108 x109 x110 x111 v112 x116 k118 x123 v220 v221 v222 v223 v224 v225 v226 v227 v228 v229 v230 v231 v232 v233 v234 v235 v236 v237 v238 v239 v240 v241 v242 v243 v244 v245 v246 v247 v248 v249 v250 v251 v252 v253 v254 v255 v256 v257 v258 v259 v260 v261 v262 v263 v264 v265 x270 x271 x272 b273 b274 b275 x276 v277 v283 x287 v288 b292 b295 v296 x300 v301 b305 b308 k118N k118R hk118N hk118R]
   exact (L3_2_s d v0 v64 v112 x123 v277 k118N k118R n H).symm
noncomputable def X3_1_0 (d:Nat) (a9:List AV) (v0 v64 v112:AV) (x116:Int) (H:Heap):Ans :=
 C0.fin H bt
theorem X3_1_0_ok (d:Nat) (a0:List AV) (a1 a2 a3 a4 a5 a6 a7 a8:Int) (a9:List AV) (v0:AV) (b37 b38 b39:Bool) (v40 v41 v42:AV) (b43 b44:Bool) (v45 v46 v47 v53:AV) (x54 x55 x56 x57 x58 x59 x60 x61:Int) (v64 v68:AV) (x69 x70 x71 x72 x73 x74 x75 x76 x79:Int) (v89:AV) (x90 x91 x92 x93 x94 x95 x96 x97:Int) (v101:AV) (x102 x103 x104 x105 x106 x107 x108 x109 x110 x111:Int) (v112:AV) (x116:Int) (b978:Bool) (v979 v980:AV) (x981:Int) (v982 v983 v984 v985 v986 v987 v988 v989 v990 v991 v992 v993 v994 v995 v996 v997 v998 v999 v1000 v1001 v1002 v1003 v1004 v1005 v1006 v1007 v1008 v1009 v1010 v1011 v1012 v1013 v1014 v1015 v1016 v1017 v1018 v1019 v1020 v1021 v1022 v1023 v1024 v1025 v1026 v1027 v1028 v1029 v1030 v1031 v1032 v1033 v1034 v1035 v1036 v1037 v1038 v1039 v1040 v1041 v1042 v1043 v1044 v1045 v1046 v1047 v1048 v1049 v1050 v1051 v1052 v1053 v1054 v1055 v1056 v1057 v1058 v1059 v1060 v1061 v1062 v1063 v1064 v1065 v1066 v1067 v1068 v1069 v1070 v1071 v1072 v1073 v1074 v1075 v1076 v1077 v1078 v1079 v1080 v1081 v1082 v1083 v1084 v1085 v1086 v1087 v1088 v1089 v1090 v1091 v1092 v1093 v1094 v1095 v1096 v1097 v1098 v1099 v1100 v1101 v1102 v1103 v1104 v1105 v1106 v1107 v1108 v1109 v1110 v1111 v1112 v1113 v1114 v1115 v1116 v1117 v1118 v1119 v1120 v1121 v1122:AV) (H:Heap):r3X1_0 C0 d a0 a1 a2 a3 a4 a5 a6 a7 a8 a9 v0 b37 b38 b39 v40 v41 v42 b43 b44 v45 v46 v47 v53 x54 x55 x56 x57 x58 x59 x60 x61 v64 v68 x69 x70 x71 x72 x73 x74 x75 x76 x79 v89 x90 x91 x92 x93 x94 x95 x96 x97 v101 x102 x103 x104 x105 x106 x107 x108 x109 x110 x111 v112 x116 ⟨[(.agg [(.lst a0),(iz a1),(iz a2),(iz a3),(iz a4),(iz a5),(iz a6),(iz a7),(iz a8)]),(.lst a9),v0,tz,(bz b978),v64,v112,tz,v979,v980,(bz b37),(bz b38),(bz b39),v40,v41,v42,(bz b43),(bz b44),v45,v46,v47,bf,tz,(.agg [v53,(iz x54),(iz x55),(iz x56),(iz x57),(iz x58),(iz x59),(iz x60),(iz x61)]),v64,(.agg [v68,(iz x69),(iz x70),(iz x71),(iz x72),(iz x73),(iz x74),(iz x75),(iz x76)]),(iz x79),bf,tz,tz,v64,bf,(.agg [v89,(iz x90),(iz x91),(iz x92),(iz x93),(iz x94),(iz x95),(iz x96),(iz x97)]),(.agg [v101,(iz x102),(iz x103),(iz x104),(iz x105),(iz x106),(iz x107),(iz x108),(iz x109),(iz x110),(iz x111)]),v112,(.lst a9),(iz x116),(iz x981),v982,v983,v984,v985,v986,v987,v988,v989,v990,v991,v992,v993,v994,v995,v996,v997,v998,v999,v1000,v1001,v1002,v1003,v1004,v1005,v1006,v1007,v1008,v1009,v1010,v1011,v1012,v1013,v1014,v1015,v1016,v1017,v1018,v1019,v1020,v1021,v1022,v1023,v1024,v1025,v1026,v1027,v1028,v1029,v1030,v1031,v1032,v1033,v1034,v1035,v1036,v1037,v1038,v1039,v1040,v1041,v1042,v1043,v1044,v1045,v1046,v1047,v1048,v1049,v1050,v1051,v1052,v1053,v1054,v1055,v1056,v1057,v1058,v1059,v1060,v1061,v1062,v1063,v1064,v1065,v1066,v1067,v1068,v1069,v1070,v1071,v1072,v1073,v1074,v1075,v1076,v1077,v1078,v1079,v1080,v1081,v1082,v1083,v1084,v1085,v1086,v1087,v1088,v1089,v1090,v1091,v1092,v1093,v1094,v1095,v1096,v1097,v1098,v1099,v1100,v1101,v1102,v1103,v1104,v1105,v1106,v1107,v1108,v1109,v1110,v1111,v1112,v1113,v1114,v1115,v1116,v1117,v1118,v1119,v1120,v1121,v1122],H⟩=X3_1_0 d a9 v0 v64 v112 x116 H:=by
 unfold r3X1_0; refine Eq.trans (pl_len (by rfl)) ?_; refine yt ySs ?_; refine yt yB ?_; refine yt ySs ?_; refine yt yAs ?_; refine yt ySs ?_; refine yt yI ?_; refine yt yAs ?_
 rfl
noncomputable def E3_1 (d:Nat) (a9:List AV) (v0 v64 v112:AV) (x116:Int) (b1123:Bool) (H:Heap):Ans :=
 C0.fin H (.bool b1123)
theorem E3_1_ok (d:Nat) (a0:List AV) (a1 a2 a3 a4 a5 a6 a7 a8:Int) (a9:List AV) (v0:AV) (b37 b38 b39:Bool) (v40 v41 v42:AV) (b43 b44:Bool) (v45 v46 v47 v53:AV) (x54 x55 x56 x57 x58 x59 x60 x61:Int) (v64 v68:AV) (x69 x70 x71 x72 x73 x74 x75 x76 x79:Int) (v89:AV) (x90 x91 x92 x93 x94 x95 x96 x97:Int) (v101:AV) (x102 x103 x104 x105 x106 x107 x108 x109 x110 x111:Int) (v112:AV) (x116:Int) (b1123:Bool) (v1124 v1125:AV) (x1126:Int) (v1127 v1128:AV) (x1130 x1131 x1132:Int) (b1133 b1134 b1135:Bool) (x1136:Int) (v1137 v1138:AV) (x1139:Int) (v1140:AV) (b1141 b1142:Bool) (v1143 v1144:AV) (x1145:Int) (v1146:AV) (b1147 b1148 b1149:Bool) (v1150 v1151 v1152 v1153 v1154 v1155 v1156 v1157 v1158 v1159 v1160 v1161 v1162 v1163 v1164 v1165 v1166 v1167 v1168 v1169 v1170 v1171 v1172 v1173 v1174 v1175 v1176 v1177 v1178 v1179 v1180 v1181 v1182 v1183 v1184 v1185 v1186 v1187 v1188 v1189 v1190 v1191 v1192 v1193 v1194 v1195 v1196 v1197 v1198 v1199 v1200 v1201 v1202 v1203 v1204 v1205 v1206 v1207 v1208 v1209 v1210 v1211 v1212 v1213 v1214 v1215 v1216 v1217 v1218 v1219 v1220 v1221 v1222 v1223 v1224 v1225 v1226 v1227 v1228 v1229 v1230 v1231 v1232 v1233 v1234 v1235 v1236 v1237 v1238 v1239 v1240 v1241 v1242 v1243 v1244 v1245 v1246 v1247 v1248 v1249 v1250 v1251 v1252 v1253 v1254 v1255 v1256 v1257 v1258 v1259 v1260 v1261 v1262 v1263 v1264 v1265 v1266 v1267 v1268 v1269 v1270 v1271 v1272 v1273 v1274:AV) (H:Heap):r3E1 C0 d a0 a1 a2 a3 a4 a5 a6 a7 a8 a9 v0 b37 b38 b39 v40 v41 v42 b43 b44 v45 v46 v47 v53 x54 x55 x56 x57 x58 x59 x60 x61 v64 v68 x69 x70 x71 x72 x73 x74 x75 x76 x79 v89 x90 x91 x92 x93 x94 x95 x96 x97 v101 x102 x103 x104 x105 x106 x107 x108 x109 x110 x111 v112 x116 ⟨[(.agg [(.lst a0),(iz a1),(iz a2),(iz a3),(iz a4),(iz a5),(iz a6),(iz a7),(iz a8)]),(.lst a9),v0,tz,(bz b1123),v64,v112,tz,v1124,v1125,(bz b37),(bz b38),(bz b39),v40,v41,v42,(bz b43),(bz b44),v45,v46,v47,bf,tz,(.agg [v53,(iz x54),(iz x55),(iz x56),(iz x57),(iz x58),(iz x59),(iz x60),(iz x61)]),v64,(.agg [v68,(iz x69),(iz x70),(iz x71),(iz x72),(iz x73),(iz x74),(iz x75),(iz x76)]),(iz x79),bf,tz,tz,v64,bf,(.agg [v89,(iz x90),(iz x91),(iz x92),(iz x93),(iz x94),(iz x95),(iz x96),(iz x97)]),(.agg [v101,(iz x102),(iz x103),(iz x104),(iz x105),(iz x106),(iz x107),(iz x108),(iz x109),(iz x110),(iz x111)]),v112,(.lst a9),(iz x116),(iz x1126),v1127,v1128,(.agg [(iz x1130),(iz x1131),(iz x1132),(bz b1133),(bz b1134),(bz b1135),(iz x1136)]),v1137,v1138,(iz x1139),v1140,(bz b1141),(bz b1142),v1143,v1144,(iz x1145),v1146,(bz b1147),(bz b1148),(bz b1149),v1150,v1151,v1152,v1153,v1154,v1155,v1156,v1157,v1158,v1159,v1160,v1161,v1162,v1163,v1164,v1165,v1166,v1167,v1168,v1169,v1170,v1171,v1172,v1173,v1174,v1175,v1176,v1177,v1178,v1179,v1180,v1181,v1182,v1183,v1184,v1185,v1186,v1187,v1188,v1189,v1190,v1191,v1192,v1193,v1194,v1195,v1196,v1197,v1198,v1199,v1200,v1201,v1202,v1203,v1204,v1205,v1206,v1207,v1208,v1209,v1210,v1211,v1212,v1213,v1214,v1215,v1216,v1217,v1218,v1219,v1220,v1221,v1222,v1223,v1224,v1225,v1226,v1227,v1228,v1229,v1230,v1231,v1232,v1233,v1234,v1235,v1236,v1237,v1238,v1239,v1240,v1241,v1242,v1243,v1244,v1245,v1246,v1247,v1248,v1249,v1250,v1251,v1252,v1253,v1254,v1255,v1256,v1257,v1258,v1259,v1260,v1261,v1262,v1263,v1264,v1265,v1266,v1267,v1268,v1269,v1270,v1271,v1272,v1273,v1274],H⟩=E3_1 d a9 v0 v64 v112 x116 b1123 H:=by
 unfold r3E1; refine Eq.trans (pl_len (by rfl)) ?_; refine yt ySs ?_; refine yt yB ?_; refine yt ySs ?_; refine yt yAs ?_; refine yt ySs ?_; refine yt yI ?_; refine yt yAs ?_; refine yt yG ?_; (iterate 3 (refine yt yI ?_)); (iterate 3 (refine yt yB ?_)); refine yt yI ?_; refine yt yAs ?_; refine yt yI ?_; refine yt yA ?_; (iterate 2 (refine yt yB ?_)); refine yt yAs ?_; refine yt yI ?_; refine yt yA ?_; (iterate 3 (refine yt yB ?_)); refine yt yAs ?_
 rfl
noncomputable def L3_1 (d:Nat) (a9:List AV) (v0 v64 v112:AV) (x116:Int):Nat→Int→Heap→Ans
 | 0,_,_=>none
 | n+1,x123,H =>
 cnd (decide (x123 < x116))
  (C0.hop H (.ixAS .any 7 (.v (.lst a9)) (.v (iz x123))) fun v265 h266 =>
  C0.hop h266 (.load true 7 (.v v265)) fun v267 h268 =>
  C0.agg 7 (some v267) fun l269 =>
  C0.int .i64 l269[0]? fun x270 =>
  C0.int .i64 l269[1]? fun x271 =>
  C0.int .i64 l269[2]? fun x272 =>
  C0.bool l269[3]? fun b273 =>
  C0.bool l269[4]? fun b274 =>
  C0.bool l269[5]? fun b275 =>
  C0.int .i64 l269[6]? fun x276 =>
  C0.hop h268 (.alloc E35) fun v277 h278 =>
  C0.hop h278 (.store 7 (.v v277) (.v (.agg [(iz x270),(iz x271),(iz x272),(.bool b273),(.bool b274),(.bool b275),(iz x276)]))) fun v279 h280 =>
  C0.grow h280 [] fun n281 h282 =>
  C0.hop h282 (.fldA 6 (.v v277)) fun v283 h284 =>
  C0.hop h284 (.load false 1 (.v v283)) fun v285 h286 =>
  C0.int .i64 (some v285) fun x287 =>
  C0.hop h286 (.fldA 5 (.v v277)) fun v288 h289 =>
  C0.hop h289 (.load false 1 (.v v288)) fun v290 h291 =>
  C0.bool (some v290) fun b292 =>
  C0.cal M (pcall M d) 12 true 11 [v64,(iz x287),(.bool b292)] h291 fun v293 h294 =>
  C0.bool (some v293) fun b295 =>
  C0.hop h294 (.fldA 6 (.v v277)) fun v296 h297 =>
  C0.hop h297 (.load false 1 (.v v296)) fun v298 h299 =>
  C0.int .i64 (some v298) fun x300 =>
  C0.keep h291 h294 [v296] <|
  C0.hop h299 (.fldA 5 (.v v277)) fun v301 h302 =>
  C0.hop h302 (.load false 1 (.v v301)) fun v303 h304 =>
  C0.bool (some v303) fun b305 =>
  C0.keep h291 h294 [v301] <|
  C0.cal M (pcall M d) 12 true 12 [v112,(iz x300),(.bool b305)] h304 fun v306 h307 =>
  C0.bool (some v306) fun b308 =>
  cnd (xor true (b295 == b308))
  (E3_1 d a9 v0 v64 v112 x116 false h307)
  (L3_2 d v0 v64 v112 x123 v277 (fun x123 H=>L3_1 d a9 v0 v64 v112 x116 n x123 H) (fun b1123 H=>E3_1 d a9 v0 v64 v112 x116 b1123 H) 1 h307))
  (X3_1_0 d a9 v0 v64 v112 x116 H)
theorem L3_1_s (d:Nat) (a9:List AV) (v0 v64 v112:AV) (x116:Int) (n:Nat) (x123:Int) (H:Heap):L3_1 d a9 v0 v64 v112 x116 (n+1) x123 H=(cnd (decide (x123 < x116))
 (C0.hop H (.ixAS .any 7 (.v (.lst a9)) (.v (iz x123))) fun v265 h266 =>
 C0.hop h266 (.load true 7 (.v v265)) fun v267 h268 =>
 C0.agg 7 (some v267) fun l269 =>
 C0.int .i64 l269[0]? fun x270 =>
 C0.int .i64 l269[1]? fun x271 =>
 C0.int .i64 l269[2]? fun x272 =>
 C0.bool l269[3]? fun b273 =>
 C0.bool l269[4]? fun b274 =>
 C0.bool l269[5]? fun b275 =>
 C0.int .i64 l269[6]? fun x276 =>
 C0.hop h268 (.alloc E35) fun v277 h278 =>
 C0.hop h278 (.store 7 (.v v277) (.v (.agg [(iz x270),(iz x271),(iz x272),(.bool b273),(.bool b274),(.bool b275),(iz x276)]))) fun v279 h280 =>
 C0.grow h280 [] fun n281 h282 =>
 C0.hop h282 (.fldA 6 (.v v277)) fun v283 h284 =>
 C0.hop h284 (.load false 1 (.v v283)) fun v285 h286 =>
 C0.int .i64 (some v285) fun x287 =>
 C0.hop h286 (.fldA 5 (.v v277)) fun v288 h289 =>
 C0.hop h289 (.load false 1 (.v v288)) fun v290 h291 =>
 C0.bool (some v290) fun b292 =>
 C0.cal M (pcall M d) 12 true 11 [v64,(iz x287),(.bool b292)] h291 fun v293 h294 =>
 C0.bool (some v293) fun b295 =>
 C0.hop h294 (.fldA 6 (.v v277)) fun v296 h297 =>
 C0.hop h297 (.load false 1 (.v v296)) fun v298 h299 =>
 C0.int .i64 (some v298) fun x300 =>
 C0.keep h291 h294 [v296] <|
 C0.hop h299 (.fldA 5 (.v v277)) fun v301 h302 =>
 C0.hop h302 (.load false 1 (.v v301)) fun v303 h304 =>
 C0.bool (some v303) fun b305 =>
 C0.keep h291 h294 [v301] <|
 C0.cal M (pcall M d) 12 true 12 [v112,(iz x300),(.bool b305)] h304 fun v306 h307 =>
 C0.bool (some v306) fun b308 =>
 cnd (xor true (b295 == b308))
 (E3_1 d a9 v0 v64 v112 x116 false h307)
 (L3_2 d v0 v64 v112 x123 v277 (fun x123 H=>L3_1 d a9 v0 v64 v112 x116 n x123 H) (fun b1123 H=>E3_1 d a9 v0 v64 v112 x116 b1123 H) 1 h307))
 (X3_1_0 d a9 v0 v64 v112 x116 H)):=by kernel_rfl
theorem it3_1 (d:Nat) (a0:List AV) (a1 a2 a3 a4 a5 a6 a7 a8:Int) (a9:List AV) (v0:AV) (b37 b38 b39:Bool) (v40 v41 v42:AV) (b43 b44:Bool) (v45 v46 v47 v53:AV) (x54 x55 x56 x57 x58 x59 x60 x61:Int) (v64 v68:AV) (x69 x70 x71 x72 x73 x74 x75 x76 x79:Int) (v89:AV) (x90 x91 x92 x93 x94 x95 x96 x97:Int) (v101:AV) (x102 x103 x104 x105 x106 x107 x108 x109 x110 x111:Int) (v112:AV) (x116:Int)  :∀ (n:Nat) (b120:Bool) (v121 v122:AV) (x123:Int) (v124 v125 v126 v127 v128 v129 v130 v131 v132 v133 v134 v135 v136 v137 v138 v139 v140 v141 v142 v143 v144 v145 v146 v147 v148 v149 v150 v151 v152 v153 v154 v155 v156 v157 v158 v159 v160 v161 v162 v163 v164 v165 v166 v167 v168 v169 v170 v171 v172 v173 v174 v175 v176 v177 v178 v179 v180 v181 v182 v183 v184 v185 v186 v187 v188 v189 v190 v191 v192 v193 v194 v195 v196 v197 v198 v199 v200 v201 v202 v203 v204 v205 v206 v207 v208 v209 v210 v211 v212 v213 v214 v215 v216 v217 v218 v219 v220 v221 v222 v223 v224 v225 v226 v227 v228 v229 v230 v231 v232 v233 v234 v235 v236 v237 v238 v239 v240 v241 v242 v243 v244 v245 v246 v247 v248 v249 v250 v251 v252 v253 v254 v255 v256 v257 v258 v259 v260 v261 v262 v263 v264:AV) (H:Heap),C0.iter (r3R1 C0 d a0 a1 a2 a3 a4 a5 a6 a7 a8 a9 v0 b37 b38 b39 v40 v41 v42 b43 b44 v45 v46 v47 v53 x54 x55 x56 x57 x58 x59 x60 x61 v64 v68 x69 x70 x71 x72 x73 x74 x75 x76 x79 v89 x90 x91 x92 x93 x94 x95 x96 x97 v101 x102 x103 x104 x105 x106 x107 x108 x109 x110 x111 v112 x116) n ⟨[(.agg [(.lst a0),(iz a1),(iz a2),(iz a3),(iz a4),(iz a5),(iz a6),(iz a7),(iz a8)]),(.lst a9),v0,tz,(bz b120),v64,v112,tz,v121,v122,(bz b37),(bz b38),(bz b39),v40,v41,v42,(bz b43),(bz b44),v45,v46,v47,bf,tz,(.agg [v53,(iz x54),(iz x55),(iz x56),(iz x57),(iz x58),(iz x59),(iz x60),(iz x61)]),v64,(.agg [v68,(iz x69),(iz x70),(iz x71),(iz x72),(iz x73),(iz x74),(iz x75),(iz x76)]),(iz x79),bf,tz,tz,v64,bf,(.agg [v89,(iz x90),(iz x91),(iz x92),(iz x93),(iz x94),(iz x95),(iz x96),(iz x97)]),(.agg [v101,(iz x102),(iz x103),(iz x104),(iz x105),(iz x106),(iz x107),(iz x108),(iz x109),(iz x110),(iz x111)]),v112,(.lst a9),(iz x116),(iz x123),v124,v125,v126,v127,v128,v129,v130,v131,v132,v133,v134,v135,v136,v137,v138,v139,v140,v141,v142,v143,v144,v145,v146,v147,v148,v149,v150,v151,v152,v153,v154,v155,v156,v157,v158,v159,v160,v161,v162,v163,v164,v165,v166,v167,v168,v169,v170,v171,v172,v173,v174,v175,v176,v177,v178,v179,v180,v181,v182,v183,v184,v185,v186,v187,v188,v189,v190,v191,v192,v193,v194,v195,v196,v197,v198,v199,v200,v201,v202,v203,v204,v205,v206,v207,v208,v209,v210,v211,v212,v213,v214,v215,v216,v217,v218,v219,v220,v221,v222,v223,v224,v225,v226,v227,v228,v229,v230,v231,v232,v233,v234,v235,v236,v237,v238,v239,v240,v241,v242,v243,v244,v245,v246,v247,v248,v249,v250,v251,v252,v253,v254,v255,v256,v257,v258,v259,v260,v261,v262,v263,v264],H⟩ [0] [r3X1_0 C0 d a0 a1 a2 a3 a4 a5 a6 a7 a8 a9 v0 b37 b38 b39 v40 v41 v42 b43 b44 v45 v46 v47 v53 x54 x55 x56 x57 x58 x59 x60 x61 v64 v68 x69 x70 x71 x72 x73 x74 x75 x76 x79 v89 x90 x91 x92 x93 x94 x95 x96 x97 v101 x102 x103 x104 x105 x106 x107 x108 x109 x110 x111 v112 x116] (r3E1 C0 d a0 a1 a2 a3 a4 a5 a6 a7 a8 a9 v0 b37 b38 b39 v40 v41 v42 b43 b44 v45 v46 v47 v53 x54 x55 x56 x57 x58 x59 x60 x61 v64 v68 x69 x70 x71 x72 x73 x74 x75 x76 x79 v89 x90 x91 x92 x93 x94 x95 x96 x97 v101 x102 x103 x104 x105 x106 x107 x108 x109 x110 x111 v112 x116)=L3_1 d a9 v0 v64 v112 x116 n x123 H:=by
 generalize hR:r3R1 C0 d a0 a1 a2 a3 a4 a5 a6 a7 a8 a9 v0 b37 b38 b39 v40 v41 v42 b43 b44 v45 v46 v47 v53 x54 x55 x56 x57 x58 x59 x60 x61 v64 v68 x69 x70 x71 x72 x73 x74 x75 x76 x79 v89 x90 x91 x92 x93 x94 x95 x96 x97 v101 x102 x103 x104 x105 x106 x107 x108 x109 x110 x111 v112 x116=R
 intro n
 induction n with
 | zero=>intros; rfl
 | succ n ih =>
   intro b120 v121 v122 x123 v124 v125 v126 v127 v128 v129 v130 v131 v132 v133 v134 v135 v136 v137 v138 v139 v140 v141 v142 v143 v144 v145 v146 v147 v148 v149 v150 v151 v152 v153 v154 v155 v156 v157 v158 v159 v160 v161 v162 v163 v164 v165 v166 v167 v168 v169 v170 v171 v172 v173 v174 v175 v176 v177 v178 v179 v180 v181 v182 v183 v184 v185 v186 v187 v188 v189 v190 v191 v192 v193 v194 v195 v196 v197 v198 v199 v200 v201 v202 v203 v204 v205 v206 v207 v208 v209 v210 v211 v212 v213 v214 v215 v216 v217 v218 v219 v220 v221 v222 v223 v224 v225 v226 v227 v228 v229 v230 v231 v232 v233 v234 v235 v236 v237 v238 v239 v240 v241 v242 v243 v244 v245 v246 v247 v248 v249 v250 v251 v252 v253 v254 v255 v256 v257 v258 v259 v260 v261 v262 v263 v264 H
   simp only [it_ret] at ih
   rw [it_ret,xiter_s]
   refine Eq.trans (congrFun (congrFun hR.symm _) _) ?_
   unfold r3R1
   refine Eq.trans (pl_len (by rfl)) ?_; refine yt ySs ?_; refine yt yB ?_; refine yt ySs ?_; (iterate 2 (refine yt yA ?_)); refine yt ySs ?_; refine yt yI ?_; (iterate 141 (refine yt yA ?_))
   have I0:=fun (v265:AV) (x270 x271 x272:Int) (b273 b274 b275:Bool) (x276:Int) (v277 v283:AV) (x287:Int) (v288:AV) (b292 b295:Bool) (v296:AV) (x300:Int) (v301:AV) (b305 b308:Bool)=>it3_2 d a0 a1 a2 a3 a4 a5 a6 a7 a8 a9 v0 b37 b38 b39 v40 v41 v42 b43 b44 v45 v46 v47 v53 x54 x55 x56 x57 x58 x59 x60 x61 v64 v68 x69 x70 x71 x72 x73 x74 x75 x76 x79 v89 x90 x91 x92 x93 x94 x95 x96 x97 v101 x102 x103 x104 x105 x106 x107 x108 x109 x110 x111 v112 x116 (kIter R n (kOut [0] [r3X1_0 C0 d a0 a1 a2 a3 a4 a5 a6 a7 a8 a9 v0 b37 b38 b39 v40 v41 v42 b43 b44 v45 v46 v47 v53 x54 x55 x56 x57 x58 x59 x60 x61 v64 v68 x69 x70 x71 x72 x73 x74 x75 x76 x79 v89 x90 x91 x92 x93 x94 x95 x96 x97 v101 x102 x103 x104 x105 x106 x107 x108 x109 x110 x111 v112 x116] (r3E1 C0 d a0 a1 a2 a3 a4 a5 a6 a7 a8 a9 v0 b37 b38 b39 v40 v41 v42 b43 b44 v45 v46 v47 v53 x54 x55 x56 x57 x58 x59 x60 x61 v64 v68 x69 x70 x71 x72 x73 x74 x75 x76 x79 v89 x90 x91 x92 x93 x94 x95 x96 x97 v101 x102 x103 x104 x105 x106 x107 x108 x109 x110 x111 v112 x116))) x123 v220 v221 v222 v223 v224 v225 v226 v227 v228 v229 v230 v231 v232 v233 v234 v235 v236 v237 v238 v239 v240 v241 v242 v243 v244 v245 v246 v247 v248 v249 v250 v251 v252 v253 v254 v255 v256 v257 v258 v259 v260 v261 v262 v263 v264 v265 x270 x271 x272 b273 b274 b275 x276 v277 v283 x287 v288 b292 b295 v296 x300 v301 b305 b308 (fun x123 H=>L3_1 d a9 v0 v64 v112 x116 n x123 H) (fun b1123 H=>E3_1 d a9 v0 v64 v112 x116 b1123 H) (fun b120 v121 v122 x123 v124 v125 v126 v127 v128 v129 v130 v131 v132 v133 v134 v135 v136 v137 v138 v139 v140 v141 v142 v143 v144 v145 v146 v147 v148 v149 v150 v151 v152 v153 v154 v155 v156 v157 v158 v159 v160 v161 v162 v163 v164 v165 v166 v167 v168 v169 v170 v171 v172 v173 v174 v175 v176 v177 v178 v179 v180 v181 v182 v183 v184 v185 v186 v187 v188 v189 v190 v191 v192 v193 v194 v195 v196 v197 v198 v199 v200 v201 v202 v203 v204 v205 v206 v207 v208 v209 v210 v211 v212 v213 v214 v215 v216 v217 v218 v219 v220 v221 v222 v223 v224 v225 v226 v227 v228 v229 v230 v231 v232 v233 v234 v235 v236 v237 v238 v239 v240 v241 v242 v243 v244 v245 v246 v247 v248 v249 v250 v251 v252 v253 v254 v255 v256 v257 v258 v259 v260 v261 v262 v263 v264 H=>ih b120 v121 v122 x123 v124 v125 v126 v127 v128 v129 v130 v131 v132 v133 v134 v135 v136 v137 v138 v139 v140 v141 v142 v143 v144 v145 v146 v147 v148 v149 v150 v151 v152 v153 v154 v155 v156 v157 v158 v159 v160 v161 v162 v163 v164 v165 v166 v167 v168 v169 v170 v171 v172 v173 v174 v175 v176 v177 v178 v179 v180 v181 v182 v183 v184 v185 v186 v187 v188 v189 v190 v191 v192 v193 v194 v195 v196 v197 v198 v199 v200 v201 v202 v203 v204 v205 v206 v207 v208 v209 v210 v211 v212 v213 v214 v215 v216 v217 v218 v219 v220 v221 v222 v223 v224 v225 v226 v227 v228 v229 v230 v231 v232 v233 v234 v235 v236 v237 v238 v239 v240 v241 v242 v243 v244 v245 v246 v247 v248 v249 v250 v251 v252 v253 v254 v255 v256 v257 v258 v259 v260 v261 v262 v263 v264 H) (fun b1123 v1124 v1125 x1126 v1127 v1128 x1130 x1131 x1132 b1133 b1134 b1135 x1136 v1137 v1138 x1139 v1140 b1141 b1142 v1143 v1144 x1145 v1146 b1147 b1148 b1149 v1150 v1151 v1152 v1153 v1154 v1155 v1156 v1157 v1158 v1159 v1160 v1161 v1162 v1163 v1164 v1165 v1166 v1167 v1168 v1169 v1170 v1171 v1172 v1173 v1174 v1175 v1176 v1177 v1178 v1179 v1180 v1181 v1182 v1183 v1184 v1185 v1186 v1187 v1188 v1189 v1190 v1191 v1192 v1193 v1194 v1195 v1196 v1197 v1198 v1199 v1200 v1201 v1202 v1203 v1204 v1205 v1206 v1207 v1208 v1209 v1210 v1211 v1212 v1213 v1214 v1215 v1216 v1217 v1218 v1219 v1220 v1221 v1222 v1223 v1224 v1225 v1226 v1227 v1228 v1229 v1230 v1231 v1232 v1233 v1234 v1235 v1236 v1237 v1238 v1239 v1240 v1241 v1242 v1243 v1244 v1245 v1246 v1247 v1248 v1249 v1250 v1251 v1252 v1253 v1254 v1255 v1256 v1257 v1258 v1259 v1260 v1261 v1262 v1263 v1264 v1265 v1266 v1267 v1268 v1269 v1270 v1271 v1272 v1273 v1274 H=>E3_1_ok d a0 a1 a2 a3 a4 a5 a6 a7 a8 a9 v0 b37 b38 b39 v40 v41 v42 b43 b44 v45 v46 v47 v53 x54 x55 x56 x57 x58 x59 x60 x61 v64 v68 x69 x70 x71 x72 x73 x74 x75 x76 x79 v89 x90 x91 x92 x93 x94 x95 x96 x97 v101 x102 x103 x104 x105 x106 x107 x108 x109 x110 x111 v112 x116   b1123 v1124 v1125 x1126 v1127 v1128 x1130 x1131 x1132 b1133 b1134 b1135 x1136 v1137 v1138 x1139 v1140 b1141 b1142 v1143 v1144 x1145 v1146 b1147 b1148 b1149 v1150 v1151 v1152 v1153 v1154 v1155 v1156 v1157 v1158 v1159 v1160 v1161 v1162 v1163 v1164 v1165 v1166 v1167 v1168 v1169 v1170 v1171 v1172 v1173 v1174 v1175 v1176 v1177 v1178 v1179 v1180 v1181 v1182 v1183 v1184 v1185 v1186 v1187 v1188 v1189 v1190 v1191 v1192 v1193 v1194 v1195 v1196 v1197 v1198 v1199 v1200 v1201 v1202 v1203 v1204 v1205 v1206 v1207 v1208 v1209 v1210 v1211 v1212 v1213 v1214 v1215 v1216 v1217 v1218 v1219 v1220 v1221 v1222 v1223 v1224 v1225 v1226 v1227 v1228 v1229 v1230 v1231 v1232 v1233 v1234 v1235 v1236 v1237 v1238 v1239 v1240 v1241 v1242 v1243 v1244 v1245 v1246 v1247 v1248 v1249 v1250 v1251 v1252 v1253 v1254 v1255 v1256 v1257 v1258 v1259 v1260 v1261 v1262 v1263 v1264 v1265 v1266 v1267 v1268 v1269 v1270 v1271 v1272 v1273 v1274 H)
   try dsimp only at I0
   simp only [kIter_n,kIter_x,kIter_r,kOut_x,kOut_r,xgo_hit,xgo_miss,ih,I0,X3_1_0_ok d a0 a1 a2 a3 a4 a5 a6 a7 a8 a9 v0 b37 b38 b39 v40 v41 v42 b43 b44 v45 v46 v47 v53 x54 x55 x56 x57 x58 x59 x60 x61 v64 v68 x69 x70 x71 x72 x73 x74 x75 x76 x79 v89 x90 x91 x92 x93 x94 x95 x96 x97 v101 x102 x103 x104 x105 x106 x107 x108 x109 x110 x111 v112 x116  ,E3_1_ok d a0 a1 a2 a3 a4 a5 a6 a7 a8 a9 v0 b37 b38 b39 v40 v41 v42 b43 b44 v45 v46 v47 v53 x54 x55 x56 x57 x58 x59 x60 x61 v64 v68 x69 x70 x71 x72 x73 x74 x75 x76 x79 v89 x90 x91 x92 x93 x94 x95 x96 x97 v101 x102 x103 x104 x105 x106 x107 x108 x109 x110 x111 v112 x116  ]
   exact (L3_1_s d a9 v0 v64 v112 x116 n x123 H).symm
noncomputable def X3_0_0 (d:Nat) (a9:List AV) (v0:AV) (b48:Bool) (H:Heap):Ans :=
 cnd b48
  (C0.bool (pcall M d 7 []) fun b49 =>
  C0.fin H (.bool b49))
  (C0.hop H (.load true 9 (.v v0)) fun v50 h51 =>
  C0.agg 9 (some v50) fun l52 =>
  C0.any l52[0]? fun v53 =>
  C0.int .i64 l52[1]? fun x54 =>
  C0.int .i64 l52[2]? fun x55 =>
  C0.int .i64 l52[3]? fun x56 =>
  C0.int .i64 l52[4]? fun x57 =>
  C0.int .i64 l52[5]? fun x58 =>
  C0.int .i64 l52[6]? fun x59 =>
  C0.int .i64 l52[7]? fun x60 =>
  C0.int .i64 l52[8]? fun x61 =>
  C0.cal M (pcall M d) 12 true 9 [(.agg [v53,(iz x54),(iz x55),(iz x56),(iz x57),(iz x58),(iz x59),(iz x60),(iz x61)])] h51 fun v62 h63 =>
  C0.any (some v62) fun v64 =>
  C0.hop h63 (.load true 9 (.v v0)) fun v65 h66 =>
  C0.agg 9 (some v65) fun l67 =>
  C0.any l67[0]? fun v68 =>
  C0.int .i64 l67[1]? fun x69 =>
  C0.int .i64 l67[2]? fun x70 =>
  C0.int .i64 l67[3]? fun x71 =>
  C0.int .i64 l67[4]? fun x72 =>
  C0.int .i64 l67[5]? fun x73 =>
  C0.int .i64 l67[6]? fun x74 =>
  C0.int .i64 l67[7]? fun x75 =>
  C0.int .i64 l67[8]? fun x76 =>
  C0.snp h66 [(.agg [v68,(iz x69),(iz x70),(iz x71),(iz x72),(iz x73),(iz x74),(iz x75),(iz x76)])] fun l77 b78 =>
  C0.int .i64 (pcall M d 10 l77) fun x79 =>
  cnd (b78 || true)
  (cnd (x79 != 0)
  (C0.hop h66 (.eqv false 1 [] (.v v64) (.v .nilp)) fun v80 h81 =>
  C0.bool (some v80) fun b82 =>
  C0.fin h81 (.bool b82))
  (C0.hop h66 (.eqv false 1 [] (.v v64) (.v .nilp)) fun v83 h84 =>
  C0.bool (some v83) fun b85 =>
  cnd b85
  (C0.fin h84 bf)
  (C0.hop h84 (.load true 9 (.v v0)) fun v86 h87 =>
  C0.agg 9 (some v86) fun l88 =>
  C0.any l88[0]? fun v89 =>
  C0.int .i64 l88[1]? fun x90 =>
  C0.int .i64 l88[2]? fun x91 =>
  C0.int .i64 l88[3]? fun x92 =>
  C0.int .i64 l88[4]? fun x93 =>
  C0.int .i64 l88[5]? fun x94 =>
  C0.int .i64 l88[6]? fun x95 =>
  C0.int .i64 l88[7]? fun x96 =>
  C0.int .i64 l88[8]? fun x97 =>
  C0.hop h87 (.build [(.zsl true),(iz 0),(iz 0),(iz 0),(iz 0),(iz 0),(iz 0),(iz 0),(iz 0),(iz 0),(iz 0)] [(0,9,(.v (.agg [v89,(iz x90),(iz x91),(iz x92),(iz x93),(iz x94),(iz x95),(iz x96),(iz x97)])))]) fun v98 h99 =>
  C0.agg 11 (some v98) fun l100 =>
  C0.any l100[0]? fun v101 =>
  C0.int .i64 l100[1]? fun x102 =>
  C0.int .i64 l100[2]? fun x103 =>
  C0.int .i64 l100[3]? fun x104 =>
  C0.int .i64 l100[4]? fun x105 =>
  C0.int .i64 l100[5]? fun x106 =>
  C0.int .i64 l100[6]? fun x107 =>
  C0.int .i64 l100[7]? fun x108 =>
  C0.int .i64 l100[8]? fun x109 =>
  C0.int .i64 l100[9]? fun x110 =>
  C0.int .i64 l100[10]? fun x111 =>
  C0.hop h99 (.box E33 (.v (.agg [v101,(iz x102),(iz x103),(iz x104),(iz x105),(iz x106),(iz x107),(iz x108),(iz x109),(iz x110),(iz x111)]))) fun v112 h113 =>
  C0.hop h113 (.bk .lenV [(.v (.lst a9))]) fun v114 h115 =>
  C0.int .i64 (some v114) fun x116 =>
  L3_1 d a9 v0 v64 v112 x116 10000000000000000000 0 h115)))
  (none))
theorem X3_0_0_ok (d:Nat) (a0:List AV) (a1 a2 a3 a4 a5 a6 a7 a8:Int) (a9:List AV) (v0:AV) (b37 b38 b39:Bool) (v40 v41 v42:AV) (b43 b44:Bool) (v45 v46 v47:AV) (b48:Bool) (H:Heap):r3X0_0 C0 d a0 a1 a2 a3 a4 a5 a6 a7 a8 a9 v0 ⟨[(.agg [(.lst a0),(iz a1),(iz a2),(iz a3),(iz a4),(iz a5),(iz a6),(iz a7),(iz a8)]),(.lst a9),v0,tz,bf,tz,tz,tz,tz,tz,(bz b37),(bz b38),(bz b39),v40,v41,v42,(bz b43),(bz b44),v45,v46,v47,(bz b48),tz,tz,tz,tz,tz,tz,tz,tz,tz,tz,tz,tz,tz,tz,tz,tz,tz,tz,tz,tz,tz,tz,tz,tz,tz,tz,tz,tz,tz,tz,tz,tz,tz,tz,tz,tz,tz,tz,tz,tz,tz,tz,tz,tz,tz,tz,tz,tz,tz,tz,tz,tz,tz,tz,tz,tz,tz,tz,tz,tz,tz,tz,tz,tz,tz,tz,tz,tz,tz,tz,tz,tz,tz,tz,tz,tz,tz,tz,tz,tz,tz,tz,tz,tz,tz,tz,tz,tz,tz,tz,tz,tz,tz,tz,tz,tz,tz,tz,tz,tz,tz,tz,tz,tz,tz,tz,tz,tz,tz,tz,tz,tz,tz,tz,tz,tz,tz,tz,tz,tz,tz,tz,tz,tz,tz,tz,tz,tz,tz,tz,tz,tz,tz,tz,tz,tz,tz,tz,tz,tz,tz,tz,tz,tz,tz,tz,tz,tz,tz,tz,tz,tz,tz,tz,tz,tz,tz],H⟩=X3_0_0 d a9 v0 b48 H:=by
 unfold r3X0_0; refine Eq.trans (pl_len (by rfl)) ?_; refine yt ySs ?_; (iterate 3 (refine yt yB ?_)); (iterate 3 (refine yt yA ?_)); (iterate 2 (refine yt yB ?_)); (iterate 3 (refine yt yA ?_)); refine yt yB ?_; refine yt ySs ?_
 first | (simp only [it3_1] <;> rfl) | rfl
noncomputable def E3_0 (d:Nat) (a9:List AV) (v0:AV) (H:Heap):Ans :=
 none
theorem E3_0_ok (d:Nat) (a0:List AV) (a1 a2 a3 a4 a5 a6 a7 a8:Int) (a9:List AV) (v0 v1275 v1276 v1277 v1278 v1279 v1280 v1281 v1282 v1283 v1284 v1285 v1286:AV) (H:Heap):r3E0 C0 d a0 a1 a2 a3 a4 a5 a6 a7 a8 a9 v0 ⟨[(.agg [(.lst a0),(iz a1),(iz a2),(iz a3),(iz a4),(iz a5),(iz a6),(iz a7),(iz a8)]),(.lst a9),v0,tz,bf,tz,tz,tz,tz,tz,v1275,v1276,v1277,v1278,v1279,v1280,v1281,v1282,v1283,v1284,v1285,v1286,tz,tz,tz,tz,tz,tz,tz,tz,tz,tz,tz,tz,tz,tz,tz,tz,tz,tz,tz,tz,tz,tz,tz,tz,tz,tz,tz,tz,tz,tz,tz,tz,tz,tz,tz,tz,tz,tz,tz,tz,tz,tz,tz,tz,tz,tz,tz,tz,tz,tz,tz,tz,tz,tz,tz,tz,tz,tz,tz,tz,tz,tz,tz,tz,tz,tz,tz,tz,tz,tz,tz,tz,tz,tz,tz,tz,tz,tz,tz,tz,tz,tz,tz,tz,tz,tz,tz,tz,tz,tz,tz,tz,tz,tz,tz,tz,tz,tz,tz,tz,tz,tz,tz,tz,tz,tz,tz,tz,tz,tz,tz,tz,tz,tz,tz,tz,tz,tz,tz,tz,tz,tz,tz,tz,tz,tz,tz,tz,tz,tz,tz,tz,tz,tz,tz,tz,tz,tz,tz,tz,tz,tz,tz,tz,tz,tz,tz,tz,tz,tz,tz,tz,tz,tz,tz,tz,tz],H⟩=E3_0 d a9 v0 H:=by
 unfold r3E0; refine Eq.trans (pl_len (by rfl)) ?_; refine yt ySs ?_; refine yt yAs ?_; refine yt ySs ?_
 rfl
noncomputable def L3_0 (d:Nat) (a9:List AV) (v0:AV):Nat→Heap→Ans
 | 0,_=>none
 | n+1,H =>
 C0.bool (pcall M d 7 []) fun b17 =>
  cnd (!b17)
  (X3_0_0 d a9 v0 true H)
  (C0.hop H (.load true 9 (.v v0)) fun v18 h19 =>
  C0.agg 9 (some v18) fun l20 =>
  C0.any l20[0]? fun v21 =>
  C0.int .i64 l20[1]? fun x22 =>
  C0.int .i64 l20[2]? fun x23 =>
  C0.int .i64 l20[3]? fun x24 =>
  C0.int .i64 l20[4]? fun x25 =>
  C0.int .i64 l20[5]? fun x26 =>
  C0.int .i64 l20[6]? fun x27 =>
  C0.int .i64 l20[7]? fun x28 =>
  C0.int .i64 l20[8]? fun x29 =>
  C0.snp h19 [(.agg [v21,(iz x22),(iz x23),(iz x24),(iz x25),(iz x26),(iz x27),(iz x28),(iz x29)])] fun l30 b31 =>
  C0.bool (pcall M d 8 l30) fun b32 =>
  cnd (b31 || true)
  (cnd (!b32)
  (X3_0_0 d a9 v0 true h19)
  (C0.hop h19 (.bk .lenV [(.v (.lst a9))]) fun v33 h34 =>
  C0.int .i64 (some v33) fun x35 =>
  X3_0_0 d a9 v0 (decide (x35 > 200)) h34))
  (none))
theorem L3_0_s (d:Nat) (a9:List AV) (v0:AV) (n:Nat) (H:Heap):L3_0 d a9 v0 (n+1) H=(C0.bool (pcall M d 7 []) fun b17 =>
 cnd (!b17)
 (X3_0_0 d a9 v0 true H)
 (C0.hop H (.load true 9 (.v v0)) fun v18 h19 =>
 C0.agg 9 (some v18) fun l20 =>
 C0.any l20[0]? fun v21 =>
 C0.int .i64 l20[1]? fun x22 =>
 C0.int .i64 l20[2]? fun x23 =>
 C0.int .i64 l20[3]? fun x24 =>
 C0.int .i64 l20[4]? fun x25 =>
 C0.int .i64 l20[5]? fun x26 =>
 C0.int .i64 l20[6]? fun x27 =>
 C0.int .i64 l20[7]? fun x28 =>
 C0.int .i64 l20[8]? fun x29 =>
 C0.snp h19 [(.agg [v21,(iz x22),(iz x23),(iz x24),(iz x25),(iz x26),(iz x27),(iz x28),(iz x29)])] fun l30 b31 =>
 C0.bool (pcall M d 8 l30) fun b32 =>
 cnd (b31 || true)
 (cnd (!b32)
 (X3_0_0 d a9 v0 true h19)
 (C0.hop h19 (.bk .lenV [(.v (.lst a9))]) fun v33 h34 =>
 C0.int .i64 (some v33) fun x35 =>
 X3_0_0 d a9 v0 (decide (x35 > 200)) h34))
 (none))):=by kernel_rfl
theorem it3_0 (d:Nat) (a0:List AV) (a1 a2 a3 a4 a5 a6 a7 a8:Int) (a9:List AV) (v0:AV)  :∀ (n:Nat) (v5 v6 v7 v8 v9 v10 v11 v12 v13 v14 v15 v16:AV) (H:Heap),C0.iter (r3R0 C0 d a0 a1 a2 a3 a4 a5 a6 a7 a8 a9 v0) n ⟨[(.agg [(.lst a0),(iz a1),(iz a2),(iz a3),(iz a4),(iz a5),(iz a6),(iz a7),(iz a8)]),(.lst a9),v0,tz,bf,tz,tz,tz,tz,tz,v5,v6,v7,v8,v9,v10,v11,v12,v13,v14,v15,v16,tz,tz,tz,tz,tz,tz,tz,tz,tz,tz,tz,tz,tz,tz,tz,tz,tz,tz,tz,tz,tz,tz,tz,tz,tz,tz,tz,tz,tz,tz,tz,tz,tz,tz,tz,tz,tz,tz,tz,tz,tz,tz,tz,tz,tz,tz,tz,tz,tz,tz,tz,tz,tz,tz,tz,tz,tz,tz,tz,tz,tz,tz,tz,tz,tz,tz,tz,tz,tz,tz,tz,tz,tz,tz,tz,tz,tz,tz,tz,tz,tz,tz,tz,tz,tz,tz,tz,tz,tz,tz,tz,tz,tz,tz,tz,tz,tz,tz,tz,tz,tz,tz,tz,tz,tz,tz,tz,tz,tz,tz,tz,tz,tz,tz,tz,tz,tz,tz,tz,tz,tz,tz,tz,tz,tz,tz,tz,tz,tz,tz,tz,tz,tz,tz,tz,tz,tz,tz,tz,tz,tz,tz,tz,tz,tz,tz,tz,tz,tz,tz,tz,tz,tz,tz,tz,tz,tz],H⟩ [2000000] [r3X0_0 C0 d a0 a1 a2 a3 a4 a5 a6 a7 a8 a9 v0] (r3E0 C0 d a0 a1 a2 a3 a4 a5 a6 a7 a8 a9 v0)=L3_0 d a9 v0 n H:=by
 generalize hR:r3R0 C0 d a0 a1 a2 a3 a4 a5 a6 a7 a8 a9 v0=R
 intro n
 induction n with
 | zero=>intros; rfl
 | succ n ih =>
   intro v5 v6 v7 v8 v9 v10 v11 v12 v13 v14 v15 v16 H
   simp only [it_ret] at ih
   rw [it_ret,xiter_s]
   refine Eq.trans (congrFun (congrFun hR.symm _) _) ?_
   unfold r3R0
   refine Eq.trans (pl_len (by rfl)) ?_; refine yt ySs ?_; refine yt yAs ?_; refine yt ySs ?_
   simp only [kIter_n,kIter_x,kIter_r,kOut_x,kOut_r,xgo_hit,xgo_miss,ih,X3_0_0_ok d a0 a1 a2 a3 a4 a5 a6 a7 a8 a9 v0  ,E3_0_ok d a0 a1 a2 a3 a4 a5 a6 a7 a8 a9 v0  ]
   exact (L3_0_s d a9 v0 n H).symm
theorem q3 (d:Nat) (a0:List AV) (a1 a2 a3 a4 a5 a6 a7 a8:Int) (a9:List AV):xcall C0 M unr d 3 [(.agg [(.lst a0),(iz a1),(iz a2),(iz a3),(iz a4),(iz a5),(iz a6),(iz a7),(iz a8)]),(.lst a9)] =
 C0.hop [] (.box E24 (.v (.agg [(.lst a0),(iz a1),(iz a2),(iz a3),(iz a4),(iz a5),(iz a6),(iz a7),(iz a8)]))) fun v0 h1 =>
 L3_0 d a9 v0 1 h1:=(r3 C0 d a0 a1 a2 a3 a4 a5 a6 a7 a8 a9).trans (by simp only [it3_0])
end Go.Proofs.Ytdceaeifcniabaa.AE

namespace Go.Proofs.Ytdceaeifcniabaa.AE
set_option linter.unusedVariables false
set_option linter.unusedSimpArgs false
set_option linter.constructorNameAsVariable false
open Go Go.Proofs.Ytdceaeifcniabaa.Geo
set_option maxRecDepth 100000
attribute [local irreducible] pcall C0 callB
structure Two (H:Heap) (id cid lo hi wid:Nat) (v:AV) (r:Rul) (ph:Nat) (c:Int):Prop where
 z:hget H 0=some ⟨E24,[rl r]⟩
 m:Mach H id cid lo hi v r ph c
 w:RefM H wid r ph c
 n1:wid ≠ id
 n2:wid ≠ cid
 n3:wid ≠ 0
 n4:hi≤wid
 n5:0 < id
 n6:0 < cid
theorem two_ext {H H':Heap} {id cid lo hi wid:Nat} {v:AV} {r:Rul} {ph:Nat} {c:Int} (h:Two H id cid lo hi wid v r ph c) (e:Ext H H'):Two H' id cid lo hi wid v r ph c :=
 ⟨e _ _ h.z,mach_ext h.m e,e _ _ h.w,h.n1,h.n2,h.n3,h.n4,h.n5,h.n6⟩
theorem two_m {H H':Heap} {id cid lo hi wid:Nat} {v:AV} {r:Rul} {ph ph':Nat} {c c':Int} (h:Two H id cid lo hi wid v r ph c) (e:Ext2 id cid H H') (m:Mach H' id cid lo hi v r ph' c'):hget H' 0=some ⟨E24,[rl r]⟩∧RefM H' wid r ph c :=
 ⟨e _ _ (by have:=h.n5; omega) (by have:=h.n6; omega) h.z,e _ _ h.n1 h.n2 h.w⟩
theorem two_w {H H':Heap} {id cid lo hi wid:Nat} {v:AV} {r:Rul} {ph':Nat} {c':Int} (z:hget H 0=some ⟨E24,[rl r]⟩) (m:Mach H id cid lo hi v r ph' c') (n1:wid ≠ id) (n2:wid ≠ cid) (n3:wid ≠ 0) (n4:hi≤wid) (n5:0 < id) (n6:0 < cid) (e:∀ i b,i ≠ wid→hget H i=some b→hget H' i=some b) (w:RefM H' wid r ph' c'):Two H' id cid lo hi wid v r ph' c' :=
 ⟨e _ _ (Ne.symm n3) z,mach_keep m (a:=wid) (b:=wid) (fun i b h1 _ h=>e i b h1 h) ⟨n4,n1,n2⟩ ⟨n4,n1,n2⟩,w,n1,n2,n3,n4,n5,n6⟩
theorem ask (r:Rul) (hps:∀ p ∈ r.phs,p.ps ≠ []∧p.ps.length≤1000000) (i:Int) (kN:Int→Heap→Ans) (kR:Bool→Heap→Ans) {H:Heap} {id cid lo hi wid:Nat} {v:AV} {ph:Nat} {c:Int} (h:Two H id cid lo hi wid v r ph c) :
 ∃ H',Two H' id cid lo hi wid v r ph c∧L3_5 40 (.ptr 0 0 0) (.ptr id 0 0) (.ptr wid 0 0) i kN kR 1 H=kN (IntKind.wrap .i64 (i+1)) H':=by
 have hp:=h.m.p
 have hlen:=h.m.len
 obtain ⟨p1,p2⟩:=hps _ (List.getElem_mem hp)
 obtain ⟨av,H1,y1,x1,a1,c1,s1⟩:=m_now 40 1 h.m p1 p2
 have t1:=two_ext h x1
 have z1:=t1.z
 have w1:=t1.w
 have e:(r.phs.map phA)[((ph:Nat):Int).toNat]?=some (phA r.phs[ph]):=by rw [Int.toNat_natCast]; exact phs_at hp
 refine ⟨H1,t1,?_⟩
 have hz:=h.z
 have hw:hget H wid=some ⟨E33,[rmA r ph c]⟩:=h.w
 have hw1:hget H1 wid=some ⟨E33,[rmA r ph c]⟩:=w1
 rw [L3_5_s]
 refine Eq.trans gr_nil ?_
 refine Eq.trans (cal_eq (m_phase 40 3 h.m)) ?_
 refine Eq.trans (pl_int rfl) ?_
 refine Eq.trans nil_ptr ?_
 refine Eq.trans sh_ptr ?_
 refine Eq.trans (ld_ptr (v:=.int .i64 ((ph:Nat):Int)) hw rfl rfl) ?_
 refine Eq.trans (pl_int rfl) ?_
 refine Eq.trans (keep_g hw hw) ?_
 refine Eq.trans (pl_f (by simp)) ?_
 refine Eq.trans (cal_eq (m_in 40 2 h.m)) ?_
 refine Eq.trans (pl_int rfl) ?_
 refine Eq.trans nil_ptr ?_
 refine Eq.trans sh_ptr ?_
 refine Eq.trans (ld_ptr (v:=.int .i64 c) hw rfl rfl) ?_
 refine Eq.trans (pl_int rfl) ?_
 refine Eq.trans (keep_g hw hw) ?_
 refine Eq.trans (pl_f (by simp)) ?_
 refine Eq.trans (cal_eq (m_last 40 3 h.m)) ?_
 refine Eq.trans (pl_bool rfl) ?_
 refine Eq.trans nil_ptr ?_
 refine Eq.trans sh_ptr ?_
 refine Eq.trans (ld_ptr (v:=.int .i64 ((ph:Nat):Int)) hw rfl rfl) ?_
 refine Eq.trans (pl_int rfl) ?_
 refine Eq.trans (keep_g hw hw) ?_
 refine Eq.trans sh_ptr ?_
 refine Eq.trans (ld_ptr (v:=.lst (r.phs.map phA)) hz rfl rfl) ?_
 refine Eq.trans (keep_g hz hz) ?_
 refine Eq.trans len_lst ?_
 refine Eq.trans (pl_int rfl) ?_
 refine Eq.trans (keep_ok fun x hx j hj=>by first | rfl | (have hx':=List.mem_singleton.mp hx; subst hx'; cases hj)) ?_
 rw [List.length_map,show IntKind.wrap .i64 (((ph:Nat):Int)+1)=((ph+1:Nat):Int) by rw [i64w]; omega]
 have hb:((((ph+1:Nat):Int)) == ((r.phs.length:Nat):Int))=decide (ph+1=r.phs.length):=by
  rw [Bool.eq_iff_iff]; simp; omega
 refine Eq.trans (pl_f (by first | rw [hb]; done | (rw [hb]; simp))) ?_
 refine Eq.trans (cal_eq y1) ?_
 refine Eq.trans (pl_agg rfl rfl) ?_
 refine Eq.trans (pl_any rfl) ?_
 iterate 4 (refine Eq.trans (pl_int rfl) ?_)
 refine Eq.trans sh_ptr ?_
 refine Eq.trans (ld_ptr (v:=.lst (r.phs.map phA)) z1 rfl rfl) ?_
 refine Eq.trans (keep_g hz z1) ?_
 refine Eq.trans nil_ptr ?_
 refine Eq.trans sh_ptr ?_
 refine Eq.trans (ld_ptr (v:=.int .i64 ((ph:Nat):Int)) hw1 rfl rfl) ?_
 refine Eq.trans (pl_int rfl) ?_
 refine Eq.trans (keep_g hw hw1) ?_
 refine Eq.trans (ix_lst (by omega) e rfl) ?_
 refine Eq.trans (keep_ok fun x hx j hj=>by rw [List.mem_singleton] at hx; subst hx; cases hj) ?_
 refine Eq.trans (ld_fptr (v:=phA r.phs[ph]) rfl) ?_
 refine Eq.trans (pl_agg rfl rfl) ?_
 refine Eq.trans (pl_any rfl) ?_
 iterate 4 (refine Eq.trans (pl_int rfl) ?_)
 refine Eq.trans (keep_ok fun x hx j hj=>by rw [List.mem_singleton] at hx; subst hx; cases hj) ?_
 -- both phases,told
 have hav:noId 11 av=false:=by
  rcases a1 with ⟨q,_⟩ | ⟨j,_,_,q,_⟩
  ·exact absurd q p1
  ·rw [q]; rfl
 have hsn:snap 11 H1 av=.lst ((r.phs[ph]).ps.map pt):=snap_ar (k:=8) a1
 refine Eq.trans (snp_id (by change (((noId 11 av && _) && _))=false; rw [hav]; rfl)) ?_
 have em:[phX av r.phs[ph],phA r.phs[ph]].map (snap DEPTH H1)=[phA r.phs[ph],phA r.phs[ph]]:=by
  change [AV.agg [snap 11 H1 av,_,_,_,_],_]=_
  rw [hsn]; rfl
 have hS:=samePR 38 r.phs[ph] r.phs[ph] (by omega) (by omega)
 rw [sameP_r] at hS
 refine Eq.trans (pl_bool ((congrArg (pcall M 40 19) em).trans hS)) ?_
 rw [c_ort]
 unfold X3_5_0
 rw [Bool.not_true,cnd_f]
theorem play_go (r:Rul) (ops:List Op21) (hl:ops.length≤200) (hps:∀ p ∈ r.phs,p.ps ≠ []∧p.ps.length≤1000000) (id cid lo hi wid:Nat) (v:AV):∀ (k i:Nat),i+k=ops.length→∀ f,k < f→∀ (H:Heap) (ph:Nat) (c:Int),Two H id cid lo hi wid v r ph c →
 L3_1 40 (ops.map opA) (.ptr 0 0 0) (.ptr id 0 0) (.ptr wid 0 0) (ops.length:Nat) f (i:Nat) H=some (.bool true)
 | 0,i,h,f+1,_,H,ph,c,_=>by
   rw [L3_1_s,decide_eq_false (by omega),cnd_f]
   exact fin_bl
 | k+1,i,h,f+1,hf,H,ph,c,t0=>by
   have hi':i < ops.length:=by omega
   have hlen:=t0.m.len
   have hp:=t0.m.p
   have hc:=t0.m.c0
   obtain ⟨p1,p2⟩:=hps _ (List.getElem_mem hp)
   rw [L3_1_s,decide_eq_true (by omega),cnd_t]
   refine Eq.trans (ix_lst (x:=opA ops[i]) (by omega) (by rw [show (((i:Nat):Int)).toNat=i by omega]; exact ops_at hi') rfl) ?_
   refine Eq.trans (ld_fptr (v:=opA ops[i]) rfl) ?_
   generalize ops[i]=o
   refine Eq.trans (pl_agg rfl rfl) ?_
   iterate 3 (refine Eq.trans (pl_int rfl) ?_)
   iterate 3 (refine Eq.trans (pl_bool rfl) ?_)
   refine Eq.trans (pl_int rfl) ?_
   refine Eq.trans (al_stA rfl) ?_
   have x1:Ext H (H ++ [some ⟨E35,[opA o]⟩]):=Ext.app _ _
   have o1:hget (H ++ [some ⟨E35,[opA o]⟩]) H.length=some ⟨E35,[opA o]⟩:=hget_new
   have t1:=two_ext t0 x1
   have nid:H.length ≠ id:=by have:=hg_lt t0.m.m; omega
   have ncid:H.length ≠ cid:=by have:=hg_lt t0.m.k; omega
   have nwid:H.length ≠ wid:=by have:=hg_lt t0.w; omega
   obtain ⟨q,hq⟩:∃ q,q=H.length:=⟨_,rfl⟩
   rw [← hq] at o1 nid ncid nwid ⊢
   generalize H ++ [some (⟨E35,[opA o]⟩:Blk)]=H1 at o1 x1 t1 ⊢
   -- whether it may begin
   obtain ⟨H2,y2,x2⟩:=m_wish 40 0 o.h o.w t1.m p1 p2
   have t2:=two_ext t1 x2
   have o2:=x2 _ _ o1
   obtain ⟨H3,y3,x3⟩:=rw_wish 40 3 o.h o.w t2.w hp hlen
   have t3:=two_ext t2 x3
   have o3:=x3 _ _ o2
   refine Eq.trans gr_nil ?_
   refine Eq.trans sh_ptr ?_
   refine Eq.trans (ld_ptr (v:=.int .i64 o.h) o1 rfl rfl) ?_
   refine Eq.trans (pl_int rfl) ?_
   refine Eq.trans sh_ptr ?_
   refine Eq.trans (ld_ptr (v:=.bool o.w) o1 rfl rfl) ?_
   refine Eq.trans (pl_bool rfl) ?_
   refine Eq.trans (cal_eq y2) ?_
   refine Eq.trans (pl_bool rfl) ?_
   refine Eq.trans sh_ptr ?_
   refine Eq.trans (ld_ptr (v:=.int .i64 o.h) o2 rfl rfl) ?_
   refine Eq.trans (pl_int rfl) ?_
   refine Eq.trans (keep_g o1 o2) ?_
   refine Eq.trans sh_ptr ?_
   refine Eq.trans (ld_ptr (v:=.bool o.w) o2 rfl rfl) ?_
   refine Eq.trans (pl_bool rfl) ?_
   refine Eq.trans (keep_g o1 o2) ?_
   refine Eq.trans (cal_eq y3) ?_
   refine Eq.trans (pl_bool rfl) ?_
   refine Eq.trans (pl_f (by simp)) ?_
   generalize hkN:(fun (x123:Int) (H:Heap)=>L3_1 40 (ops.map opA) (.ptr 0 0 0) (.ptr id 0 0) (.ptr wid 0 0) (ops.length:Nat) f x123 H)=kN
   generalize hkR:(fun (b1123:Bool) (H:Heap)=>E3_1 40 (ops.map opA) (.ptr 0 0 0) (.ptr id 0 0) (.ptr wid 0 0) (ops.length:Nat) b1123 H)=kR
   -- what comes behind a step
   have fin:∀ (H':Heap) (ph':Nat) (c':Int),Two H' id cid lo hi wid v r ph' c'→X3_2_0 40 (.ptr 0 0 0) (.ptr id 0 0) (.ptr wid 0 0) (i:Nat) (.ptr q 0 0) kN kR H'=some (.bool true):=fun H' ph' c' t=>by
    unfold X3_2_0
    obtain ⟨H'',t',e⟩:=ask r hps (i:Nat) kN kR t
    rw [e,← hkN]
    simp only
    rw [show IntKind.wrap .i64 (((i:Nat):Int)+1)=((i+1:Nat):Int) by rw [i64w]; omega]
    exact play_go r ops hl hps id cid lo hi wid v k (i+1) (by omega) f (by omega) H'' ph' c' t'
   -- a cycle of both
   have cyc:∀ (G:Heap) (a b:Bool),Two G id cid lo hi wid v r ph c→∃ G1 G2,callB M (pcall M 40) 12 true 13 [.ptr id 0 0,.bool a,.bool b] G=some (.bool (stepP r ph c a b).1,G1)∧Ext2 id cid G G1∧RefM G1 wid r ph c∧hget G1 0=some ⟨E24,[rl r]⟩∧Mach G1 id cid lo hi v r (stepP r ph c a b).2.1 (stepP r ph c a b).2.2:=fun G a b t=>by
    obtain ⟨G1,e1,m1,x1⟩:=m_cycle 40 1 a b t.m
    obtain ⟨z,w⟩:=two_m t x1 m1
    exact ⟨G1,G1,e1,x1,w,z,m1⟩
   have refc:∀ (G1:Heap) (a b:Bool),hget G1 0=some ⟨E24,[rl r]⟩→Mach G1 id cid lo hi v r (stepP r ph c a b).2.1 (stepP r ph c a b).2.2→RefM G1 wid r ph c→∃ G2,callB M (pcall M 40) 12 true 14 [.ptr wid 0 0,.bool a,.bool b] G1=some (.bool (stepP r ph c a b).1,G2)∧Two G2 id cid lo hi wid v r (stepP r ph c a b).2.1 (stepP r ph c a b).2.2:=fun G1 a b z m w=>by
    obtain ⟨G2,e2,w2,k2⟩:=rw_cycle 40 3 a b w hp hlen hc
    exact ⟨G2,e2,two_w z m t0.n1 t0.n2 t0.n3 t0.n4 t0.n5 t0.n6 k2 w2⟩
   rw [L3_2_s]
   refine Eq.trans sh_ptr ?_
   refine Eq.trans (ld_ptr (v:=.int .i64 o.k) o3 rfl rfl) ?_
   refine Eq.trans (pl_int rfl) ?_
   by_cases k1:o.k=1
   ·refine Eq.trans (pl_len (by rw [k1]; rfl)) ?_
    obtain ⟨G1,-,e1,xx,w1,z1,m1⟩:=cyc H3 o.m o.t t3
    obtain ⟨G2,e2,t5⟩:=refc G1 o.m o.t z1 m1 w1
    have og:=xx _ _ nid ncid o3
    refine Eq.trans gr_nil ?_
    refine Eq.trans sh_ptr ?_
    refine Eq.trans (ld_ptr (v:=.bool o.m) o3 rfl rfl) ?_
    refine Eq.trans (pl_bool rfl) ?_
    refine Eq.trans sh_ptr ?_
    refine Eq.trans (ld_ptr (v:=.bool o.t) o3 rfl rfl) ?_
    refine Eq.trans (pl_bool rfl) ?_
    refine Eq.trans (cal_eq e1) ?_
    refine Eq.trans (pl_bool rfl) ?_
    refine Eq.trans sh_ptr ?_
    refine Eq.trans (ld_ptr (v:=.bool o.m) og rfl rfl) ?_
    refine Eq.trans (pl_bool rfl) ?_
    refine Eq.trans (keep_g o3 og) ?_
    refine Eq.trans sh_ptr ?_
    refine Eq.trans (ld_ptr (v:=.bool o.t) og rfl rfl) ?_
    refine Eq.trans (pl_bool rfl) ?_
    refine Eq.trans (keep_g o3 og) ?_
    refine Eq.trans (cal_eq e2) ?_
    refine Eq.trans (pl_bool rfl) ?_
    refine Eq.trans (pl_f (by simp)) ?_
    exact fin G2 _ _ t5
   refine Eq.trans (pl_f (beq_eq_false_iff_ne.mpr k1)) ?_
   by_cases k2:o.k=2
   ·refine Eq.trans (pl_len (by rw [k2]; rfl)) ?_
    obtain ⟨H4,y4,x4⟩:=m_wish 40 0 o.h o.w t3.m p1 p2
    have t4:=two_ext t3 x4
    have o4:=x4 _ _ o3
    obtain ⟨G1,-,e1,xx,w1,z1,m1⟩:=cyc H4 (wishX r ph hp c o.h o.w) o.t t4
    have og:=xx _ _ nid ncid o4
    obtain ⟨H6,y6,x6⟩:=rw_wish 40 3 o.h o.w w1 hp hlen
    have o6:=x6 _ _ og
    obtain ⟨G2,e2,t5⟩:=refc H6 (wishX r ph hp c o.h o.w) o.t (x6 _ _ z1) (mach_ext m1 x6) (x6 _ _ w1)
    refine Eq.trans gr_nil ?_
    refine Eq.trans sh_ptr ?_
    refine Eq.trans (ld_ptr (v:=.int .i64 o.h) o3 rfl rfl) ?_
    refine Eq.trans (pl_int rfl) ?_
    refine Eq.trans sh_ptr ?_
    refine Eq.trans (ld_ptr (v:=.bool o.w) o3 rfl rfl) ?_
    refine Eq.trans (pl_bool rfl) ?_
    refine Eq.trans (cal_eq y4) ?_
    refine Eq.trans (pl_bool rfl) ?_
    refine Eq.trans sh_ptr ?_
    refine Eq.trans (ld_ptr (v:=.bool o.t) o4 rfl rfl) ?_
    refine Eq.trans (pl_bool rfl) ?_
    refine Eq.trans (keep_g o3 o4) ?_
    refine Eq.trans (cal_eq e1) ?_
    refine Eq.trans (pl_bool rfl) ?_
    refine Eq.trans sh_ptr ?_
    refine Eq.trans (ld_ptr (v:=.int .i64 o.h) og rfl rfl) ?_
    refine Eq.trans (pl_int rfl) ?_
    refine Eq.trans (keep_g o4 og) ?_
    refine Eq.trans (keep_g o3 o4) ?_
    refine Eq.trans sh_ptr ?_
    refine Eq.trans (ld_ptr (v:=.bool o.w) og rfl rfl) ?_
    refine Eq.trans (pl_bool rfl) ?_
    refine Eq.trans (keep_g o4 og) ?_
    refine Eq.trans (keep_g o3 o4) ?_
    refine Eq.trans (cal_eq y6) ?_
    refine Eq.trans (pl_bool rfl) ?_
    refine Eq.trans sh_ptr ?_
    refine Eq.trans (ld_ptr (v:=.bool o.t) o6 rfl rfl) ?_
    refine Eq.trans (pl_bool rfl) ?_
    refine Eq.trans (keep_g og o6) ?_
    refine Eq.trans (keep_g o4 og) ?_
    refine Eq.trans (keep_g o3 o4) ?_
    refine Eq.trans (cal_eq e2) ?_
    refine Eq.trans (pl_bool rfl) ?_
    refine Eq.trans (pl_f (by simp)) ?_
    exact fin G2 _ _ t5
   refine Eq.trans (pl_f (beq_eq_false_iff_ne.mpr k2)) ?_
   -- a machine that is set
   obtain ⟨G1,e1,xx,m1⟩:=m_set 40 2 o.p o.i t3.m
   have og:=xx _ _ nid ncid o3
   have z3:=t3.z
   have zg:=xx _ _ (by have:=t3.n5; omega) (by have:=t3.n6; omega) z3
   have wg:RefM G1 wid r ph c:=xx _ _ t3.n1 t3.n2 t3.w
   generalize hX0:(fun (H:Heap)=>X3_2_0 40 (.ptr 0 0 0) (.ptr id 0 0) (.ptr wid 0 0) (i:Nat) (.ptr q 0 0) kN kR H)=X0
   generalize hR0:(fun (b895:Bool) (H:Heap)=>E3_2 40 (.ptr 0 0 0) (.ptr id 0 0) (.ptr wid 0 0) (i:Nat) (.ptr q 0 0) kN kR b895 H)=R0
   have setX:X3_3_0 40 (.ptr 0 0 0) (.ptr id 0 0) (.ptr wid 0 0) (.ptr q 0 0) R0 X0 (decide ((0≤o.p∧o.p < (r.phs.length:Nat))∧0≤o.i∧o.i≤1000000)) H3=some (.bool true):=by
    unfold X3_3_0
    refine Eq.trans sh_ptr ?_
    refine Eq.trans (ld_ptr (v:=.int .i64 o.p) o3 rfl rfl) ?_
    refine Eq.trans (pl_int rfl) ?_
    refine Eq.trans sh_ptr ?_
    refine Eq.trans (ld_ptr (v:=.int .i64 o.i) o3 rfl rfl) ?_
    refine Eq.trans (pl_int rfl) ?_
    refine Eq.trans (cal_eq e1) ?_
    refine Eq.trans (pl_bool rfl) ?_
    refine Eq.trans (pl_f (by simp)) ?_
    by_cases hok:(0≤o.p∧o.p < (r.phs.length:Nat))∧0≤o.i∧o.i≤1000000
    ·rw [if_pos hok] at m1
     rw [decide_eq_true hok,cnd_t]
     refine Eq.trans gr_nil ?_
     refine Eq.trans sh_ptr ?_
     refine Eq.trans (ld_ptr (v:=.int .i64 o.p) og rfl rfl) ?_
     refine Eq.trans (pl_int rfl) ?_
     refine Eq.trans sh_ptr ?_
     refine Eq.trans (ld_ptr (v:=.int .i64 o.i) og rfl rfl) ?_
     refine Eq.trans (pl_int rfl) ?_
     refine Eq.trans nil_ptr ?_
     refine Eq.trans sh_ptr ?_
     have wg':hget G1 wid=some ⟨E33,[rmA r ph c]⟩:=wg
     have ep:o.p=((o.p.toNat:Nat):Int):=by omega
     obtain ⟨G2,hG2⟩:∃ G2:Heap,G2=G1.set wid (some ⟨E33,[rmA r o.p.toNat c]⟩):=⟨_,rfl⟩
     have st1:∀ K:AV→Heap→Ans,C0.hop G1 (.store 1 (.v (.ptr wid 0 (0+9))) (.v (.int .i64 o.p))) K=K .undef G2:=fun K=>by rw [hG2]; exact st_ptr (el':=rmA r o.p.toNat c) wg' rfl (by rw [ep]; rfl)
     refine Eq.trans (st1 _) ?_
     have w2:hget G2 wid=some ⟨E33,[rmA r o.p.toNat c]⟩:=by rw [hG2]; exact hget_set (hg_lt wg')
     have og2:hget G2 q=some ⟨E35,[opA o]⟩:=by rw [hG2,hget_set_ne (Ne.symm nwid)]; exact og
     refine Eq.trans (keep_g og og2) ?_
     refine Eq.trans nil_ptr ?_
     refine Eq.trans sh_ptr ?_
     obtain ⟨G3,hG3⟩:∃ G3:Heap,G3=G2.set wid (some ⟨E33,[rmA r o.p.toNat o.i]⟩):=⟨_,rfl⟩
     have st2:∀ K:AV→Heap→Ans,C0.hop G2 (.store 1 (.v (.ptr wid 0 (0+10))) (.v (.int .i64 o.i))) K=K .undef G3:=fun K=>by rw [hG3]; exact st_ptr (el':=rmA r o.p.toNat o.i) w2 rfl rfl
     refine Eq.trans (st2 _) ?_
     have w3:RefM G3 wid r o.p.toNat o.i:=by unfold RefM; rw [hG3]; exact hget_set (hg_lt w2)
     rw [← hX0]
     exact fin G3 _ _ (two_w zg m1 t0.n1 t0.n2 t0.n3 t0.n4 t0.n5 t0.n6 (fun j b hj hb=>by rw [hG3]; exact rm_keep j b hj (by rw [hG2]; exact rm_keep j b hj hb)) w3)
    ·rw [if_neg hok] at m1
     rw [decide_eq_false hok,cnd_f,← hX0]
     exact fin G1 _ _ ⟨zg,m1,wg,t0.n1,t0.n2,t0.n3,t0.n4,t0.n5,t0.n6⟩
   rw [L3_3_s]
   refine Eq.trans sh_ptr ?_
   refine Eq.trans (ld_ptr (v:=.int .i64 o.p) o3 rfl rfl) ?_
   refine Eq.trans (pl_int rfl) ?_
   by_cases c1:o.p ≥ 0
   rotate_left
   ·rw [decide_eq_false c1,cnd_f]
    rw [decide_eq_false (fun k=>c1 k.1.1)] at setX
    exact setX
   rw [decide_eq_true c1,cnd_t]
   refine Eq.trans sh_ptr ?_
   refine Eq.trans (ld_ptr (v:=.int .i64 o.p) o3 rfl rfl) ?_
   refine Eq.trans (pl_int rfl) ?_
   refine Eq.trans sh_ptr ?_
   refine Eq.trans (ld_ptr (v:=.lst (r.phs.map phA)) z3 rfl rfl) ?_
   refine Eq.trans len_lst ?_
   refine Eq.trans (pl_int rfl) ?_
   rw [List.length_map]
   by_cases c2:o.p < (r.phs.length:Nat)
   rotate_left
   ·rw [decide_eq_false c2,cnd_f]
    rw [decide_eq_false (fun k=>c2 k.1.2)] at setX
    exact setX
   rw [decide_eq_true c2,cnd_t]
   refine Eq.trans sh_ptr ?_
   refine Eq.trans (ld_ptr (v:=.int .i64 o.i) o3 rfl rfl) ?_
   refine Eq.trans (pl_int rfl) ?_
   by_cases c3:o.i ≥ 0
   rotate_left
   ·rw [decide_eq_false c3,cnd_f]
    rw [decide_eq_false (fun k=>c3 k.2.1)] at setX
    exact setX
   rw [decide_eq_true c3,cnd_t]
   refine Eq.trans sh_ptr ?_
   refine Eq.trans (ld_ptr (v:=.int .i64 o.i) o3 rfl rfl) ?_
   refine Eq.trans (pl_int rfl) ?_
   have ed:decide ((0≤o.p∧o.p < (r.phs.length:Nat))∧0≤o.i∧o.i≤1000000)=decide (o.i≤1000000):=by rw [decide_eq_decide]; exact ⟨fun k=>k.2.2,fun k=>⟨⟨c1,c2⟩,c3,k⟩⟩
   rw [ed] at setX
   exact setX
theorem plays_law (r:Rul) (ops:List Op21) (hl:r.phs.length≤9223372036854775807):pcall M 41 3 [rl r,.lst (ops.map opA)]=some (.bool true):=told (q3 40 _ _ _ _ _ _ _ _ _ _) (by
 let Z:Heap:=[some ⟨E24,[rl r]⟩]
 have hz:hget Z 0=some ⟨E24,[rl r]⟩:=rfl
 refine Eq.trans (hop_eq (v:=.ptr 0 0 0) (H':=Z) (by rfl)) ?_
 rw [L3_0_s]
 refine Eq.trans (pl_bool awake) ?_
 refine Eq.trans (pl_f (by rfl)) ?_
 refine Eq.trans (ld_ptr (v:=rl r) hz rfl rfl) ?_
 refine Eq.trans (pl_agg rfl rfl) ?_
 refine Eq.trans (pl_any rfl) ?_
 iterate 8 (refine Eq.trans (pl_int rfl) ?_)
 refine Eq.trans (snp_free (by rfl)) ?_
 refine Eq.trans (pl_bool (s8 39 r hl)) ?_
 refine Eq.trans (pl_len (by rfl)) ?_
 by_cases hf:fewX r.phs=true
 rotate_left
 ·refine Eq.trans (pl_len (by rw [Bool.eq_false_iff.mpr hf]; rfl)) ?_
  unfold X3_0_0
  rw [cnd_t]
  refine Eq.trans (pl_bool awake) ?_
  exact fin_bl
 refine Eq.trans (pl_f (by rw [hf]; rfl)) ?_
 obtain ⟨f1,f2⟩:=few_t hf
 have ha:∀ p ∈ r.phs,p.ps.length≤140737488355328:=fun p hp=>by have:=f1 p hp; omega
 refine Eq.trans len_lst ?_
 refine Eq.trans (pl_int rfl) ?_
 rw [List.length_map]
 unfold X3_0_0
 by_cases hn:ops.length≤200
 rotate_left
 ·rw [decide_eq_true (by omega),cnd_t]
  refine Eq.trans (pl_bool awake) ?_
  exact fin_bl
 rw [decide_eq_false (by omega),cnd_f]
 refine Eq.trans (ld_ptr (v:=rl r) hz rfl rfl) ?_
 refine Eq.trans (pl_agg rfl rfl) ?_
 refine Eq.trans (pl_any rfl) ?_
 iterate 8 (refine Eq.trans (pl_int rfl) ?_)
 by_cases hw:wrongX r=0
 rotate_left
 ·obtain ⟨H',e1,e2⟩:=new_bad r Z (by omega) ha hw
  have hz':=e2 _ _ hz
  refine Eq.trans (cal_eq e1) ?_
  refine Eq.trans (pl_any rfl) ?_
  refine Eq.trans (ld_ptr (v:=rl r) hz' rfl rfl) ?_
  refine Eq.trans (pl_agg rfl rfl) ?_
  refine Eq.trans (pl_any rfl) ?_
  iterate 8 (refine Eq.trans (pl_int rfl) ?_)
  refine Eq.trans (snp_free (by rfl)) ?_
  refine Eq.trans (pl_int (s10 29 r (by omega) ha)) ?_
  refine Eq.trans (pl_len (by rfl)) ?_
  refine Eq.trans (pl_len (by simpa using hw)) ?_
  refine Eq.trans (hop_eq (v:=.bool true) (H':=H') rfl) ?_
  refine Eq.trans (pl_bool rfl) ?_
  exact fin_bl
 obtain ⟨w1,w2⟩:=wrong_ph hw
 obtain ⟨id,cid,lo,hi,v,H',e1,e2,e3,e4,e5,e6⟩:=new_ok r Z (by omega) (fun p hp=>by have:=f1 p hp; omega) (by omega) hw
 have hz':=e2 _ _ hz
 refine Eq.trans (cal_eq e1) ?_
 refine Eq.trans (pl_any rfl) ?_
 refine Eq.trans (ld_ptr (v:=rl r) hz' rfl rfl) ?_
 refine Eq.trans (pl_agg rfl rfl) ?_
 refine Eq.trans (pl_any rfl) ?_
 iterate 8 (refine Eq.trans (pl_int rfl) ?_)
 refine Eq.trans (snp_free (by rfl)) ?_
 refine Eq.trans (pl_int (s10 29 r (by omega) ha)) ?_
 refine Eq.trans (pl_len (by rfl)) ?_
 refine Eq.trans (pl_f (by simp [hw])) ?_
 refine Eq.trans nil_f ?_
 refine Eq.trans (pl_bool rfl) ?_
 rw [cnd_f]
 refine Eq.trans (ld_ptr (v:=rl r) hz' rfl rfl) ?_
 refine Eq.trans (pl_agg rfl rfl) ?_
 refine Eq.trans (pl_any rfl) ?_
 iterate 8 (refine Eq.trans (pl_int rfl) ?_)
 refine Eq.trans (hop_eq (v:=rmA r 0 0) (H':=H') rfl) ?_
 refine Eq.trans (pl_agg rfl rfl) ?_
 refine Eq.trans (pl_any rfl) ?_
 iterate 10 (refine Eq.trans (pl_int rfl) ?_)
 refine Eq.trans (bx_n (by rfl)) ?_
 refine Eq.trans len_lst ?_
 refine Eq.trans (pl_int rfl) ?_
 rw [List.length_map]
 have l1:=hg_lt e3.m
 have l2:=hg_lt e3.k
 have l3:=hg_lt hz'
 exact play_go r ops hn (fun p hp=>⟨w2 p hp,by have:=f1 p hp; omega⟩) id cid lo hi (H'.length+0) v ops.length 0 (by omega) 10000000000000000000 (by omega) _ 0 0
  ⟨hget_app hz',mach_ext e3 (Ext.app _ _),hget_new,by omega,by omega,by omega,by have:=e3.h1; omega,by omega,by omega⟩)
theorem law_PhasePlays (a0:AV) (a1:AV) (w0:TyOK true [(.sl true [(.sl true [(.i .i64),(.i .i64)]),(.i .i64),(.i .i64),(.i .i64),(.i .i64)]),(.i .i64),(.i .i64),(.i .i64),(.i .i64),(.i .i64),(.i .i64),(.i .i64),(.i .i64)] a0) (w1:TyOK false [(.sl true [(.i .i64),(.i .i64),(.i .i64),.b,.b,.b,(.i .i64)])] a1) :
 pcall M 41 3 [a0,a1]=some (.bool true):=by
 obtain ⟨r,rfl,hl⟩:=ty_rul w0
 obtain ⟨_,rfl,_,_,e,⟨l,rfl,hl',hx⟩,rfl⟩:=w1
 obtain ⟨ops,rfl⟩:=rows_op l hx
 injection e with e _
 subst e
 exact plays_law r ops hl
end Go.Proofs.Ytdceaeifcniabaa.AE

namespace Go.Proofs.Ytdceaeifcniabaa.AE
set_option linter.unusedVariables false
set_option linter.unusedSimpArgs false
set_option linter.constructorNameAsVariable false
open Go Go.RowKit

theorem frl_nil {w:World} {bad:Nat→Prop}:∀ (i:Nat) (c:AV) (u:Value),([]:List AV)[i]?=some c→([]:List Value)[i]?=some u→FRep w bad c u:=fun _ _ _ h=>by cases h
theorem frl_cons {w:World} {bad:Nat→Prop} {c0:AV} {u0:Value} {cs:List AV} {us:List Value} (h0:FRep w bad c0 u0) (h:∀ (i:Nat) (c:AV) (u:Value),cs[i]?=some c→us[i]?=some u→FRep w bad c u) :
 ∀ (i:Nat) (c:AV) (u:Value),(c0::cs)[i]?=some c→(u0::us)[i]?=some u→FRep w bad c u
 | 0,c,u,hc,hu=>by cases hc; cases hu; exact h0
 | i+1,c,u,hc,hu=>h i c u hc hu
theorem law_calls {d:Nat} {g:FuncId} {args:List AV} {vs:List Value} (h:pcall M d g args=some (.bool true)) (W:World) (hl:args.length=vs.length)
 (hr:∀ (i:Nat) (c:AV) (u:Value),args[i]?=some c→vs[i]?=some u→FRep W (fun _=>False) c u) (hc:(cFn Try.prog g).isSome=true:=by kernel_rfl):Calls Try.prog g vs.toArray W fun e W'=>e=.returned (.bool true)∧Below W.heap.size W W':=by
 obtain ⟨fn,hfn⟩:=Option.isSome_iff_exists.mp hc
 rcases pcall_law modOK d g args _ h W (fun _=>False) vs (fun _ h=>h.elim) hl hr with ⟨cv,w',h1,_⟩ | ⟨_,h2⟩
 ·rw [enter_run hfn] at h1; cases h1
 ·refine h2.mono ?_
  rintro e W' ⟨cv,rfl,hf,hb⟩
  cases hf
  exact ⟨rfl,hb⟩
theorem str_size {w:World} {bad:Nat→Prop} {b:List UInt8} {s:ByteArray} (h:FRep w bad (.str b) (.string s)):s.data.toList.length=b.length:=by
 cases h
 rfl
end Go.Proofs.Ytdceaeifcniabaa.AE
