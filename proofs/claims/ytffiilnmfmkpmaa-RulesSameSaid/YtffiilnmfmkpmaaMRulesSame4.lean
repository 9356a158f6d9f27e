/- The texts that the law RulesSame needs, part 4. No conditions. -/
import Derived.Test.YtffiilnmfmkpmaaMRulesSame3
namespace Go.Proofs.Ytffiilnmfmkpmaa.AE
set_option linter.unusedVariables false
set_option linter.unusedSimpArgs false
set_option linter.constructorNameAsVariable false
open Go
set_option maxRecDepth 100000
set_option maxHeartbeats 0
noncomputable def X4_1_0 (d : Nat) (v86 : AV) (x268 x334 : Int) (k264N : Int → Heap → Ans) (H : Heap) : Ans :=
  k264N (IntKind.wrap .i64 (x268 + 1)) H
theorem X4_1_0_ok (d : Nat) (a0 : List AV) (a1 a2 a3 a4 a5 a6 a7 a8 : Int) (a9 : List AV) (a10 a11 a12 a13 a14 a15 a16 a17 : Int) (v0 v2 : AV) (b4 : Bool) (v9 : AV) (x10 x11 x12 x13 x14 x15 x16 x17 : Int) (b20 : Bool) (v25 : AV) (x26 x27 x28 x29 x30 x31 x32 x33 : Int) (b36 : Bool) (v41 : AV) (x42 x43 x44 x45 x46 x47 x48 x49 : Int) (v53 : AV) (x54 x55 x56 x57 x58 x59 x60 x61 : Int) (v65 : AV) (x66 x67 x68 x69 x70 x71 x72 x73 : Int) (v77 : AV) (x78 x79 x80 x81 x82 x83 x84 x85 : Int) (v86 v88 v97 : AV) (x98 x99 x100 x101 x102 x103 x104 x105 : Int) (v109 : AV) (x110 x111 x112 x113 x114 x115 x116 x117 : Int) (b120 : Bool) (v124 : AV) (x125 x126 x127 x128 x129 x130 x131 x132 : Int) (v136 : AV) (x137 x138 x139 x140 x141 x142 x143 x144 : Int) (b147 : Bool) (v151 : AV) (x152 x153 x154 x155 x156 x157 x158 x159 : Int) (v163 : AV) (x164 x165 x166 x167 x168 x169 x170 x171 : Int) (b174 : Bool) (v178 : AV) (x179 x180 x181 x182 x183 x184 x185 x186 : Int) (v190 : AV) (x191 x192 x193 x194 x195 x196 x197 x198 : Int) (b201 : Bool) (v205 : AV) (x206 x207 x208 x209 x210 x211 x212 x213 : Int) (v217 : AV) (x218 x219 x220 x221 x222 x223 x224 x225 : Int) (b228 : Bool) (v232 : AV) (x233 x234 x235 x236 x237 x238 x239 x240 : Int) (v244 : AV) (x245 x246 x247 x248 x249 x250 x251 x252 : Int) (b255 : Bool) (v256 v258 : AV) (x262 : Int) (k264 : Ex → St → Ans) (x268 : Int) (v304 v305 v307 v309 v311 : AV) (x315 : Int) (v316 v318 v322 v324 v326 v328 v330 : AV) (x334 : Int) (k264N : Int → Heap → Ans) (hk264N : ∀ (v266 v267 : AV) (x268 : Int) (v269 v270 v271 v272 v273 v274 v275 v276 v277 v278 v279 v280 v281 v282 v283 v284 v285 v286 v287 v288 v289 v290 v291 v292 v293 v294 v295 v296 v297 v298 v299 v300 v301 v302 v303 v304 : AV) (H : Heap), k264 .normal ⟨[(.agg [(.lst a0), (iz a1), (iz a2), (iz a3), (iz a4), (iz a5), (iz a6), (iz a7), (iz a8)]), (.agg [(.lst a9), (iz a10), (iz a11), (iz a12), (iz a13), (iz a14), (iz a15), (iz a16), (iz a17)]), v0, v2, bf, v86, v88, v266, v267, (.bool b4), (.bool (!b4)), bf, (.agg [v9, (iz x10), (iz x11), (iz x12), (iz x13), (iz x14), (iz x15), (iz x16), (iz x17)]), (.bool b20), (.bool (!b20)), (.bool (!b20)), bf, (.agg [v25, (iz x26), (iz x27), (iz x28), (iz x29), (iz x30), (iz x31), (iz x32), (iz x33)]), (.bool b36), (.bool (!b36)), bf, tz, (.agg [v41, (iz x42), (iz x43), (iz x44), (iz x45), (iz x46), (iz x47), (iz x48), (iz x49)]), (.agg [v53, (iz x54), (iz x55), (iz x56), (iz x57), (iz x58), (iz x59), (iz x60), (iz x61)]), (.agg [v65, (iz x66), (iz x67), (iz x68), (iz x69), (iz x70), (iz x71), (iz x72), (iz x73)]), (.agg [v77, (iz x78), (iz x79), (iz x80), (iz x81), (iz x82), (iz x83), (iz x84), (iz x85)]), (.agg [v97, (iz x98), (iz x99), (iz x100), (iz x101), (iz x102), (iz x103), (iz x104), (iz x105)]), (.agg [v109, (iz x110), (iz x111), (iz x112), (iz x113), (iz x114), (iz x115), (iz x116), (iz x117)]), (.bool b120), (.bool (!b120)), bf, (.agg [v124, (iz x125), (iz x126), (iz x127), (iz x128), (iz x129), (iz x130), (iz x131), (iz x132)]), (.agg [v136, (iz x137), (iz x138), (iz x139), (iz x140), (iz x141), (iz x142), (iz x143), (iz x144)]), (.bool b147), (.bool (!b147)), (.bool (!b147)), bf, (.agg [v151, (iz x152), (iz x153), (iz x154), (iz x155), (iz x156), (iz x157), (iz x158), (iz x159)]), (.agg [v163, (iz x164), (iz x165), (iz x166), (iz x167), (iz x168), (iz x169), (iz x170), (iz x171)]), (.bool b174), (.agg [v178, (iz x179), (iz x180), (iz x181), (iz x182), (iz x183), (iz x184), (iz x185), (iz x186)]), (.agg [v190, (iz x191), (iz x192), (iz x193), (iz x194), (iz x195), (iz x196), (iz x197), (iz x198)]), (.bool b201), (.bool (xor true (b174 == b201))), (.bool (xor true (b174 == b201))), bf, (.agg [v205, (iz x206), (iz x207), (iz x208), (iz x209), (iz x210), (iz x211), (iz x212), (iz x213)]), (.agg [v217, (iz x218), (iz x219), (iz x220), (iz x221), (iz x222), (iz x223), (iz x224), (iz x225)]), (.bool b228), (.agg [v232, (iz x233), (iz x234), (iz x235), (iz x236), (iz x237), (iz x238), (iz x239), (iz x240)]), (.agg [v244, (iz x245), (iz x246), (iz x247), (iz x248), (iz x249), (iz x250), (iz x251), (iz x252)]), (.bool b255), (.bool (xor true (b228 == b255))), bf, v256, v258, (iz x262), (iz x268), v269, v270, v271, v272, v273, v274, v275, v276, v277, v278, v279, v280, v281, v282, v283, v284, v285, v286, v287, v288, v289, v290, v291, v292, v293, v294, v295, v296, v297, v298, v299, v300, v301, v302, v303, v304, tz, tz, tz], H⟩ = k264N x268 H) (v380 : AV) (x381 : Int) (v382 v383 v384 v385 v386 v387 v388 v389 v390 v391 v392 v393 v394 v395 v396 v397 : AV) (H : Heap) : r4X1_0 C0 d a0 a1 a2 a3 a4 a5 a6 a7 a8 a9 a10 a11 a12 a13 a14 a15 a16 a17 v0 v2 b4 v9 x10 x11 x12 x13 x14 x15 x16 x17 b20 v25 x26 x27 x28 x29 x30 x31 x32 x33 b36 v41 x42 x43 x44 x45 x46 x47 x48 x49 v53 x54 x55 x56 x57 x58 x59 x60 x61 v65 x66 x67 x68 x69 x70 x71 x72 x73 v77 x78 x79 x80 x81 x82 x83 x84 x85 v86 v88 v97 x98 x99 x100 x101 x102 x103 x104 x105 v109 x110 x111 x112 x113 x114 x115 x116 x117 b120 v124 x125 x126 x127 x128 x129 x130 x131 x132 v136 x137 x138 x139 x140 x141 x142 x143 x144 b147 v151 x152 x153 x154 x155 x156 x157 x158 x159 v163 x164 x165 x166 x167 x168 x169 x170 x171 b174 v178 x179 x180 x181 x182 x183 x184 x185 x186 v190 x191 x192 x193 x194 x195 x196 x197 x198 b201 v205 x206 x207 x208 x209 x210 x211 x212 x213 v217 x218 x219 x220 x221 x222 x223 x224 x225 b228 v232 x233 x234 x235 x236 x237 x238 x239 x240 v244 x245 x246 x247 x248 x249 x250 x251 x252 b255 v256 v258 x262 k264 x268 v304 v305 v307 v309 v311 x315 v316 v318 v322 v324 v326 v328 v330 x334 ⟨[(.agg [(.lst a0), (iz a1), (iz a2), (iz a3), (iz a4), (iz a5), (iz a6), (iz a7), (iz a8)]), (.agg [(.lst a9), (iz a10), (iz a11), (iz a12), (iz a13), (iz a14), (iz a15), (iz a16), (iz a17)]), v0, v2, bf, v86, v88, (iz x268), v380, (.bool b4), (.bool (!b4)), bf, (.agg [v9, (iz x10), (iz x11), (iz x12), (iz x13), (iz x14), (iz x15), (iz x16), (iz x17)]), (.bool b20), (.bool (!b20)), (.bool (!b20)), bf, (.agg [v25, (iz x26), (iz x27), (iz x28), (iz x29), (iz x30), (iz x31), (iz x32), (iz x33)]), (.bool b36), (.bool (!b36)), bf, tz, (.agg [v41, (iz x42), (iz x43), (iz x44), (iz x45), (iz x46), (iz x47), (iz x48), (iz x49)]), (.agg [v53, (iz x54), (iz x55), (iz x56), (iz x57), (iz x58), (iz x59), (iz x60), (iz x61)]), (.agg [v65, (iz x66), (iz x67), (iz x68), (iz x69), (iz x70), (iz x71), (iz x72), (iz x73)]), (.agg [v77, (iz x78), (iz x79), (iz x80), (iz x81), (iz x82), (iz x83), (iz x84), (iz x85)]), (.agg [v97, (iz x98), (iz x99), (iz x100), (iz x101), (iz x102), (iz x103), (iz x104), (iz x105)]), (.agg [v109, (iz x110), (iz x111), (iz x112), (iz x113), (iz x114), (iz x115), (iz x116), (iz x117)]), (.bool b120), (.bool (!b120)), bf, (.agg [v124, (iz x125), (iz x126), (iz x127), (iz x128), (iz x129), (iz x130), (iz x131), (iz x132)]), (.agg [v136, (iz x137), (iz x138), (iz x139), (iz x140), (iz x141), (iz x142), (iz x143), (iz x144)]), (.bool b147), (.bool (!b147)), (.bool (!b147)), bf, (.agg [v151, (iz x152), (iz x153), (iz x154), (iz x155), (iz x156), (iz x157), (iz x158), (iz x159)]), (.agg [v163, (iz x164), (iz x165), (iz x166), (iz x167), (iz x168), (iz x169), (iz x170), (iz x171)]), (.bool b174), (.agg [v178, (iz x179), (iz x180), (iz x181), (iz x182), (iz x183), (iz x184), (iz x185), (iz x186)]), (.agg [v190, (iz x191), (iz x192), (iz x193), (iz x194), (iz x195), (iz x196), (iz x197), (iz x198)]), (.bool b201), (.bool (xor true (b174 == b201))), (.bool (xor true (b174 == b201))), bf, (.agg [v205, (iz x206), (iz x207), (iz x208), (iz x209), (iz x210), (iz x211), (iz x212), (iz x213)]), (.agg [v217, (iz x218), (iz x219), (iz x220), (iz x221), (iz x222), (iz x223), (iz x224), (iz x225)]), (.bool b228), (.agg [v232, (iz x233), (iz x234), (iz x235), (iz x236), (iz x237), (iz x238), (iz x239), (iz x240)]), (.agg [v244, (iz x245), (iz x246), (iz x247), (iz x248), (iz x249), (iz x250), (iz x251), (iz x252)]), (.bool b255), (.bool (xor true (b228 == b255))), bf, v256, v258, (iz x262), (iz x268), bt, (iz x268), v305, v307, (iz x268), v309, v311, (iz x315), (iz (IntKind.wrap .i64 (x315 + 1))), v316, v318, v322, v324, (iz x268), v326, v328, v330, (iz x334), (iz x381), v382, v383, v384, v385, v386, v387, v388, v389, v390, v391, v392, v393, v394, v395, v396, v397, v304, tz, tz, tz], H⟩ = X4_1_0 d v86 x268 x334 k264N H := by
  try dsimp only at hk264N
  unfold r4X1_0; refine Eq.trans (pl_len (by rfl)) ?_; (iterate 8 (refine yt yS ?_)); refine yt yA ?_; (iterate 67 (refine yt yS ?_)); refine yt yI ?_; (iterate 16 (refine yt yA ?_)); (iterate 4 (refine yt yS ?_))
  first | (simp only [hk264N] <;> rfl) | rfl
noncomputable def L4_1 (d : Nat) (v86 : AV) (x268 x334 : Int) (k264N : Int → Heap → Ans) : Nat → Int → Heap → Ans
  | 0, _, _ => none
  | n + 1, x339, H =>
  cnd (decide (x339 < x334))
   (C0.hop H (.fldA 0 (.v v86)) fun v356 h357 =>
   C0.hop h357 (.load false 1 (.v v356)) fun v358 h359 =>
   C0.hop h359 (.ixAS .any 5 (.v v358) (.v (iz x268))) fun v360 h361 =>
   C0.hop h361 (.fldA 0 (.v v360)) fun v362 h363 =>
   C0.hop h363 (.load false 1 (.v v362)) fun v364 h365 =>
   C0.hop h365 (.ixAS .any 2 (.v v364) (.v (iz x339))) fun v366 h367 =>
   C0.hop h367 (.fldA 0 (.v v366)) fun v368 h369 =>
   C0.hop h369 (.load false 1 (.v v368)) fun v370 h371 =>
   C0.int .i64 (some v370) fun x372 =>
   C0.hop h371 (.ixAS .any 2 (.v v364) (.v (iz x339))) fun v373 h374 =>
   C0.hop h374 (.fldA 0 (.v v373)) fun v375 h376 =>
   C0.hop h376 (.store 1 (.v v375) (.v (iz (IntKind.wrap .i64 (x372 + 1))))) fun v377 h378 =>
   L4_1 d v86 x268 x334 k264N n (IntKind.wrap .i64 (x339 + 1)) h378)
   (X4_1_0 d v86 x268 x334 k264N H)
theorem L4_1_s (d : Nat) (v86 : AV) (x268 x334 : Int) (k264N : Int → Heap → Ans) (n : Nat) (x339 : Int) (H : Heap) : L4_1 d v86 x268 x334 k264N (n + 1) x339 H = (cnd (decide (x339 < x334))
   (C0.hop H (.fldA 0 (.v v86)) fun v356 h357 =>
   C0.hop h357 (.load false 1 (.v v356)) fun v358 h359 =>
   C0.hop h359 (.ixAS .any 5 (.v v358) (.v (iz x268))) fun v360 h361 =>
   C0.hop h361 (.fldA 0 (.v v360)) fun v362 h363 =>
   C0.hop h363 (.load false 1 (.v v362)) fun v364 h365 =>
   C0.hop h365 (.ixAS .any 2 (.v v364) (.v (iz x339))) fun v366 h367 =>
   C0.hop h367 (.fldA 0 (.v v366)) fun v368 h369 =>
   C0.hop h369 (.load false 1 (.v v368)) fun v370 h371 =>
   C0.int .i64 (some v370) fun x372 =>
   C0.hop h371 (.ixAS .any 2 (.v v364) (.v (iz x339))) fun v373 h374 =>
   C0.hop h374 (.fldA 0 (.v v373)) fun v375 h376 =>
   C0.hop h376 (.store 1 (.v v375) (.v (iz (IntKind.wrap .i64 (x372 + 1))))) fun v377 h378 =>
   L4_1 d v86 x268 x334 k264N n (IntKind.wrap .i64 (x339 + 1)) h378)
   (X4_1_0 d v86 x268 x334 k264N H)) := by kernel_rfl
theorem it4_1 (d : Nat) (a0 : List AV) (a1 a2 a3 a4 a5 a6 a7 a8 : Int) (a9 : List AV) (a10 a11 a12 a13 a14 a15 a16 a17 : Int) (v0 v2 : AV) (b4 : Bool) (v9 : AV) (x10 x11 x12 x13 x14 x15 x16 x17 : Int) (b20 : Bool) (v25 : AV) (x26 x27 x28 x29 x30 x31 x32 x33 : Int) (b36 : Bool) (v41 : AV) (x42 x43 x44 x45 x46 x47 x48 x49 : Int) (v53 : AV) (x54 x55 x56 x57 x58 x59 x60 x61 : Int) (v65 : AV) (x66 x67 x68 x69 x70 x71 x72 x73 : Int) (v77 : AV) (x78 x79 x80 x81 x82 x83 x84 x85 : Int) (v86 v88 v97 : AV) (x98 x99 x100 x101 x102 x103 x104 x105 : Int) (v109 : AV) (x110 x111 x112 x113 x114 x115 x116 x117 : Int) (b120 : Bool) (v124 : AV) (x125 x126 x127 x128 x129 x130 x131 x132 : Int) (v136 : AV) (x137 x138 x139 x140 x141 x142 x143 x144 : Int) (b147 : Bool) (v151 : AV) (x152 x153 x154 x155 x156 x157 x158 x159 : Int) (v163 : AV) (x164 x165 x166 x167 x168 x169 x170 x171 : Int) (b174 : Bool) (v178 : AV) (x179 x180 x181 x182 x183 x184 x185 x186 : Int) (v190 : AV) (x191 x192 x193 x194 x195 x196 x197 x198 : Int) (b201 : Bool) (v205 : AV) (x206 x207 x208 x209 x210 x211 x212 x213 : Int) (v217 : AV) (x218 x219 x220 x221 x222 x223 x224 x225 : Int) (b228 : Bool) (v232 : AV) (x233 x234 x235 x236 x237 x238 x239 x240 : Int) (v244 : AV) (x245 x246 x247 x248 x249 x250 x251 x252 : Int) (b255 : Bool) (v256 v258 : AV) (x262 : Int) (k264 : Ex → St → Ans) (x268 : Int) (v304 v305 v307 v309 v311 : AV) (x315 : Int) (v316 v318 v322 v324 v326 v328 v330 : AV) (x334 : Int) (k264N : Int → Heap → Ans) (hk264N : ∀ (v266 v267 : AV) (x268 : Int) (v269 v270 v271 v272 v273 v274 v275 v276 v277 v278 v279 v280 v281 v282 v283 v284 v285 v286 v287 v288 v289 v290 v291 v292 v293 v294 v295 v296 v297 v298 v299 v300 v301 v302 v303 v304 : AV) (H : Heap), k264 .normal ⟨[(.agg [(.lst a0), (iz a1), (iz a2), (iz a3), (iz a4), (iz a5), (iz a6), (iz a7), (iz a8)]), (.agg [(.lst a9), (iz a10), (iz a11), (iz a12), (iz a13), (iz a14), (iz a15), (iz a16), (iz a17)]), v0, v2, bf, v86, v88, v266, v267, (.bool b4), (.bool (!b4)), bf, (.agg [v9, (iz x10), (iz x11), (iz x12), (iz x13), (iz x14), (iz x15), (iz x16), (iz x17)]), (.bool b20), (.bool (!b20)), (.bool (!b20)), bf, (.agg [v25, (iz x26), (iz x27), (iz x28), (iz x29), (iz x30), (iz x31), (iz x32), (iz x33)]), (.bool b36), (.bool (!b36)), bf, tz, (.agg [v41, (iz x42), (iz x43), (iz x44), (iz x45), (iz x46), (iz x47), (iz x48), (iz x49)]), (.agg [v53, (iz x54), (iz x55), (iz x56), (iz x57), (iz x58), (iz x59), (iz x60), (iz x61)]), (.agg [v65, (iz x66), (iz x67), (iz x68), (iz x69), (iz x70), (iz x71), (iz x72), (iz x73)]), (.agg [v77, (iz x78), (iz x79), (iz x80), (iz x81), (iz x82), (iz x83), (iz x84), (iz x85)]), (.agg [v97, (iz x98), (iz x99), (iz x100), (iz x101), (iz x102), (iz x103), (iz x104), (iz x105)]), (.agg [v109, (iz x110), (iz x111), (iz x112), (iz x113), (iz x114), (iz x115), (iz x116), (iz x117)]), (.bool b120), (.bool (!b120)), bf, (.agg [v124, (iz x125), (iz x126), (iz x127), (iz x128), (iz x129), (iz x130), (iz x131), (iz x132)]), (.agg [v136, (iz x137), (iz x138), (iz x139), (iz x140), (iz x141), (iz x142), (iz x143), (iz x144)]), (.bool b147), (.bool (!b147)), (.bool (!b147)), bf, (.agg [v151, (iz x152), (iz x153), (iz x154), (iz x155), (iz x156), (iz x157), (iz x158), (iz x159)]), (.agg [v163, (iz x164), (iz x165), (iz x166), (iz x167), (iz x168), (iz x169), (iz x170), (iz x171)]), (.bool b174), (.agg [v178, (iz x179), (iz x180), (iz x181), (iz x182), (iz x183), (iz x184), (iz x185), (iz x186)]), (.agg [v190, (iz x191), (iz x192), (iz x193), (iz x194), (iz x195), (iz x196), (iz x197), (iz x198)]), (.bool b201), (.bool (xor true (b174 == b201))), (.bool (xor true (b174 == b201))), bf, (.agg [v205, (iz x206), (iz x207), (iz x208), (iz x209), (iz x210), (iz x211), (iz x212), (iz x213)]), (.agg [v217, (iz x218), (iz x219), (iz x220), (iz x221), (iz x222), (iz x223), (iz x224), (iz x225)]), (.bool b228), (.agg [v232, (iz x233), (iz x234), (iz x235), (iz x236), (iz x237), (iz x238), (iz x239), (iz x240)]), (.agg [v244, (iz x245), (iz x246), (iz x247), (iz x248), (iz x249), (iz x250), (iz x251), (iz x252)]), (.bool b255), (.bool (xor true (b228 == b255))), bf, v256, v258, (iz x262), (iz x268), v269, v270, v271, v272, v273, v274, v275, v276, v277, v278, v279, v280, v281, v282, v283, v284, v285, v286, v287, v288, v289, v290, v291, v292, v293, v294, v295, v296, v297, v298, v299, v300, v301, v302, v303, v304, tz, tz, tz], H⟩ = k264N x268 H) : ∀ (n : Nat) (v338 : AV) (x339 : Int) (v340 v341 v342 v343 v344 v345 v346 v347 v348 v349 v350 v351 v352 v353 v354 v355 : AV) (H : Heap), C0.iter (r4R1 C0 d a0 a1 a2 a3 a4 a5 a6 a7 a8 a9 a10 a11 a12 a13 a14 a15 a16 a17 v0 v2 b4 v9 x10 x11 x12 x13 x14 x15 x16 x17 b20 v25 x26 x27 x28 x29 x30 x31 x32 x33 b36 v41 x42 x43 x44 x45 x46 x47 x48 x49 v53 x54 x55 x56 x57 x58 x59 x60 x61 v65 x66 x67 x68 x69 x70 x71 x72 x73 v77 x78 x79 x80 x81 x82 x83 x84 x85 v86 v88 v97 x98 x99 x100 x101 x102 x103 x104 x105 v109 x110 x111 x112 x113 x114 x115 x116 x117 b120 v124 x125 x126 x127 x128 x129 x130 x131 x132 v136 x137 x138 x139 x140 x141 x142 x143 x144 b147 v151 x152 x153 x154 x155 x156 x157 x158 x159 v163 x164 x165 x166 x167 x168 x169 x170 x171 b174 v178 x179 x180 x181 x182 x183 x184 x185 x186 v190 x191 x192 x193 x194 x195 x196 x197 x198 b201 v205 x206 x207 x208 x209 x210 x211 x212 x213 v217 x218 x219 x220 x221 x222 x223 x224 x225 b228 v232 x233 x234 x235 x236 x237 x238 x239 x240 v244 x245 x246 x247 x248 x249 x250 x251 x252 b255 v256 v258 x262 k264 x268 v304 v305 v307 v309 v311 x315 v316 v318 v322 v324 v326 v328 v330 x334) n ⟨[(.agg [(.lst a0), (iz a1), (iz a2), (iz a3), (iz a4), (iz a5), (iz a6), (iz a7), (iz a8)]), (.agg [(.lst a9), (iz a10), (iz a11), (iz a12), (iz a13), (iz a14), (iz a15), (iz a16), (iz a17)]), v0, v2, bf, v86, v88, (iz x268), v338, (.bool b4), (.bool (!b4)), bf, (.agg [v9, (iz x10), (iz x11), (iz x12), (iz x13), (iz x14), (iz x15), (iz x16), (iz x17)]), (.bool b20), (.bool (!b20)), (.bool (!b20)), bf, (.agg [v25, (iz x26), (iz x27), (iz x28), (iz x29), (iz x30), (iz x31), (iz x32), (iz x33)]), (.bool b36), (.bool (!b36)), bf, tz, (.agg [v41, (iz x42), (iz x43), (iz x44), (iz x45), (iz x46), (iz x47), (iz x48), (iz x49)]), (.agg [v53, (iz x54), (iz x55), (iz x56), (iz x57), (iz x58), (iz x59), (iz x60), (iz x61)]), (.agg [v65, (iz x66), (iz x67), (iz x68), (iz x69), (iz x70), (iz x71), (iz x72), (iz x73)]), (.agg [v77, (iz x78), (iz x79), (iz x80), (iz x81), (iz x82), (iz x83), (iz x84), (iz x85)]), (.agg [v97, (iz x98), (iz x99), (iz x100), (iz x101), (iz x102), (iz x103), (iz x104), (iz x105)]), (.agg [v109, (iz x110), (iz x111), (iz x112), (iz x113), (iz x114), (iz x115), (iz x116), (iz x117)]), (.bool b120), (.bool (!b120)), bf, (.agg [v124, (iz x125), (iz x126), (iz x127), (iz x128), (iz x129), (iz x130), (iz x131), (iz x132)]), (.agg [v136, (iz x137), (iz x138), (iz x139), (iz x140), (iz x141), (iz x142), (iz x143), (iz x144)]), (.bool b147), (.bool (!b147)), (.bool (!b147)), bf, (.agg [v151, (iz x152), (iz x153), (iz x154), (iz x155), (iz x156), (iz x157), (iz x158), (iz x159)]), (.agg [v163, (iz x164), (iz x165), (iz x166), (iz x167), (iz x168), (iz x169), (iz x170), (iz x171)]), (.bool b174), (.agg [v178, (iz x179), (iz x180), (iz x181), (iz x182), (iz x183), (iz x184), (iz x185), (iz x186)]), (.agg [v190, (iz x191), (iz x192), (iz x193), (iz x194), (iz x195), (iz x196), (iz x197), (iz x198)]), (.bool b201), (.bool (xor true (b174 == b201))), (.bool (xor true (b174 == b201))), bf, (.agg [v205, (iz x206), (iz x207), (iz x208), (iz x209), (iz x210), (iz x211), (iz x212), (iz x213)]), (.agg [v217, (iz x218), (iz x219), (iz x220), (iz x221), (iz x222), (iz x223), (iz x224), (iz x225)]), (.bool b228), (.agg [v232, (iz x233), (iz x234), (iz x235), (iz x236), (iz x237), (iz x238), (iz x239), (iz x240)]), (.agg [v244, (iz x245), (iz x246), (iz x247), (iz x248), (iz x249), (iz x250), (iz x251), (iz x252)]), (.bool b255), (.bool (xor true (b228 == b255))), bf, v256, v258, (iz x262), (iz x268), bt, (iz x268), v305, v307, (iz x268), v309, v311, (iz x315), (iz (IntKind.wrap .i64 (x315 + 1))), v316, v318, v322, v324, (iz x268), v326, v328, v330, (iz x334), (iz x339), v340, v341, v342, v343, v344, v345, v346, v347, v348, v349, v350, v351, v352, v353, v354, v355, v304, tz, tz, tz], H⟩ [2] [r4X1_0 C0 d a0 a1 a2 a3 a4 a5 a6 a7 a8 a9 a10 a11 a12 a13 a14 a15 a16 a17 v0 v2 b4 v9 x10 x11 x12 x13 x14 x15 x16 x17 b20 v25 x26 x27 x28 x29 x30 x31 x32 x33 b36 v41 x42 x43 x44 x45 x46 x47 x48 x49 v53 x54 x55 x56 x57 x58 x59 x60 x61 v65 x66 x67 x68 x69 x70 x71 x72 x73 v77 x78 x79 x80 x81 x82 x83 x84 x85 v86 v88 v97 x98 x99 x100 x101 x102 x103 x104 x105 v109 x110 x111 x112 x113 x114 x115 x116 x117 b120 v124 x125 x126 x127 x128 x129 x130 x131 x132 v136 x137 x138 x139 x140 x141 x142 x143 x144 b147 v151 x152 x153 x154 x155 x156 x157 x158 x159 v163 x164 x165 x166 x167 x168 x169 x170 x171 b174 v178 x179 x180 x181 x182 x183 x184 x185 x186 v190 x191 x192 x193 x194 x195 x196 x197 x198 b201 v205 x206 x207 x208 x209 x210 x211 x212 x213 v217 x218 x219 x220 x221 x222 x223 x224 x225 b228 v232 x233 x234 x235 x236 x237 x238 x239 x240 v244 x245 x246 x247 x248 x249 x250 x251 x252 b255 v256 v258 x262 k264 x268 v304 v305 v307 v309 v311 x315 v316 v318 v322 v324 v326 v328 v330 x334] (r4E1 C0 d a0 a1 a2 a3 a4 a5 a6 a7 a8 a9 a10 a11 a12 a13 a14 a15 a16 a17 v0 v2 b4 v9 x10 x11 x12 x13 x14 x15 x16 x17 b20 v25 x26 x27 x28 x29 x30 x31 x32 x33 b36 v41 x42 x43 x44 x45 x46 x47 x48 x49 v53 x54 x55 x56 x57 x58 x59 x60 x61 v65 x66 x67 x68 x69 x70 x71 x72 x73 v77 x78 x79 x80 x81 x82 x83 x84 x85 v86 v88 v97 x98 x99 x100 x101 x102 x103 x104 x105 v109 x110 x111 x112 x113 x114 x115 x116 x117 b120 v124 x125 x126 x127 x128 x129 x130 x131 x132 v136 x137 x138 x139 x140 x141 x142 x143 x144 b147 v151 x152 x153 x154 x155 x156 x157 x158 x159 v163 x164 x165 x166 x167 x168 x169 x170 x171 b174 v178 x179 x180 x181 x182 x183 x184 x185 x186 v190 x191 x192 x193 x194 x195 x196 x197 x198 b201 v205 x206 x207 x208 x209 x210 x211 x212 x213 v217 x218 x219 x220 x221 x222 x223 x224 x225 b228 v232 x233 x234 x235 x236 x237 x238 x239 x240 v244 x245 x246 x247 x248 x249 x250 x251 x252 b255 v256 v258 x262 k264 x268 v304 v305 v307 v309 v311 x315 v316 v318 v322 v324 v326 v328 v330 x334) = L4_1 d v86 x268 x334 k264N n x339 H := by
  generalize hR : r4R1 C0 d a0 a1 a2 a3 a4 a5 a6 a7 a8 a9 a10 a11 a12 a13 a14 a15 a16 a17 v0 v2 b4 v9 x10 x11 x12 x13 x14 x15 x16 x17 b20 v25 x26 x27 x28 x29 x30 x31 x32 x33 b36 v41 x42 x43 x44 x45 x46 x47 x48 x49 v53 x54 x55 x56 x57 x58 x59 x60 x61 v65 x66 x67 x68 x69 x70 x71 x72 x73 v77 x78 x79 x80 x81 x82 x83 x84 x85 v86 v88 v97 x98 x99 x100 x101 x102 x103 x104 x105 v109 x110 x111 x112 x113 x114 x115 x116 x117 b120 v124 x125 x126 x127 x128 x129 x130 x131 x132 v136 x137 x138 x139 x140 x141 x142 x143 x144 b147 v151 x152 x153 x154 x155 x156 x157 x158 x159 v163 x164 x165 x166 x167 x168 x169 x170 x171 b174 v178 x179 x180 x181 x182 x183 x184 x185 x186 v190 x191 x192 x193 x194 x195 x196 x197 x198 b201 v205 x206 x207 x208 x209 x210 x211 x212 x213 v217 x218 x219 x220 x221 x222 x223 x224 x225 b228 v232 x233 x234 x235 x236 x237 x238 x239 x240 v244 x245 x246 x247 x248 x249 x250 x251 x252 b255 v256 v258 x262 k264 x268 v304 v305 v307 v309 v311 x315 v316 v318 v322 v324 v326 v328 v330 x334 = R
  intro n
  induction n with
  | zero => intros; rfl
  | succ n ih =>
    intro v338 x339 v340 v341 v342 v343 v344 v345 v346 v347 v348 v349 v350 v351 v352 v353 v354 v355 H
    simp only [it_ret] at ih
    rw [it_ret, xiter_s]
    refine Eq.trans (congrFun (congrFun hR.symm _) _) ?_
    unfold r4R1
    refine Eq.trans (pl_len (by rfl)) ?_; (iterate 8 (refine yt yS ?_)); refine yt yA ?_; (iterate 67 (refine yt yS ?_)); refine yt yI ?_; (iterate 16 (refine yt yA ?_)); (iterate 4 (refine yt yS ?_))
    simp only [kIter_n, kIter_x, kIter_r, kOut_x, kOut_r, xgo_hit, xgo_miss, ih, X4_1_0_ok d a0 a1 a2 a3 a4 a5 a6 a7 a8 a9 a10 a11 a12 a13 a14 a15 a16 a17 v0 v2 b4 v9 x10 x11 x12 x13 x14 x15 x16 x17 b20 v25 x26 x27 x28 x29 x30 x31 x32 x33 b36 v41 x42 x43 x44 x45 x46 x47 x48 x49 v53 x54 x55 x56 x57 x58 x59 x60 x61 v65 x66 x67 x68 x69 x70 x71 x72 x73 v77 x78 x79 x80 x81 x82 x83 x84 x85 v86 v88 v97 x98 x99 x100 x101 x102 x103 x104 x105 v109 x110 x111 x112 x113 x114 x115 x116 x117 b120 v124 x125 x126 x127 x128 x129 x130 x131 x132 v136 x137 x138 x139 x140 x141 x142 x143 x144 b147 v151 x152 x153 x154 x155 x156 x157 x158 x159 v163 x164 x165 x166 x167 x168 x169 x170 x171 b174 v178 x179 x180 x181 x182 x183 x184 x185 x186 v190 x191 x192 x193 x194 x195 x196 x197 x198 b201 v205 x206 x207 x208 x209 x210 x211 x212 x213 v217 x218 x219 x220 x221 x222 x223 x224 x225 b228 v232 x233 x234 x235 x236 x237 x238 x239 x240 v244 x245 x246 x247 x248 x249 x250 x251 x252 b255 v256 v258 x262 k264 x268 v304 v305 v307 v309 v311 x315 v316 v318 v322 v324 v326 v328 v330 x334 k264N hk264N]
    exact (L4_1_s d v86 x268 x334 k264N n x339 H).symm
noncomputable def X4_0_0 (d : Nat) (v0 v86 v88 : AV) (x262 : Int) (H : Heap) : Ans :=
  C0.hop H (.load true 9 (.v v0)) fun v456 h457 =>
   C0.agg 9 (some v456) fun l458 =>
   C0.any l458[0]? fun v459 =>
   C0.int .i64 l458[1]? fun x460 =>
   C0.int .i64 l458[2]? fun x461 =>
   C0.int .i64 l458[3]? fun x462 =>
   C0.int .i64 l458[4]? fun x463 =>
   C0.int .i64 l458[5]? fun x464 =>
   C0.int .i64 l458[6]? fun x465 =>
   C0.int .i64 l458[7]? fun x466 =>
   C0.int .i64 l458[8]? fun x467 =>
   C0.hop h457 (.load true 9 (.v v88)) fun v468 h469 =>
   C0.agg 9 (some v468) fun l470 =>
   C0.any l470[0]? fun v471 =>
   C0.int .i64 l470[1]? fun x472 =>
   C0.int .i64 l470[2]? fun x473 =>
   C0.int .i64 l470[3]? fun x474 =>
   C0.int .i64 l470[4]? fun x475 =>
   C0.int .i64 l470[5]? fun x476 =>
   C0.int .i64 l470[6]? fun x477 =>
   C0.int .i64 l470[7]? fun x478 =>
   C0.int .i64 l470[8]? fun x479 =>
   C0.snp h469 [(.agg [v459, (iz x460), (iz x461), (iz x462), (iz x463), (iz x464), (iz x465), (iz x466), (iz x467)]), (.agg [v471, (iz x472), (iz x473), (iz x474), (iz x475), (iz x476), (iz x477), (iz x478), (iz x479)])] fun l480 b481 =>
   C0.bool (pcall M d 19 l480) fun b482 =>
   cnd (b481 || true)
   (C0.fin h469 (.bool b482))
   (none)
theorem X4_0_0_ok (d : Nat) (a0 : List AV) (a1 a2 a3 a4 a5 a6 a7 a8 : Int) (a9 : List AV) (a10 a11 a12 a13 a14 a15 a16 a17 : Int) (v0 v2 : AV) (b4 : Bool) (v9 : AV) (x10 x11 x12 x13 x14 x15 x16 x17 : Int) (b20 : Bool) (v25 : AV) (x26 x27 x28 x29 x30 x31 x32 x33 : Int) (b36 : Bool) (v41 : AV) (x42 x43 x44 x45 x46 x47 x48 x49 : Int) (v53 : AV) (x54 x55 x56 x57 x58 x59 x60 x61 : Int) (v65 : AV) (x66 x67 x68 x69 x70 x71 x72 x73 : Int) (v77 : AV) (x78 x79 x80 x81 x82 x83 x84 x85 : Int) (v86 v88 v97 : AV) (x98 x99 x100 x101 x102 x103 x104 x105 : Int) (v109 : AV) (x110 x111 x112 x113 x114 x115 x116 x117 : Int) (b120 : Bool) (v124 : AV) (x125 x126 x127 x128 x129 x130 x131 x132 : Int) (v136 : AV) (x137 x138 x139 x140 x141 x142 x143 x144 : Int) (b147 : Bool) (v151 : AV) (x152 x153 x154 x155 x156 x157 x158 x159 : Int) (v163 : AV) (x164 x165 x166 x167 x168 x169 x170 x171 : Int) (b174 : Bool) (v178 : AV) (x179 x180 x181 x182 x183 x184 x185 x186 : Int) (v190 : AV) (x191 x192 x193 x194 x195 x196 x197 x198 : Int) (b201 : Bool) (v205 : AV) (x206 x207 x208 x209 x210 x211 x212 x213 : Int) (v217 : AV) (x218 x219 x220 x221 x222 x223 x224 x225 : Int) (b228 : Bool) (v232 : AV) (x233 x234 x235 x236 x237 x238 x239 x240 : Int) (v244 : AV) (x245 x246 x247 x248 x249 x250 x251 x252 : Int) (b255 : Bool) (v256 v258 : AV) (x262 : Int) (v417 v418 : AV) (x419 : Int) (v420 v421 v422 v423 v424 v425 v426 v427 v428 v429 v430 v431 v432 v433 v434 v435 v436 v437 v438 v439 v440 v441 v442 v443 v444 v445 v446 v447 v448 v449 v450 v451 v452 v453 v454 v455 : AV) (H : Heap) : r4X0_0 C0 d a0 a1 a2 a3 a4 a5 a6 a7 a8 a9 a10 a11 a12 a13 a14 a15 a16 a17 v0 v2 b4 v9 x10 x11 x12 x13 x14 x15 x16 x17 b20 v25 x26 x27 x28 x29 x30 x31 x32 x33 b36 v41 x42 x43 x44 x45 x46 x47 x48 x49 v53 x54 x55 x56 x57 x58 x59 x60 x61 v65 x66 x67 x68 x69 x70 x71 x72 x73 v77 x78 x79 x80 x81 x82 x83 x84 x85 v86 v88 v97 x98 x99 x100 x101 x102 x103 x104 x105 v109 x110 x111 x112 x113 x114 x115 x116 x117 b120 v124 x125 x126 x127 x128 x129 x130 x131 x132 v136 x137 x138 x139 x140 x141 x142 x143 x144 b147 v151 x152 x153 x154 x155 x156 x157 x158 x159 v163 x164 x165 x166 x167 x168 x169 x170 x171 b174 v178 x179 x180 x181 x182 x183 x184 x185 x186 v190 x191 x192 x193 x194 x195 x196 x197 x198 b201 v205 x206 x207 x208 x209 x210 x211 x212 x213 v217 x218 x219 x220 x221 x222 x223 x224 x225 b228 v232 x233 x234 x235 x236 x237 x238 x239 x240 v244 x245 x246 x247 x248 x249 x250 x251 x252 b255 v256 v258 x262 ⟨[(.agg [(.lst a0), (iz a1), (iz a2), (iz a3), (iz a4), (iz a5), (iz a6), (iz a7), (iz a8)]), (.agg [(.lst a9), (iz a10), (iz a11), (iz a12), (iz a13), (iz a14), (iz a15), (iz a16), (iz a17)]), v0, v2, bf, v86, v88, v417, v418, (.bool b4), (.bool (!b4)), bf, (.agg [v9, (iz x10), (iz x11), (iz x12), (iz x13), (iz x14), (iz x15), (iz x16), (iz x17)]), (.bool b20), (.bool (!b20)), (.bool (!b20)), bf, (.agg [v25, (iz x26), (iz x27), (iz x28), (iz x29), (iz x30), (iz x31), (iz x32), (iz x33)]), (.bool b36), (.bool (!b36)), bf, tz, (.agg [v41, (iz x42), (iz x43), (iz x44), (iz x45), (iz x46), (iz x47), (iz x48), (iz x49)]), (.agg [v53, (iz x54), (iz x55), (iz x56), (iz x57), (iz x58), (iz x59), (iz x60), (iz x61)]), (.agg [v65, (iz x66), (iz x67), (iz x68), (iz x69), (iz x70), (iz x71), (iz x72), (iz x73)]), (.agg [v77, (iz x78), (iz x79), (iz x80), (iz x81), (iz x82), (iz x83), (iz x84), (iz x85)]), (.agg [v97, (iz x98), (iz x99), (iz x100), (iz x101), (iz x102), (iz x103), (iz x104), (iz x105)]), (.agg [v109, (iz x110), (iz x111), (iz x112), (iz x113), (iz x114), (iz x115), (iz x116), (iz x117)]), (.bool b120), (.bool (!b120)), bf, (.agg [v124, (iz x125), (iz x126), (iz x127), (iz x128), (iz x129), (iz x130), (iz x131), (iz x132)]), (.agg [v136, (iz x137), (iz x138), (iz x139), (iz x140), (iz x141), (iz x142), (iz x143), (iz x144)]), (.bool b147), (.bool (!b147)), (.bool (!b147)), bf, (.agg [v151, (iz x152), (iz x153), (iz x154), (iz x155), (iz x156), (iz x157), (iz x158), (iz x159)]), (.agg [v163, (iz x164), (iz x165), (iz x166), (iz x167), (iz x168), (iz x169), (iz x170), (iz x171)]), (.bool b174), (.agg [v178, (iz x179), (iz x180), (iz x181), (iz x182), (iz x183), (iz x184), (iz x185), (iz x186)]), (.agg [v190, (iz x191), (iz x192), (iz x193), (iz x194), (iz x195), (iz x196), (iz x197), (iz x198)]), (.bool b201), (.bool (xor true (b174 == b201))), (.bool (xor true (b174 == b201))), bf, (.agg [v205, (iz x206), (iz x207), (iz x208), (iz x209), (iz x210), (iz x211), (iz x212), (iz x213)]), (.agg [v217, (iz x218), (iz x219), (iz x220), (iz x221), (iz x222), (iz x223), (iz x224), (iz x225)]), (.bool b228), (.agg [v232, (iz x233), (iz x234), (iz x235), (iz x236), (iz x237), (iz x238), (iz x239), (iz x240)]), (.agg [v244, (iz x245), (iz x246), (iz x247), (iz x248), (iz x249), (iz x250), (iz x251), (iz x252)]), (.bool b255), (.bool (xor true (b228 == b255))), bf, v256, v258, (iz x262), (iz x419), v420, v421, v422, v423, v424, v425, v426, v427, v428, v429, v430, v431, v432, v433, v434, v435, v436, v437, v438, v439, v440, v441, v442, v443, v444, v445, v446, v447, v448, v449, v450, v451, v452, v453, v454, v455, tz, tz, tz], H⟩ = X4_0_0 d v0 v86 v88 x262 H := by
  unfold r4X0_0; refine Eq.trans (pl_len (by rfl)) ?_; (iterate 7 (refine yt yS ?_)); (iterate 2 (refine yt yA ?_)); (iterate 48 (refine yt yS ?_)); refine yt yI ?_; (iterate 36 (refine yt yA ?_)); (iterate 3 (refine yt yS ?_))
  rfl
noncomputable def L4_0 (d : Nat) (v0 v86 v88 : AV) (x262 : Int) : Nat → Int → Heap → Ans
  | 0, _, _ => none
  | n + 1, x268, H =>
  cnd (decide (x268 < x262))
   (C0.hop H (.fldA 0 (.v v86)) fun v305 h306 =>
   C0.hop h306 (.load false 1 (.v v305)) fun v307 h308 =>
   C0.hop h308 (.ixAS .any 5 (.v v307) (.v (iz x268))) fun v309 h310 =>
   C0.hop h310 (.fldA 1 (.v v309)) fun v311 h312 =>
   C0.hop h312 (.load false 1 (.v v311)) fun v313 h314 =>
   C0.int .i64 (some v313) fun x315 =>
   C0.hop h314 (.ixAS .any 5 (.v v307) (.v (iz x268))) fun v316 h317 =>
   C0.hop h317 (.fldA 1 (.v v316)) fun v318 h319 =>
   C0.hop h319 (.store 1 (.v v318) (.v (iz (IntKind.wrap .i64 (x315 + 1))))) fun v320 h321 =>
   C0.hop h321 (.fldA 0 (.v v86)) fun v322 h323 =>
   C0.hop h323 (.load false 1 (.v v322)) fun v324 h325 =>
   C0.hop h325 (.ixAS .any 5 (.v v324) (.v (iz x268))) fun v326 h327 =>
   C0.hop h327 (.fldA 0 (.v v326)) fun v328 h329 =>
   C0.hop h329 (.load false 1 (.v v328)) fun v330 h331 =>
   C0.hop h331 (.bk .lenV [(.v v330)]) fun v332 h333 =>
   C0.int .i64 (some v332) fun x334 =>
   L4_1 d v86 x268 x334 (fun x268 H => L4_0 d v0 v86 v88 x262 n x268 H) 10000000000000000000 0 h333)
   (X4_0_0 d v0 v86 v88 x262 H)
theorem L4_0_s (d : Nat) (v0 v86 v88 : AV) (x262 : Int) (n : Nat) (x268 : Int) (H : Heap) : L4_0 d v0 v86 v88 x262 (n + 1) x268 H = (cnd (decide (x268 < x262))
   (C0.hop H (.fldA 0 (.v v86)) fun v305 h306 =>
   C0.hop h306 (.load false 1 (.v v305)) fun v307 h308 =>
   C0.hop h308 (.ixAS .any 5 (.v v307) (.v (iz x268))) fun v309 h310 =>
   C0.hop h310 (.fldA 1 (.v v309)) fun v311 h312 =>
   C0.hop h312 (.load false 1 (.v v311)) fun v313 h314 =>
   C0.int .i64 (some v313) fun x315 =>
   C0.hop h314 (.ixAS .any 5 (.v v307) (.v (iz x268))) fun v316 h317 =>
   C0.hop h317 (.fldA 1 (.v v316)) fun v318 h319 =>
   C0.hop h319 (.store 1 (.v v318) (.v (iz (IntKind.wrap .i64 (x315 + 1))))) fun v320 h321 =>
   C0.hop h321 (.fldA 0 (.v v86)) fun v322 h323 =>
   C0.hop h323 (.load false 1 (.v v322)) fun v324 h325 =>
   C0.hop h325 (.ixAS .any 5 (.v v324) (.v (iz x268))) fun v326 h327 =>
   C0.hop h327 (.fldA 0 (.v v326)) fun v328 h329 =>
   C0.hop h329 (.load false 1 (.v v328)) fun v330 h331 =>
   C0.hop h331 (.bk .lenV [(.v v330)]) fun v332 h333 =>
   C0.int .i64 (some v332) fun x334 =>
   L4_1 d v86 x268 x334 (fun x268 H => L4_0 d v0 v86 v88 x262 n x268 H) 10000000000000000000 0 h333)
   (X4_0_0 d v0 v86 v88 x262 H)) := by kernel_rfl
theorem it4_0 (d : Nat) (a0 : List AV) (a1 a2 a3 a4 a5 a6 a7 a8 : Int) (a9 : List AV) (a10 a11 a12 a13 a14 a15 a16 a17 : Int) (v0 v2 : AV) (b4 : Bool) (v9 : AV) (x10 x11 x12 x13 x14 x15 x16 x17 : Int) (b20 : Bool) (v25 : AV) (x26 x27 x28 x29 x30 x31 x32 x33 : Int) (b36 : Bool) (v41 : AV) (x42 x43 x44 x45 x46 x47 x48 x49 : Int) (v53 : AV) (x54 x55 x56 x57 x58 x59 x60 x61 : Int) (v65 : AV) (x66 x67 x68 x69 x70 x71 x72 x73 : Int) (v77 : AV) (x78 x79 x80 x81 x82 x83 x84 x85 : Int) (v86 v88 v97 : AV) (x98 x99 x100 x101 x102 x103 x104 x105 : Int) (v109 : AV) (x110 x111 x112 x113 x114 x115 x116 x117 : Int) (b120 : Bool) (v124 : AV) (x125 x126 x127 x128 x129 x130 x131 x132 : Int) (v136 : AV) (x137 x138 x139 x140 x141 x142 x143 x144 : Int) (b147 : Bool) (v151 : AV) (x152 x153 x154 x155 x156 x157 x158 x159 : Int) (v163 : AV) (x164 x165 x166 x167 x168 x169 x170 x171 : Int) (b174 : Bool) (v178 : AV) (x179 x180 x181 x182 x183 x184 x185 x186 : Int) (v190 : AV) (x191 x192 x193 x194 x195 x196 x197 x198 : Int) (b201 : Bool) (v205 : AV) (x206 x207 x208 x209 x210 x211 x212 x213 : Int) (v217 : AV) (x218 x219 x220 x221 x222 x223 x224 x225 : Int) (b228 : Bool) (v232 : AV) (x233 x234 x235 x236 x237 x238 x239 x240 : Int) (v244 : AV) (x245 x246 x247 x248 x249 x250 x251 x252 : Int) (b255 : Bool) (v256 v258 : AV) (x262 : Int)   : ∀ (n : Nat) (v266 v267 : AV) (x268 : Int) (v269 v270 v271 v272 v273 v274 v275 v276 v277 v278 v279 v280 v281 v282 v283 v284 v285 v286 v287 v288 v289 v290 v291 v292 v293 v294 v295 v296 v297 v298 v299 v300 v301 v302 v303 v304 : AV) (H : Heap), C0.iter (r4R0 C0 d a0 a1 a2 a3 a4 a5 a6 a7 a8 a9 a10 a11 a12 a13 a14 a15 a16 a17 v0 v2 b4 v9 x10 x11 x12 x13 x14 x15 x16 x17 b20 v25 x26 x27 x28 x29 x30 x31 x32 x33 b36 v41 x42 x43 x44 x45 x46 x47 x48 x49 v53 x54 x55 x56 x57 x58 x59 x60 x61 v65 x66 x67 x68 x69 x70 x71 x72 x73 v77 x78 x79 x80 x81 x82 x83 x84 x85 v86 v88 v97 x98 x99 x100 x101 x102 x103 x104 x105 v109 x110 x111 x112 x113 x114 x115 x116 x117 b120 v124 x125 x126 x127 x128 x129 x130 x131 x132 v136 x137 x138 x139 x140 x141 x142 x143 x144 b147 v151 x152 x153 x154 x155 x156 x157 x158 x159 v163 x164 x165 x166 x167 x168 x169 x170 x171 b174 v178 x179 x180 x181 x182 x183 x184 x185 x186 v190 x191 x192 x193 x194 x195 x196 x197 x198 b201 v205 x206 x207 x208 x209 x210 x211 x212 x213 v217 x218 x219 x220 x221 x222 x223 x224 x225 b228 v232 x233 x234 x235 x236 x237 x238 x239 x240 v244 x245 x246 x247 x248 x249 x250 x251 x252 b255 v256 v258 x262) n ⟨[(.agg [(.lst a0), (iz a1), (iz a2), (iz a3), (iz a4), (iz a5), (iz a6), (iz a7), (iz a8)]), (.agg [(.lst a9), (iz a10), (iz a11), (iz a12), (iz a13), (iz a14), (iz a15), (iz a16), (iz a17)]), v0, v2, bf, v86, v88, v266, v267, (.bool b4), (.bool (!b4)), bf, (.agg [v9, (iz x10), (iz x11), (iz x12), (iz x13), (iz x14), (iz x15), (iz x16), (iz x17)]), (.bool b20), (.bool (!b20)), (.bool (!b20)), bf, (.agg [v25, (iz x26), (iz x27), (iz x28), (iz x29), (iz x30), (iz x31), (iz x32), (iz x33)]), (.bool b36), (.bool (!b36)), bf, tz, (.agg [v41, (iz x42), (iz x43), (iz x44), (iz x45), (iz x46), (iz x47), (iz x48), (iz x49)]), (.agg [v53, (iz x54), (iz x55), (iz x56), (iz x57), (iz x58), (iz x59), (iz x60), (iz x61)]), (.agg [v65, (iz x66), (iz x67), (iz x68), (iz x69), (iz x70), (iz x71), (iz x72), (iz x73)]), (.agg [v77, (iz x78), (iz x79), (iz x80), (iz x81), (iz x82), (iz x83), (iz x84), (iz x85)]), (.agg [v97, (iz x98), (iz x99), (iz x100), (iz x101), (iz x102), (iz x103), (iz x104), (iz x105)]), (.agg [v109, (iz x110), (iz x111), (iz x112), (iz x113), (iz x114), (iz x115), (iz x116), (iz x117)]), (.bool b120), (.bool (!b120)), bf, (.agg [v124, (iz x125), (iz x126), (iz x127), (iz x128), (iz x129), (iz x130), (iz x131), (iz x132)]), (.agg [v136, (iz x137), (iz x138), (iz x139), (iz x140), (iz x141), (iz x142), (iz x143), (iz x144)]), (.bool b147), (.bool (!b147)), (.bool (!b147)), bf, (.agg [v151, (iz x152), (iz x153), (iz x154), (iz x155), (iz x156), (iz x157), (iz x158), (iz x159)]), (.agg [v163, (iz x164), (iz x165), (iz x166), (iz x167), (iz x168), (iz x169), (iz x170), (iz x171)]), (.bool b174), (.agg [v178, (iz x179), (iz x180), (iz x181), (iz x182), (iz x183), (iz x184), (iz x185), (iz x186)]), (.agg [v190, (iz x191), (iz x192), (iz x193), (iz x194), (iz x195), (iz x196), (iz x197), (iz x198)]), (.bool b201), (.bool (xor true (b174 == b201))), (.bool (xor true (b174 == b201))), bf, (.agg [v205, (iz x206), (iz x207), (iz x208), (iz x209), (iz x210), (iz x211), (iz x212), (iz x213)]), (.agg [v217, (iz x218), (iz x219), (iz x220), (iz x221), (iz x222), (iz x223), (iz x224), (iz x225)]), (.bool b228), (.agg [v232, (iz x233), (iz x234), (iz x235), (iz x236), (iz x237), (iz x238), (iz x239), (iz x240)]), (.agg [v244, (iz x245), (iz x246), (iz x247), (iz x248), (iz x249), (iz x250), (iz x251), (iz x252)]), (.bool b255), (.bool (xor true (b228 == b255))), bf, v256, v258, (iz x262), (iz x268), v269, v270, v271, v272, v273, v274, v275, v276, v277, v278, v279, v280, v281, v282, v283, v284, v285, v286, v287, v288, v289, v290, v291, v292, v293, v294, v295, v296, v297, v298, v299, v300, v301, v302, v303, v304, tz, tz, tz], H⟩ [0] [r4X0_0 C0 d a0 a1 a2 a3 a4 a5 a6 a7 a8 a9 a10 a11 a12 a13 a14 a15 a16 a17 v0 v2 b4 v9 x10 x11 x12 x13 x14 x15 x16 x17 b20 v25 x26 x27 x28 x29 x30 x31 x32 x33 b36 v41 x42 x43 x44 x45 x46 x47 x48 x49 v53 x54 x55 x56 x57 x58 x59 x60 x61 v65 x66 x67 x68 x69 x70 x71 x72 x73 v77 x78 x79 x80 x81 x82 x83 x84 x85 v86 v88 v97 x98 x99 x100 x101 x102 x103 x104 x105 v109 x110 x111 x112 x113 x114 x115 x116 x117 b120 v124 x125 x126 x127 x128 x129 x130 x131 x132 v136 x137 x138 x139 x140 x141 x142 x143 x144 b147 v151 x152 x153 x154 x155 x156 x157 x158 x159 v163 x164 x165 x166 x167 x168 x169 x170 x171 b174 v178 x179 x180 x181 x182 x183 x184 x185 x186 v190 x191 x192 x193 x194 x195 x196 x197 x198 b201 v205 x206 x207 x208 x209 x210 x211 x212 x213 v217 x218 x219 x220 x221 x222 x223 x224 x225 b228 v232 x233 x234 x235 x236 x237 x238 x239 x240 v244 x245 x246 x247 x248 x249 x250 x251 x252 b255 v256 v258 x262] (r4E0 C0 d a0 a1 a2 a3 a4 a5 a6 a7 a8 a9 a10 a11 a12 a13 a14 a15 a16 a17 v0 v2 b4 v9 x10 x11 x12 x13 x14 x15 x16 x17 b20 v25 x26 x27 x28 x29 x30 x31 x32 x33 b36 v41 x42 x43 x44 x45 x46 x47 x48 x49 v53 x54 x55 x56 x57 x58 x59 x60 x61 v65 x66 x67 x68 x69 x70 x71 x72 x73 v77 x78 x79 x80 x81 x82 x83 x84 x85 v86 v88 v97 x98 x99 x100 x101 x102 x103 x104 x105 v109 x110 x111 x112 x113 x114 x115 x116 x117 b120 v124 x125 x126 x127 x128 x129 x130 x131 x132 v136 x137 x138 x139 x140 x141 x142 x143 x144 b147 v151 x152 x153 x154 x155 x156 x157 x158 x159 v163 x164 x165 x166 x167 x168 x169 x170 x171 b174 v178 x179 x180 x181 x182 x183 x184 x185 x186 v190 x191 x192 x193 x194 x195 x196 x197 x198 b201 v205 x206 x207 x208 x209 x210 x211 x212 x213 v217 x218 x219 x220 x221 x222 x223 x224 x225 b228 v232 x233 x234 x235 x236 x237 x238 x239 x240 v244 x245 x246 x247 x248 x249 x250 x251 x252 b255 v256 v258 x262) = L4_0 d v0 v86 v88 x262 n x268 H := by
  generalize hR : r4R0 C0 d a0 a1 a2 a3 a4 a5 a6 a7 a8 a9 a10 a11 a12 a13 a14 a15 a16 a17 v0 v2 b4 v9 x10 x11 x12 x13 x14 x15 x16 x17 b20 v25 x26 x27 x28 x29 x30 x31 x32 x33 b36 v41 x42 x43 x44 x45 x46 x47 x48 x49 v53 x54 x55 x56 x57 x58 x59 x60 x61 v65 x66 x67 x68 x69 x70 x71 x72 x73 v77 x78 x79 x80 x81 x82 x83 x84 x85 v86 v88 v97 x98 x99 x100 x101 x102 x103 x104 x105 v109 x110 x111 x112 x113 x114 x115 x116 x117 b120 v124 x125 x126 x127 x128 x129 x130 x131 x132 v136 x137 x138 x139 x140 x141 x142 x143 x144 b147 v151 x152 x153 x154 x155 x156 x157 x158 x159 v163 x164 x165 x166 x167 x168 x169 x170 x171 b174 v178 x179 x180 x181 x182 x183 x184 x185 x186 v190 x191 x192 x193 x194 x195 x196 x197 x198 b201 v205 x206 x207 x208 x209 x210 x211 x212 x213 v217 x218 x219 x220 x221 x222 x223 x224 x225 b228 v232 x233 x234 x235 x236 x237 x238 x239 x240 v244 x245 x246 x247 x248 x249 x250 x251 x252 b255 v256 v258 x262 = R
  intro n
  induction n with
  | zero => intros; rfl
  | succ n ih =>
    intro v266 v267 x268 v269 v270 v271 v272 v273 v274 v275 v276 v277 v278 v279 v280 v281 v282 v283 v284 v285 v286 v287 v288 v289 v290 v291 v292 v293 v294 v295 v296 v297 v298 v299 v300 v301 v302 v303 v304 H
    simp only [it_ret] at ih
    rw [it_ret, xiter_s]
    refine Eq.trans (congrFun (congrFun hR.symm _) _) ?_
    unfold r4R0
    refine Eq.trans (pl_len (by rfl)) ?_; (iterate 7 (refine yt yS ?_)); (iterate 2 (refine yt yA ?_)); (iterate 48 (refine yt yS ?_)); refine yt yI ?_; (iterate 36 (refine yt yA ?_)); (iterate 3 (refine yt yS ?_))
    have I0 := fun (v305 v307 v309 v311 : AV) (x315 : Int) (v316 v318 v322 v324 v326 v328 v330 : AV) (x334 : Int) => it4_1 d a0 a1 a2 a3 a4 a5 a6 a7 a8 a9 a10 a11 a12 a13 a14 a15 a16 a17 v0 v2 b4 v9 x10 x11 x12 x13 x14 x15 x16 x17 b20 v25 x26 x27 x28 x29 x30 x31 x32 x33 b36 v41 x42 x43 x44 x45 x46 x47 x48 x49 v53 x54 x55 x56 x57 x58 x59 x60 x61 v65 x66 x67 x68 x69 x70 x71 x72 x73 v77 x78 x79 x80 x81 x82 x83 x84 x85 v86 v88 v97 x98 x99 x100 x101 x102 x103 x104 x105 v109 x110 x111 x112 x113 x114 x115 x116 x117 b120 v124 x125 x126 x127 x128 x129 x130 x131 x132 v136 x137 x138 x139 x140 x141 x142 x143 x144 b147 v151 x152 x153 x154 x155 x156 x157 x158 x159 v163 x164 x165 x166 x167 x168 x169 x170 x171 b174 v178 x179 x180 x181 x182 x183 x184 x185 x186 v190 x191 x192 x193 x194 x195 x196 x197 x198 b201 v205 x206 x207 x208 x209 x210 x211 x212 x213 v217 x218 x219 x220 x221 x222 x223 x224 x225 b228 v232 x233 x234 x235 x236 x237 x238 x239 x240 v244 x245 x246 x247 x248 x249 x250 x251 x252 b255 v256 v258 x262 (kIter R n (kOut [0] [r4X0_0 C0 d a0 a1 a2 a3 a4 a5 a6 a7 a8 a9 a10 a11 a12 a13 a14 a15 a16 a17 v0 v2 b4 v9 x10 x11 x12 x13 x14 x15 x16 x17 b20 v25 x26 x27 x28 x29 x30 x31 x32 x33 b36 v41 x42 x43 x44 x45 x46 x47 x48 x49 v53 x54 x55 x56 x57 x58 x59 x60 x61 v65 x66 x67 x68 x69 x70 x71 x72 x73 v77 x78 x79 x80 x81 x82 x83 x84 x85 v86 v88 v97 x98 x99 x100 x101 x102 x103 x104 x105 v109 x110 x111 x112 x113 x114 x115 x116 x117 b120 v124 x125 x126 x127 x128 x129 x130 x131 x132 v136 x137 x138 x139 x140 x141 x142 x143 x144 b147 v151 x152 x153 x154 x155 x156 x157 x158 x159 v163 x164 x165 x166 x167 x168 x169 x170 x171 b174 v178 x179 x180 x181 x182 x183 x184 x185 x186 v190 x191 x192 x193 x194 x195 x196 x197 x198 b201 v205 x206 x207 x208 x209 x210 x211 x212 x213 v217 x218 x219 x220 x221 x222 x223 x224 x225 b228 v232 x233 x234 x235 x236 x237 x238 x239 x240 v244 x245 x246 x247 x248 x249 x250 x251 x252 b255 v256 v258 x262] (r4E0 C0 d a0 a1 a2 a3 a4 a5 a6 a7 a8 a9 a10 a11 a12 a13 a14 a15 a16 a17 v0 v2 b4 v9 x10 x11 x12 x13 x14 x15 x16 x17 b20 v25 x26 x27 x28 x29 x30 x31 x32 x33 b36 v41 x42 x43 x44 x45 x46 x47 x48 x49 v53 x54 x55 x56 x57 x58 x59 x60 x61 v65 x66 x67 x68 x69 x70 x71 x72 x73 v77 x78 x79 x80 x81 x82 x83 x84 x85 v86 v88 v97 x98 x99 x100 x101 x102 x103 x104 x105 v109 x110 x111 x112 x113 x114 x115 x116 x117 b120 v124 x125 x126 x127 x128 x129 x130 x131 x132 v136 x137 x138 x139 x140 x141 x142 x143 x144 b147 v151 x152 x153 x154 x155 x156 x157 x158 x159 v163 x164 x165 x166 x167 x168 x169 x170 x171 b174 v178 x179 x180 x181 x182 x183 x184 x185 x186 v190 x191 x192 x193 x194 x195 x196 x197 x198 b201 v205 x206 x207 x208 x209 x210 x211 x212 x213 v217 x218 x219 x220 x221 x222 x223 x224 x225 b228 v232 x233 x234 x235 x236 x237 x238 x239 x240 v244 x245 x246 x247 x248 x249 x250 x251 x252 b255 v256 v258 x262))) x268 v304 v305 v307 v309 v311 x315 v316 v318 v322 v324 v326 v328 v330 x334 (fun x268 H => L4_0 d v0 v86 v88 x262 n x268 H) (fun v266 v267 x268 v269 v270 v271 v272 v273 v274 v275 v276 v277 v278 v279 v280 v281 v282 v283 v284 v285 v286 v287 v288 v289 v290 v291 v292 v293 v294 v295 v296 v297 v298 v299 v300 v301 v302 v303 v304 H => ih v266 v267 x268 v269 v270 v271 v272 v273 v274 v275 v276 v277 v278 v279 v280 v281 v282 v283 v284 v285 v286 v287 v288 v289 v290 v291 v292 v293 v294 v295 v296 v297 v298 v299 v300 v301 v302 v303 v304 H)
    try dsimp only at I0
    simp only [kIter_n, kIter_x, kIter_r, kOut_x, kOut_r, xgo_hit, xgo_miss, ih, I0, X4_0_0_ok d a0 a1 a2 a3 a4 a5 a6 a7 a8 a9 a10 a11 a12 a13 a14 a15 a16 a17 v0 v2 b4 v9 x10 x11 x12 x13 x14 x15 x16 x17 b20 v25 x26 x27 x28 x29 x30 x31 x32 x33 b36 v41 x42 x43 x44 x45 x46 x47 x48 x49 v53 x54 x55 x56 x57 x58 x59 x60 x61 v65 x66 x67 x68 x69 x70 x71 x72 x73 v77 x78 x79 x80 x81 x82 x83 x84 x85 v86 v88 v97 x98 x99 x100 x101 x102 x103 x104 x105 v109 x110 x111 x112 x113 x114 x115 x116 x117 b120 v124 x125 x126 x127 x128 x129 x130 x131 x132 v136 x137 x138 x139 x140 x141 x142 x143 x144 b147 v151 x152 x153 x154 x155 x156 x157 x158 x159 v163 x164 x165 x166 x167 x168 x169 x170 x171 b174 v178 x179 x180 x181 x182 x183 x184 x185 x186 v190 x191 x192 x193 x194 x195 x196 x197 x198 b201 v205 x206 x207 x208 x209 x210 x211 x212 x213 v217 x218 x219 x220 x221 x222 x223 x224 x225 b228 v232 x233 x234 x235 x236 x237 x238 x239 x240 v244 x245 x246 x247 x248 x249 x250 x251 x252 b255 v256 v258 x262  ]
    exact (L4_0_s d v0 v86 v88 x262 n x268 H).symm
/-- apogee/apogeelaw13.RulesSame -/
theorem q4 (d : Nat) (a0 : List AV) (a1 a2 a3 a4 a5 a6 a7 a8 : Int) (a9 : List AV) (a10 a11 a12 a13 a14 a15 a16 a17 : Int) : xcall C0 M unr d 4 [(.agg [(.lst a0), (iz a1), (iz a2), (iz a3), (iz a4), (iz a5), (iz a6), (iz a7), (iz a8)]), (.agg [(.lst a9), (iz a10), (iz a11), (iz a12), (iz a13), (iz a14), (iz a15), (iz a16), (iz a17)])] =
  C0.hop [] (.box E24 (.v (.agg [(.lst a0), (iz a1), (iz a2), (iz a3), (iz a4), (iz a5), (iz a6), (iz a7), (iz a8)]))) fun v0 h1 =>
  C0.hop h1 (.box E24 (.v (.agg [(.lst a9), (iz a10), (iz a11), (iz a12), (iz a13), (iz a14), (iz a15), (iz a16), (iz a17)]))) fun v2 h3 =>
  C0.bool (pcall M d 8 []) fun b4 =>
  cnd (!b4)
   (C0.bool (pcall M d 8 []) fun b5 =>
   C0.fin h3 (.bool b5))
   (C0.hop h3 (.load true 9 (.v v0)) fun v6 h7 =>
   C0.agg 9 (some v6) fun l8 =>
   C0.any l8[0]? fun v9 =>
   C0.int .i64 l8[1]? fun x10 =>
   C0.int .i64 l8[2]? fun x11 =>
   C0.int .i64 l8[3]? fun x12 =>
   C0.int .i64 l8[4]? fun x13 =>
   C0.int .i64 l8[5]? fun x14 =>
   C0.int .i64 l8[6]? fun x15 =>
   C0.int .i64 l8[7]? fun x16 =>
   C0.int .i64 l8[8]? fun x17 =>
   C0.snp h7 [(.agg [v9, (iz x10), (iz x11), (iz x12), (iz x13), (iz x14), (iz x15), (iz x16), (iz x17)])] fun l18 b19 =>
   C0.bool (pcall M d 9 l18) fun b20 =>
   cnd (b19 || true)
   (cnd (!b20)
   (C0.bool (pcall M d 8 []) fun b21 =>
   C0.fin h7 (.bool b21))
   (C0.hop h7 (.load true 9 (.v v2)) fun v22 h23 =>
   C0.agg 9 (some v22) fun l24 =>
   C0.any l24[0]? fun v25 =>
   C0.int .i64 l24[1]? fun x26 =>
   C0.int .i64 l24[2]? fun x27 =>
   C0.int .i64 l24[3]? fun x28 =>
   C0.int .i64 l24[4]? fun x29 =>
   C0.int .i64 l24[5]? fun x30 =>
   C0.int .i64 l24[6]? fun x31 =>
   C0.int .i64 l24[7]? fun x32 =>
   C0.int .i64 l24[8]? fun x33 =>
   C0.snp h23 [(.agg [v25, (iz x26), (iz x27), (iz x28), (iz x29), (iz x30), (iz x31), (iz x32), (iz x33)])] fun l34 b35 =>
   C0.bool (pcall M d 9 l34) fun b36 =>
   cnd (b35 || true)
   (cnd (!b36)
   (C0.bool (pcall M d 8 []) fun b37 =>
   C0.fin h23 (.bool b37))
   (C0.hop h23 (.load true 9 (.v v0)) fun v38 h39 =>
   C0.agg 9 (some v38) fun l40 =>
   C0.any l40[0]? fun v41 =>
   C0.int .i64 l40[1]? fun x42 =>
   C0.int .i64 l40[2]? fun x43 =>
   C0.int .i64 l40[3]? fun x44 =>
   C0.int .i64 l40[4]? fun x45 =>
   C0.int .i64 l40[5]? fun x46 =>
   C0.int .i64 l40[6]? fun x47 =>
   C0.int .i64 l40[7]? fun x48 =>
   C0.int .i64 l40[8]? fun x49 =>
   C0.cal M (pcall M d) 12 false 18 [(.agg [v41, (iz x42), (iz x43), (iz x44), (iz x45), (iz x46), (iz x47), (iz x48), (iz x49)])] h39 fun v50 h51 =>
   C0.agg 9 (some v50) fun l52 =>
   C0.any l52[0]? fun v53 =>
   C0.int .i64 l52[1]? fun x54 =>
   C0.int .i64 l52[2]? fun x55 =>
   C0.int .i64 l52[3]? fun x56 =>
   C0.int .i64 l52[4]? fun x57 =>
   C0.int .i64 l52[5]? fun x58 =>
   C0.int .i64 l52[6]? fun x59 =>
   C0.int .i64 l52[7]? fun x60 =>
   C0.int .i64 l52[8]? fun x61 =>
   C0.hop h51 (.load true 9 (.v v0)) fun v62 h63 =>
   C0.agg 9 (some v62) fun l64 =>
   C0.any l64[0]? fun v65 =>
   C0.int .i64 l64[1]? fun x66 =>
   C0.int .i64 l64[2]? fun x67 =>
   C0.int .i64 l64[3]? fun x68 =>
   C0.int .i64 l64[4]? fun x69 =>
   C0.int .i64 l64[5]? fun x70 =>
   C0.int .i64 l64[6]? fun x71 =>
   C0.int .i64 l64[7]? fun x72 =>
   C0.int .i64 l64[8]? fun x73 =>
   C0.cal M (pcall M d) 12 false 18 [(.agg [v65, (iz x66), (iz x67), (iz x68), (iz x69), (iz x70), (iz x71), (iz x72), (iz x73)])] h63 fun v74 h75 =>
   C0.agg 9 (some v74) fun l76 =>
   C0.any l76[0]? fun v77 =>
   C0.int .i64 l76[1]? fun x78 =>
   C0.int .i64 l76[2]? fun x79 =>
   C0.int .i64 l76[3]? fun x80 =>
   C0.int .i64 l76[4]? fun x81 =>
   C0.int .i64 l76[5]? fun x82 =>
   C0.int .i64 l76[6]? fun x83 =>
   C0.int .i64 l76[7]? fun x84 =>
   C0.int .i64 l76[8]? fun x85 =>
   C0.hop h75 (.alloc E24) fun v86 h87 =>
   C0.hop h87 (.alloc E24) fun v88 h89 =>
   C0.hop h89 (.store 9 (.v v86) (.v (.agg [v53, (iz x54), (iz x55), (iz x56), (iz x57), (iz x58), (iz x59), (iz x60), (iz x61)]))) fun v90 h91 =>
   C0.hop h91 (.store 9 (.v v88) (.v (.agg [v77, (iz x78), (iz x79), (iz x80), (iz x81), (iz x82), (iz x83), (iz x84), (iz x85)]))) fun v92 h93 =>
   C0.hop h93 (.load true 9 (.v v86)) fun v94 h95 =>
   C0.agg 9 (some v94) fun l96 =>
   C0.any l96[0]? fun v97 =>
   C0.int .i64 l96[1]? fun x98 =>
   C0.int .i64 l96[2]? fun x99 =>
   C0.int .i64 l96[3]? fun x100 =>
   C0.int .i64 l96[4]? fun x101 =>
   C0.int .i64 l96[5]? fun x102 =>
   C0.int .i64 l96[6]? fun x103 =>
   C0.int .i64 l96[7]? fun x104 =>
   C0.int .i64 l96[8]? fun x105 =>
   C0.hop h95 (.load true 9 (.v v0)) fun v106 h107 =>
   C0.agg 9 (some v106) fun l108 =>
   C0.any l108[0]? fun v109 =>
   C0.int .i64 l108[1]? fun x110 =>
   C0.int .i64 l108[2]? fun x111 =>
   C0.int .i64 l108[3]? fun x112 =>
   C0.int .i64 l108[4]? fun x113 =>
   C0.int .i64 l108[5]? fun x114 =>
   C0.int .i64 l108[6]? fun x115 =>
   C0.int .i64 l108[7]? fun x116 =>
   C0.int .i64 l108[8]? fun x117 =>
   C0.snp h107 [(.agg [v97, (iz x98), (iz x99), (iz x100), (iz x101), (iz x102), (iz x103), (iz x104), (iz x105)]), (.agg [v109, (iz x110), (iz x111), (iz x112), (iz x113), (iz x114), (iz x115), (iz x116), (iz x117)])] fun l118 b119 =>
   C0.bool (pcall M d 19 l118) fun b120 =>
   cnd (b119 || true)
   (cnd (!b120)
   (C0.fin h107 bf)
   (C0.hop h107 (.load true 9 (.v v86)) fun v121 h122 =>
   C0.agg 9 (some v121) fun l123 =>
   C0.any l123[0]? fun v124 =>
   C0.int .i64 l123[1]? fun x125 =>
   C0.int .i64 l123[2]? fun x126 =>
   C0.int .i64 l123[3]? fun x127 =>
   C0.int .i64 l123[4]? fun x128 =>
   C0.int .i64 l123[5]? fun x129 =>
   C0.int .i64 l123[6]? fun x130 =>
   C0.int .i64 l123[7]? fun x131 =>
   C0.int .i64 l123[8]? fun x132 =>
   C0.hop h122 (.load true 9 (.v v0)) fun v133 h134 =>
   C0.agg 9 (some v133) fun l135 =>
   C0.any l135[0]? fun v136 =>
   C0.int .i64 l135[1]? fun x137 =>
   C0.int .i64 l135[2]? fun x138 =>
   C0.int .i64 l135[3]? fun x139 =>
   C0.int .i64 l135[4]? fun x140 =>
   C0.int .i64 l135[5]? fun x141 =>
   C0.int .i64 l135[6]? fun x142 =>
   C0.int .i64 l135[7]? fun x143 =>
   C0.int .i64 l135[8]? fun x144 =>
   C0.snp h134 [(.agg [v124, (iz x125), (iz x126), (iz x127), (iz x128), (iz x129), (iz x130), (iz x131), (iz x132)]), (.agg [v136, (iz x137), (iz x138), (iz x139), (iz x140), (iz x141), (iz x142), (iz x143), (iz x144)])] fun l145 b146 =>
   C0.bool (pcall M d 20 l145) fun b147 =>
   cnd (b146 || true)
   (cnd (!b147)
   (C0.fin h134 bf)
   (C0.hop h134 (.load true 9 (.v v0)) fun v148 h149 =>
   C0.agg 9 (some v148) fun l150 =>
   C0.any l150[0]? fun v151 =>
   C0.int .i64 l150[1]? fun x152 =>
   C0.int .i64 l150[2]? fun x153 =>
   C0.int .i64 l150[3]? fun x154 =>
   C0.int .i64 l150[4]? fun x155 =>
   C0.int .i64 l150[5]? fun x156 =>
   C0.int .i64 l150[6]? fun x157 =>
   C0.int .i64 l150[7]? fun x158 =>
   C0.int .i64 l150[8]? fun x159 =>
   C0.hop h149 (.load true 9 (.v v2)) fun v160 h161 =>
   C0.agg 9 (some v160) fun l162 =>
   C0.any l162[0]? fun v163 =>
   C0.int .i64 l162[1]? fun x164 =>
   C0.int .i64 l162[2]? fun x165 =>
   C0.int .i64 l162[3]? fun x166 =>
   C0.int .i64 l162[4]? fun x167 =>
   C0.int .i64 l162[5]? fun x168 =>
   C0.int .i64 l162[6]? fun x169 =>
   C0.int .i64 l162[7]? fun x170 =>
   C0.int .i64 l162[8]? fun x171 =>
   C0.snp h161 [(.agg [v151, (iz x152), (iz x153), (iz x154), (iz x155), (iz x156), (iz x157), (iz x158), (iz x159)]), (.agg [v163, (iz x164), (iz x165), (iz x166), (iz x167), (iz x168), (iz x169), (iz x170), (iz x171)])] fun l172 b173 =>
   C0.bool (pcall M d 20 l172) fun b174 =>
   cnd (b173 || true)
   (C0.hop h161 (.load true 9 (.v v0)) fun v175 h176 =>
   C0.agg 9 (some v175) fun l177 =>
   C0.any l177[0]? fun v178 =>
   C0.int .i64 l177[1]? fun x179 =>
   C0.int .i64 l177[2]? fun x180 =>
   C0.int .i64 l177[3]? fun x181 =>
   C0.int .i64 l177[4]? fun x182 =>
   C0.int .i64 l177[5]? fun x183 =>
   C0.int .i64 l177[6]? fun x184 =>
   C0.int .i64 l177[7]? fun x185 =>
   C0.int .i64 l177[8]? fun x186 =>
   C0.hop h176 (.load true 9 (.v v2)) fun v187 h188 =>
   C0.agg 9 (some v187) fun l189 =>
   C0.any l189[0]? fun v190 =>
   C0.int .i64 l189[1]? fun x191 =>
   C0.int .i64 l189[2]? fun x192 =>
   C0.int .i64 l189[3]? fun x193 =>
   C0.int .i64 l189[4]? fun x194 =>
   C0.int .i64 l189[5]? fun x195 =>
   C0.int .i64 l189[6]? fun x196 =>
   C0.int .i64 l189[7]? fun x197 =>
   C0.int .i64 l189[8]? fun x198 =>
   C0.snp h188 [(.agg [v178, (iz x179), (iz x180), (iz x181), (iz x182), (iz x183), (iz x184), (iz x185), (iz x186)]), (.agg [v190, (iz x191), (iz x192), (iz x193), (iz x194), (iz x195), (iz x196), (iz x197), (iz x198)])] fun l199 b200 =>
   C0.bool (pcall M d 19 l199) fun b201 =>
   cnd (b200 || true)
   (cnd (xor true (b174 == b201))
   (C0.fin h188 bf)
   (C0.hop h188 (.load true 9 (.v v0)) fun v202 h203 =>
   C0.agg 9 (some v202) fun l204 =>
   C0.any l204[0]? fun v205 =>
   C0.int .i64 l204[1]? fun x206 =>
   C0.int .i64 l204[2]? fun x207 =>
   C0.int .i64 l204[3]? fun x208 =>
   C0.int .i64 l204[4]? fun x209 =>
   C0.int .i64 l204[5]? fun x210 =>
   C0.int .i64 l204[6]? fun x211 =>
   C0.int .i64 l204[7]? fun x212 =>
   C0.int .i64 l204[8]? fun x213 =>
   C0.hop h203 (.load true 9 (.v v2)) fun v214 h215 =>
   C0.agg 9 (some v214) fun l216 =>
   C0.any l216[0]? fun v217 =>
   C0.int .i64 l216[1]? fun x218 =>
   C0.int .i64 l216[2]? fun x219 =>
   C0.int .i64 l216[3]? fun x220 =>
   C0.int .i64 l216[4]? fun x221 =>
   C0.int .i64 l216[5]? fun x222 =>
   C0.int .i64 l216[6]? fun x223 =>
   C0.int .i64 l216[7]? fun x224 =>
   C0.int .i64 l216[8]? fun x225 =>
   C0.snp h215 [(.agg [v205, (iz x206), (iz x207), (iz x208), (iz x209), (iz x210), (iz x211), (iz x212), (iz x213)]), (.agg [v217, (iz x218), (iz x219), (iz x220), (iz x221), (iz x222), (iz x223), (iz x224), (iz x225)])] fun l226 b227 =>
   C0.bool (pcall M d 20 l226) fun b228 =>
   cnd (b227 || true)
   (C0.hop h215 (.load true 9 (.v v2)) fun v229 h230 =>
   C0.agg 9 (some v229) fun l231 =>
   C0.any l231[0]? fun v232 =>
   C0.int .i64 l231[1]? fun x233 =>
   C0.int .i64 l231[2]? fun x234 =>
   C0.int .i64 l231[3]? fun x235 =>
   C0.int .i64 l231[4]? fun x236 =>
   C0.int .i64 l231[5]? fun x237 =>
   C0.int .i64 l231[6]? fun x238 =>
   C0.int .i64 l231[7]? fun x239 =>
   C0.int .i64 l231[8]? fun x240 =>
   C0.hop h230 (.load true 9 (.v v0)) fun v241 h242 =>
   C0.agg 9 (some v241) fun l243 =>
   C0.any l243[0]? fun v244 =>
   C0.int .i64 l243[1]? fun x245 =>
   C0.int .i64 l243[2]? fun x246 =>
   C0.int .i64 l243[3]? fun x247 =>
   C0.int .i64 l243[4]? fun x248 =>
   C0.int .i64 l243[5]? fun x249 =>
   C0.int .i64 l243[6]? fun x250 =>
   C0.int .i64 l243[7]? fun x251 =>
   C0.int .i64 l243[8]? fun x252 =>
   C0.snp h242 [(.agg [v232, (iz x233), (iz x234), (iz x235), (iz x236), (iz x237), (iz x238), (iz x239), (iz x240)]), (.agg [v244, (iz x245), (iz x246), (iz x247), (iz x248), (iz x249), (iz x250), (iz x251), (iz x252)])] fun l253 b254 =>
   C0.bool (pcall M d 20 l253) fun b255 =>
   cnd (b254 || true)
   (cnd (xor true (b228 == b255))
   (C0.fin h242 bf)
   (C0.hop h242 (.fldA 0 (.v v86)) fun v256 h257 =>
   C0.hop h257 (.load false 1 (.v v256)) fun v258 h259 =>
   C0.hop h259 (.bk .lenV [(.v v258)]) fun v260 h261 =>
   C0.int .i64 (some v260) fun x262 =>
   L4_0 d v0 v86 v88 x262 10000000000000000000 0 h261))
   (none))
   (none)))
   (none))
   (none)))
   (none)))
   (none)))
   (none)))
   (none)) := (r4 C0 d a0 a1 a2 a3 a4 a5 a6 a7 a8 a9 a10 a11 a12 a13 a14 a15 a16 a17).trans (by simp only [it4_0])
end Go.Proofs.Ytffiilnmfmkpmaa.AE

namespace Go.Proofs.Ytffiilnmfmkpmaa.AE
set_option linter.unusedVariables false
set_option linter.unusedSimpArgs false
set_option linter.constructorNameAsVariable false
open Go Go.Proofs.Ytffiilnmfmkpmaa.Geo
set_option maxRecDepth 100000
attribute [local irreducible] pcall C0
theorem or_tt (b : Bool) : (b || true) = true := by cases b <;> rfl
/-- A row of places, in memory from lo on, ahead of hi. -/
def ShA (H : Heap) (lo hi : Nat) (av : AV) : Prop := av = .lst [] ∨ ∃ id ps, lo ≤ id ∧ id < hi ∧ av = .slc id 0 (ps : List Pt).length ∧ hget H id = some ⟨E39, ps.map pt⟩ ∧ ps.length ≤ 1000000
/-- Phases, in memory from lo on, ahead of hi. -/
def Shp (H : Heap) (lo hi : Nat) (v : AV) (n : Nat) : Prop := (n = 0 ∧ v = .lst []) ∨ ∃ id els, lo ≤ id ∧ id < hi ∧ v = .slc id 0 n ∧ hget H id = some ⟨E30, els⟩ ∧ els.length = n ∧
  ∀ i, i < n → ∃ av p, els[i]? = some (phX av p) ∧ ShA H (id + 1) hi av
theorem shp_of {H : Heap} {lo hi : Nat} {v : AV} {l : List Phs} (hl : ∀ p ∈ l, p.ps.length ≤ 1000000) (h : CpOf H lo hi v l) : Shp H lo hi v l.length := by
  rcases h with ⟨rfl, rfl⟩ | ⟨id, els, a, b, c, d, e, f⟩
  · exact .inl ⟨rfl, rfl⟩
  · refine .inr ⟨id, els, a, b, c, d, e, fun i hi => ?_⟩
    obtain ⟨av, g1, g2⟩ := f i _ (List.getElem?_eq_getElem hi)
    refine ⟨av, _, g1, ?_⟩
    rcases g2 with ⟨_, g⟩ | ⟨id', x, y, z, w⟩
    · exact .inl g
    · exact .inr ⟨id', _, x, y, z, w, hl _ (List.getElem_mem hi)⟩
/-- A row is put anew, so long as it was. -/
theorem sha_set {H : Heap} {lo hi id' : Nat} {av : AV} {ps ps' : List Pt} (h : ShA H lo hi av) (hg : hget H id' = some ⟨E39, ps.map pt⟩) (hl : ps'.length = ps.length) : ShA (H.set id' (some ⟨E39, ps'.map pt⟩)) lo hi av := by
  rcases h with h | ⟨id, qs, a, b, c, d, e⟩
  · exact .inl h
  · by_cases hi : id' = id
    · subst hi
      rw [d] at hg
      injection hg with hg; injection hg with _ hg
      have hq : qs.length = ps.length := by have := congrArg List.length hg; simpa using this
      exact .inr ⟨id', ps', a, b, by rw [c, hl, hq], hget_set (hg_lt d), by omega⟩
    · exact .inr ⟨id, qs, a, b, c, by rw [hget_set_ne hi]; exact d, e⟩
theorem sha_keep {H H' : Heap} {lo hi : Nat} {av : AV} (h : ShA H lo hi av) (hk : ∀ id b, lo ≤ id → id < hi → hget H id = some b → hget H' id = some b) : ShA H' lo hi av := by
  rcases h with h | ⟨id, qs, a, b, c, d, e⟩
  · exact .inl h
  · exact .inr ⟨id, qs, a, b, c, hk _ _ a b d, e⟩
structure JS (a : Rul) (vc vd lo mid hi : Nat) (v vD : AV) (H : Heap) : Prop where
  c : hget H vc = some ⟨E24, [rlX v a]⟩
  d : hget H vd = some ⟨E24, [rlX vD a]⟩
  z : hget H 0 = some ⟨E24, [rl a]⟩
  s : Shp H lo mid v a.phs.length
  cp : CpOf H mid hi vD a.phs
section
variable {a : Rul} {vc vd lo mid hi : Nat} {v vD : AV} (h0 : 0 < lo) (h1 : mid ≤ hi) (h2 : hi ≤ vc) (h3 : hi ≤ vd)
theorem js_set {H : Heap} {id : Nat} {x : Blk} (h0 : 0 < lo) (h1 : mid ≤ hi) (h2 : hi ≤ vc) (h3 : hi ≤ vd) (h : JS a vc vd lo mid hi v vD H) (ha : lo ≤ id) (hb : id < mid) (hs : Shp (H.set id (some x)) lo mid v a.phs.length) : JS a vc vd lo mid hi v vD (H.set id (some x)) :=
  ⟨by rw [hget_set_ne (by omega)]; exact h.c, by rw [hget_set_ne (by omega)]; exact h.d, by rw [hget_set_ne (by omega)]; exact h.z, hs, cp_mono h.cp (Nat.le_refl _) (Nat.le_refl _) fun _ _ _ _ q => by rw [hget_set_ne (by omega)]; exact q⟩
theorem in_go (h0 : 0 < lo) (h1 : mid ≤ hi) (h2 : hi ≤ vc) (h3 : hi ≤ vd) (idc i n id' : Nat) (av : AV) (p : Phs) (els : List AV) (kN : Int → Heap → Ans) (hv : v = .slc idc 0 a.phs.length) (hlo : lo ≤ idc) (hmid : idc < mid) (hi' : i < a.phs.length) (hel : els[i]? = some (phX av p)) (hle : els.length = a.phs.length) (hn : n ≤ 1000000)
    (hav : av = .slc id' 0 n) (hid1 : idc < id') (hid2 : id' < mid) : ∀ (m k : Nat), k + m = n → ∀ f, m < f → ∀ H, JS a vc vd lo mid hi v vD H → hget H idc = some ⟨E30, els⟩ → (∃ ps : List Pt, hget H id' = some ⟨E39, ps.map pt⟩ ∧ ps.length = n) →
    ∃ H', JS a vc vd lo mid hi v vD H' ∧ L4_1 40 (.ptr vc 0 0) (i : Nat) (n : Nat) kN f (k : Nat) H = kN (IntKind.wrap .i64 (((i : Nat) : Int) + 1)) H'
  | 0, k, h, f + 1, _, H, hJ, hg, hp => ⟨H, hJ, by rw [L4_1_s, decide_eq_false (by omega), cnd_f]; rfl⟩
  | m + 1, k, h, f + 1, hf, H, hJ, hg, ⟨ps, hp, hpl⟩ => by
    have hk : k < ps.length := by omega
    have hq : (ps.map pt)[k]? = some (pt ps[k]) := by rw [List.getElem?_map, List.getElem?_eq_getElem hk]; rfl
    let ps' := ps.set k (IntKind.wrap .i64 ((ps[k]).1 + 1), (ps[k]).2)
    have hps : (ps.map pt).set k (pt (IntKind.wrap .i64 ((ps[k]).1 + 1), (ps[k]).2)) = ps'.map pt := by rw [List.map_set]
    have hl' : ps'.length = ps.length := List.length_set ..
    have hset : hget (H.set id' (some ⟨E39, ps'.map pt⟩)) idc = some ⟨E30, els⟩ := by rw [hget_set_ne (by omega)]; exact hg
    have hs : Shp (H.set id' (some ⟨E39, ps'.map pt⟩)) lo mid v a.phs.length := by
      rcases hJ.s with hs | ⟨id, els', q1, q2, q3, q4, q5, q6⟩
      · exact .inl hs
      · rw [hv] at q3
        injection q3 with q3 _ _
        subst q3
        rw [hg] at q4
        injection q4 with q4; injection q4 with _ q4
        subst q4
        refine .inr ⟨idc, els, q1, q2, hv, hset, q5, fun j hj => ?_⟩
        obtain ⟨av', p', g1, g2⟩ := q6 j hj
        exact ⟨av', p', g1, sha_set g2 hp hl'⟩
    have hJ' := js_set h0 h1 h2 h3 hJ (by omega) hid2 hs
    obtain ⟨H', g1, g2⟩ := in_go h0 h1 h2 h3 idc i n id' av p els kN hv hlo hmid hi' hel hle hn hav hid1 hid2 m (k + 1) (by omega) f (by omega) _ hJ' hset ⟨ps', hget_set (hg_lt hp), by rw [hl', hpl]⟩
    refine ⟨H', g1, ?_⟩
    have hJc := hJ.c
    rw [hv] at hJc
    rw [L4_1_s, decide_eq_true (by omega), cnd_t]
    refine Eq.trans sh_ptr ?_
    refine Eq.trans (ld_ptr hJc rfl rfl) ?_
    refine Eq.trans (ix_slc hg (by omega) (by omega) rfl) ?_
    refine Eq.trans sh_ptr ?_
    refine Eq.trans (ld_ptr (v := av) hg (by rw [show 0 + ((i : Nat) : Int).toNat = i by omega]; exact hel) rfl) ?_
    rw [hav]
    refine Eq.trans (ix_slc hp (by omega) (by omega) rfl) ?_
    refine Eq.trans sh_ptr ?_
    refine Eq.trans (ld_ptr (v := .int .i64 (ps[k]).1) hp (by rw [show 0 + ((k : Nat) : Int).toNat = k by omega]; exact hq) rfl) ?_
    refine Eq.trans (pl_int (by rfl)) ?_
    refine Eq.trans (ix_slc hp (by omega) (by omega) rfl) ?_
    refine Eq.trans sh_ptr ?_
    refine Eq.trans (st_ptr (el' := pt (IntKind.wrap .i64 ((ps[k]).1 + 1), (ps[k]).2)) hp (by rw [show 0 + ((k : Nat) : Int).toNat = k by omega]; exact hq) rfl) ?_
    rw [show 0 + ((k : Nat) : Int).toNat = k by omega, hps, show IntKind.wrap .i64 (((k : Nat) : Int) + 1) = ((k + 1 : Nat) : Int) by rw [i64w]; omega]
    exact g2
theorem out_go (h0 : 0 < lo) (h1 : mid ≤ hi) (h2 : hi ≤ vc) (h3 : hi ≤ vd) (hl : a.phs.length ≤ 1000000) (ha : ∀ p ∈ a.phs, p.ps.length ≤ 140737488355328) : ∀ (m i : Nat), i + m = a.phs.length → ∀ f, m < f → ∀ H, JS a vc vd lo mid hi v vD H →
    L4_0 40 (.ptr 0 0 0) (.ptr vc 0 0) (.ptr vd 0 0) (a.phs.length : Nat) f (i : Nat) H = some (.bool true)
  | 0, i, h, f + 1, _, H, hJ => by
    rw [L4_0_s, decide_eq_false (by omega), cnd_f]
    unfold X4_0_0
    refine Eq.trans (ld_ptr hJ.z rfl rfl) ?_
    refine Eq.trans (pl_agg (by rfl) (by rfl)) ?_; refine Eq.trans (pl_any (by rfl)) ?_; refine Eq.trans (pl_int (by rfl)) ?_; refine Eq.trans (pl_int (by rfl)) ?_; refine Eq.trans (pl_int (by rfl)) ?_; refine Eq.trans (pl_int (by rfl)) ?_; refine Eq.trans (pl_int (by rfl)) ?_; refine Eq.trans (pl_int (by rfl)) ?_; refine Eq.trans (pl_int (by rfl)) ?_; refine Eq.trans (pl_int (by rfl)) ?_
    refine Eq.trans (ld_ptr hJ.d rfl rfl) ?_
    refine Eq.trans (pl_agg (by rfl) (by rfl)) ?_; refine Eq.trans (pl_any (by rfl)) ?_; refine Eq.trans (pl_int (by rfl)) ?_; refine Eq.trans (pl_int (by rfl)) ?_; refine Eq.trans (pl_int (by rfl)) ?_; refine Eq.trans (pl_int (by rfl)) ?_; refine Eq.trans (pl_int (by rfl)) ?_; refine Eq.trans (pl_int (by rfl)) ?_; refine Eq.trans (pl_int (by rfl)) ?_; refine Eq.trans (pl_int (by rfl)) ?_
    obtain ⟨b, e⟩ := snp_cp3 (q := a) hJ.cp
    refine Eq.trans (e _) ?_
    refine Eq.trans (pl_bool (s19 37 a a hl hl ha ha)) ?_
    rw [or_tt, cnd_t, sameX_r]
    exact finB
  | m + 1, i, h, f + 1, hf, H, hJ => by
    have hi' : i < a.phs.length := by omega
    rcases hJ.s with ⟨q, _⟩ | ⟨idc, els, q1, q2, q3, q4, q5, q6⟩
    · omega
    obtain ⟨av, p, g1, g2⟩ := q6 i hi'
    have hx : 0 + ((i : Nat) : Int).toNat = i := by omega
    have hw : IntKind.wrap .i64 (((i : Nat) : Int) + 1) = ((i + 1 : Nat) : Int) := by rw [i64w]; omega
    let p' : Phs := { p with g := IntKind.wrap .i64 (p.g + 1) }
    have hi3 : (els.set i (phX av p'))[i]? = some (phX av p') := List.getElem?_set_self (by omega)
    have hk2 : ∀ id' b, idc + 1 ≤ id' → id' < mid → hget H id' = some b → hget (H.set idc (some ⟨E30, els.set i (phX av p')⟩)) id' = some b := fun id' b x _ hb => by rw [hget_set_ne (by omega)]; exact hb
    have hs : Shp (H.set idc (some ⟨E30, els.set i (phX av p')⟩)) lo mid v a.phs.length := by
      refine .inr ⟨idc, els.set i (phX av p'), q1, q2, q3, hget_set (hg_lt q4), by rw [List.length_set]; exact q5, fun j hj => ?_⟩
      by_cases hij : i = j
      · subst hij
        exact ⟨av, p', hi3, sha_keep g2 hk2⟩
      · obtain ⟨av2, p2, r1, r2⟩ := q6 j hj
        exact ⟨av2, p2, by rw [List.getElem?_set_ne hij]; exact r1, sha_keep r2 hk2⟩
    have hJ' := js_set h0 h1 h2 h3 hJ q1 q2 hs
    have q4' : hget (H.set idc (some ⟨E30, els.set i (phX av p')⟩)) idc = some ⟨E30, els.set i (phX av p')⟩ := hget_set (hg_lt q4)
    have hJc := hJ.c
    rw [q3] at hJc
    have hJc' := hJ'.c
    rw [q3] at hJc'
    rw [L4_0_s, decide_eq_true (by omega), cnd_t]
    refine Eq.trans sh_ptr ?_
    refine Eq.trans (ld_ptr hJc rfl rfl) ?_
    refine Eq.trans (ix_slc q4 (by omega) (by omega) rfl) ?_
    refine Eq.trans sh_ptr ?_
    refine Eq.trans (ld_ptr (v := .int .i64 p.g) q4 (by rw [hx]; exact g1) rfl) ?_
    refine Eq.trans (pl_int (by rfl)) ?_
    refine Eq.trans (ix_slc q4 (by omega) (by omega) rfl) ?_
    refine Eq.trans sh_ptr ?_
    refine Eq.trans (st_ptr (el' := phX av p') q4 (by rw [hx]; exact g1) rfl) ?_
    rw [hx]
    refine Eq.trans sh_ptr ?_
    refine Eq.trans (ld_ptr hJc' rfl rfl) ?_
    refine Eq.trans (ix_slc q4' (by omega) (by omega) rfl) ?_
    refine Eq.trans sh_ptr ?_
    refine Eq.trans (ld_ptr (v := av) q4' (by rw [hx]; exact hi3) rfl) ?_
    rcases sha_keep g2 hk2 with rfl | ⟨id', ps, r1, r2, r3, r4, r5⟩
    · refine Eq.trans len_lst ?_
      refine Eq.trans (pl_int (by rfl)) ?_
      rw [show 10000000000000000000 = (9999999999999999999) + 1 from rfl, L4_1_s, decide_eq_false (by simp), cnd_f]
      unfold X4_1_0
      rw [hw]
      exact out_go h0 h1 h2 h3 hl ha m (i + 1) (by omega) f (by omega) _ hJ'
    · subst r3
      refine Eq.trans (hop_eq (v := .int .i64 (ps.length : Nat)) (by simp only [aop, evO, lenOf]; rw [r4])) ?_
      refine Eq.trans (pl_int (by rfl)) ?_
      obtain ⟨H', k1, k2⟩ := in_go h0 h1 h2 h3 idc i ps.length id' (.slc id' 0 ps.length) p' (els.set i (phX (.slc id' 0 ps.length) p')) (fun x268 H => L4_0 40 (.ptr 0 0 0) (.ptr vc 0 0) (.ptr vd 0 0) (a.phs.length : Nat) f x268 H) q3 q1 q2 hi' hi3 (by rw [List.length_set]; exact q5) r5 rfl (by omega) r2 ps.length 0 (by omega) 10000000000000000000 (by omega) _ hJ' q4' ⟨ps, r4, rfl⟩
      refine Eq.trans k2 ?_
      rw [hw]
      exact out_go h0 h1 h2 h3 hl ha m (i + 1) (by omega) f (by omega) _ k1
end
theorem put_cp {H : Heap} {lo hi : Nat} {v : AV} {r : Rul} (h : CpOf H lo hi v r.phs) : putSub 9 0 (rlX v r) (E24).zero = some (rlX v r) := by
  rcases h with ⟨_, h⟩ | ⟨id, els, _, _, h, _⟩ <;> rw [h] <;> rfl
theorem same_law (a b : Rul) (hl : a.phs.length ≤ 9223372036854775807) (hm : b.phs.length ≤ 9223372036854775807) : pcall M 41 4 [rl a, rl b] = some (.bool true) := told (q4 40 _ _ _ _ _ _ _ _ _ _ _ _ _ _ _ _ _ _) (by
  have za : ∀ X : Heap, hget (some ⟨E24, [rl a]⟩ :: some ⟨E24, [rl b]⟩ :: X) 0 = some ⟨E24, [rl a]⟩ := fun _ => rfl
  have zb : ∀ X : Heap, hget (some ⟨E24, [rl a]⟩ :: some ⟨E24, [rl b]⟩ :: X) 1 = some ⟨E24, [rl b]⟩ := fun _ => rfl
  refine Eq.trans (hop_eq (v := .ptr 0 0 0) (H' := [some ⟨E24, [rl a]⟩]) (by rfl)) ?_
  refine Eq.trans (hop_eq (v := .ptr 1 0 0) (H' := [some ⟨E24, [rl a]⟩, some ⟨E24, [rl b]⟩]) (by rfl)) ?_
  refine Eq.trans (pl_bool awake) ?_
  refine Eq.trans (pl_f (by rfl)) ?_
  refine Eq.trans (ld_ptr (za _) rfl rfl) ?_
  refine Eq.trans (pl_agg (by rfl) (by rfl)) ?_; refine Eq.trans (pl_any (by rfl)) ?_; refine Eq.trans (pl_int (by rfl)) ?_; refine Eq.trans (pl_int (by rfl)) ?_; refine Eq.trans (pl_int (by rfl)) ?_; refine Eq.trans (pl_int (by rfl)) ?_; refine Eq.trans (pl_int (by rfl)) ?_; refine Eq.trans (pl_int (by rfl)) ?_; refine Eq.trans (pl_int (by rfl)) ?_; refine Eq.trans (pl_int (by rfl)) ?_
  refine Eq.trans (snp_free (by rfl)) ?_
  refine Eq.trans (pl_bool (s9 39 a hl)) ?_
  refine Eq.trans (pl_len (by rfl)) ?_
  by_cases hf : fewX a.phs = true
  rotate_left
  · refine Eq.trans (pl_len (by rw [Bool.eq_false_iff.mpr hf]; rfl)) ?_
    refine Eq.trans (pl_bool awake) ?_
    exact finB
  refine Eq.trans (pl_f (by rw [hf]; rfl)) ?_
  refine Eq.trans (ld_ptr (zb _) rfl rfl) ?_
  refine Eq.trans (pl_agg (by rfl) (by rfl)) ?_; refine Eq.trans (pl_any (by rfl)) ?_; refine Eq.trans (pl_int (by rfl)) ?_; refine Eq.trans (pl_int (by rfl)) ?_; refine Eq.trans (pl_int (by rfl)) ?_; refine Eq.trans (pl_int (by rfl)) ?_; refine Eq.trans (pl_int (by rfl)) ?_; refine Eq.trans (pl_int (by rfl)) ?_; refine Eq.trans (pl_int (by rfl)) ?_; refine Eq.trans (pl_int (by rfl)) ?_
  refine Eq.trans (snp_free (by rfl)) ?_
  refine Eq.trans (pl_bool (s9 39 b hm)) ?_
  refine Eq.trans (pl_len (by rfl)) ?_
  by_cases hf' : fewX b.phs = true
  rotate_left
  · refine Eq.trans (pl_len (by rw [Bool.eq_false_iff.mpr hf']; rfl)) ?_
    refine Eq.trans (pl_bool awake) ?_
    exact finB
  refine Eq.trans (pl_f (by rw [hf']; rfl)) ?_
  obtain ⟨f1, f2⟩ := few_t hf
  obtain ⟨f3, f4⟩ := few_t hf'
  have ha : ∀ p ∈ a.phs, p.ps.length ≤ 140737488355328 := fun p hp => by have := f1 p hp; omega
  have hb : ∀ p ∈ b.phs, p.ps.length ≤ 140737488355328 := fun p hp => by have := f3 p hp; omega
  have hl6 : a.phs.length ≤ 1000000 := by omega
  have hm6 : b.phs.length ≤ 1000000 := by omega
  have ha6 : ∀ p ∈ a.phs, p.ps.length ≤ 1000000 := fun p hp => by have := f1 p hp; omega
  obtain ⟨Z, hZ⟩ : ∃ Z : Heap, Z = [some ⟨E24, [rl a]⟩, some ⟨E24, [rl b]⟩] := ⟨_, rfl⟩
  rw [← hZ]
  have z0 : hget Z 0 = some ⟨E24, [rl a]⟩ := by rw [hZ]; rfl
  have z1 : hget Z 1 = some ⟨E24, [rl b]⟩ := by rw [hZ]; rfl
  have zl : Z.length = 2 := by rw [hZ]; rfl
  refine Eq.trans (ld_ptr z0 rfl rfl) ?_
  refine Eq.trans (pl_agg (by rfl) (by rfl)) ?_; refine Eq.trans (pl_any (by rfl)) ?_; refine Eq.trans (pl_int (by rfl)) ?_; refine Eq.trans (pl_int (by rfl)) ?_; refine Eq.trans (pl_int (by rfl)) ?_; refine Eq.trans (pl_int (by rfl)) ?_; refine Eq.trans (pl_int (by rfl)) ?_; refine Eq.trans (pl_int (by rfl)) ?_; refine Eq.trans (pl_int (by rfl)) ?_; refine Eq.trans (pl_int (by rfl)) ?_
  refine Eq.trans (cal_eq (copyF 39 2 a hl6 ha6 _)) ?_
  refine Eq.trans (pl_agg (by rfl) (by rfl)) ?_; refine Eq.trans (pl_any (by rfl)) ?_; refine Eq.trans (pl_int (by rfl)) ?_; refine Eq.trans (pl_int (by rfl)) ?_; refine Eq.trans (pl_int (by rfl)) ?_; refine Eq.trans (pl_int (by rfl)) ?_; refine Eq.trans (pl_int (by rfl)) ?_; refine Eq.trans (pl_int (by rfl)) ?_; refine Eq.trans (pl_int (by rfl)) ?_; refine Eq.trans (pl_int (by rfl)) ?_
  have hc := cp_copy Z a
  obtain ⟨G1, hG1⟩ : ∃ G1 : Heap, G1 = Z ++ cpS Z.length a := ⟨_, rfl⟩
  rw [← hG1] at hc ⊢
  have g0 : hget G1 0 = some ⟨E24, [rl a]⟩ := by rw [hG1]; exact hget_app z0
  have g1 : hget G1 1 = some ⟨E24, [rl b]⟩ := by rw [hG1]; exact hget_app z1
  have gl : 2 ≤ G1.length := by rw [hG1, List.length_append]; omega
  refine Eq.trans (ld_ptr g0 rfl rfl) ?_
  refine Eq.trans (pl_agg (by rfl) (by rfl)) ?_; refine Eq.trans (pl_any (by rfl)) ?_; refine Eq.trans (pl_int (by rfl)) ?_; refine Eq.trans (pl_int (by rfl)) ?_; refine Eq.trans (pl_int (by rfl)) ?_; refine Eq.trans (pl_int (by rfl)) ?_; refine Eq.trans (pl_int (by rfl)) ?_; refine Eq.trans (pl_int (by rfl)) ?_; refine Eq.trans (pl_int (by rfl)) ?_; refine Eq.trans (pl_int (by rfl)) ?_
  refine Eq.trans (cal_eq (copyF 39 2 a hl6 ha6 _)) ?_
  refine Eq.trans (pl_agg (by rfl) (by rfl)) ?_; refine Eq.trans (pl_any (by rfl)) ?_; refine Eq.trans (pl_int (by rfl)) ?_; refine Eq.trans (pl_int (by rfl)) ?_; refine Eq.trans (pl_int (by rfl)) ?_; refine Eq.trans (pl_int (by rfl)) ?_; refine Eq.trans (pl_int (by rfl)) ?_; refine Eq.trans (pl_int (by rfl)) ?_; refine Eq.trans (pl_int (by rfl)) ?_; refine Eq.trans (pl_int (by rfl)) ?_
  have hd := cp_copy G1 a
  obtain ⟨G, hG⟩ : ∃ G : Heap, G = G1 ++ cpS G1.length a := ⟨_, rfl⟩
  rw [← hG] at hd ⊢
  have hcG : CpOf G Z.length G1.length (phV Z.length a) a.phs := by rw [hG]; exact cp_mono hc (Nat.le_refl _) (Nat.le_refl _) fun _ _ _ _ h => hget_app h
  have G0 : hget G 0 = some ⟨E24, [rl a]⟩ := by rw [hG]; exact hget_app g0
  have G1' : hget G 1 = some ⟨E24, [rl b]⟩ := by rw [hG]; exact hget_app g1
  have Gl : G1.length ≤ G.length := by rw [hG, List.length_append]; omega
  refine Eq.trans al_n ?_
  refine Eq.trans al_s ?_
  refine Eq.trans (st_s rfl rfl (put_cp hcG)) ?_
  refine Eq.trans (st_s rfl rfl (put_cp hd)) ?_
  obtain ⟨H, hH⟩ : ∃ H : Heap, H = G ++ [some ⟨E24, [rlX (phV Z.length a) a]⟩, some ⟨E24, [rlX (phV G1.length a) a]⟩] := ⟨_, rfl⟩
  change C0.hop (G ++ [some ⟨E24, [rlX (phV Z.length a) a]⟩, some ⟨E24, [rlX (phV G1.length a) a]⟩]) _ _ = _
  rw [← hH]
  have h0 : hget H 0 = some ⟨E24, [rl a]⟩ := by rw [hH]; exact hget_app G0
  have h1 : hget H 1 = some ⟨E24, [rl b]⟩ := by rw [hH]; exact hget_app G1'
  have hv : hget H (G.length + 0) = some ⟨E24, [rlX (phV Z.length a) a]⟩ := by rw [hH]; exact hget_s rfl
  have hw : hget H (G.length + 1) = some ⟨E24, [rlX (phV G1.length a) a]⟩ := by rw [hH]; exact hget_s rfl
  have hcH : CpOf H Z.length G1.length (phV Z.length a) a.phs := by rw [hH]; exact cp_mono hcG (Nat.le_refl _) (Nat.le_refl _) fun _ _ _ _ h => hget_app h
  have hdH : CpOf H G1.length G.length (phV G1.length a) a.phs := by rw [hH]; exact cp_mono hd (Nat.le_refl _) (Nat.le_refl _) fun _ _ _ _ h => hget_app h
  have R := s19 37 a a hl6 hl6 ha ha
  have Q := s20 36 a a hl6 ha ha
  have Rab := s19 37 a b hl6 hm6 ha hb
  have Qab := s20 36 a b hl6 ha hb
  have Qba := s20 36 b a hm6 hb ha
  obtain ⟨b1, e1⟩ := snp_cp2 (q := a) hcH
  refine Eq.trans (ld_ptr hv rfl rfl) ?_
  refine Eq.trans (pl_agg (by rfl) (by rfl)) ?_; refine Eq.trans (pl_any (by rfl)) ?_; refine Eq.trans (pl_int (by rfl)) ?_; refine Eq.trans (pl_int (by rfl)) ?_; refine Eq.trans (pl_int (by rfl)) ?_; refine Eq.trans (pl_int (by rfl)) ?_; refine Eq.trans (pl_int (by rfl)) ?_; refine Eq.trans (pl_int (by rfl)) ?_; refine Eq.trans (pl_int (by rfl)) ?_; refine Eq.trans (pl_int (by rfl)) ?_
  refine Eq.trans (ld_ptr h0 rfl rfl) ?_
  refine Eq.trans (pl_agg (by rfl) (by rfl)) ?_; refine Eq.trans (pl_any (by rfl)) ?_; refine Eq.trans (pl_int (by rfl)) ?_; refine Eq.trans (pl_int (by rfl)) ?_; refine Eq.trans (pl_int (by rfl)) ?_; refine Eq.trans (pl_int (by rfl)) ?_; refine Eq.trans (pl_int (by rfl)) ?_; refine Eq.trans (pl_int (by rfl)) ?_; refine Eq.trans (pl_int (by rfl)) ?_; refine Eq.trans (pl_int (by rfl)) ?_
  refine Eq.trans (e1 _) ?_
  refine Eq.trans (pl_bool R) ?_
  rw [or_tt, cnd_t, sameX_r]
  refine Eq.trans (pl_f (by rfl)) ?_
  refine Eq.trans (ld_ptr hv rfl rfl) ?_
  refine Eq.trans (pl_agg (by rfl) (by rfl)) ?_; refine Eq.trans (pl_any (by rfl)) ?_; refine Eq.trans (pl_int (by rfl)) ?_; refine Eq.trans (pl_int (by rfl)) ?_; refine Eq.trans (pl_int (by rfl)) ?_; refine Eq.trans (pl_int (by rfl)) ?_; refine Eq.trans (pl_int (by rfl)) ?_; refine Eq.trans (pl_int (by rfl)) ?_; refine Eq.trans (pl_int (by rfl)) ?_; refine Eq.trans (pl_int (by rfl)) ?_
  refine Eq.trans (ld_ptr h0 rfl rfl) ?_
  refine Eq.trans (pl_agg (by rfl) (by rfl)) ?_; refine Eq.trans (pl_any (by rfl)) ?_; refine Eq.trans (pl_int (by rfl)) ?_; refine Eq.trans (pl_int (by rfl)) ?_; refine Eq.trans (pl_int (by rfl)) ?_; refine Eq.trans (pl_int (by rfl)) ?_; refine Eq.trans (pl_int (by rfl)) ?_; refine Eq.trans (pl_int (by rfl)) ?_; refine Eq.trans (pl_int (by rfl)) ?_; refine Eq.trans (pl_int (by rfl)) ?_
  refine Eq.trans (e1 _) ?_
  refine Eq.trans (pl_bool Q) ?_
  rw [or_tt, cnd_t, sameX_r]
  refine Eq.trans (pl_f (by rfl)) ?_
  refine Eq.trans (ld_ptr h0 rfl rfl) ?_
  refine Eq.trans (pl_agg (by rfl) (by rfl)) ?_; refine Eq.trans (pl_any (by rfl)) ?_; refine Eq.trans (pl_int (by rfl)) ?_; refine Eq.trans (pl_int (by rfl)) ?_; refine Eq.trans (pl_int (by rfl)) ?_; refine Eq.trans (pl_int (by rfl)) ?_; refine Eq.trans (pl_int (by rfl)) ?_; refine Eq.trans (pl_int (by rfl)) ?_; refine Eq.trans (pl_int (by rfl)) ?_; refine Eq.trans (pl_int (by rfl)) ?_
  refine Eq.trans (ld_ptr h1 rfl rfl) ?_
  refine Eq.trans (pl_agg (by rfl) (by rfl)) ?_; refine Eq.trans (pl_any (by rfl)) ?_; refine Eq.trans (pl_int (by rfl)) ?_; refine Eq.trans (pl_int (by rfl)) ?_; refine Eq.trans (pl_int (by rfl)) ?_; refine Eq.trans (pl_int (by rfl)) ?_; refine Eq.trans (pl_int (by rfl)) ?_; refine Eq.trans (pl_int (by rfl)) ?_; refine Eq.trans (pl_int (by rfl)) ?_; refine Eq.trans (pl_int (by rfl)) ?_
  refine Eq.trans (snp_free (by rfl)) ?_
  refine Eq.trans (pl_bool Qab) ?_
  refine Eq.trans (pl_len (by rfl)) ?_
  refine Eq.trans (ld_ptr h0 rfl rfl) ?_
  refine Eq.trans (pl_agg (by rfl) (by rfl)) ?_; refine Eq.trans (pl_any (by rfl)) ?_; refine Eq.trans (pl_int (by rfl)) ?_; refine Eq.trans (pl_int (by rfl)) ?_; refine Eq.trans (pl_int (by rfl)) ?_; refine Eq.trans (pl_int (by rfl)) ?_; refine Eq.trans (pl_int (by rfl)) ?_; refine Eq.trans (pl_int (by rfl)) ?_; refine Eq.trans (pl_int (by rfl)) ?_; refine Eq.trans (pl_int (by rfl)) ?_
  refine Eq.trans (ld_ptr h1 rfl rfl) ?_
  refine Eq.trans (pl_agg (by rfl) (by rfl)) ?_; refine Eq.trans (pl_any (by rfl)) ?_; refine Eq.trans (pl_int (by rfl)) ?_; refine Eq.trans (pl_int (by rfl)) ?_; refine Eq.trans (pl_int (by rfl)) ?_; refine Eq.trans (pl_int (by rfl)) ?_; refine Eq.trans (pl_int (by rfl)) ?_; refine Eq.trans (pl_int (by rfl)) ?_; refine Eq.trans (pl_int (by rfl)) ?_; refine Eq.trans (pl_int (by rfl)) ?_
  refine Eq.trans (snp_free (by rfl)) ?_
  refine Eq.trans (pl_bool Rab) ?_
  refine Eq.trans (pl_len (by rfl)) ?_
  refine Eq.trans (pl_f (by simp)) ?_
  refine Eq.trans (ld_ptr h0 rfl rfl) ?_
  refine Eq.trans (pl_agg (by rfl) (by rfl)) ?_; refine Eq.trans (pl_any (by rfl)) ?_; refine Eq.trans (pl_int (by rfl)) ?_; refine Eq.trans (pl_int (by rfl)) ?_; refine Eq.trans (pl_int (by rfl)) ?_; refine Eq.trans (pl_int (by rfl)) ?_; refine Eq.trans (pl_int (by rfl)) ?_; refine Eq.trans (pl_int (by rfl)) ?_; refine Eq.trans (pl_int (by rfl)) ?_; refine Eq.trans (pl_int (by rfl)) ?_
  refine Eq.trans (ld_ptr h1 rfl rfl) ?_
  refine Eq.trans (pl_agg (by rfl) (by rfl)) ?_; refine Eq.trans (pl_any (by rfl)) ?_; refine Eq.trans (pl_int (by rfl)) ?_; refine Eq.trans (pl_int (by rfl)) ?_; refine Eq.trans (pl_int (by rfl)) ?_; refine Eq.trans (pl_int (by rfl)) ?_; refine Eq.trans (pl_int (by rfl)) ?_; refine Eq.trans (pl_int (by rfl)) ?_; refine Eq.trans (pl_int (by rfl)) ?_; refine Eq.trans (pl_int (by rfl)) ?_
  refine Eq.trans (snp_free (by rfl)) ?_
  refine Eq.trans (pl_bool Qab) ?_
  refine Eq.trans (pl_len (by rfl)) ?_
  refine Eq.trans (ld_ptr h1 rfl rfl) ?_
  refine Eq.trans (pl_agg (by rfl) (by rfl)) ?_; refine Eq.trans (pl_any (by rfl)) ?_; refine Eq.trans (pl_int (by rfl)) ?_; refine Eq.trans (pl_int (by rfl)) ?_; refine Eq.trans (pl_int (by rfl)) ?_; refine Eq.trans (pl_int (by rfl)) ?_; refine Eq.trans (pl_int (by rfl)) ?_; refine Eq.trans (pl_int (by rfl)) ?_; refine Eq.trans (pl_int (by rfl)) ?_; refine Eq.trans (pl_int (by rfl)) ?_
  refine Eq.trans (ld_ptr h0 rfl rfl) ?_
  refine Eq.trans (pl_agg (by rfl) (by rfl)) ?_; refine Eq.trans (pl_any (by rfl)) ?_; refine Eq.trans (pl_int (by rfl)) ?_; refine Eq.trans (pl_int (by rfl)) ?_; refine Eq.trans (pl_int (by rfl)) ?_; refine Eq.trans (pl_int (by rfl)) ?_; refine Eq.trans (pl_int (by rfl)) ?_; refine Eq.trans (pl_int (by rfl)) ?_; refine Eq.trans (pl_int (by rfl)) ?_; refine Eq.trans (pl_int (by rfl)) ?_
  refine Eq.trans (snp_free (by rfl)) ?_
  refine Eq.trans (pl_bool Qba) ?_
  refine Eq.trans (pl_len (by rfl)) ?_
  refine Eq.trans (pl_f (by rw [sameX_c b a]; simp)) ?_
  refine Eq.trans sh_ptr ?_
  refine Eq.trans (ld_ptr hv rfl rfl) ?_
  refine Eq.trans (len_cp hcH) ?_
  refine Eq.trans (pl_int (by rfl)) ?_
  exact out_go (a := a) (vc := G.length + 0) (vd := G.length + 1) (lo := Z.length) (mid := G1.length) (hi := G.length) (v := phV Z.length a) (vD := phV G1.length a) (by omega) Gl (by omega) (by omega) hl6 ha a.phs.length 0 (by omega) 10000000000000000000 (by omega) H ⟨hv, hw, h0, shp_of ha6 hcH, hdH⟩)
theorem law_RulesSame (a0 : AV) (a1 : AV) (w0 : TyOK true [(.sl true [(.sl true [(.i .i64), (.i .i64)]), (.i .i64), (.i .i64), (.i .i64), (.i .i64)]), (.i .i64), (.i .i64), (.i .i64), (.i .i64), (.i .i64), (.i .i64), (.i .i64), (.i .i64)] a0) (w1 : TyOK true [(.sl true [(.sl true [(.i .i64), (.i .i64)]), (.i .i64), (.i .i64), (.i .i64), (.i .i64)]), (.i .i64), (.i .i64), (.i .i64), (.i .i64), (.i .i64), (.i .i64), (.i .i64), (.i .i64)] a1) :
    pcall M 41 4 [a0, a1] = some (.bool true) := by
  obtain ⟨r, rfl, hl⟩ := ty_rul w0
  obtain ⟨r', rfl, hl'⟩ := ty_rul w1
  exact same_law r r' hl hl'
end Go.Proofs.Ytffiilnmfmkpmaa.AE

namespace Go.Proofs.Ytffiilnmfmkpmaa.AE
set_option linter.unusedVariables false
set_option linter.unusedSimpArgs false
set_option linter.constructorNameAsVariable false
open Go Go.RowKit

theorem frl_nil {w : World} {bad : Nat → Prop} : ∀ (i : Nat) (c : AV) (u : Value), ([] : List AV)[i]? = some c → ([] : List Value)[i]? = some u → FRep w bad c u := fun _ _ _ h => by cases h
theorem frl_cons {w : World} {bad : Nat → Prop} {c0 : AV} {u0 : Value} {cs : List AV} {us : List Value} (h0 : FRep w bad c0 u0) (h : ∀ (i : Nat) (c : AV) (u : Value), cs[i]? = some c → us[i]? = some u → FRep w bad c u) :
    ∀ (i : Nat) (c : AV) (u : Value), (c0 :: cs)[i]? = some c → (u0 :: us)[i]? = some u → FRep w bad c u
  | 0, c, u, hc, hu => by cases hc; cases hu; exact h0
  | i + 1, c, u, hc, hu => h i c u hc hu
theorem law_calls {d : Nat} {g : FuncId} {args : List AV} {vs : List Value} (h : pcall M d g args = some (.bool true)) (W : World) (hl : args.length = vs.length)
    (hr : ∀ (i : Nat) (c : AV) (u : Value), args[i]? = some c → vs[i]? = some u → FRep W (fun _ => False) c u) (hc : (cFn Try.prog g).isSome = true := by kernel_rfl) : Calls Try.prog g vs.toArray W fun e W' => e = .returned (.bool true) ∧ Below W.heap.size W W' := by
  obtain ⟨fn, hfn⟩ := Option.isSome_iff_exists.mp hc
  rcases pcall_law modOK d g args _ h W (fun _ => False) vs (fun _ h => h.elim) hl hr with ⟨cv, w', h1, _⟩ | ⟨_, h2⟩
  · rw [enter_run hfn] at h1; cases h1
  · refine h2.mono ?_
    rintro e W' ⟨cv, rfl, hf, hb⟩
    cases hf
    exact ⟨rfl, hb⟩
theorem str_size {w : World} {bad : Nat → Prop} {b : List UInt8} {s : ByteArray} (h : FRep w bad (.str b) (.string s)) : s.data.toList.length = b.length := by
  cases h
  rfl
end Go.Proofs.Ytffiilnmfmkpmaa.AE
