/- The texts that the law BoxOrder needs, part 0. No conditions. -/
import Derived.Test.YtjblhppbjebagaaMc3
namespace Go.Proofs.Ytjblhppbjebagaa.AE
set_option linter.unusedVariables false
set_option linter.unusedSimpArgs false
set_option linter.constructorNameAsVariable false
open Go Go.Proofs.Ytjblhppbjebagaa.Geo
theorem inX_t {a b : Bx} : inX a b = true ↔ rightX a = true ∧ rightX b = true ∧ b.1.1 ≤ a.1.1 ∧ a.2.1 ≤ b.2.1 ∧ b.1.2 ≤ a.1.2 ∧ a.2.2 ≤ b.2.2 := by
  unfold inX
  simp only [Bool.and_eq_true, hasX_t]
  constructor
  · rintro ⟨h1, ⟨h2, h3, h4⟩, h5, h6, h7⟩
    unfold HasB at h4 h7
    exact ⟨h1, h2, by omega, by omega, by omega, by omega⟩
  · rintro ⟨h1, h2, h3, h4, h5, h6⟩
    obtain ⟨o1, o2, ox, oy⟩ := rightX_t.mp h1
    exact ⟨h1, ⟨h2, o1, by unfold HasB; omega⟩, h2, o2, by unfold HasB; omega⟩
theorem inX_trans {a b c : Bx} (h : inX a b = true) (h2 : inX b c = true) : inX a c = true := by
  rw [inX_t] at *
  exact ⟨h.1, h2.2.1, by omega, by omega, by omega, by omega⟩
theorem inX_anti {a b : Bx} (h : inX a b = true) (h2 : inX b a = true) : a = b := by
  rw [inX_t] at *
  exact Prod.ext (Prod.ext (by omega) (by omega)) (Prod.ext (by omega) (by omega))
theorem joinX_comm (a b : Bx) : joinX a b = joinX b a := by
  unfold joinX
  cases rightX a <;> cases rightX b <;> simp only [cond_true, cond_false]
  rw [Int.min_comm, Int.max_comm, Int.min_comm a.1.2, Int.max_comm a.2.2]
theorem rightX_join {a b : Bx} (ha : rightX a = true) (hb : rightX b = true) : rightX (joinX a b) = true := by
  unfold joinX
  rw [ha, hb]
  simp only [cond_true]
  obtain ⟨⟨⟨u1, u2⟩, u3, u4⟩, ⟨⟨u5, u6⟩, u7, u8⟩, ux, uy⟩ := rightX_t.mp ha
  obtain ⟨⟨⟨v1, v2⟩, v3, v4⟩, ⟨⟨v5, v6⟩, v7, v8⟩, vx, vy⟩ := rightX_t.mp hb
  refine rightX_t.mpr ⟨⟨⟨?_, ?_⟩, ?_, ?_⟩, ⟨⟨?_, ?_⟩, ?_, ?_⟩, ?_, ?_⟩ <;> simp only <;> omega
theorem in_join {a : Bx} (b : Bx) (ha : rightX a = true) : inX a (joinX a b) = true := by
  cases hb : rightX b
  · have : joinX a b = a := by unfold joinX; rw [ha, hb]; rfl
    rw [this, inX_t]; exact ⟨ha, ha, by omega, by omega, by omega, by omega⟩
  · rw [inX_t]
    refine ⟨ha, rightX_join ha hb, ?_⟩
    unfold joinX; rw [ha, hb]; simp only [cond_true]; omega
theorem join_in {a b c : Bx} (h : inX a c = true) (h2 : inX b c = true) : inX (joinX a b) c = true := by
  rw [inX_t] at *
  obtain ⟨ha, hc, h3⟩ := h
  obtain ⟨hb, -, h4⟩ := h2
  refine ⟨rightX_join ha hb, hc, ?_⟩
  unfold joinX; rw [ha, hb]; simp only [cond_true]; omega
theorem hold_rng (n : Int) : -1099511627776 ≤ holdX n ∧ holdX n ≤ 1099511627776 := by unfold holdX clampX; split <;> (try split) <;> omega
theorem hold_mono {x y : Int} (h : x ≤ y) : holdX x ≤ holdX y := by unfold holdX clampX; split <;> split <;> (try split) <;> (try split) <;> omega
theorem clamp_mono {x y : Int} (h : x ≤ y) : clampX x 0 4398046511104 ≤ clampX y 0 4398046511104 := by unfold clampX; split <;> split <;> (try split) <;> (try split) <;> omega
theorem ofX_right {p : Pt} (n : Int) (hp : okb p = true) : rightX (ofX p n) = true := by
  unfold ofX; rw [hp]; simp only [cond_true]
  have c := clamp_rng n
  exact rightX_t.mpr ⟨⟨hold_rng _, hold_rng _⟩, ⟨hold_rng _, hold_rng _⟩, hold_mono (by omega), hold_mono (by omega)⟩
theorem ofX_mono {p : Pt} {n m : Int} (hp : okb p = true) (h : n ≤ m) : inX (ofX p n) (ofX p m) = true := by
  rw [inX_t]
  refine ⟨ofX_right n hp, ofX_right m hp, ?_⟩
  unfold ofX; rw [hp]; simp only [cond_true]
  have c := clamp_mono h
  exact ⟨hold_mono (by omega), hold_mono (by omega), hold_mono (by omega), hold_mono (by omega)⟩
theorem C0_agg4 (a b c e : AV) (K : List AV → Ans) : C0.agg 4 (some (.agg [a, b, c, e])) K = K [a, b, c, e] := C0_agg 4 _ rfl K
end Go.Proofs.Ytjblhppbjebagaa.AE

namespace Go.Proofs.Ytjblhppbjebagaa.AE
set_option linter.unusedVariables false
set_option linter.unusedSimpArgs false
set_option linter.constructorNameAsVariable false
open Go
set_option maxRecDepth 100000
def r8R3 (C : Cb) (d : Nat) (a0 a1 a2 a3 a4 a5 a6 a7 a8 a9 a10 a11 a12 a13 a14 a15 x1 x2 x3 x4 : Int) (b104 b105 b106 : Bool) (v107 v108 v109 v110 v111 v112 v113 v114 v115 v116 v117 v118 v119 v120 : AV) (b121 b122 : Bool) (v123 v124 v125 v126 v127 v128 v129 v130 v131 v132 v133 v134 v135 : AV) (b136 b137 : Bool) (v138 v139 v140 v141 v142 : AV) (x173 x174 x175 x176 : Int) (b177 b178 : Bool) (v179 v180 v181 v182 : AV) (b183 b184 : Bool) (v185 v186 v187 v188 v189 v190 v191 v192 : AV) (x221 x222 x223 x224 : Int) (b225 b226 : Bool) (v227 v228 v229 : AV) (b230 b231 : Bool) (v232 v233 v234 : AV) (b235 b236 : Bool) (v237 v238 v239 v240 : AV) : St → (Ex → St → Ans) → Ans := fun s242 k243 =>
  cnd ((List.length (St.env s242)) == 110)
   (C.same (St.env s242)[0]? (.agg [(.int .i64 a0), (.int .i64 a1), (.int .i64 a2), (.int .i64 a3)]) <|
   C.same (St.env s242)[1]? (.agg [(.int .i64 a4), (.int .i64 a5), (.int .i64 a6), (.int .i64 a7)]) <|
   C.same (St.env s242)[2]? (.agg [(.int .i64 a8), (.int .i64 a9), (.int .i64 a10), (.int .i64 a11)]) <|
   C.same (St.env s242)[3]? (.agg [(.int .i64 a12), (.int .i64 a13)]) <|
   C.same (St.env s242)[4]? (.int .i64 a14) <|
   C.same (St.env s242)[5]? (.int .i64 a15) <|
   C.same (St.env s242)[6]? (.ptr 0 0 0) <|
   C.same (St.env s242)[7]? (.ptr 1 0 0) <|
   C.same (St.env s242)[8]? (.ptr 2 0 0) <|
   C.same (St.env s242)[9]? (.ptr 3 0 0) <|
   C.same (St.env s242)[10]? (.tup []) <|
   C.same (St.env s242)[11]? (.tup []) <|
   C.bool (St.env s242)[12]? fun b245 =>
   C.same (St.env s242)[13]? (.ptr 4 0 0) <|
   C.same (St.env s242)[14]? (.agg [(.int .i64 a0), (.int .i64 a1), (.int .i64 a2), (.int .i64 a3)]) <|
   C.same (St.env s242)[15]? (.agg [(.int .i64 a4), (.int .i64 a5), (.int .i64 a6), (.int .i64 a7)]) <|
   C.same (St.env s242)[16]? (.agg [(.int .i64 x1), (.int .i64 x2), (.int .i64 x3), (.int .i64 x4)]) <|
   C.same (St.env s242)[17]? (.bool b104) <|
   C.same (St.env s242)[18]? (.bool b105) <|
   C.same (St.env s242)[19]? (.bool b106) <|
   C.same (St.env s242)[20]? v107 <|
   C.same (St.env s242)[21]? v108 <|
   C.same (St.env s242)[22]? v109 <|
   C.same (St.env s242)[23]? v110 <|
   C.same (St.env s242)[24]? v111 <|
   C.same (St.env s242)[25]? v112 <|
   C.same (St.env s242)[26]? v113 <|
   C.same (St.env s242)[27]? v114 <|
   C.same (St.env s242)[28]? v115 <|
   C.same (St.env s242)[29]? v116 <|
   C.same (St.env s242)[30]? v117 <|
   C.same (St.env s242)[31]? v118 <|
   C.same (St.env s242)[32]? v119 <|
   C.same (St.env s242)[33]? v120 <|
   C.same (St.env s242)[34]? (.bool b121) <|
   C.same (St.env s242)[35]? (.bool b122) <|
   C.same (St.env s242)[36]? v123 <|
   C.same (St.env s242)[37]? v124 <|
   C.same (St.env s242)[38]? v125 <|
   C.same (St.env s242)[39]? v126 <|
   C.same (St.env s242)[40]? v127 <|
   C.same (St.env s242)[41]? v128 <|
   C.same (St.env s242)[42]? v129 <|
   C.same (St.env s242)[43]? v130 <|
   C.same (St.env s242)[44]? v131 <|
   C.same (St.env s242)[45]? v132 <|
   C.same (St.env s242)[46]? v133 <|
   C.same (St.env s242)[47]? v134 <|
   C.same (St.env s242)[48]? v135 <|
   C.same (St.env s242)[49]? (.bool b136) <|
   C.same (St.env s242)[50]? (.bool b137) <|
   C.same (St.env s242)[51]? v138 <|
   C.same (St.env s242)[52]? v139 <|
   C.same (St.env s242)[53]? v140 <|
   C.same (St.env s242)[54]? v141 <|
   C.same (St.env s242)[55]? v142 <|
   C.same (St.env s242)[56]? (.bool false) <|
   C.same (St.env s242)[57]? (.agg [(.int .i64 x173), (.int .i64 x174), (.int .i64 x175), (.int .i64 x176)]) <|
   C.same (St.env s242)[58]? (.bool b177) <|
   C.same (St.env s242)[59]? (.bool b178) <|
   C.same (St.env s242)[60]? v179 <|
   C.same (St.env s242)[61]? v180 <|
   C.same (St.env s242)[62]? v181 <|
   C.same (St.env s242)[63]? v182 <|
   C.same (St.env s242)[64]? (.bool b183) <|
   C.same (St.env s242)[65]? (.bool b184) <|
   C.same (St.env s242)[66]? v185 <|
   C.same (St.env s242)[67]? v186 <|
   C.same (St.env s242)[68]? v187 <|
   C.same (St.env s242)[69]? v188 <|
   C.same (St.env s242)[70]? v189 <|
   C.same (St.env s242)[71]? v190 <|
   C.same (St.env s242)[72]? v191 <|
   C.same (St.env s242)[73]? v192 <|
   C.same (St.env s242)[74]? (.bool false) <|
   C.same (St.env s242)[75]? (.agg [(.int .i64 x221), (.int .i64 x222), (.int .i64 x223), (.int .i64 x224)]) <|
   C.same (St.env s242)[76]? (.bool b225) <|
   C.same (St.env s242)[77]? (.bool b226) <|
   C.same (St.env s242)[78]? v227 <|
   C.same (St.env s242)[79]? v228 <|
   C.same (St.env s242)[80]? v229 <|
   C.same (St.env s242)[81]? (.bool b230) <|
   C.same (St.env s242)[82]? (.bool b231) <|
   C.same (St.env s242)[83]? v232 <|
   C.same (St.env s242)[84]? v233 <|
   C.same (St.env s242)[85]? v234 <|
   C.same (St.env s242)[86]? (.bool b235) <|
   C.same (St.env s242)[87]? (.bool b236) <|
   C.same (St.env s242)[88]? v237 <|
   C.same (St.env s242)[89]? v238 <|
   C.same (St.env s242)[90]? v239 <|
   C.same (St.env s242)[91]? v240 <|
   C.same (St.env s242)[92]? (.bool false) <|
   C.any (St.env s242)[93]? fun v246 =>
   C.any (St.env s242)[94]? fun v247 =>
   C.any (St.env s242)[95]? fun v248 =>
   C.any (St.env s242)[96]? fun v249 =>
   C.any (St.env s242)[97]? fun v250 =>
   C.any (St.env s242)[98]? fun v251 =>
   C.any (St.env s242)[99]? fun v252 =>
   C.any (St.env s242)[100]? fun v253 =>
   C.any (St.env s242)[101]? fun v254 =>
   C.any (St.env s242)[102]? fun v255 =>
   C.any (St.env s242)[103]? fun v256 =>
   C.any (St.env s242)[104]? fun v257 =>
   C.any (St.env s242)[105]? fun v258 =>
   C.any (St.env s242)[106]? fun v259 =>
   C.any (St.env s242)[107]? fun v260 =>
   C.any (St.env s242)[108]? fun v261 =>
   C.any (St.env s242)[109]? fun v262 =>
   C.sameH (St.H s242) [some ⟨E25, [(.agg [(.int .i64 a0), (.int .i64 a1), (.int .i64 a2), (.int .i64 a3)])]⟩, some ⟨E25, [(.agg [(.int .i64 a4), (.int .i64 a5), (.int .i64 a6), (.int .i64 a7)])]⟩, some ⟨E25, [(.agg [(.int .i64 a8), (.int .i64 a9), (.int .i64 a10), (.int .i64 a11)])]⟩, some ⟨E23, [(.agg [(.int .i64 a12), (.int .i64 a13)])]⟩, some ⟨E25, [(.agg [(.int .i64 x1), (.int .i64 x2), (.int .i64 x3), (.int .i64 x4)])]⟩] <|
   C.bool (pcall M d 26 [(.agg [(.int .i64 a12), (.int .i64 a13)])]) fun b263 =>
   cnd (!b263)
   (k243 (.exit 2000000) ⟨[(.agg [(.int .i64 a0), (.int .i64 a1), (.int .i64 a2), (.int .i64 a3)]), (.agg [(.int .i64 a4), (.int .i64 a5), (.int .i64 a6), (.int .i64 a7)]), (.agg [(.int .i64 a8), (.int .i64 a9), (.int .i64 a10), (.int .i64 a11)]), (.agg [(.int .i64 a12), (.int .i64 a13)]), (.int .i64 a14), (.int .i64 a15), (.ptr 0 0 0), (.ptr 1 0 0), (.ptr 2 0 0), (.ptr 3 0 0), (.tup []), (.tup []), (.bool true), (.ptr 4 0 0), (.agg [(.int .i64 a0), (.int .i64 a1), (.int .i64 a2), (.int .i64 a3)]), (.agg [(.int .i64 a4), (.int .i64 a5), (.int .i64 a6), (.int .i64 a7)]), (.agg [(.int .i64 x1), (.int .i64 x2), (.int .i64 x3), (.int .i64 x4)]), (.bool b104), (.bool b105), (.bool b106), v107, v108, v109, v110, v111, v112, v113, v114, v115, v116, v117, v118, v119, v120, (.bool b121), (.bool b122), v123, v124, v125, v126, v127, v128, v129, v130, v131, v132, v133, v134, v135, (.bool b136), (.bool b137), v138, v139, v140, v141, v142, (.bool false), (.agg [(.int .i64 x173), (.int .i64 x174), (.int .i64 x175), (.int .i64 x176)]), (.bool b177), (.bool b178), v179, v180, v181, v182, (.bool b183), (.bool b184), v185, v186, v187, v188, v189, v190, v191, v192, (.bool false), (.agg [(.int .i64 x221), (.int .i64 x222), (.int .i64 x223), (.int .i64 x224)]), (.bool b225), (.bool b226), v227, v228, v229, (.bool b230), (.bool b231), v232, v233, v234, (.bool b235), (.bool b236), v237, v238, v239, v240, (.bool false), (.agg [(.int .i64 a12), (.int .i64 a13)]), (.bool b263), (.bool (!b263)), (.bool true), (.tup []), (.tup []), (.tup []), (.bool true), (.bool true), (.tup []), (.tup []), (.tup []), (.tup []), (.tup []), (.tup []), (.tup []), (.bool true)], [some ⟨E25, [(.agg [(.int .i64 a0), (.int .i64 a1), (.int .i64 a2), (.int .i64 a3)])]⟩, some ⟨E25, [(.agg [(.int .i64 a4), (.int .i64 a5), (.int .i64 a6), (.int .i64 a7)])]⟩, some ⟨E25, [(.agg [(.int .i64 a8), (.int .i64 a9), (.int .i64 a10), (.int .i64 a11)])]⟩, some ⟨E23, [(.agg [(.int .i64 a12), (.int .i64 a13)])]⟩, some ⟨E25, [(.agg [(.int .i64 x1), (.int .i64 x2), (.int .i64 x3), (.int .i64 x4)])]⟩]⟩)
   (cnd (decide (a14 > a15))
   (k243 (.exit 2000000) ⟨[(.agg [(.int .i64 a0), (.int .i64 a1), (.int .i64 a2), (.int .i64 a3)]), (.agg [(.int .i64 a4), (.int .i64 a5), (.int .i64 a6), (.int .i64 a7)]), (.agg [(.int .i64 a8), (.int .i64 a9), (.int .i64 a10), (.int .i64 a11)]), (.agg [(.int .i64 a12), (.int .i64 a13)]), (.int .i64 a14), (.int .i64 a15), (.ptr 0 0 0), (.ptr 1 0 0), (.ptr 2 0 0), (.ptr 3 0 0), (.tup []), (.tup []), (.bool true), (.ptr 4 0 0), (.agg [(.int .i64 a0), (.int .i64 a1), (.int .i64 a2), (.int .i64 a3)]), (.agg [(.int .i64 a4), (.int .i64 a5), (.int .i64 a6), (.int .i64 a7)]), (.agg [(.int .i64 x1), (.int .i64 x2), (.int .i64 x3), (.int .i64 x4)]), (.bool b104), (.bool b105), (.bool b106), v107, v108, v109, v110, v111, v112, v113, v114, v115, v116, v117, v118, v119, v120, (.bool b121), (.bool b122), v123, v124, v125, v126, v127, v128, v129, v130, v131, v132, v133, v134, v135, (.bool b136), (.bool b137), v138, v139, v140, v141, v142, (.bool false), (.agg [(.int .i64 x173), (.int .i64 x174), (.int .i64 x175), (.int .i64 x176)]), (.bool b177), (.bool b178), v179, v180, v181, v182, (.bool b183), (.bool b184), v185, v186, v187, v188, v189, v190, v191, v192, (.bool false), (.agg [(.int .i64 x221), (.int .i64 x222), (.int .i64 x223), (.int .i64 x224)]), (.bool b225), (.bool b226), v227, v228, v229, (.bool b230), (.bool b231), v232, v233, v234, (.bool b235), (.bool b236), v237, v238, v239, v240, (.bool false), (.agg [(.int .i64 a12), (.int .i64 a13)]), (.bool b263), (.bool (!b263)), (.bool false), (.int .i64 a14), (.int .i64 a15), (.bool (decide (a14 > a15))), (.bool (decide (a14 > a15))), (.bool true), (.tup []), (.tup []), (.tup []), (.tup []), (.tup []), (.tup []), (.tup []), (.bool true)], [some ⟨E25, [(.agg [(.int .i64 a0), (.int .i64 a1), (.int .i64 a2), (.int .i64 a3)])]⟩, some ⟨E25, [(.agg [(.int .i64 a4), (.int .i64 a5), (.int .i64 a6), (.int .i64 a7)])]⟩, some ⟨E25, [(.agg [(.int .i64 a8), (.int .i64 a9), (.int .i64 a10), (.int .i64 a11)])]⟩, some ⟨E23, [(.agg [(.int .i64 a12), (.int .i64 a13)])]⟩, some ⟨E25, [(.agg [(.int .i64 x1), (.int .i64 x2), (.int .i64 x3), (.int .i64 x4)])]⟩]⟩)
   (C.agg 4 (pcall M d 14 [(.agg [(.int .i64 a12), (.int .i64 a13)]), (.int .i64 a14)]) fun l264 =>
   C.int .i64 l264[0]? fun x265 =>
   C.int .i64 l264[1]? fun x266 =>
   C.int .i64 l264[2]? fun x267 =>
   C.int .i64 l264[3]? fun x268 =>
   C.agg 4 (pcall M d 14 [(.agg [(.int .i64 a12), (.int .i64 a13)]), (.int .i64 a15)]) fun l269 =>
   C.int .i64 l269[0]? fun x270 =>
   C.int .i64 l269[1]? fun x271 =>
   C.int .i64 l269[2]? fun x272 =>
   C.int .i64 l269[3]? fun x273 =>
   C.bool (pcall M d 17 [(.agg [(.int .i64 x265), (.int .i64 x266), (.int .i64 x267), (.int .i64 x268)]), (.agg [(.int .i64 x270), (.int .i64 x271), (.int .i64 x272), (.int .i64 x273)])]) fun b274 =>
   k243 (.exit 2000000) ⟨[(.agg [(.int .i64 a0), (.int .i64 a1), (.int .i64 a2), (.int .i64 a3)]), (.agg [(.int .i64 a4), (.int .i64 a5), (.int .i64 a6), (.int .i64 a7)]), (.agg [(.int .i64 a8), (.int .i64 a9), (.int .i64 a10), (.int .i64 a11)]), (.agg [(.int .i64 a12), (.int .i64 a13)]), (.int .i64 a14), (.int .i64 a15), (.ptr 0 0 0), (.ptr 1 0 0), (.ptr 2 0 0), (.ptr 3 0 0), (.tup []), (.tup []), (.bool b274), (.ptr 4 0 0), (.agg [(.int .i64 a0), (.int .i64 a1), (.int .i64 a2), (.int .i64 a3)]), (.agg [(.int .i64 a4), (.int .i64 a5), (.int .i64 a6), (.int .i64 a7)]), (.agg [(.int .i64 x1), (.int .i64 x2), (.int .i64 x3), (.int .i64 x4)]), (.bool b104), (.bool b105), (.bool b106), v107, v108, v109, v110, v111, v112, v113, v114, v115, v116, v117, v118, v119, v120, (.bool b121), (.bool b122), v123, v124, v125, v126, v127, v128, v129, v130, v131, v132, v133, v134, v135, (.bool b136), (.bool b137), v138, v139, v140, v141, v142, (.bool false), (.agg [(.int .i64 x173), (.int .i64 x174), (.int .i64 x175), (.int .i64 x176)]), (.bool b177), (.bool b178), v179, v180, v181, v182, (.bool b183), (.bool b184), v185, v186, v187, v188, v189, v190, v191, v192, (.bool false), (.agg [(.int .i64 x221), (.int .i64 x222), (.int .i64 x223), (.int .i64 x224)]), (.bool b225), (.bool b226), v227, v228, v229, (.bool b230), (.bool b231), v232, v233, v234, (.bool b235), (.bool b236), v237, v238, v239, v240, (.bool false), (.agg [(.int .i64 a12), (.int .i64 a13)]), (.bool b263), (.bool (!b263)), (.bool false), (.int .i64 a14), (.int .i64 a15), (.bool (decide (a14 > a15))), (.bool (decide (a14 > a15))), (.bool false), (.agg [(.int .i64 a12), (.int .i64 a13)]), (.int .i64 a14), (.agg [(.int .i64 x265), (.int .i64 x266), (.int .i64 x267), (.int .i64 x268)]), (.agg [(.int .i64 a12), (.int .i64 a13)]), (.int .i64 a15), (.agg [(.int .i64 x270), (.int .i64 x271), (.int .i64 x272), (.int .i64 x273)]), (.bool b274), (.bool b274)], [some ⟨E25, [(.agg [(.int .i64 a0), (.int .i64 a1), (.int .i64 a2), (.int .i64 a3)])]⟩, some ⟨E25, [(.agg [(.int .i64 a4), (.int .i64 a5), (.int .i64 a6), (.int .i64 a7)])]⟩, some ⟨E25, [(.agg [(.int .i64 a8), (.int .i64 a9), (.int .i64 a10), (.int .i64 a11)])]⟩, some ⟨E23, [(.agg [(.int .i64 a12), (.int .i64 a13)])]⟩, some ⟨E25, [(.agg [(.int .i64 x1), (.int .i64 x2), (.int .i64 x3), (.int .i64 x4)])]⟩]⟩)))
   (none)
def r8X3_0 (C : Cb) (d : Nat) (a0 a1 a2 a3 a4 a5 a6 a7 a8 a9 a10 a11 a12 a13 a14 a15 x1 x2 x3 x4 : Int) (b104 b105 b106 : Bool) (v107 v108 v109 v110 v111 v112 v113 v114 v115 v116 v117 v118 v119 v120 : AV) (b121 b122 : Bool) (v123 v124 v125 v126 v127 v128 v129 v130 v131 v132 v133 v134 v135 : AV) (b136 b137 : Bool) (v138 v139 v140 v141 v142 : AV) (x173 x174 x175 x176 : Int) (b177 b178 : Bool) (v179 v180 v181 v182 : AV) (b183 b184 : Bool) (v185 v186 v187 v188 v189 v190 v191 v192 : AV) (x221 x222 x223 x224 : Int) (b225 b226 : Bool) (v227 v228 v229 : AV) (b230 b231 : Bool) (v232 v233 v234 : AV) (b235 b236 : Bool) (v237 v238 v239 v240 : AV) : St → Ans := fun s275 =>
  cnd ((List.length (St.env s275)) == 110)
   (C.same (St.env s275)[0]? (.agg [(.int .i64 a0), (.int .i64 a1), (.int .i64 a2), (.int .i64 a3)]) <|
   C.same (St.env s275)[1]? (.agg [(.int .i64 a4), (.int .i64 a5), (.int .i64 a6), (.int .i64 a7)]) <|
   C.same (St.env s275)[2]? (.agg [(.int .i64 a8), (.int .i64 a9), (.int .i64 a10), (.int .i64 a11)]) <|
   C.same (St.env s275)[3]? (.agg [(.int .i64 a12), (.int .i64 a13)]) <|
   C.same (St.env s275)[4]? (.int .i64 a14) <|
   C.same (St.env s275)[5]? (.int .i64 a15) <|
   C.same (St.env s275)[6]? (.ptr 0 0 0) <|
   C.same (St.env s275)[7]? (.ptr 1 0 0) <|
   C.same (St.env s275)[8]? (.ptr 2 0 0) <|
   C.same (St.env s275)[9]? (.ptr 3 0 0) <|
   C.same (St.env s275)[10]? (.tup []) <|
   C.same (St.env s275)[11]? (.tup []) <|
   C.bool (St.env s275)[12]? fun b276 =>
   C.same (St.env s275)[13]? (.ptr 4 0 0) <|
   C.same (St.env s275)[14]? (.agg [(.int .i64 a0), (.int .i64 a1), (.int .i64 a2), (.int .i64 a3)]) <|
   C.same (St.env s275)[15]? (.agg [(.int .i64 a4), (.int .i64 a5), (.int .i64 a6), (.int .i64 a7)]) <|
   C.same (St.env s275)[16]? (.agg [(.int .i64 x1), (.int .i64 x2), (.int .i64 x3), (.int .i64 x4)]) <|
   C.same (St.env s275)[17]? (.bool b104) <|
   C.same (St.env s275)[18]? (.bool b105) <|
   C.same (St.env s275)[19]? (.bool b106) <|
   C.same (St.env s275)[20]? v107 <|
   C.same (St.env s275)[21]? v108 <|
   C.same (St.env s275)[22]? v109 <|
   C.same (St.env s275)[23]? v110 <|
   C.same (St.env s275)[24]? v111 <|
   C.same (St.env s275)[25]? v112 <|
   C.same (St.env s275)[26]? v113 <|
   C.same (St.env s275)[27]? v114 <|
   C.same (St.env s275)[28]? v115 <|
   C.same (St.env s275)[29]? v116 <|
   C.same (St.env s275)[30]? v117 <|
   C.same (St.env s275)[31]? v118 <|
   C.same (St.env s275)[32]? v119 <|
   C.same (St.env s275)[33]? v120 <|
   C.same (St.env s275)[34]? (.bool b121) <|
   C.same (St.env s275)[35]? (.bool b122) <|
   C.same (St.env s275)[36]? v123 <|
   C.same (St.env s275)[37]? v124 <|
   C.same (St.env s275)[38]? v125 <|
   C.same (St.env s275)[39]? v126 <|
   C.same (St.env s275)[40]? v127 <|
   C.same (St.env s275)[41]? v128 <|
   C.same (St.env s275)[42]? v129 <|
   C.same (St.env s275)[43]? v130 <|
   C.same (St.env s275)[44]? v131 <|
   C.same (St.env s275)[45]? v132 <|
   C.same (St.env s275)[46]? v133 <|
   C.same (St.env s275)[47]? v134 <|
   C.same (St.env s275)[48]? v135 <|
   C.same (St.env s275)[49]? (.bool b136) <|
   C.same (St.env s275)[50]? (.bool b137) <|
   C.same (St.env s275)[51]? v138 <|
   C.same (St.env s275)[52]? v139 <|
   C.same (St.env s275)[53]? v140 <|
   C.same (St.env s275)[54]? v141 <|
   C.same (St.env s275)[55]? v142 <|
   C.same (St.env s275)[56]? (.bool false) <|
   C.same (St.env s275)[57]? (.agg [(.int .i64 x173), (.int .i64 x174), (.int .i64 x175), (.int .i64 x176)]) <|
   C.same (St.env s275)[58]? (.bool b177) <|
   C.same (St.env s275)[59]? (.bool b178) <|
   C.same (St.env s275)[60]? v179 <|
   C.same (St.env s275)[61]? v180 <|
   C.same (St.env s275)[62]? v181 <|
   C.same (St.env s275)[63]? v182 <|
   C.same (St.env s275)[64]? (.bool b183) <|
   C.same (St.env s275)[65]? (.bool b184) <|
   C.same (St.env s275)[66]? v185 <|
   C.same (St.env s275)[67]? v186 <|
   C.same (St.env s275)[68]? v187 <|
   C.same (St.env s275)[69]? v188 <|
   C.same (St.env s275)[70]? v189 <|
   C.same (St.env s275)[71]? v190 <|
   C.same (St.env s275)[72]? v191 <|
   C.same (St.env s275)[73]? v192 <|
   C.same (St.env s275)[74]? (.bool false) <|
   C.same (St.env s275)[75]? (.agg [(.int .i64 x221), (.int .i64 x222), (.int .i64 x223), (.int .i64 x224)]) <|
   C.same (St.env s275)[76]? (.bool b225) <|
   C.same (St.env s275)[77]? (.bool b226) <|
   C.same (St.env s275)[78]? v227 <|
   C.same (St.env s275)[79]? v228 <|
   C.same (St.env s275)[80]? v229 <|
   C.same (St.env s275)[81]? (.bool b230) <|
   C.same (St.env s275)[82]? (.bool b231) <|
   C.same (St.env s275)[83]? v232 <|
   C.same (St.env s275)[84]? v233 <|
   C.same (St.env s275)[85]? v234 <|
   C.same (St.env s275)[86]? (.bool b235) <|
   C.same (St.env s275)[87]? (.bool b236) <|
   C.same (St.env s275)[88]? v237 <|
   C.same (St.env s275)[89]? v238 <|
   C.same (St.env s275)[90]? v239 <|
   C.same (St.env s275)[91]? v240 <|
   C.same (St.env s275)[92]? (.bool false) <|
   C.agg 2 (St.env s275)[93]? fun l277 =>
   C.int .i64 l277[0]? fun x278 =>
   C.int .i64 l277[1]? fun x279 =>
   C.bool (St.env s275)[94]? fun b280 =>
   C.bool (St.env s275)[95]? fun b281 =>
   C.bool (St.env s275)[96]? fun b282 =>
   C.any (St.env s275)[97]? fun v283 =>
   C.any (St.env s275)[98]? fun v284 =>
   C.any (St.env s275)[99]? fun v285 =>
   C.bool (St.env s275)[100]? fun b286 =>
   C.bool (St.env s275)[101]? fun b287 =>
   C.any (St.env s275)[102]? fun v288 =>
   C.any (St.env s275)[103]? fun v289 =>
   C.any (St.env s275)[104]? fun v290 =>
   C.any (St.env s275)[105]? fun v291 =>
   C.any (St.env s275)[106]? fun v292 =>
   C.any (St.env s275)[107]? fun v293 =>
   C.any (St.env s275)[108]? fun v294 =>
   C.bool (St.env s275)[109]? fun b295 =>
   C.sameH (St.H s275) [some ⟨E25, [(.agg [(.int .i64 a0), (.int .i64 a1), (.int .i64 a2), (.int .i64 a3)])]⟩, some ⟨E25, [(.agg [(.int .i64 a4), (.int .i64 a5), (.int .i64 a6), (.int .i64 a7)])]⟩, some ⟨E25, [(.agg [(.int .i64 a8), (.int .i64 a9), (.int .i64 a10), (.int .i64 a11)])]⟩, some ⟨E23, [(.agg [(.int .i64 a12), (.int .i64 a13)])]⟩, some ⟨E25, [(.agg [(.int .i64 x1), (.int .i64 x2), (.int .i64 x3), (.int .i64 x4)])]⟩] <|
   some (.bool b276))
   (none)
def r8E3 (C : Cb) (d : Nat) (a0 a1 a2 a3 a4 a5 a6 a7 a8 a9 a10 a11 a12 a13 a14 a15 x1 x2 x3 x4 : Int) (b104 b105 b106 : Bool) (v107 v108 v109 v110 v111 v112 v113 v114 v115 v116 v117 v118 v119 v120 : AV) (b121 b122 : Bool) (v123 v124 v125 v126 v127 v128 v129 v130 v131 v132 v133 v134 v135 : AV) (b136 b137 : Bool) (v138 v139 v140 v141 v142 : AV) (x173 x174 x175 x176 : Int) (b177 b178 : Bool) (v179 v180 v181 v182 : AV) (b183 b184 : Bool) (v185 v186 v187 v188 v189 v190 v191 v192 : AV) (x221 x222 x223 x224 : Int) (b225 b226 : Bool) (v227 v228 v229 : AV) (b230 b231 : Bool) (v232 v233 v234 : AV) (b235 b236 : Bool) (v237 v238 v239 v240 : AV) : St → Ans := fun s244 =>
  cnd ((List.length (St.env s244)) == 110)
   (C.same (St.env s244)[0]? (.agg [(.int .i64 a0), (.int .i64 a1), (.int .i64 a2), (.int .i64 a3)]) <|
   C.same (St.env s244)[1]? (.agg [(.int .i64 a4), (.int .i64 a5), (.int .i64 a6), (.int .i64 a7)]) <|
   C.same (St.env s244)[2]? (.agg [(.int .i64 a8), (.int .i64 a9), (.int .i64 a10), (.int .i64 a11)]) <|
   C.same (St.env s244)[3]? (.agg [(.int .i64 a12), (.int .i64 a13)]) <|
   C.same (St.env s244)[4]? (.int .i64 a14) <|
   C.same (St.env s244)[5]? (.int .i64 a15) <|
   C.same (St.env s244)[6]? (.ptr 0 0 0) <|
   C.same (St.env s244)[7]? (.ptr 1 0 0) <|
   C.same (St.env s244)[8]? (.ptr 2 0 0) <|
   C.same (St.env s244)[9]? (.ptr 3 0 0) <|
   C.same (St.env s244)[10]? (.tup []) <|
   C.same (St.env s244)[11]? (.tup []) <|
   C.bool (St.env s244)[12]? fun b296 =>
   C.same (St.env s244)[13]? (.ptr 4 0 0) <|
   C.same (St.env s244)[14]? (.agg [(.int .i64 a0), (.int .i64 a1), (.int .i64 a2), (.int .i64 a3)]) <|
   C.same (St.env s244)[15]? (.agg [(.int .i64 a4), (.int .i64 a5), (.int .i64 a6), (.int .i64 a7)]) <|
   C.same (St.env s244)[16]? (.agg [(.int .i64 x1), (.int .i64 x2), (.int .i64 x3), (.int .i64 x4)]) <|
   C.same (St.env s244)[17]? (.bool b104) <|
   C.same (St.env s244)[18]? (.bool b105) <|
   C.same (St.env s244)[19]? (.bool b106) <|
   C.same (St.env s244)[20]? v107 <|
   C.same (St.env s244)[21]? v108 <|
   C.same (St.env s244)[22]? v109 <|
   C.same (St.env s244)[23]? v110 <|
   C.same (St.env s244)[24]? v111 <|
   C.same (St.env s244)[25]? v112 <|
   C.same (St.env s244)[26]? v113 <|
   C.same (St.env s244)[27]? v114 <|
   C.same (St.env s244)[28]? v115 <|
   C.same (St.env s244)[29]? v116 <|
   C.same (St.env s244)[30]? v117 <|
   C.same (St.env s244)[31]? v118 <|
   C.same (St.env s244)[32]? v119 <|
   C.same (St.env s244)[33]? v120 <|
   C.same (St.env s244)[34]? (.bool b121) <|
   C.same (St.env s244)[35]? (.bool b122) <|
   C.same (St.env s244)[36]? v123 <|
   C.same (St.env s244)[37]? v124 <|
   C.same (St.env s244)[38]? v125 <|
   C.same (St.env s244)[39]? v126 <|
   C.same (St.env s244)[40]? v127 <|
   C.same (St.env s244)[41]? v128 <|
   C.same (St.env s244)[42]? v129 <|
   C.same (St.env s244)[43]? v130 <|
   C.same (St.env s244)[44]? v131 <|
   C.same (St.env s244)[45]? v132 <|
   C.same (St.env s244)[46]? v133 <|
   C.same (St.env s244)[47]? v134 <|
   C.same (St.env s244)[48]? v135 <|
   C.same (St.env s244)[49]? (.bool b136) <|
   C.same (St.env s244)[50]? (.bool b137) <|
   C.same (St.env s244)[51]? v138 <|
   C.same (St.env s244)[52]? v139 <|
   C.same (St.env s244)[53]? v140 <|
   C.same (St.env s244)[54]? v141 <|
   C.same (St.env s244)[55]? v142 <|
   C.same (St.env s244)[56]? (.bool false) <|
   C.same (St.env s244)[57]? (.agg [(.int .i64 x173), (.int .i64 x174), (.int .i64 x175), (.int .i64 x176)]) <|
   C.same (St.env s244)[58]? (.bool b177) <|
   C.same (St.env s244)[59]? (.bool b178) <|
   C.same (St.env s244)[60]? v179 <|
   C.same (St.env s244)[61]? v180 <|
   C.same (St.env s244)[62]? v181 <|
   C.same (St.env s244)[63]? v182 <|
   C.same (St.env s244)[64]? (.bool b183) <|
   C.same (St.env s244)[65]? (.bool b184) <|
   C.same (St.env s244)[66]? v185 <|
   C.same (St.env s244)[67]? v186 <|
   C.same (St.env s244)[68]? v187 <|
   C.same (St.env s244)[69]? v188 <|
   C.same (St.env s244)[70]? v189 <|
   C.same (St.env s244)[71]? v190 <|
   C.same (St.env s244)[72]? v191 <|
   C.same (St.env s244)[73]? v192 <|
   C.same (St.env s244)[74]? (.bool false) <|
   C.same (St.env s244)[75]? (.agg [(.int .i64 x221), (.int .i64 x222), (.int .i64 x223), (.int .i64 x224)]) <|
   C.same (St.env s244)[76]? (.bool b225) <|
   C.same (St.env s244)[77]? (.bool b226) <|
   C.same (St.env s244)[78]? v227 <|
   C.same (St.env s244)[79]? v228 <|
   C.same (St.env s244)[80]? v229 <|
   C.same (St.env s244)[81]? (.bool b230) <|
   C.same (St.env s244)[82]? (.bool b231) <|
   C.same (St.env s244)[83]? v232 <|
   C.same (St.env s244)[84]? v233 <|
   C.same (St.env s244)[85]? v234 <|
   C.same (St.env s244)[86]? (.bool b235) <|
   C.same (St.env s244)[87]? (.bool b236) <|
   C.same (St.env s244)[88]? v237 <|
   C.same (St.env s244)[89]? v238 <|
   C.same (St.env s244)[90]? v239 <|
   C.same (St.env s244)[91]? v240 <|
   C.same (St.env s244)[92]? (.bool false) <|
   C.any (St.env s244)[93]? fun v297 =>
   C.any (St.env s244)[94]? fun v298 =>
   C.any (St.env s244)[95]? fun v299 =>
   C.any (St.env s244)[96]? fun v300 =>
   C.any (St.env s244)[97]? fun v301 =>
   C.any (St.env s244)[98]? fun v302 =>
   C.any (St.env s244)[99]? fun v303 =>
   C.any (St.env s244)[100]? fun v304 =>
   C.any (St.env s244)[101]? fun v305 =>
   C.any (St.env s244)[102]? fun v306 =>
   C.any (St.env s244)[103]? fun v307 =>
   C.any (St.env s244)[104]? fun v308 =>
   C.any (St.env s244)[105]? fun v309 =>
   C.any (St.env s244)[106]? fun v310 =>
   C.any (St.env s244)[107]? fun v311 =>
   C.any (St.env s244)[108]? fun v312 =>
   C.any (St.env s244)[109]? fun v313 =>
   C.sameH (St.H s244) [some ⟨E25, [(.agg [(.int .i64 a0), (.int .i64 a1), (.int .i64 a2), (.int .i64 a3)])]⟩, some ⟨E25, [(.agg [(.int .i64 a4), (.int .i64 a5), (.int .i64 a6), (.int .i64 a7)])]⟩, some ⟨E25, [(.agg [(.int .i64 a8), (.int .i64 a9), (.int .i64 a10), (.int .i64 a11)])]⟩, some ⟨E23, [(.agg [(.int .i64 a12), (.int .i64 a13)])]⟩, some ⟨E25, [(.agg [(.int .i64 x1), (.int .i64 x2), (.int .i64 x3), (.int .i64 x4)])]⟩] <|
   some (.bool b296))
   (none)
def r8R2 (C : Cb) (d : Nat) (a0 a1 a2 a3 a4 a5 a6 a7 a8 a9 a10 a11 a12 a13 a14 a15 x1 x2 x3 x4 : Int) (b104 b105 b106 : Bool) (v107 v108 v109 v110 v111 v112 v113 v114 v115 v116 v117 v118 v119 v120 : AV) (b121 b122 : Bool) (v123 v124 v125 v126 v127 v128 v129 v130 v131 v132 v133 v134 v135 : AV) (b136 b137 : Bool) (v138 v139 v140 v141 v142 : AV) (x173 x174 x175 x176 : Int) (b177 b178 : Bool) (v179 v180 v181 v182 : AV) (b183 b184 : Bool) (v185 v186 v187 v188 v189 v190 v191 v192 : AV) : St → (Ex → St → Ans) → Ans := fun s194 k195 =>
  cnd ((List.length (St.env s194)) == 110)
   (C.same (St.env s194)[0]? (.agg [(.int .i64 a0), (.int .i64 a1), (.int .i64 a2), (.int .i64 a3)]) <|
   C.same (St.env s194)[1]? (.agg [(.int .i64 a4), (.int .i64 a5), (.int .i64 a6), (.int .i64 a7)]) <|
   C.same (St.env s194)[2]? (.agg [(.int .i64 a8), (.int .i64 a9), (.int .i64 a10), (.int .i64 a11)]) <|
   C.same (St.env s194)[3]? (.agg [(.int .i64 a12), (.int .i64 a13)]) <|
   C.same (St.env s194)[4]? (.int .i64 a14) <|
   C.same (St.env s194)[5]? (.int .i64 a15) <|
   C.same (St.env s194)[6]? (.ptr 0 0 0) <|
   C.same (St.env s194)[7]? (.ptr 1 0 0) <|
   C.same (St.env s194)[8]? (.ptr 2 0 0) <|
   C.same (St.env s194)[9]? (.ptr 3 0 0) <|
   C.same (St.env s194)[10]? (.tup []) <|
   C.same (St.env s194)[11]? (.tup []) <|
   C.same (St.env s194)[12]? (.bool false) <|
   C.same (St.env s194)[13]? (.ptr 4 0 0) <|
   C.same (St.env s194)[14]? (.agg [(.int .i64 a0), (.int .i64 a1), (.int .i64 a2), (.int .i64 a3)]) <|
   C.same (St.env s194)[15]? (.agg [(.int .i64 a4), (.int .i64 a5), (.int .i64 a6), (.int .i64 a7)]) <|
   C.same (St.env s194)[16]? (.agg [(.int .i64 x1), (.int .i64 x2), (.int .i64 x3), (.int .i64 x4)]) <|
   C.same (St.env s194)[17]? (.bool b104) <|
   C.same (St.env s194)[18]? (.bool b105) <|
   C.same (St.env s194)[19]? (.bool b106) <|
   C.same (St.env s194)[20]? v107 <|
   C.same (St.env s194)[21]? v108 <|
   C.same (St.env s194)[22]? v109 <|
   C.same (St.env s194)[23]? v110 <|
   C.same (St.env s194)[24]? v111 <|
   C.same (St.env s194)[25]? v112 <|
   C.same (St.env s194)[26]? v113 <|
   C.same (St.env s194)[27]? v114 <|
   C.same (St.env s194)[28]? v115 <|
   C.same (St.env s194)[29]? v116 <|
   C.same (St.env s194)[30]? v117 <|
   C.same (St.env s194)[31]? v118 <|
   C.same (St.env s194)[32]? v119 <|
   C.same (St.env s194)[33]? v120 <|
   C.same (St.env s194)[34]? (.bool b121) <|
   C.same (St.env s194)[35]? (.bool b122) <|
   C.same (St.env s194)[36]? v123 <|
   C.same (St.env s194)[37]? v124 <|
   C.same (St.env s194)[38]? v125 <|
   C.same (St.env s194)[39]? v126 <|
   C.same (St.env s194)[40]? v127 <|
   C.same (St.env s194)[41]? v128 <|
   C.same (St.env s194)[42]? v129 <|
   C.same (St.env s194)[43]? v130 <|
   C.same (St.env s194)[44]? v131 <|
   C.same (St.env s194)[45]? v132 <|
   C.same (St.env s194)[46]? v133 <|
   C.same (St.env s194)[47]? v134 <|
   C.same (St.env s194)[48]? v135 <|
   C.same (St.env s194)[49]? (.bool b136) <|
   C.same (St.env s194)[50]? (.bool b137) <|
   C.same (St.env s194)[51]? v138 <|
   C.same (St.env s194)[52]? v139 <|
   C.same (St.env s194)[53]? v140 <|
   C.same (St.env s194)[54]? v141 <|
   C.same (St.env s194)[55]? v142 <|
   C.same (St.env s194)[56]? (.bool false) <|
   C.same (St.env s194)[57]? (.agg [(.int .i64 x173), (.int .i64 x174), (.int .i64 x175), (.int .i64 x176)]) <|
   C.same (St.env s194)[58]? (.bool b177) <|
   C.same (St.env s194)[59]? (.bool b178) <|
   C.same (St.env s194)[60]? v179 <|
   C.same (St.env s194)[61]? v180 <|
   C.same (St.env s194)[62]? v181 <|
   C.same (St.env s194)[63]? v182 <|
   C.same (St.env s194)[64]? (.bool b183) <|
   C.same (St.env s194)[65]? (.bool b184) <|
   C.same (St.env s194)[66]? v185 <|
   C.same (St.env s194)[67]? v186 <|
   C.same (St.env s194)[68]? v187 <|
   C.same (St.env s194)[69]? v188 <|
   C.same (St.env s194)[70]? v189 <|
   C.same (St.env s194)[71]? v190 <|
   C.same (St.env s194)[72]? v191 <|
   C.same (St.env s194)[73]? v192 <|
   C.same (St.env s194)[74]? (.bool false) <|
   C.any (St.env s194)[75]? fun v197 =>
   C.any (St.env s194)[76]? fun v198 =>
   C.any (St.env s194)[77]? fun v199 =>
   C.any (St.env s194)[78]? fun v200 =>
   C.any (St.env s194)[79]? fun v201 =>
   C.any (St.env s194)[80]? fun v202 =>
   C.any (St.env s194)[81]? fun v203 =>
   C.any (St.env s194)[82]? fun v204 =>
   C.any (St.env s194)[83]? fun v205 =>
   C.any (St.env s194)[84]? fun v206 =>
   C.any (St.env s194)[85]? fun v207 =>
   C.any (St.env s194)[86]? fun v208 =>
   C.any (St.env s194)[87]? fun v209 =>
   C.any (St.env s194)[88]? fun v210 =>
   C.any (St.env s194)[89]? fun v211 =>
   C.any (St.env s194)[90]? fun v212 =>
   C.any (St.env s194)[91]? fun v213 =>
   C.any (St.env s194)[92]? fun v214 =>
   C.same (St.env s194)[93]? (.tup []) <|
   C.same (St.env s194)[94]? (.tup []) <|
   C.same (St.env s194)[95]? (.tup []) <|
   C.same (St.env s194)[96]? (.tup []) <|
   C.same (St.env s194)[97]? (.tup []) <|
   C.same (St.env s194)[98]? (.tup []) <|
   C.same (St.env s194)[99]? (.tup []) <|
   C.same (St.env s194)[100]? (.tup []) <|
   C.same (St.env s194)[101]? (.tup []) <|
   C.same (St.env s194)[102]? (.tup []) <|
   C.same (St.env s194)[103]? (.tup []) <|
   C.same (St.env s194)[104]? (.tup []) <|
   C.same (St.env s194)[105]? (.tup []) <|
   C.same (St.env s194)[106]? (.tup []) <|
   C.same (St.env s194)[107]? (.tup []) <|
   C.same (St.env s194)[108]? (.tup []) <|
   C.same (St.env s194)[109]? (.tup []) <|
   C.sameH (St.H s194) [some ⟨E25, [(.agg [(.int .i64 a0), (.int .i64 a1), (.int .i64 a2), (.int .i64 a3)])]⟩, some ⟨E25, [(.agg [(.int .i64 a4), (.int .i64 a5), (.int .i64 a6), (.int .i64 a7)])]⟩, some ⟨E25, [(.agg [(.int .i64 a8), (.int .i64 a9), (.int .i64 a10), (.int .i64 a11)])]⟩, some ⟨E23, [(.agg [(.int .i64 a12), (.int .i64 a13)])]⟩, some ⟨E25, [(.agg [(.int .i64 x1), (.int .i64 x2), (.int .i64 x3), (.int .i64 x4)])]⟩] <|
   C.bool (pcall M d 13 [(.agg [(.int .i64 a8), (.int .i64 a9), (.int .i64 a10), (.int .i64 a11)])]) fun b215 =>
   cnd b215
   (C.bool (pcall M d 17 [(.agg [(.int .i64 a0), (.int .i64 a1), (.int .i64 a2), (.int .i64 a3)]), (.agg [(.int .i64 a8), (.int .i64 a9), (.int .i64 a10), (.int .i64 a11)])]) fun b216 =>
   cnd b216
   (C.bool (pcall M d 17 [(.agg [(.int .i64 a4), (.int .i64 a5), (.int .i64 a6), (.int .i64 a7)]), (.agg [(.int .i64 a8), (.int .i64 a9), (.int .i64 a10), (.int .i64 a11)])]) fun b217 =>
   cnd b217
   (C.bool (pcall M d 17 [(.agg [(.int .i64 x1), (.int .i64 x2), (.int .i64 x3), (.int .i64 x4)]), (.agg [(.int .i64 a8), (.int .i64 a9), (.int .i64 a10), (.int .i64 a11)])]) fun b218 =>
   k195 (.exit 2000000) ⟨[(.agg [(.int .i64 a0), (.int .i64 a1), (.int .i64 a2), (.int .i64 a3)]), (.agg [(.int .i64 a4), (.int .i64 a5), (.int .i64 a6), (.int .i64 a7)]), (.agg [(.int .i64 a8), (.int .i64 a9), (.int .i64 a10), (.int .i64 a11)]), (.agg [(.int .i64 a12), (.int .i64 a13)]), (.int .i64 a14), (.int .i64 a15), (.ptr 0 0 0), (.ptr 1 0 0), (.ptr 2 0 0), (.ptr 3 0 0), (.tup []), (.tup []), (.bool false), (.ptr 4 0 0), (.agg [(.int .i64 a0), (.int .i64 a1), (.int .i64 a2), (.int .i64 a3)]), (.agg [(.int .i64 a4), (.int .i64 a5), (.int .i64 a6), (.int .i64 a7)]), (.agg [(.int .i64 x1), (.int .i64 x2), (.int .i64 x3), (.int .i64 x4)]), (.bool b104), (.bool b105), (.bool b106), v107, v108, v109, v110, v111, v112, v113, v114, v115, v116, v117, v118, v119, v120, (.bool b121), (.bool b122), v123, v124, v125, v126, v127, v128, v129, v130, v131, v132, v133, v134, v135, (.bool b136), (.bool b137), v138, v139, v140, v141, v142, (.bool false), (.agg [(.int .i64 x173), (.int .i64 x174), (.int .i64 x175), (.int .i64 x176)]), (.bool b177), (.bool b178), v179, v180, v181, v182, (.bool b183), (.bool b184), v185, v186, v187, v188, v189, v190, v191, v192, (.bool false), (.agg [(.int .i64 a8), (.int .i64 a9), (.int .i64 a10), (.int .i64 a11)]), (.bool b215), (.bool true), (.agg [(.int .i64 a0), (.int .i64 a1), (.int .i64 a2), (.int .i64 a3)]), (.agg [(.int .i64 a8), (.int .i64 a9), (.int .i64 a10), (.int .i64 a11)]), (.bool b216), (.bool b216), (.bool true), (.agg [(.int .i64 a4), (.int .i64 a5), (.int .i64 a6), (.int .i64 a7)]), (.agg [(.int .i64 a8), (.int .i64 a9), (.int .i64 a10), (.int .i64 a11)]), (.bool b217), (.bool b217), (.bool true), (.agg [(.int .i64 x1), (.int .i64 x2), (.int .i64 x3), (.int .i64 x4)]), (.agg [(.int .i64 a8), (.int .i64 a9), (.int .i64 a10), (.int .i64 a11)]), (.bool b218), (.bool (!b218)), (.bool (!b218)), (.tup []), (.tup []), (.tup []), (.tup []), (.tup []), (.tup []), (.tup []), (.tup []), (.tup []), (.tup []), (.tup []), (.tup []), (.tup []), (.tup []), (.tup []), (.tup []), (.tup [])], [some ⟨E25, [(.agg [(.int .i64 a0), (.int .i64 a1), (.int .i64 a2), (.int .i64 a3)])]⟩, some ⟨E25, [(.agg [(.int .i64 a4), (.int .i64 a5), (.int .i64 a6), (.int .i64 a7)])]⟩, some ⟨E25, [(.agg [(.int .i64 a8), (.int .i64 a9), (.int .i64 a10), (.int .i64 a11)])]⟩, some ⟨E23, [(.agg [(.int .i64 a12), (.int .i64 a13)])]⟩, some ⟨E25, [(.agg [(.int .i64 x1), (.int .i64 x2), (.int .i64 x3), (.int .i64 x4)])]⟩]⟩)
   (k195 (.exit 2000000) ⟨[(.agg [(.int .i64 a0), (.int .i64 a1), (.int .i64 a2), (.int .i64 a3)]), (.agg [(.int .i64 a4), (.int .i64 a5), (.int .i64 a6), (.int .i64 a7)]), (.agg [(.int .i64 a8), (.int .i64 a9), (.int .i64 a10), (.int .i64 a11)]), (.agg [(.int .i64 a12), (.int .i64 a13)]), (.int .i64 a14), (.int .i64 a15), (.ptr 0 0 0), (.ptr 1 0 0), (.ptr 2 0 0), (.ptr 3 0 0), (.tup []), (.tup []), (.bool false), (.ptr 4 0 0), (.agg [(.int .i64 a0), (.int .i64 a1), (.int .i64 a2), (.int .i64 a3)]), (.agg [(.int .i64 a4), (.int .i64 a5), (.int .i64 a6), (.int .i64 a7)]), (.agg [(.int .i64 x1), (.int .i64 x2), (.int .i64 x3), (.int .i64 x4)]), (.bool b104), (.bool b105), (.bool b106), v107, v108, v109, v110, v111, v112, v113, v114, v115, v116, v117, v118, v119, v120, (.bool b121), (.bool b122), v123, v124, v125, v126, v127, v128, v129, v130, v131, v132, v133, v134, v135, (.bool b136), (.bool b137), v138, v139, v140, v141, v142, (.bool false), (.agg [(.int .i64 x173), (.int .i64 x174), (.int .i64 x175), (.int .i64 x176)]), (.bool b177), (.bool b178), v179, v180, v181, v182, (.bool b183), (.bool b184), v185, v186, v187, v188, v189, v190, v191, v192, (.bool false), (.agg [(.int .i64 a8), (.int .i64 a9), (.int .i64 a10), (.int .i64 a11)]), (.bool b215), (.bool true), (.agg [(.int .i64 a0), (.int .i64 a1), (.int .i64 a2), (.int .i64 a3)]), (.agg [(.int .i64 a8), (.int .i64 a9), (.int .i64 a10), (.int .i64 a11)]), (.bool b216), (.bool b216), (.bool true), (.agg [(.int .i64 a4), (.int .i64 a5), (.int .i64 a6), (.int .i64 a7)]), (.agg [(.int .i64 a8), (.int .i64 a9), (.int .i64 a10), (.int .i64 a11)]), (.bool b217), (.bool b217), (.bool false), (.tup []), (.tup []), (.tup []), (.tup []), (.bool false), (.tup []), (.tup []), (.tup []), (.tup []), (.tup []), (.tup []), (.tup []), (.tup []), (.tup []), (.tup []), (.tup []), (.tup []), (.tup []), (.tup []), (.tup []), (.tup []), (.tup [])], [some ⟨E25, [(.agg [(.int .i64 a0), (.int .i64 a1), (.int .i64 a2), (.int .i64 a3)])]⟩, some ⟨E25, [(.agg [(.int .i64 a4), (.int .i64 a5), (.int .i64 a6), (.int .i64 a7)])]⟩, some ⟨E25, [(.agg [(.int .i64 a8), (.int .i64 a9), (.int .i64 a10), (.int .i64 a11)])]⟩, some ⟨E23, [(.agg [(.int .i64 a12), (.int .i64 a13)])]⟩, some ⟨E25, [(.agg [(.int .i64 x1), (.int .i64 x2), (.int .i64 x3), (.int .i64 x4)])]⟩]⟩))
   (k195 (.exit 2000000) ⟨[(.agg [(.int .i64 a0), (.int .i64 a1), (.int .i64 a2), (.int .i64 a3)]), (.agg [(.int .i64 a4), (.int .i64 a5), (.int .i64 a6), (.int .i64 a7)]), (.agg [(.int .i64 a8), (.int .i64 a9), (.int .i64 a10), (.int .i64 a11)]), (.agg [(.int .i64 a12), (.int .i64 a13)]), (.int .i64 a14), (.int .i64 a15), (.ptr 0 0 0), (.ptr 1 0 0), (.ptr 2 0 0), (.ptr 3 0 0), (.tup []), (.tup []), (.bool false), (.ptr 4 0 0), (.agg [(.int .i64 a0), (.int .i64 a1), (.int .i64 a2), (.int .i64 a3)]), (.agg [(.int .i64 a4), (.int .i64 a5), (.int .i64 a6), (.int .i64 a7)]), (.agg [(.int .i64 x1), (.int .i64 x2), (.int .i64 x3), (.int .i64 x4)]), (.bool b104), (.bool b105), (.bool b106), v107, v108, v109, v110, v111, v112, v113, v114, v115, v116, v117, v118, v119, v120, (.bool b121), (.bool b122), v123, v124, v125, v126, v127, v128, v129, v130, v131, v132, v133, v134, v135, (.bool b136), (.bool b137), v138, v139, v140, v141, v142, (.bool false), (.agg [(.int .i64 x173), (.int .i64 x174), (.int .i64 x175), (.int .i64 x176)]), (.bool b177), (.bool b178), v179, v180, v181, v182, (.bool b183), (.bool b184), v185, v186, v187, v188, v189, v190, v191, v192, (.bool false), (.agg [(.int .i64 a8), (.int .i64 a9), (.int .i64 a10), (.int .i64 a11)]), (.bool b215), (.bool true), (.agg [(.int .i64 a0), (.int .i64 a1), (.int .i64 a2), (.int .i64 a3)]), (.agg [(.int .i64 a8), (.int .i64 a9), (.int .i64 a10), (.int .i64 a11)]), (.bool b216), (.bool b216), (.bool false), (.tup []), (.tup []), (.tup []), (.bool false), (.bool false), (.tup []), (.tup []), (.tup []), (.tup []), (.bool false), (.tup []), (.tup []), (.tup []), (.tup []), (.tup []), (.tup []), (.tup []), (.tup []), (.tup []), (.tup []), (.tup []), (.tup []), (.tup []), (.tup []), (.tup []), (.tup []), (.tup [])], [some ⟨E25, [(.agg [(.int .i64 a0), (.int .i64 a1), (.int .i64 a2), (.int .i64 a3)])]⟩, some ⟨E25, [(.agg [(.int .i64 a4), (.int .i64 a5), (.int .i64 a6), (.int .i64 a7)])]⟩, some ⟨E25, [(.agg [(.int .i64 a8), (.int .i64 a9), (.int .i64 a10), (.int .i64 a11)])]⟩, some ⟨E23, [(.agg [(.int .i64 a12), (.int .i64 a13)])]⟩, some ⟨E25, [(.agg [(.int .i64 x1), (.int .i64 x2), (.int .i64 x3), (.int .i64 x4)])]⟩]⟩))
   (k195 (.exit 2000000) ⟨[(.agg [(.int .i64 a0), (.int .i64 a1), (.int .i64 a2), (.int .i64 a3)]), (.agg [(.int .i64 a4), (.int .i64 a5), (.int .i64 a6), (.int .i64 a7)]), (.agg [(.int .i64 a8), (.int .i64 a9), (.int .i64 a10), (.int .i64 a11)]), (.agg [(.int .i64 a12), (.int .i64 a13)]), (.int .i64 a14), (.int .i64 a15), (.ptr 0 0 0), (.ptr 1 0 0), (.ptr 2 0 0), (.ptr 3 0 0), (.tup []), (.tup []), (.bool false), (.ptr 4 0 0), (.agg [(.int .i64 a0), (.int .i64 a1), (.int .i64 a2), (.int .i64 a3)]), (.agg [(.int .i64 a4), (.int .i64 a5), (.int .i64 a6), (.int .i64 a7)]), (.agg [(.int .i64 x1), (.int .i64 x2), (.int .i64 x3), (.int .i64 x4)]), (.bool b104), (.bool b105), (.bool b106), v107, v108, v109, v110, v111, v112, v113, v114, v115, v116, v117, v118, v119, v120, (.bool b121), (.bool b122), v123, v124, v125, v126, v127, v128, v129, v130, v131, v132, v133, v134, v135, (.bool b136), (.bool b137), v138, v139, v140, v141, v142, (.bool false), (.agg [(.int .i64 x173), (.int .i64 x174), (.int .i64 x175), (.int .i64 x176)]), (.bool b177), (.bool b178), v179, v180, v181, v182, (.bool b183), (.bool b184), v185, v186, v187, v188, v189, v190, v191, v192, (.bool false), (.agg [(.int .i64 a8), (.int .i64 a9), (.int .i64 a10), (.int .i64 a11)]), (.bool b215), (.bool false), (.tup []), (.tup []), (.tup []), (.bool false), (.bool false), (.tup []), (.tup []), (.tup []), (.bool false), (.bool false), (.tup []), (.tup []), (.tup []), (.tup []), (.bool false), (.tup []), (.tup []), (.tup []), (.tup []), (.tup []), (.tup []), (.tup []), (.tup []), (.tup []), (.tup []), (.tup []), (.tup []), (.tup []), (.tup []), (.tup []), (.tup []), (.tup [])], [some ⟨E25, [(.agg [(.int .i64 a0), (.int .i64 a1), (.int .i64 a2), (.int .i64 a3)])]⟩, some ⟨E25, [(.agg [(.int .i64 a4), (.int .i64 a5), (.int .i64 a6), (.int .i64 a7)])]⟩, some ⟨E25, [(.agg [(.int .i64 a8), (.int .i64 a9), (.int .i64 a10), (.int .i64 a11)])]⟩, some ⟨E23, [(.agg [(.int .i64 a12), (.int .i64 a13)])]⟩, some ⟨E25, [(.agg [(.int .i64 x1), (.int .i64 x2), (.int .i64 x3), (.int .i64 x4)])]⟩]⟩))
   (none)
def r8X2_0 (C : Cb) (d : Nat) (a0 a1 a2 a3 a4 a5 a6 a7 a8 a9 a10 a11 a12 a13 a14 a15 x1 x2 x3 x4 : Int) (b104 b105 b106 : Bool) (v107 v108 v109 v110 v111 v112 v113 v114 v115 v116 v117 v118 v119 v120 : AV) (b121 b122 : Bool) (v123 v124 v125 v126 v127 v128 v129 v130 v131 v132 v133 v134 v135 : AV) (b136 b137 : Bool) (v138 v139 v140 v141 v142 : AV) (x173 x174 x175 x176 : Int) (b177 b178 : Bool) (v179 v180 v181 v182 : AV) (b183 b184 : Bool) (v185 v186 v187 v188 v189 v190 v191 v192 : AV) : St → Ans := fun s219 =>
  cnd ((List.length (St.env s219)) == 110)
   (C.same (St.env s219)[0]? (.agg [(.int .i64 a0), (.int .i64 a1), (.int .i64 a2), (.int .i64 a3)]) <|
   C.same (St.env s219)[1]? (.agg [(.int .i64 a4), (.int .i64 a5), (.int .i64 a6), (.int .i64 a7)]) <|
   C.same (St.env s219)[2]? (.agg [(.int .i64 a8), (.int .i64 a9), (.int .i64 a10), (.int .i64 a11)]) <|
   C.same (St.env s219)[3]? (.agg [(.int .i64 a12), (.int .i64 a13)]) <|
   C.same (St.env s219)[4]? (.int .i64 a14) <|
   C.same (St.env s219)[5]? (.int .i64 a15) <|
   C.same (St.env s219)[6]? (.ptr 0 0 0) <|
   C.same (St.env s219)[7]? (.ptr 1 0 0) <|
   C.same (St.env s219)[8]? (.ptr 2 0 0) <|
   C.same (St.env s219)[9]? (.ptr 3 0 0) <|
   C.same (St.env s219)[10]? (.tup []) <|
   C.same (St.env s219)[11]? (.tup []) <|
   C.same (St.env s219)[12]? (.bool false) <|
   C.same (St.env s219)[13]? (.ptr 4 0 0) <|
   C.same (St.env s219)[14]? (.agg [(.int .i64 a0), (.int .i64 a1), (.int .i64 a2), (.int .i64 a3)]) <|
   C.same (St.env s219)[15]? (.agg [(.int .i64 a4), (.int .i64 a5), (.int .i64 a6), (.int .i64 a7)]) <|
   C.same (St.env s219)[16]? (.agg [(.int .i64 x1), (.int .i64 x2), (.int .i64 x3), (.int .i64 x4)]) <|
   C.same (St.env s219)[17]? (.bool b104) <|
   C.same (St.env s219)[18]? (.bool b105) <|
   C.same (St.env s219)[19]? (.bool b106) <|
   C.same (St.env s219)[20]? v107 <|
   C.same (St.env s219)[21]? v108 <|
   C.same (St.env s219)[22]? v109 <|
   C.same (St.env s219)[23]? v110 <|
   C.same (St.env s219)[24]? v111 <|
   C.same (St.env s219)[25]? v112 <|
   C.same (St.env s219)[26]? v113 <|
   C.same (St.env s219)[27]? v114 <|
   C.same (St.env s219)[28]? v115 <|
   C.same (St.env s219)[29]? v116 <|
   C.same (St.env s219)[30]? v117 <|
   C.same (St.env s219)[31]? v118 <|
   C.same (St.env s219)[32]? v119 <|
   C.same (St.env s219)[33]? v120 <|
   C.same (St.env s219)[34]? (.bool b121) <|
   C.same (St.env s219)[35]? (.bool b122) <|
   C.same (St.env s219)[36]? v123 <|
   C.same (St.env s219)[37]? v124 <|
   C.same (St.env s219)[38]? v125 <|
   C.same (St.env s219)[39]? v126 <|
   C.same (St.env s219)[40]? v127 <|
   C.same (St.env s219)[41]? v128 <|
   C.same (St.env s219)[42]? v129 <|
   C.same (St.env s219)[43]? v130 <|
   C.same (St.env s219)[44]? v131 <|
   C.same (St.env s219)[45]? v132 <|
   C.same (St.env s219)[46]? v133 <|
   C.same (St.env s219)[47]? v134 <|
   C.same (St.env s219)[48]? v135 <|
   C.same (St.env s219)[49]? (.bool b136) <|
   C.same (St.env s219)[50]? (.bool b137) <|
   C.same (St.env s219)[51]? v138 <|
   C.same (St.env s219)[52]? v139 <|
   C.same (St.env s219)[53]? v140 <|
   C.same (St.env s219)[54]? v141 <|
   C.same (St.env s219)[55]? v142 <|
   C.same (St.env s219)[56]? (.bool false) <|
   C.same (St.env s219)[57]? (.agg [(.int .i64 x173), (.int .i64 x174), (.int .i64 x175), (.int .i64 x176)]) <|
   C.same (St.env s219)[58]? (.bool b177) <|
   C.same (St.env s219)[59]? (.bool b178) <|
   C.same (St.env s219)[60]? v179 <|
   C.same (St.env s219)[61]? v180 <|
   C.same (St.env s219)[62]? v181 <|
   C.same (St.env s219)[63]? v182 <|
   C.same (St.env s219)[64]? (.bool b183) <|
   C.same (St.env s219)[65]? (.bool b184) <|
   C.same (St.env s219)[66]? v185 <|
   C.same (St.env s219)[67]? v186 <|
   C.same (St.env s219)[68]? v187 <|
   C.same (St.env s219)[69]? v188 <|
   C.same (St.env s219)[70]? v189 <|
   C.same (St.env s219)[71]? v190 <|
   C.same (St.env s219)[72]? v191 <|
   C.same (St.env s219)[73]? v192 <|
   C.same (St.env s219)[74]? (.bool false) <|
   C.agg 4 (St.env s219)[75]? fun l220 =>
   C.int .i64 l220[0]? fun x221 =>
   C.int .i64 l220[1]? fun x222 =>
   C.int .i64 l220[2]? fun x223 =>
   C.int .i64 l220[3]? fun x224 =>
   C.bool (St.env s219)[76]? fun b225 =>
   C.bool (St.env s219)[77]? fun b226 =>
   C.any (St.env s219)[78]? fun v227 =>
   C.any (St.env s219)[79]? fun v228 =>
   C.any (St.env s219)[80]? fun v229 =>
   C.bool (St.env s219)[81]? fun b230 =>
   C.bool (St.env s219)[82]? fun b231 =>
   C.any (St.env s219)[83]? fun v232 =>
   C.any (St.env s219)[84]? fun v233 =>
   C.any (St.env s219)[85]? fun v234 =>
   C.bool (St.env s219)[86]? fun b235 =>
   C.bool (St.env s219)[87]? fun b236 =>
   C.any (St.env s219)[88]? fun v237 =>
   C.any (St.env s219)[89]? fun v238 =>
   C.any (St.env s219)[90]? fun v239 =>
   C.any (St.env s219)[91]? fun v240 =>
   C.bool (St.env s219)[92]? fun b241 =>
   C.same (St.env s219)[93]? (.tup []) <|
   C.same (St.env s219)[94]? (.tup []) <|
   C.same (St.env s219)[95]? (.tup []) <|
   C.same (St.env s219)[96]? (.tup []) <|
   C.same (St.env s219)[97]? (.tup []) <|
   C.same (St.env s219)[98]? (.tup []) <|
   C.same (St.env s219)[99]? (.tup []) <|
   C.same (St.env s219)[100]? (.tup []) <|
   C.same (St.env s219)[101]? (.tup []) <|
   C.same (St.env s219)[102]? (.tup []) <|
   C.same (St.env s219)[103]? (.tup []) <|
   C.same (St.env s219)[104]? (.tup []) <|
   C.same (St.env s219)[105]? (.tup []) <|
   C.same (St.env s219)[106]? (.tup []) <|
   C.same (St.env s219)[107]? (.tup []) <|
   C.same (St.env s219)[108]? (.tup []) <|
   C.same (St.env s219)[109]? (.tup []) <|
   C.sameH (St.H s219) [some ⟨E25, [(.agg [(.int .i64 a0), (.int .i64 a1), (.int .i64 a2), (.int .i64 a3)])]⟩, some ⟨E25, [(.agg [(.int .i64 a4), (.int .i64 a5), (.int .i64 a6), (.int .i64 a7)])]⟩, some ⟨E25, [(.agg [(.int .i64 a8), (.int .i64 a9), (.int .i64 a10), (.int .i64 a11)])]⟩, some ⟨E23, [(.agg [(.int .i64 a12), (.int .i64 a13)])]⟩, some ⟨E25, [(.agg [(.int .i64 x1), (.int .i64 x2), (.int .i64 x3), (.int .i64 x4)])]⟩] <|
   cnd b241
   (some (.bool false))
   (C.iter (r8R3 C d a0 a1 a2 a3 a4 a5 a6 a7 a8 a9 a10 a11 a12 a13 a14 a15 x1 x2 x3 x4 b104 b105 b106 v107 v108 v109 v110 v111 v112 v113 v114 v115 v116 v117 v118 v119 v120 b121 b122 v123 v124 v125 v126 v127 v128 v129 v130 v131 v132 v133 v134 v135 b136 b137 v138 v139 v140 v141 v142 x173 x174 x175 x176 b177 b178 v179 v180 v181 v182 b183 b184 v185 v186 v187 v188 v189 v190 v191 v192 x221 x222 x223 x224 b225 b226 v227 v228 v229 b230 b231 v232 v233 v234 b235 b236 v237 v238 v239 v240) 1 ⟨[(.agg [(.int .i64 a0), (.int .i64 a1), (.int .i64 a2), (.int .i64 a3)]), (.agg [(.int .i64 a4), (.int .i64 a5), (.int .i64 a6), (.int .i64 a7)]), (.agg [(.int .i64 a8), (.int .i64 a9), (.int .i64 a10), (.int .i64 a11)]), (.agg [(.int .i64 a12), (.int .i64 a13)]), (.int .i64 a14), (.int .i64 a15), (.ptr 0 0 0), (.ptr 1 0 0), (.ptr 2 0 0), (.ptr 3 0 0), (.tup []), (.tup []), (.bool false), (.ptr 4 0 0), (.agg [(.int .i64 a0), (.int .i64 a1), (.int .i64 a2), (.int .i64 a3)]), (.agg [(.int .i64 a4), (.int .i64 a5), (.int .i64 a6), (.int .i64 a7)]), (.agg [(.int .i64 x1), (.int .i64 x2), (.int .i64 x3), (.int .i64 x4)]), (.bool b104), (.bool b105), (.bool b106), v107, v108, v109, v110, v111, v112, v113, v114, v115, v116, v117, v118, v119, v120, (.bool b121), (.bool b122), v123, v124, v125, v126, v127, v128, v129, v130, v131, v132, v133, v134, v135, (.bool b136), (.bool b137), v138, v139, v140, v141, v142, (.bool false), (.agg [(.int .i64 x173), (.int .i64 x174), (.int .i64 x175), (.int .i64 x176)]), (.bool b177), (.bool b178), v179, v180, v181, v182, (.bool b183), (.bool b184), v185, v186, v187, v188, v189, v190, v191, v192, (.bool false), (.agg [(.int .i64 x221), (.int .i64 x222), (.int .i64 x223), (.int .i64 x224)]), (.bool b225), (.bool b226), v227, v228, v229, (.bool b230), (.bool b231), v232, v233, v234, (.bool b235), (.bool b236), v237, v238, v239, v240, (.bool false), (.tup []), (.tup []), (.tup []), (.tup []), (.tup []), (.tup []), (.tup []), (.tup []), (.tup []), (.tup []), (.tup []), (.tup []), (.tup []), (.tup []), (.tup []), (.tup []), (.tup [])], [some ⟨E25, [(.agg [(.int .i64 a0), (.int .i64 a1), (.int .i64 a2), (.int .i64 a3)])]⟩, some ⟨E25, [(.agg [(.int .i64 a4), (.int .i64 a5), (.int .i64 a6), (.int .i64 a7)])]⟩, some ⟨E25, [(.agg [(.int .i64 a8), (.int .i64 a9), (.int .i64 a10), (.int .i64 a11)])]⟩, some ⟨E23, [(.agg [(.int .i64 a12), (.int .i64 a13)])]⟩, some ⟨E25, [(.agg [(.int .i64 x1), (.int .i64 x2), (.int .i64 x3), (.int .i64 x4)])]⟩]⟩ [2000000] [r8X3_0 C d a0 a1 a2 a3 a4 a5 a6 a7 a8 a9 a10 a11 a12 a13 a14 a15 x1 x2 x3 x4 b104 b105 b106 v107 v108 v109 v110 v111 v112 v113 v114 v115 v116 v117 v118 v119 v120 b121 b122 v123 v124 v125 v126 v127 v128 v129 v130 v131 v132 v133 v134 v135 b136 b137 v138 v139 v140 v141 v142 x173 x174 x175 x176 b177 b178 v179 v180 v181 v182 b183 b184 v185 v186 v187 v188 v189 v190 v191 v192 x221 x222 x223 x224 b225 b226 v227 v228 v229 b230 b231 v232 v233 v234 b235 b236 v237 v238 v239 v240] (r8E3 C d a0 a1 a2 a3 a4 a5 a6 a7 a8 a9 a10 a11 a12 a13 a14 a15 x1 x2 x3 x4 b104 b105 b106 v107 v108 v109 v110 v111 v112 v113 v114 v115 v116 v117 v118 v119 v120 b121 b122 v123 v124 v125 v126 v127 v128 v129 v130 v131 v132 v133 v134 v135 b136 b137 v138 v139 v140 v141 v142 x173 x174 x175 x176 b177 b178 v179 v180 v181 v182 b183 b184 v185 v186 v187 v188 v189 v190 v191 v192 x221 x222 x223 x224 b225 b226 v227 v228 v229 b230 b231 v232 v233 v234 b235 b236 v237 v238 v239 v240)))
   (none)
def r8E2 (C : Cb) (d : Nat) (a0 a1 a2 a3 a4 a5 a6 a7 a8 a9 a10 a11 a12 a13 a14 a15 x1 x2 x3 x4 : Int) (b104 b105 b106 : Bool) (v107 v108 v109 v110 v111 v112 v113 v114 v115 v116 v117 v118 v119 v120 : AV) (b121 b122 : Bool) (v123 v124 v125 v126 v127 v128 v129 v130 v131 v132 v133 v134 v135 : AV) (b136 b137 : Bool) (v138 v139 v140 v141 v142 : AV) (x173 x174 x175 x176 : Int) (b177 b178 : Bool) (v179 v180 v181 v182 : AV) (b183 b184 : Bool) (v185 v186 v187 v188 v189 v190 v191 v192 : AV) : St → Ans := fun s196 =>
  cnd ((List.length (St.env s196)) == 110)
   (C.same (St.env s196)[0]? (.agg [(.int .i64 a0), (.int .i64 a1), (.int .i64 a2), (.int .i64 a3)]) <|
   C.same (St.env s196)[1]? (.agg [(.int .i64 a4), (.int .i64 a5), (.int .i64 a6), (.int .i64 a7)]) <|
   C.same (St.env s196)[2]? (.agg [(.int .i64 a8), (.int .i64 a9), (.int .i64 a10), (.int .i64 a11)]) <|
   C.same (St.env s196)[3]? (.agg [(.int .i64 a12), (.int .i64 a13)]) <|
   C.same (St.env s196)[4]? (.int .i64 a14) <|
   C.same (St.env s196)[5]? (.int .i64 a15) <|
   C.same (St.env s196)[6]? (.ptr 0 0 0) <|
   C.same (St.env s196)[7]? (.ptr 1 0 0) <|
   C.same (St.env s196)[8]? (.ptr 2 0 0) <|
   C.same (St.env s196)[9]? (.ptr 3 0 0) <|
   C.same (St.env s196)[10]? (.tup []) <|
   C.same (St.env s196)[11]? (.tup []) <|
   C.same (St.env s196)[12]? (.bool false) <|
   C.same (St.env s196)[13]? (.ptr 4 0 0) <|
   C.same (St.env s196)[14]? (.agg [(.int .i64 a0), (.int .i64 a1), (.int .i64 a2), (.int .i64 a3)]) <|
   C.same (St.env s196)[15]? (.agg [(.int .i64 a4), (.int .i64 a5), (.int .i64 a6), (.int .i64 a7)]) <|
   C.same (St.env s196)[16]? (.agg [(.int .i64 x1), (.int .i64 x2), (.int .i64 x3), (.int .i64 x4)]) <|
   C.same (St.env s196)[17]? (.bool b104) <|
   C.same (St.env s196)[18]? (.bool b105) <|
   C.same (St.env s196)[19]? (.bool b106) <|
   C.same (St.env s196)[20]? v107 <|
   C.same (St.env s196)[21]? v108 <|
   C.same (St.env s196)[22]? v109 <|
   C.same (St.env s196)[23]? v110 <|
   C.same (St.env s196)[24]? v111 <|
   C.same (St.env s196)[25]? v112 <|
   C.same (St.env s196)[26]? v113 <|
   C.same (St.env s196)[27]? v114 <|
   C.same (St.env s196)[28]? v115 <|
   C.same (St.env s196)[29]? v116 <|
   C.same (St.env s196)[30]? v117 <|
   C.same (St.env s196)[31]? v118 <|
   C.same (St.env s196)[32]? v119 <|
   C.same (St.env s196)[33]? v120 <|
   C.same (St.env s196)[34]? (.bool b121) <|
   C.same (St.env s196)[35]? (.bool b122) <|
   C.same (St.env s196)[36]? v123 <|
   C.same (St.env s196)[37]? v124 <|
   C.same (St.env s196)[38]? v125 <|
   C.same (St.env s196)[39]? v126 <|
   C.same (St.env s196)[40]? v127 <|
   C.same (St.env s196)[41]? v128 <|
   C.same (St.env s196)[42]? v129 <|
   C.same (St.env s196)[43]? v130 <|
   C.same (St.env s196)[44]? v131 <|
   C.same (St.env s196)[45]? v132 <|
   C.same (St.env s196)[46]? v133 <|
   C.same (St.env s196)[47]? v134 <|
   C.same (St.env s196)[48]? v135 <|
   C.same (St.env s196)[49]? (.bool b136) <|
   C.same (St.env s196)[50]? (.bool b137) <|
   C.same (St.env s196)[51]? v138 <|
   C.same (St.env s196)[52]? v139 <|
   C.same (St.env s196)[53]? v140 <|
   C.same (St.env s196)[54]? v141 <|
   C.same (St.env s196)[55]? v142 <|
   C.same (St.env s196)[56]? (.bool false) <|
   C.same (St.env s196)[57]? (.agg [(.int .i64 x173), (.int .i64 x174), (.int .i64 x175), (.int .i64 x176)]) <|
   C.same (St.env s196)[58]? (.bool b177) <|
   C.same (St.env s196)[59]? (.bool b178) <|
   C.same (St.env s196)[60]? v179 <|
   C.same (St.env s196)[61]? v180 <|
   C.same (St.env s196)[62]? v181 <|
   C.same (St.env s196)[63]? v182 <|
   C.same (St.env s196)[64]? (.bool b183) <|
   C.same (St.env s196)[65]? (.bool b184) <|
   C.same (St.env s196)[66]? v185 <|
   C.same (St.env s196)[67]? v186 <|
   C.same (St.env s196)[68]? v187 <|
   C.same (St.env s196)[69]? v188 <|
   C.same (St.env s196)[70]? v189 <|
   C.same (St.env s196)[71]? v190 <|
   C.same (St.env s196)[72]? v191 <|
   C.same (St.env s196)[73]? v192 <|
   C.same (St.env s196)[74]? (.bool false) <|
   C.any (St.env s196)[75]? fun v314 =>
   C.any (St.env s196)[76]? fun v315 =>
   C.any (St.env s196)[77]? fun v316 =>
   C.any (St.env s196)[78]? fun v317 =>
   C.any (St.env s196)[79]? fun v318 =>
   C.any (St.env s196)[80]? fun v319 =>
   C.any (St.env s196)[81]? fun v320 =>
   C.any (St.env s196)[82]? fun v321 =>
   C.any (St.env s196)[83]? fun v322 =>
   C.any (St.env s196)[84]? fun v323 =>
   C.any (St.env s196)[85]? fun v324 =>
   C.any (St.env s196)[86]? fun v325 =>
   C.any (St.env s196)[87]? fun v326 =>
   C.any (St.env s196)[88]? fun v327 =>
   C.any (St.env s196)[89]? fun v328 =>
   C.any (St.env s196)[90]? fun v329 =>
   C.any (St.env s196)[91]? fun v330 =>
   C.any (St.env s196)[92]? fun v331 =>
   C.same (St.env s196)[93]? (.tup []) <|
   C.same (St.env s196)[94]? (.tup []) <|
   C.same (St.env s196)[95]? (.tup []) <|
   C.same (St.env s196)[96]? (.tup []) <|
   C.same (St.env s196)[97]? (.tup []) <|
   C.same (St.env s196)[98]? (.tup []) <|
   C.same (St.env s196)[99]? (.tup []) <|
   C.same (St.env s196)[100]? (.tup []) <|
   C.same (St.env s196)[101]? (.tup []) <|
   C.same (St.env s196)[102]? (.tup []) <|
   C.same (St.env s196)[103]? (.tup []) <|
   C.same (St.env s196)[104]? (.tup []) <|
   C.same (St.env s196)[105]? (.tup []) <|
   C.same (St.env s196)[106]? (.tup []) <|
   C.same (St.env s196)[107]? (.tup []) <|
   C.same (St.env s196)[108]? (.tup []) <|
   C.same (St.env s196)[109]? (.tup []) <|
   C.sameH (St.H s196) [some ⟨E25, [(.agg [(.int .i64 a0), (.int .i64 a1), (.int .i64 a2), (.int .i64 a3)])]⟩, some ⟨E25, [(.agg [(.int .i64 a4), (.int .i64 a5), (.int .i64 a6), (.int .i64 a7)])]⟩, some ⟨E25, [(.agg [(.int .i64 a8), (.int .i64 a9), (.int .i64 a10), (.int .i64 a11)])]⟩, some ⟨E23, [(.agg [(.int .i64 a12), (.int .i64 a13)])]⟩, some ⟨E25, [(.agg [(.int .i64 x1), (.int .i64 x2), (.int .i64 x3), (.int .i64 x4)])]⟩] <|
   some (.bool false))
   (none)
def r8R1 (C : Cb) (d : Nat) (a0 a1 a2 a3 a4 a5 a6 a7 a8 a9 a10 a11 a12 a13 a14 a15 x1 x2 x3 x4 : Int) (b104 b105 b106 : Bool) (v107 v108 v109 v110 v111 v112 v113 v114 v115 v116 v117 v118 v119 v120 : AV) (b121 b122 : Bool) (v123 v124 v125 v126 v127 v128 v129 v130 v131 v132 v133 v134 v135 : AV) (b136 b137 : Bool) (v138 v139 v140 v141 v142 : AV) : St → (Ex → St → Ans) → Ans := fun s144 k145 =>
  cnd ((List.length (St.env s144)) == 110)
   (C.same (St.env s144)[0]? (.agg [(.int .i64 a0), (.int .i64 a1), (.int .i64 a2), (.int .i64 a3)]) <|
   C.same (St.env s144)[1]? (.agg [(.int .i64 a4), (.int .i64 a5), (.int .i64 a6), (.int .i64 a7)]) <|
   C.same (St.env s144)[2]? (.agg [(.int .i64 a8), (.int .i64 a9), (.int .i64 a10), (.int .i64 a11)]) <|
   C.same (St.env s144)[3]? (.agg [(.int .i64 a12), (.int .i64 a13)]) <|
   C.same (St.env s144)[4]? (.int .i64 a14) <|
   C.same (St.env s144)[5]? (.int .i64 a15) <|
   C.same (St.env s144)[6]? (.ptr 0 0 0) <|
   C.same (St.env s144)[7]? (.ptr 1 0 0) <|
   C.same (St.env s144)[8]? (.ptr 2 0 0) <|
   C.same (St.env s144)[9]? (.ptr 3 0 0) <|
   C.same (St.env s144)[10]? (.tup []) <|
   C.same (St.env s144)[11]? (.tup []) <|
   C.same (St.env s144)[12]? (.bool false) <|
   C.same (St.env s144)[13]? (.ptr 4 0 0) <|
   C.same (St.env s144)[14]? (.agg [(.int .i64 a0), (.int .i64 a1), (.int .i64 a2), (.int .i64 a3)]) <|
   C.same (St.env s144)[15]? (.agg [(.int .i64 a4), (.int .i64 a5), (.int .i64 a6), (.int .i64 a7)]) <|
   C.same (St.env s144)[16]? (.agg [(.int .i64 x1), (.int .i64 x2), (.int .i64 x3), (.int .i64 x4)]) <|
   C.same (St.env s144)[17]? (.bool b104) <|
   C.same (St.env s144)[18]? (.bool b105) <|
   C.same (St.env s144)[19]? (.bool b106) <|
   C.same (St.env s144)[20]? v107 <|
   C.same (St.env s144)[21]? v108 <|
   C.same (St.env s144)[22]? v109 <|
   C.same (St.env s144)[23]? v110 <|
   C.same (St.env s144)[24]? v111 <|
   C.same (St.env s144)[25]? v112 <|
   C.same (St.env s144)[26]? v113 <|
   C.same (St.env s144)[27]? v114 <|
   C.same (St.env s144)[28]? v115 <|
   C.same (St.env s144)[29]? v116 <|
   C.same (St.env s144)[30]? v117 <|
   C.same (St.env s144)[31]? v118 <|
   C.same (St.env s144)[32]? v119 <|
   C.same (St.env s144)[33]? v120 <|
   C.same (St.env s144)[34]? (.bool b121) <|
   C.same (St.env s144)[35]? (.bool b122) <|
   C.same (St.env s144)[36]? v123 <|
   C.same (St.env s144)[37]? v124 <|
   C.same (St.env s144)[38]? v125 <|
   C.same (St.env s144)[39]? v126 <|
   C.same (St.env s144)[40]? v127 <|
   C.same (St.env s144)[41]? v128 <|
   C.same (St.env s144)[42]? v129 <|
   C.same (St.env s144)[43]? v130 <|
   C.same (St.env s144)[44]? v131 <|
   C.same (St.env s144)[45]? v132 <|
   C.same (St.env s144)[46]? v133 <|
   C.same (St.env s144)[47]? v134 <|
   C.same (St.env s144)[48]? v135 <|
   C.same (St.env s144)[49]? (.bool b136) <|
   C.same (St.env s144)[50]? (.bool b137) <|
   C.same (St.env s144)[51]? v138 <|
   C.same (St.env s144)[52]? v139 <|
   C.same (St.env s144)[53]? v140 <|
   C.same (St.env s144)[54]? v141 <|
   C.same (St.env s144)[55]? v142 <|
   C.same (St.env s144)[56]? (.bool false) <|
   C.any (St.env s144)[57]? fun v147 =>
   C.any (St.env s144)[58]? fun v148 =>
   C.any (St.env s144)[59]? fun v149 =>
   C.any (St.env s144)[60]? fun v150 =>
   C.any (St.env s144)[61]? fun v151 =>
   C.any (St.env s144)[62]? fun v152 =>
   C.any (St.env s144)[63]? fun v153 =>
   C.any (St.env s144)[64]? fun v154 =>
   C.any (St.env s144)[65]? fun v155 =>
   C.any (St.env s144)[66]? fun v156 =>
   C.any (St.env s144)[67]? fun v157 =>
   C.any (St.env s144)[68]? fun v158 =>
   C.any (St.env s144)[69]? fun v159 =>
   C.any (St.env s144)[70]? fun v160 =>
   C.any (St.env s144)[71]? fun v161 =>
   C.any (St.env s144)[72]? fun v162 =>
   C.any (St.env s144)[73]? fun v163 =>
   C.any (St.env s144)[74]? fun v164 =>
   C.same (St.env s144)[75]? (.tup []) <|
   C.same (St.env s144)[76]? (.tup []) <|
   C.same (St.env s144)[77]? (.tup []) <|
   C.same (St.env s144)[78]? (.tup []) <|
   C.same (St.env s144)[79]? (.tup []) <|
   C.same (St.env s144)[80]? (.tup []) <|
   C.same (St.env s144)[81]? (.tup []) <|
   C.same (St.env s144)[82]? (.tup []) <|
   C.same (St.env s144)[83]? (.tup []) <|
   C.same (St.env s144)[84]? (.tup []) <|
   C.same (St.env s144)[85]? (.tup []) <|
   C.same (St.env s144)[86]? (.tup []) <|
   C.same (St.env s144)[87]? (.tup []) <|
   C.same (St.env s144)[88]? (.tup []) <|
   C.same (St.env s144)[89]? (.tup []) <|
   C.same (St.env s144)[90]? (.tup []) <|
   C.same (St.env s144)[91]? (.tup []) <|
   C.same (St.env s144)[92]? (.tup []) <|
   C.same (St.env s144)[93]? (.tup []) <|
   C.same (St.env s144)[94]? (.tup []) <|
   C.same (St.env s144)[95]? (.tup []) <|
   C.same (St.env s144)[96]? (.tup []) <|
   C.same (St.env s144)[97]? (.tup []) <|
   C.same (St.env s144)[98]? (.tup []) <|
   C.same (St.env s144)[99]? (.tup []) <|
   C.same (St.env s144)[100]? (.tup []) <|
   C.same (St.env s144)[101]? (.tup []) <|
   C.same (St.env s144)[102]? (.tup []) <|
   C.same (St.env s144)[103]? (.tup []) <|
   C.same (St.env s144)[104]? (.tup []) <|
   C.same (St.env s144)[105]? (.tup []) <|
   C.same (St.env s144)[106]? (.tup []) <|
   C.same (St.env s144)[107]? (.tup []) <|
   C.same (St.env s144)[108]? (.tup []) <|
   C.same (St.env s144)[109]? (.tup []) <|
   C.sameH (St.H s144) [some ⟨E25, [(.agg [(.int .i64 a0), (.int .i64 a1), (.int .i64 a2), (.int .i64 a3)])]⟩, some ⟨E25, [(.agg [(.int .i64 a4), (.int .i64 a5), (.int .i64 a6), (.int .i64 a7)])]⟩, some ⟨E25, [(.agg [(.int .i64 a8), (.int .i64 a9), (.int .i64 a10), (.int .i64 a11)])]⟩, some ⟨E23, [(.agg [(.int .i64 a12), (.int .i64 a13)])]⟩, some ⟨E25, [(.agg [(.int .i64 x1), (.int .i64 x2), (.int .i64 x3), (.int .i64 x4)])]⟩] <|
   C.bool (pcall M d 13 [(.agg [(.int .i64 a0), (.int .i64 a1), (.int .i64 a2), (.int .i64 a3)])]) fun b165 =>
   cnd b165
   (C.bool (pcall M d 17 [(.agg [(.int .i64 a0), (.int .i64 a1), (.int .i64 a2), (.int .i64 a3)]), (.agg [(.int .i64 x1), (.int .i64 x2), (.int .i64 x3), (.int .i64 x4)])]) fun b166 =>
   cnd (!b166)
   (k145 (.exit 2000000) ⟨[(.agg [(.int .i64 a0), (.int .i64 a1), (.int .i64 a2), (.int .i64 a3)]), (.agg [(.int .i64 a4), (.int .i64 a5), (.int .i64 a6), (.int .i64 a7)]), (.agg [(.int .i64 a8), (.int .i64 a9), (.int .i64 a10), (.int .i64 a11)]), (.agg [(.int .i64 a12), (.int .i64 a13)]), (.int .i64 a14), (.int .i64 a15), (.ptr 0 0 0), (.ptr 1 0 0), (.ptr 2 0 0), (.ptr 3 0 0), (.tup []), (.tup []), (.bool false), (.ptr 4 0 0), (.agg [(.int .i64 a0), (.int .i64 a1), (.int .i64 a2), (.int .i64 a3)]), (.agg [(.int .i64 a4), (.int .i64 a5), (.int .i64 a6), (.int .i64 a7)]), (.agg [(.int .i64 x1), (.int .i64 x2), (.int .i64 x3), (.int .i64 x4)]), (.bool b104), (.bool b105), (.bool b106), v107, v108, v109, v110, v111, v112, v113, v114, v115, v116, v117, v118, v119, v120, (.bool b121), (.bool b122), v123, v124, v125, v126, v127, v128, v129, v130, v131, v132, v133, v134, v135, (.bool b136), (.bool b137), v138, v139, v140, v141, v142, (.bool false), (.agg [(.int .i64 a0), (.int .i64 a1), (.int .i64 a2), (.int .i64 a3)]), (.bool b165), (.bool true), (.agg [(.int .i64 a0), (.int .i64 a1), (.int .i64 a2), (.int .i64 a3)]), (.agg [(.int .i64 x1), (.int .i64 x2), (.int .i64 x3), (.int .i64 x4)]), (.bool b166), (.bool (!b166)), (.bool (!b166)), (.bool true), (.tup []), (.tup []), (.tup []), (.tup []), (.tup []), (.tup []), (.tup []), (.tup []), (.bool true), (.tup []), (.tup []), (.tup []), (.tup []), (.tup []), (.tup []), (.tup []), (.tup []), (.tup []), (.tup []), (.tup []), (.tup []), (.tup []), (.tup []), (.tup []), (.tup []), (.tup []), (.tup []), (.tup []), (.tup []), (.tup []), (.tup []), (.tup []), (.tup []), (.tup []), (.tup []), (.tup []), (.tup []), (.tup []), (.tup []), (.tup []), (.tup []), (.tup []), (.tup []), (.tup [])], [some ⟨E25, [(.agg [(.int .i64 a0), (.int .i64 a1), (.int .i64 a2), (.int .i64 a3)])]⟩, some ⟨E25, [(.agg [(.int .i64 a4), (.int .i64 a5), (.int .i64 a6), (.int .i64 a7)])]⟩, some ⟨E25, [(.agg [(.int .i64 a8), (.int .i64 a9), (.int .i64 a10), (.int .i64 a11)])]⟩, some ⟨E23, [(.agg [(.int .i64 a12), (.int .i64 a13)])]⟩, some ⟨E25, [(.agg [(.int .i64 x1), (.int .i64 x2), (.int .i64 x3), (.int .i64 x4)])]⟩]⟩)
   (C.bool (pcall M d 13 [(.agg [(.int .i64 a4), (.int .i64 a5), (.int .i64 a6), (.int .i64 a7)])]) fun b167 =>
   cnd b167
   (C.bool (pcall M d 17 [(.agg [(.int .i64 a4), (.int .i64 a5), (.int .i64 a6), (.int .i64 a7)]), (.agg [(.int .i64 x1), (.int .i64 x2), (.int .i64 x3), (.int .i64 x4)])]) fun b168 =>
   k145 (.exit 2000000) ⟨[(.agg [(.int .i64 a0), (.int .i64 a1), (.int .i64 a2), (.int .i64 a3)]), (.agg [(.int .i64 a4), (.int .i64 a5), (.int .i64 a6), (.int .i64 a7)]), (.agg [(.int .i64 a8), (.int .i64 a9), (.int .i64 a10), (.int .i64 a11)]), (.agg [(.int .i64 a12), (.int .i64 a13)]), (.int .i64 a14), (.int .i64 a15), (.ptr 0 0 0), (.ptr 1 0 0), (.ptr 2 0 0), (.ptr 3 0 0), (.tup []), (.tup []), (.bool false), (.ptr 4 0 0), (.agg [(.int .i64 a0), (.int .i64 a1), (.int .i64 a2), (.int .i64 a3)]), (.agg [(.int .i64 a4), (.int .i64 a5), (.int .i64 a6), (.int .i64 a7)]), (.agg [(.int .i64 x1), (.int .i64 x2), (.int .i64 x3), (.int .i64 x4)]), (.bool b104), (.bool b105), (.bool b106), v107, v108, v109, v110, v111, v112, v113, v114, v115, v116, v117, v118, v119, v120, (.bool b121), (.bool b122), v123, v124, v125, v126, v127, v128, v129, v130, v131, v132, v133, v134, v135, (.bool b136), (.bool b137), v138, v139, v140, v141, v142, (.bool false), (.agg [(.int .i64 a0), (.int .i64 a1), (.int .i64 a2), (.int .i64 a3)]), (.bool b165), (.bool true), (.agg [(.int .i64 a0), (.int .i64 a1), (.int .i64 a2), (.int .i64 a3)]), (.agg [(.int .i64 x1), (.int .i64 x2), (.int .i64 x3), (.int .i64 x4)]), (.bool b166), (.bool (!b166)), (.bool (!b166)), (.bool false), (.agg [(.int .i64 a4), (.int .i64 a5), (.int .i64 a6), (.int .i64 a7)]), (.bool b167), (.bool true), (.agg [(.int .i64 a4), (.int .i64 a5), (.int .i64 a6), (.int .i64 a7)]), (.agg [(.int .i64 x1), (.int .i64 x2), (.int .i64 x3), (.int .i64 x4)]), (.bool b168), (.bool (!b168)), (.bool (!b168)), (.bool (!b168)), (.tup []), (.tup []), (.tup []), (.tup []), (.tup []), (.tup []), (.tup []), (.tup []), (.tup []), (.tup []), (.tup []), (.tup []), (.tup []), (.tup []), (.tup []), (.tup []), (.tup []), (.tup []), (.tup []), (.tup []), (.tup []), (.tup []), (.tup []), (.tup []), (.tup []), (.tup []), (.tup []), (.tup []), (.tup []), (.tup []), (.tup []), (.tup []), (.tup []), (.tup []), (.tup [])], [some ⟨E25, [(.agg [(.int .i64 a0), (.int .i64 a1), (.int .i64 a2), (.int .i64 a3)])]⟩, some ⟨E25, [(.agg [(.int .i64 a4), (.int .i64 a5), (.int .i64 a6), (.int .i64 a7)])]⟩, some ⟨E25, [(.agg [(.int .i64 a8), (.int .i64 a9), (.int .i64 a10), (.int .i64 a11)])]⟩, some ⟨E23, [(.agg [(.int .i64 a12), (.int .i64 a13)])]⟩, some ⟨E25, [(.agg [(.int .i64 x1), (.int .i64 x2), (.int .i64 x3), (.int .i64 x4)])]⟩]⟩)
   (k145 (.exit 2000000) ⟨[(.agg [(.int .i64 a0), (.int .i64 a1), (.int .i64 a2), (.int .i64 a3)]), (.agg [(.int .i64 a4), (.int .i64 a5), (.int .i64 a6), (.int .i64 a7)]), (.agg [(.int .i64 a8), (.int .i64 a9), (.int .i64 a10), (.int .i64 a11)]), (.agg [(.int .i64 a12), (.int .i64 a13)]), (.int .i64 a14), (.int .i64 a15), (.ptr 0 0 0), (.ptr 1 0 0), (.ptr 2 0 0), (.ptr 3 0 0), (.tup []), (.tup []), (.bool false), (.ptr 4 0 0), (.agg [(.int .i64 a0), (.int .i64 a1), (.int .i64 a2), (.int .i64 a3)]), (.agg [(.int .i64 a4), (.int .i64 a5), (.int .i64 a6), (.int .i64 a7)]), (.agg [(.int .i64 x1), (.int .i64 x2), (.int .i64 x3), (.int .i64 x4)]), (.bool b104), (.bool b105), (.bool b106), v107, v108, v109, v110, v111, v112, v113, v114, v115, v116, v117, v118, v119, v120, (.bool b121), (.bool b122), v123, v124, v125, v126, v127, v128, v129, v130, v131, v132, v133, v134, v135, (.bool b136), (.bool b137), v138, v139, v140, v141, v142, (.bool false), (.agg [(.int .i64 a0), (.int .i64 a1), (.int .i64 a2), (.int .i64 a3)]), (.bool b165), (.bool true), (.agg [(.int .i64 a0), (.int .i64 a1), (.int .i64 a2), (.int .i64 a3)]), (.agg [(.int .i64 x1), (.int .i64 x2), (.int .i64 x3), (.int .i64 x4)]), (.bool b166), (.bool (!b166)), (.bool (!b166)), (.bool false), (.agg [(.int .i64 a4), (.int .i64 a5), (.int .i64 a6), (.int .i64 a7)]), (.bool b167), (.bool false), (.tup []), (.tup []), (.tup []), (.tup []), (.bool false), (.bool false), (.tup []), (.tup []), (.tup []), (.tup []), (.tup []), (.tup []), (.tup []), (.tup []), (.tup []), (.tup []), (.tup []), (.tup []), (.tup []), (.tup []), (.tup []), (.tup []), (.tup []), (.tup []), (.tup []), (.tup []), (.tup []), (.tup []), (.tup []), (.tup []), (.tup []), (.tup []), (.tup []), (.tup []), (.tup []), (.tup []), (.tup []), (.tup []), (.tup []), (.tup []), (.tup [])], [some ⟨E25, [(.agg [(.int .i64 a0), (.int .i64 a1), (.int .i64 a2), (.int .i64 a3)])]⟩, some ⟨E25, [(.agg [(.int .i64 a4), (.int .i64 a5), (.int .i64 a6), (.int .i64 a7)])]⟩, some ⟨E25, [(.agg [(.int .i64 a8), (.int .i64 a9), (.int .i64 a10), (.int .i64 a11)])]⟩, some ⟨E23, [(.agg [(.int .i64 a12), (.int .i64 a13)])]⟩, some ⟨E25, [(.agg [(.int .i64 x1), (.int .i64 x2), (.int .i64 x3), (.int .i64 x4)])]⟩]⟩)))
   (C.bool (pcall M d 13 [(.agg [(.int .i64 a4), (.int .i64 a5), (.int .i64 a6), (.int .i64 a7)])]) fun b169 =>
   cnd b169
   (C.bool (pcall M d 17 [(.agg [(.int .i64 a4), (.int .i64 a5), (.int .i64 a6), (.int .i64 a7)]), (.agg [(.int .i64 x1), (.int .i64 x2), (.int .i64 x3), (.int .i64 x4)])]) fun b170 =>
   k145 (.exit 2000000) ⟨[(.agg [(.int .i64 a0), (.int .i64 a1), (.int .i64 a2), (.int .i64 a3)]), (.agg [(.int .i64 a4), (.int .i64 a5), (.int .i64 a6), (.int .i64 a7)]), (.agg [(.int .i64 a8), (.int .i64 a9), (.int .i64 a10), (.int .i64 a11)]), (.agg [(.int .i64 a12), (.int .i64 a13)]), (.int .i64 a14), (.int .i64 a15), (.ptr 0 0 0), (.ptr 1 0 0), (.ptr 2 0 0), (.ptr 3 0 0), (.tup []), (.tup []), (.bool false), (.ptr 4 0 0), (.agg [(.int .i64 a0), (.int .i64 a1), (.int .i64 a2), (.int .i64 a3)]), (.agg [(.int .i64 a4), (.int .i64 a5), (.int .i64 a6), (.int .i64 a7)]), (.agg [(.int .i64 x1), (.int .i64 x2), (.int .i64 x3), (.int .i64 x4)]), (.bool b104), (.bool b105), (.bool b106), v107, v108, v109, v110, v111, v112, v113, v114, v115, v116, v117, v118, v119, v120, (.bool b121), (.bool b122), v123, v124, v125, v126, v127, v128, v129, v130, v131, v132, v133, v134, v135, (.bool b136), (.bool b137), v138, v139, v140, v141, v142, (.bool false), (.agg [(.int .i64 a0), (.int .i64 a1), (.int .i64 a2), (.int .i64 a3)]), (.bool b165), (.bool false), (.tup []), (.tup []), (.tup []), (.tup []), (.bool false), (.bool false), (.agg [(.int .i64 a4), (.int .i64 a5), (.int .i64 a6), (.int .i64 a7)]), (.bool b169), (.bool true), (.agg [(.int .i64 a4), (.int .i64 a5), (.int .i64 a6), (.int .i64 a7)]), (.agg [(.int .i64 x1), (.int .i64 x2), (.int .i64 x3), (.int .i64 x4)]), (.bool b170), (.bool (!b170)), (.bool (!b170)), (.bool (!b170)), (.tup []), (.tup []), (.tup []), (.tup []), (.tup []), (.tup []), (.tup []), (.tup []), (.tup []), (.tup []), (.tup []), (.tup []), (.tup []), (.tup []), (.tup []), (.tup []), (.tup []), (.tup []), (.tup []), (.tup []), (.tup []), (.tup []), (.tup []), (.tup []), (.tup []), (.tup []), (.tup []), (.tup []), (.tup []), (.tup []), (.tup []), (.tup []), (.tup []), (.tup []), (.tup [])], [some ⟨E25, [(.agg [(.int .i64 a0), (.int .i64 a1), (.int .i64 a2), (.int .i64 a3)])]⟩, some ⟨E25, [(.agg [(.int .i64 a4), (.int .i64 a5), (.int .i64 a6), (.int .i64 a7)])]⟩, some ⟨E25, [(.agg [(.int .i64 a8), (.int .i64 a9), (.int .i64 a10), (.int .i64 a11)])]⟩, some ⟨E23, [(.agg [(.int .i64 a12), (.int .i64 a13)])]⟩, some ⟨E25, [(.agg [(.int .i64 x1), (.int .i64 x2), (.int .i64 x3), (.int .i64 x4)])]⟩]⟩)
   (k145 (.exit 2000000) ⟨[(.agg [(.int .i64 a0), (.int .i64 a1), (.int .i64 a2), (.int .i64 a3)]), (.agg [(.int .i64 a4), (.int .i64 a5), (.int .i64 a6), (.int .i64 a7)]), (.agg [(.int .i64 a8), (.int .i64 a9), (.int .i64 a10), (.int .i64 a11)]), (.agg [(.int .i64 a12), (.int .i64 a13)]), (.int .i64 a14), (.int .i64 a15), (.ptr 0 0 0), (.ptr 1 0 0), (.ptr 2 0 0), (.ptr 3 0 0), (.tup []), (.tup []), (.bool false), (.ptr 4 0 0), (.agg [(.int .i64 a0), (.int .i64 a1), (.int .i64 a2), (.int .i64 a3)]), (.agg [(.int .i64 a4), (.int .i64 a5), (.int .i64 a6), (.int .i64 a7)]), (.agg [(.int .i64 x1), (.int .i64 x2), (.int .i64 x3), (.int .i64 x4)]), (.bool b104), (.bool b105), (.bool b106), v107, v108, v109, v110, v111, v112, v113, v114, v115, v116, v117, v118, v119, v120, (.bool b121), (.bool b122), v123, v124, v125, v126, v127, v128, v129, v130, v131, v132, v133, v134, v135, (.bool b136), (.bool b137), v138, v139, v140, v141, v142, (.bool false), (.agg [(.int .i64 a0), (.int .i64 a1), (.int .i64 a2), (.int .i64 a3)]), (.bool b165), (.bool false), (.tup []), (.tup []), (.tup []), (.tup []), (.bool false), (.bool false), (.agg [(.int .i64 a4), (.int .i64 a5), (.int .i64 a6), (.int .i64 a7)]), (.bool b169), (.bool false), (.tup []), (.tup []), (.tup []), (.tup []), (.bool false), (.bool false), (.tup []), (.tup []), (.tup []), (.tup []), (.tup []), (.tup []), (.tup []), (.tup []), (.tup []), (.tup []), (.tup []), (.tup []), (.tup []), (.tup []), (.tup []), (.tup []), (.tup []), (.tup []), (.tup []), (.tup []), (.tup []), (.tup []), (.tup []), (.tup []), (.tup []), (.tup []), (.tup []), (.tup []), (.tup []), (.tup []), (.tup []), (.tup []), (.tup []), (.tup []), (.tup [])], [some ⟨E25, [(.agg [(.int .i64 a0), (.int .i64 a1), (.int .i64 a2), (.int .i64 a3)])]⟩, some ⟨E25, [(.agg [(.int .i64 a4), (.int .i64 a5), (.int .i64 a6), (.int .i64 a7)])]⟩, some ⟨E25, [(.agg [(.int .i64 a8), (.int .i64 a9), (.int .i64 a10), (.int .i64 a11)])]⟩, some ⟨E23, [(.agg [(.int .i64 a12), (.int .i64 a13)])]⟩, some ⟨E25, [(.agg [(.int .i64 x1), (.int .i64 x2), (.int .i64 x3), (.int .i64 x4)])]⟩]⟩)))
   (none)
def r8X1_0 (C : Cb) (d : Nat) (a0 a1 a2 a3 a4 a5 a6 a7 a8 a9 a10 a11 a12 a13 a14 a15 x1 x2 x3 x4 : Int) (b104 b105 b106 : Bool) (v107 v108 v109 v110 v111 v112 v113 v114 v115 v116 v117 v118 v119 v120 : AV) (b121 b122 : Bool) (v123 v124 v125 v126 v127 v128 v129 v130 v131 v132 v133 v134 v135 : AV) (b136 b137 : Bool) (v138 v139 v140 v141 v142 : AV) : St → Ans := fun s171 =>
  cnd ((List.length (St.env s171)) == 110)
   (C.same (St.env s171)[0]? (.agg [(.int .i64 a0), (.int .i64 a1), (.int .i64 a2), (.int .i64 a3)]) <|
   C.same (St.env s171)[1]? (.agg [(.int .i64 a4), (.int .i64 a5), (.int .i64 a6), (.int .i64 a7)]) <|
   C.same (St.env s171)[2]? (.agg [(.int .i64 a8), (.int .i64 a9), (.int .i64 a10), (.int .i64 a11)]) <|
   C.same (St.env s171)[3]? (.agg [(.int .i64 a12), (.int .i64 a13)]) <|
   C.same (St.env s171)[4]? (.int .i64 a14) <|
   C.same (St.env s171)[5]? (.int .i64 a15) <|
   C.same (St.env s171)[6]? (.ptr 0 0 0) <|
   C.same (St.env s171)[7]? (.ptr 1 0 0) <|
   C.same (St.env s171)[8]? (.ptr 2 0 0) <|
   C.same (St.env s171)[9]? (.ptr 3 0 0) <|
   C.same (St.env s171)[10]? (.tup []) <|
   C.same (St.env s171)[11]? (.tup []) <|
   C.same (St.env s171)[12]? (.bool false) <|
   C.same (St.env s171)[13]? (.ptr 4 0 0) <|
   C.same (St.env s171)[14]? (.agg [(.int .i64 a0), (.int .i64 a1), (.int .i64 a2), (.int .i64 a3)]) <|
   C.same (St.env s171)[15]? (.agg [(.int .i64 a4), (.int .i64 a5), (.int .i64 a6), (.int .i64 a7)]) <|
   C.same (St.env s171)[16]? (.agg [(.int .i64 x1), (.int .i64 x2), (.int .i64 x3), (.int .i64 x4)]) <|
   C.same (St.env s171)[17]? (.bool b104) <|
   C.same (St.env s171)[18]? (.bool b105) <|
   C.same (St.env s171)[19]? (.bool b106) <|
   C.same (St.env s171)[20]? v107 <|
   C.same (St.env s171)[21]? v108 <|
   C.same (St.env s171)[22]? v109 <|
   C.same (St.env s171)[23]? v110 <|
   C.same (St.env s171)[24]? v111 <|
   C.same (St.env s171)[25]? v112 <|
   C.same (St.env s171)[26]? v113 <|
   C.same (St.env s171)[27]? v114 <|
   C.same (St.env s171)[28]? v115 <|
   C.same (St.env s171)[29]? v116 <|
   C.same (St.env s171)[30]? v117 <|
   C.same (St.env s171)[31]? v118 <|
   C.same (St.env s171)[32]? v119 <|
   C.same (St.env s171)[33]? v120 <|
   C.same (St.env s171)[34]? (.bool b121) <|
   C.same (St.env s171)[35]? (.bool b122) <|
   C.same (St.env s171)[36]? v123 <|
   C.same (St.env s171)[37]? v124 <|
   C.same (St.env s171)[38]? v125 <|
   C.same (St.env s171)[39]? v126 <|
   C.same (St.env s171)[40]? v127 <|
   C.same (St.env s171)[41]? v128 <|
   C.same (St.env s171)[42]? v129 <|
   C.same (St.env s171)[43]? v130 <|
   C.same (St.env s171)[44]? v131 <|
   C.same (St.env s171)[45]? v132 <|
   C.same (St.env s171)[46]? v133 <|
   C.same (St.env s171)[47]? v134 <|
   C.same (St.env s171)[48]? v135 <|
   C.same (St.env s171)[49]? (.bool b136) <|
   C.same (St.env s171)[50]? (.bool b137) <|
   C.same (St.env s171)[51]? v138 <|
   C.same (St.env s171)[52]? v139 <|
   C.same (St.env s171)[53]? v140 <|
   C.same (St.env s171)[54]? v141 <|
   C.same (St.env s171)[55]? v142 <|
   C.same (St.env s171)[56]? (.bool false) <|
   C.agg 4 (St.env s171)[57]? fun l172 =>
   C.int .i64 l172[0]? fun x173 =>
   C.int .i64 l172[1]? fun x174 =>
   C.int .i64 l172[2]? fun x175 =>
   C.int .i64 l172[3]? fun x176 =>
   C.bool (St.env s171)[58]? fun b177 =>
   C.bool (St.env s171)[59]? fun b178 =>
   C.any (St.env s171)[60]? fun v179 =>
   C.any (St.env s171)[61]? fun v180 =>
   C.any (St.env s171)[62]? fun v181 =>
   C.any (St.env s171)[63]? fun v182 =>
   C.bool (St.env s171)[64]? fun b183 =>
   C.bool (St.env s171)[65]? fun b184 =>
   C.any (St.env s171)[66]? fun v185 =>
   C.any (St.env s171)[67]? fun v186 =>
   C.any (St.env s171)[68]? fun v187 =>
   C.any (St.env s171)[69]? fun v188 =>
   C.any (St.env s171)[70]? fun v189 =>
   C.any (St.env s171)[71]? fun v190 =>
   C.any (St.env s171)[72]? fun v191 =>
   C.any (St.env s171)[73]? fun v192 =>
   C.bool (St.env s171)[74]? fun b193 =>
   C.same (St.env s171)[75]? (.tup []) <|
   C.same (St.env s171)[76]? (.tup []) <|
   C.same (St.env s171)[77]? (.tup []) <|
   C.same (St.env s171)[78]? (.tup []) <|
   C.same (St.env s171)[79]? (.tup []) <|
   C.same (St.env s171)[80]? (.tup []) <|
   C.same (St.env s171)[81]? (.tup []) <|
   C.same (St.env s171)[82]? (.tup []) <|
   C.same (St.env s171)[83]? (.tup []) <|
   C.same (St.env s171)[84]? (.tup []) <|
   C.same (St.env s171)[85]? (.tup []) <|
   C.same (St.env s171)[86]? (.tup []) <|
   C.same (St.env s171)[87]? (.tup []) <|
   C.same (St.env s171)[88]? (.tup []) <|
   C.same (St.env s171)[89]? (.tup []) <|
   C.same (St.env s171)[90]? (.tup []) <|
   C.same (St.env s171)[91]? (.tup []) <|
   C.same (St.env s171)[92]? (.tup []) <|
   C.same (St.env s171)[93]? (.tup []) <|
   C.same (St.env s171)[94]? (.tup []) <|
   C.same (St.env s171)[95]? (.tup []) <|
   C.same (St.env s171)[96]? (.tup []) <|
   C.same (St.env s171)[97]? (.tup []) <|
   C.same (St.env s171)[98]? (.tup []) <|
   C.same (St.env s171)[99]? (.tup []) <|
   C.same (St.env s171)[100]? (.tup []) <|
   C.same (St.env s171)[101]? (.tup []) <|
   C.same (St.env s171)[102]? (.tup []) <|
   C.same (St.env s171)[103]? (.tup []) <|
   C.same (St.env s171)[104]? (.tup []) <|
   C.same (St.env s171)[105]? (.tup []) <|
   C.same (St.env s171)[106]? (.tup []) <|
   C.same (St.env s171)[107]? (.tup []) <|
   C.same (St.env s171)[108]? (.tup []) <|
   C.same (St.env s171)[109]? (.tup []) <|
   C.sameH (St.H s171) [some ⟨E25, [(.agg [(.int .i64 a0), (.int .i64 a1), (.int .i64 a2), (.int .i64 a3)])]⟩, some ⟨E25, [(.agg [(.int .i64 a4), (.int .i64 a5), (.int .i64 a6), (.int .i64 a7)])]⟩, some ⟨E25, [(.agg [(.int .i64 a8), (.int .i64 a9), (.int .i64 a10), (.int .i64 a11)])]⟩, some ⟨E23, [(.agg [(.int .i64 a12), (.int .i64 a13)])]⟩, some ⟨E25, [(.agg [(.int .i64 x1), (.int .i64 x2), (.int .i64 x3), (.int .i64 x4)])]⟩] <|
   cnd b193
   (some (.bool false))
   (C.iter (r8R2 C d a0 a1 a2 a3 a4 a5 a6 a7 a8 a9 a10 a11 a12 a13 a14 a15 x1 x2 x3 x4 b104 b105 b106 v107 v108 v109 v110 v111 v112 v113 v114 v115 v116 v117 v118 v119 v120 b121 b122 v123 v124 v125 v126 v127 v128 v129 v130 v131 v132 v133 v134 v135 b136 b137 v138 v139 v140 v141 v142 x173 x174 x175 x176 b177 b178 v179 v180 v181 v182 b183 b184 v185 v186 v187 v188 v189 v190 v191 v192) 1 ⟨[(.agg [(.int .i64 a0), (.int .i64 a1), (.int .i64 a2), (.int .i64 a3)]), (.agg [(.int .i64 a4), (.int .i64 a5), (.int .i64 a6), (.int .i64 a7)]), (.agg [(.int .i64 a8), (.int .i64 a9), (.int .i64 a10), (.int .i64 a11)]), (.agg [(.int .i64 a12), (.int .i64 a13)]), (.int .i64 a14), (.int .i64 a15), (.ptr 0 0 0), (.ptr 1 0 0), (.ptr 2 0 0), (.ptr 3 0 0), (.tup []), (.tup []), (.bool false), (.ptr 4 0 0), (.agg [(.int .i64 a0), (.int .i64 a1), (.int .i64 a2), (.int .i64 a3)]), (.agg [(.int .i64 a4), (.int .i64 a5), (.int .i64 a6), (.int .i64 a7)]), (.agg [(.int .i64 x1), (.int .i64 x2), (.int .i64 x3), (.int .i64 x4)]), (.bool b104), (.bool b105), (.bool b106), v107, v108, v109, v110, v111, v112, v113, v114, v115, v116, v117, v118, v119, v120, (.bool b121), (.bool b122), v123, v124, v125, v126, v127, v128, v129, v130, v131, v132, v133, v134, v135, (.bool b136), (.bool b137), v138, v139, v140, v141, v142, (.bool false), (.agg [(.int .i64 x173), (.int .i64 x174), (.int .i64 x175), (.int .i64 x176)]), (.bool b177), (.bool b178), v179, v180, v181, v182, (.bool b183), (.bool b184), v185, v186, v187, v188, v189, v190, v191, v192, (.bool false), (.tup []), (.tup []), (.tup []), (.tup []), (.tup []), (.tup []), (.tup []), (.tup []), (.tup []), (.tup []), (.tup []), (.tup []), (.tup []), (.tup []), (.tup []), (.tup []), (.tup []), (.tup []), (.tup []), (.tup []), (.tup []), (.tup []), (.tup []), (.tup []), (.tup []), (.tup []), (.tup []), (.tup []), (.tup []), (.tup []), (.tup []), (.tup []), (.tup []), (.tup []), (.tup [])], [some ⟨E25, [(.agg [(.int .i64 a0), (.int .i64 a1), (.int .i64 a2), (.int .i64 a3)])]⟩, some ⟨E25, [(.agg [(.int .i64 a4), (.int .i64 a5), (.int .i64 a6), (.int .i64 a7)])]⟩, some ⟨E25, [(.agg [(.int .i64 a8), (.int .i64 a9), (.int .i64 a10), (.int .i64 a11)])]⟩, some ⟨E23, [(.agg [(.int .i64 a12), (.int .i64 a13)])]⟩, some ⟨E25, [(.agg [(.int .i64 x1), (.int .i64 x2), (.int .i64 x3), (.int .i64 x4)])]⟩]⟩ [2000000] [r8X2_0 C d a0 a1 a2 a3 a4 a5 a6 a7 a8 a9 a10 a11 a12 a13 a14 a15 x1 x2 x3 x4 b104 b105 b106 v107 v108 v109 v110 v111 v112 v113 v114 v115 v116 v117 v118 v119 v120 b121 b122 v123 v124 v125 v126 v127 v128 v129 v130 v131 v132 v133 v134 v135 b136 b137 v138 v139 v140 v141 v142 x173 x174 x175 x176 b177 b178 v179 v180 v181 v182 b183 b184 v185 v186 v187 v188 v189 v190 v191 v192] (r8E2 C d a0 a1 a2 a3 a4 a5 a6 a7 a8 a9 a10 a11 a12 a13 a14 a15 x1 x2 x3 x4 b104 b105 b106 v107 v108 v109 v110 v111 v112 v113 v114 v115 v116 v117 v118 v119 v120 b121 b122 v123 v124 v125 v126 v127 v128 v129 v130 v131 v132 v133 v134 v135 b136 b137 v138 v139 v140 v141 v142 x173 x174 x175 x176 b177 b178 v179 v180 v181 v182 b183 b184 v185 v186 v187 v188 v189 v190 v191 v192)))
   (none)
def r8E1 (C : Cb) (d : Nat) (a0 a1 a2 a3 a4 a5 a6 a7 a8 a9 a10 a11 a12 a13 a14 a15 x1 x2 x3 x4 : Int) (b104 b105 b106 : Bool) (v107 v108 v109 v110 v111 v112 v113 v114 v115 v116 v117 v118 v119 v120 : AV) (b121 b122 : Bool) (v123 v124 v125 v126 v127 v128 v129 v130 v131 v132 v133 v134 v135 : AV) (b136 b137 : Bool) (v138 v139 v140 v141 v142 : AV) : St → Ans := fun s146 =>
  cnd ((List.length (St.env s146)) == 110)
   (C.same (St.env s146)[0]? (.agg [(.int .i64 a0), (.int .i64 a1), (.int .i64 a2), (.int .i64 a3)]) <|
   C.same (St.env s146)[1]? (.agg [(.int .i64 a4), (.int .i64 a5), (.int .i64 a6), (.int .i64 a7)]) <|
   C.same (St.env s146)[2]? (.agg [(.int .i64 a8), (.int .i64 a9), (.int .i64 a10), (.int .i64 a11)]) <|
   C.same (St.env s146)[3]? (.agg [(.int .i64 a12), (.int .i64 a13)]) <|
   C.same (St.env s146)[4]? (.int .i64 a14) <|
   C.same (St.env s146)[5]? (.int .i64 a15) <|
   C.same (St.env s146)[6]? (.ptr 0 0 0) <|
   C.same (St.env s146)[7]? (.ptr 1 0 0) <|
   C.same (St.env s146)[8]? (.ptr 2 0 0) <|
   C.same (St.env s146)[9]? (.ptr 3 0 0) <|
   C.same (St.env s146)[10]? (.tup []) <|
   C.same (St.env s146)[11]? (.tup []) <|
   C.same (St.env s146)[12]? (.bool false) <|
   C.same (St.env s146)[13]? (.ptr 4 0 0) <|
   C.same (St.env s146)[14]? (.agg [(.int .i64 a0), (.int .i64 a1), (.int .i64 a2), (.int .i64 a3)]) <|
   C.same (St.env s146)[15]? (.agg [(.int .i64 a4), (.int .i64 a5), (.int .i64 a6), (.int .i64 a7)]) <|
   C.same (St.env s146)[16]? (.agg [(.int .i64 x1), (.int .i64 x2), (.int .i64 x3), (.int .i64 x4)]) <|
   C.same (St.env s146)[17]? (.bool b104) <|
   C.same (St.env s146)[18]? (.bool b105) <|
   C.same (St.env s146)[19]? (.bool b106) <|
   C.same (St.env s146)[20]? v107 <|
   C.same (St.env s146)[21]? v108 <|
   C.same (St.env s146)[22]? v109 <|
   C.same (St.env s146)[23]? v110 <|
   C.same (St.env s146)[24]? v111 <|
   C.same (St.env s146)[25]? v112 <|
   C.same (St.env s146)[26]? v113 <|
   C.same (St.env s146)[27]? v114 <|
   C.same (St.env s146)[28]? v115 <|
   C.same (St.env s146)[29]? v116 <|
   C.same (St.env s146)[30]? v117 <|
   C.same (St.env s146)[31]? v118 <|
   C.same (St.env s146)[32]? v119 <|
   C.same (St.env s146)[33]? v120 <|
   C.same (St.env s146)[34]? (.bool b121) <|
   C.same (St.env s146)[35]? (.bool b122) <|
   C.same (St.env s146)[36]? v123 <|
   C.same (St.env s146)[37]? v124 <|
   C.same (St.env s146)[38]? v125 <|
   C.same (St.env s146)[39]? v126 <|
   C.same (St.env s146)[40]? v127 <|
   C.same (St.env s146)[41]? v128 <|
   C.same (St.env s146)[42]? v129 <|
   C.same (St.env s146)[43]? v130 <|
   C.same (St.env s146)[44]? v131 <|
   C.same (St.env s146)[45]? v132 <|
   C.same (St.env s146)[46]? v133 <|
   C.same (St.env s146)[47]? v134 <|
   C.same (St.env s146)[48]? v135 <|
   C.same (St.env s146)[49]? (.bool b136) <|
   C.same (St.env s146)[50]? (.bool b137) <|
   C.same (St.env s146)[51]? v138 <|
   C.same (St.env s146)[52]? v139 <|
   C.same (St.env s146)[53]? v140 <|
   C.same (St.env s146)[54]? v141 <|
   C.same (St.env s146)[55]? v142 <|
   C.same (St.env s146)[56]? (.bool false) <|
   C.any (St.env s146)[57]? fun v332 =>
   C.any (St.env s146)[58]? fun v333 =>
   C.any (St.env s146)[59]? fun v334 =>
   C.any (St.env s146)[60]? fun v335 =>
   C.any (St.env s146)[61]? fun v336 =>
   C.any (St.env s146)[62]? fun v337 =>
   C.any (St.env s146)[63]? fun v338 =>
   C.any (St.env s146)[64]? fun v339 =>
   C.any (St.env s146)[65]? fun v340 =>
   C.any (St.env s146)[66]? fun v341 =>
   C.any (St.env s146)[67]? fun v342 =>
   C.any (St.env s146)[68]? fun v343 =>
   C.any (St.env s146)[69]? fun v344 =>
   C.any (St.env s146)[70]? fun v345 =>
   C.any (St.env s146)[71]? fun v346 =>
   C.any (St.env s146)[72]? fun v347 =>
   C.any (St.env s146)[73]? fun v348 =>
   C.any (St.env s146)[74]? fun v349 =>
   C.same (St.env s146)[75]? (.tup []) <|
   C.same (St.env s146)[76]? (.tup []) <|
   C.same (St.env s146)[77]? (.tup []) <|
   C.same (St.env s146)[78]? (.tup []) <|
   C.same (St.env s146)[79]? (.tup []) <|
   C.same (St.env s146)[80]? (.tup []) <|
   C.same (St.env s146)[81]? (.tup []) <|
   C.same (St.env s146)[82]? (.tup []) <|
   C.same (St.env s146)[83]? (.tup []) <|
   C.same (St.env s146)[84]? (.tup []) <|
   C.same (St.env s146)[85]? (.tup []) <|
   C.same (St.env s146)[86]? (.tup []) <|
   C.same (St.env s146)[87]? (.tup []) <|
   C.same (St.env s146)[88]? (.tup []) <|
   C.same (St.env s146)[89]? (.tup []) <|
   C.same (St.env s146)[90]? (.tup []) <|
   C.same (St.env s146)[91]? (.tup []) <|
   C.same (St.env s146)[92]? (.tup []) <|
   C.same (St.env s146)[93]? (.tup []) <|
   C.same (St.env s146)[94]? (.tup []) <|
   C.same (St.env s146)[95]? (.tup []) <|
   C.same (St.env s146)[96]? (.tup []) <|
   C.same (St.env s146)[97]? (.tup []) <|
   C.same (St.env s146)[98]? (.tup []) <|
   C.same (St.env s146)[99]? (.tup []) <|
   C.same (St.env s146)[100]? (.tup []) <|
   C.same (St.env s146)[101]? (.tup []) <|
   C.same (St.env s146)[102]? (.tup []) <|
   C.same (St.env s146)[103]? (.tup []) <|
   C.same (St.env s146)[104]? (.tup []) <|
   C.same (St.env s146)[105]? (.tup []) <|
   C.same (St.env s146)[106]? (.tup []) <|
   C.same (St.env s146)[107]? (.tup []) <|
   C.same (St.env s146)[108]? (.tup []) <|
   C.same (St.env s146)[109]? (.tup []) <|
   C.sameH (St.H s146) [some ⟨E25, [(.agg [(.int .i64 a0), (.int .i64 a1), (.int .i64 a2), (.int .i64 a3)])]⟩, some ⟨E25, [(.agg [(.int .i64 a4), (.int .i64 a5), (.int .i64 a6), (.int .i64 a7)])]⟩, some ⟨E25, [(.agg [(.int .i64 a8), (.int .i64 a9), (.int .i64 a10), (.int .i64 a11)])]⟩, some ⟨E23, [(.agg [(.int .i64 a12), (.int .i64 a13)])]⟩, some ⟨E25, [(.agg [(.int .i64 x1), (.int .i64 x2), (.int .i64 x3), (.int .i64 x4)])]⟩] <|
   some (.bool false))
   (none)
def r8R0 (C : Cb) (d : Nat) (a0 a1 a2 a3 a4 a5 a6 a7 a8 a9 a10 a11 a12 a13 a14 a15 x1 x2 x3 x4 : Int) : St → (Ex → St → Ans) → Ans := fun s5 k6 =>
  cnd ((List.length (St.env s5)) == 110)
   (C.same (St.env s5)[0]? (.agg [(.int .i64 a0), (.int .i64 a1), (.int .i64 a2), (.int .i64 a3)]) <|
   C.same (St.env s5)[1]? (.agg [(.int .i64 a4), (.int .i64 a5), (.int .i64 a6), (.int .i64 a7)]) <|
   C.same (St.env s5)[2]? (.agg [(.int .i64 a8), (.int .i64 a9), (.int .i64 a10), (.int .i64 a11)]) <|
   C.same (St.env s5)[3]? (.agg [(.int .i64 a12), (.int .i64 a13)]) <|
   C.same (St.env s5)[4]? (.int .i64 a14) <|
   C.same (St.env s5)[5]? (.int .i64 a15) <|
   C.same (St.env s5)[6]? (.ptr 0 0 0) <|
   C.same (St.env s5)[7]? (.ptr 1 0 0) <|
   C.same (St.env s5)[8]? (.ptr 2 0 0) <|
   C.same (St.env s5)[9]? (.ptr 3 0 0) <|
   C.same (St.env s5)[10]? (.tup []) <|
   C.same (St.env s5)[11]? (.tup []) <|
   C.same (St.env s5)[12]? (.bool false) <|
   C.same (St.env s5)[13]? (.ptr 4 0 0) <|
   C.same (St.env s5)[14]? (.agg [(.int .i64 a0), (.int .i64 a1), (.int .i64 a2), (.int .i64 a3)]) <|
   C.same (St.env s5)[15]? (.agg [(.int .i64 a4), (.int .i64 a5), (.int .i64 a6), (.int .i64 a7)]) <|
   C.same (St.env s5)[16]? (.agg [(.int .i64 x1), (.int .i64 x2), (.int .i64 x3), (.int .i64 x4)]) <|
   C.any (St.env s5)[17]? fun v8 =>
   C.any (St.env s5)[18]? fun v9 =>
   C.any (St.env s5)[19]? fun v10 =>
   C.any (St.env s5)[20]? fun v11 =>
   C.any (St.env s5)[21]? fun v12 =>
   C.any (St.env s5)[22]? fun v13 =>
   C.any (St.env s5)[23]? fun v14 =>
   C.any (St.env s5)[24]? fun v15 =>
   C.any (St.env s5)[25]? fun v16 =>
   C.any (St.env s5)[26]? fun v17 =>
   C.any (St.env s5)[27]? fun v18 =>
   C.any (St.env s5)[28]? fun v19 =>
   C.any (St.env s5)[29]? fun v20 =>
   C.any (St.env s5)[30]? fun v21 =>
   C.any (St.env s5)[31]? fun v22 =>
   C.any (St.env s5)[32]? fun v23 =>
   C.any (St.env s5)[33]? fun v24 =>
   C.any (St.env s5)[34]? fun v25 =>
   C.any (St.env s5)[35]? fun v26 =>
   C.any (St.env s5)[36]? fun v27 =>
   C.any (St.env s5)[37]? fun v28 =>
   C.any (St.env s5)[38]? fun v29 =>
   C.any (St.env s5)[39]? fun v30 =>
   C.any (St.env s5)[40]? fun v31 =>
   C.any (St.env s5)[41]? fun v32 =>
   C.any (St.env s5)[42]? fun v33 =>
   C.any (St.env s5)[43]? fun v34 =>
   C.any (St.env s5)[44]? fun v35 =>
   C.any (St.env s5)[45]? fun v36 =>
   C.any (St.env s5)[46]? fun v37 =>
   C.any (St.env s5)[47]? fun v38 =>
   C.any (St.env s5)[48]? fun v39 =>
   C.any (St.env s5)[49]? fun v40 =>
   C.any (St.env s5)[50]? fun v41 =>
   C.any (St.env s5)[51]? fun v42 =>
   C.any (St.env s5)[52]? fun v43 =>
   C.any (St.env s5)[53]? fun v44 =>
   C.any (St.env s5)[54]? fun v45 =>
   C.any (St.env s5)[55]? fun v46 =>
   C.any (St.env s5)[56]? fun v47 =>
   C.same (St.env s5)[57]? (.tup []) <|
   C.same (St.env s5)[58]? (.tup []) <|
   C.same (St.env s5)[59]? (.tup []) <|
   C.same (St.env s5)[60]? (.tup []) <|
   C.same (St.env s5)[61]? (.tup []) <|
   C.same (St.env s5)[62]? (.tup []) <|
   C.same (St.env s5)[63]? (.tup []) <|
   C.same (St.env s5)[64]? (.tup []) <|
   C.same (St.env s5)[65]? (.tup []) <|
   C.same (St.env s5)[66]? (.tup []) <|
   C.same (St.env s5)[67]? (.tup []) <|
   C.same (St.env s5)[68]? (.tup []) <|
   C.same (St.env s5)[69]? (.tup []) <|
   C.same (St.env s5)[70]? (.tup []) <|
   C.same (St.env s5)[71]? (.tup []) <|
   C.same (St.env s5)[72]? (.tup []) <|
   C.same (St.env s5)[73]? (.tup []) <|
   C.same (St.env s5)[74]? (.tup []) <|
   C.same (St.env s5)[75]? (.tup []) <|
   C.same (St.env s5)[76]? (.tup []) <|
   C.same (St.env s5)[77]? (.tup []) <|
   C.same (St.env s5)[78]? (.tup []) <|
   C.same (St.env s5)[79]? (.tup []) <|
   C.same (St.env s5)[80]? (.tup []) <|
   C.same (St.env s5)[81]? (.tup []) <|
   C.same (St.env s5)[82]? (.tup []) <|
   C.same (St.env s5)[83]? (.tup []) <|
   C.same (St.env s5)[84]? (.tup []) <|
   C.same (St.env s5)[85]? (.tup []) <|
   C.same (St.env s5)[86]? (.tup []) <|
   C.same (St.env s5)[87]? (.tup []) <|
   C.same (St.env s5)[88]? (.tup []) <|
   C.same (St.env s5)[89]? (.tup []) <|
   C.same (St.env s5)[90]? (.tup []) <|
   C.same (St.env s5)[91]? (.tup []) <|
   C.same (St.env s5)[92]? (.tup []) <|
   C.same (St.env s5)[93]? (.tup []) <|
   C.same (St.env s5)[94]? (.tup []) <|
   C.same (St.env s5)[95]? (.tup []) <|
   C.same (St.env s5)[96]? (.tup []) <|
   C.same (St.env s5)[97]? (.tup []) <|
   C.same (St.env s5)[98]? (.tup []) <|
   C.same (St.env s5)[99]? (.tup []) <|
   C.same (St.env s5)[100]? (.tup []) <|
   C.same (St.env s5)[101]? (.tup []) <|
   C.same (St.env s5)[102]? (.tup []) <|
   C.same (St.env s5)[103]? (.tup []) <|
   C.same (St.env s5)[104]? (.tup []) <|
   C.same (St.env s5)[105]? (.tup []) <|
   C.same (St.env s5)[106]? (.tup []) <|
   C.same (St.env s5)[107]? (.tup []) <|
   C.same (St.env s5)[108]? (.tup []) <|
   C.same (St.env s5)[109]? (.tup []) <|
   C.sameH (St.H s5) [some ⟨E25, [(.agg [(.int .i64 a0), (.int .i64 a1), (.int .i64 a2), (.int .i64 a3)])]⟩, some ⟨E25, [(.agg [(.int .i64 a4), (.int .i64 a5), (.int .i64 a6), (.int .i64 a7)])]⟩, some ⟨E25, [(.agg [(.int .i64 a8), (.int .i64 a9), (.int .i64 a10), (.int .i64 a11)])]⟩, some ⟨E23, [(.agg [(.int .i64 a12), (.int .i64 a13)])]⟩, some ⟨E25, [(.agg [(.int .i64 x1), (.int .i64 x2), (.int .i64 x3), (.int .i64 x4)])]⟩] <|
   C.bool (pcall M d 11 []) fun b48 =>
   cnd (!b48)
   (k6 (.exit 2000000) ⟨[(.agg [(.int .i64 a0), (.int .i64 a1), (.int .i64 a2), (.int .i64 a3)]), (.agg [(.int .i64 a4), (.int .i64 a5), (.int .i64 a6), (.int .i64 a7)]), (.agg [(.int .i64 a8), (.int .i64 a9), (.int .i64 a10), (.int .i64 a11)]), (.agg [(.int .i64 a12), (.int .i64 a13)]), (.int .i64 a14), (.int .i64 a15), (.ptr 0 0 0), (.ptr 1 0 0), (.ptr 2 0 0), (.ptr 3 0 0), (.tup []), (.tup []), (.bool false), (.ptr 4 0 0), (.agg [(.int .i64 a0), (.int .i64 a1), (.int .i64 a2), (.int .i64 a3)]), (.agg [(.int .i64 a4), (.int .i64 a5), (.int .i64 a6), (.int .i64 a7)]), (.agg [(.int .i64 x1), (.int .i64 x2), (.int .i64 x3), (.int .i64 x4)]), (.bool b48), (.bool (!b48)), (.bool true), (.tup []), (.tup []), (.tup []), (.tup []), (.tup []), (.tup []), (.tup []), (.tup []), (.tup []), (.tup []), (.tup []), (.tup []), (.tup []), (.tup []), (.bool true), (.bool true), (.tup []), (.tup []), (.tup []), (.tup []), (.tup []), (.tup []), (.tup []), (.tup []), (.tup []), (.tup []), (.tup []), (.tup []), (.tup []), (.bool true), (.bool true), (.tup []), (.tup []), (.tup []), (.tup []), (.tup []), (.bool true), (.tup []), (.tup []), (.tup []), (.tup []), (.tup []), (.tup []), (.tup []), (.tup []), (.tup []), (.tup []), (.tup []), (.tup []), (.tup []), (.tup []), (.tup []), (.tup []), (.tup []), (.tup []), (.tup []), (.tup []), (.tup []), (.tup []), (.tup []), (.tup []), (.tup []), (.tup []), (.tup []), (.tup []), (.tup []), (.tup []), (.tup []), (.tup []), (.tup []), (.tup []), (.tup []), (.tup []), (.tup []), (.tup []), (.tup []), (.tup []), (.tup []), (.tup []), (.tup []), (.tup []), (.tup []), (.tup []), (.tup []), (.tup []), (.tup []), (.tup []), (.tup []), (.tup []), (.tup [])], [some ⟨E25, [(.agg [(.int .i64 a0), (.int .i64 a1), (.int .i64 a2), (.int .i64 a3)])]⟩, some ⟨E25, [(.agg [(.int .i64 a4), (.int .i64 a5), (.int .i64 a6), (.int .i64 a7)])]⟩, some ⟨E25, [(.agg [(.int .i64 a8), (.int .i64 a9), (.int .i64 a10), (.int .i64 a11)])]⟩, some ⟨E23, [(.agg [(.int .i64 a12), (.int .i64 a13)])]⟩, some ⟨E25, [(.agg [(.int .i64 x1), (.int .i64 x2), (.int .i64 x3), (.int .i64 x4)])]⟩]⟩)
   (C.bool (pcall M d 17 [(.agg [(.int .i64 a0), (.int .i64 a1), (.int .i64 a2), (.int .i64 a3)]), (.agg [(.int .i64 a4), (.int .i64 a5), (.int .i64 a6), (.int .i64 a7)])]) fun b49 =>
   cnd b49
   (C.bool (pcall M d 17 [(.agg [(.int .i64 a4), (.int .i64 a5), (.int .i64 a6), (.int .i64 a7)]), (.agg [(.int .i64 a8), (.int .i64 a9), (.int .i64 a10), (.int .i64 a11)])]) fun b50 =>
   cnd b50
   (C.bool (pcall M d 17 [(.agg [(.int .i64 a0), (.int .i64 a1), (.int .i64 a2), (.int .i64 a3)]), (.agg [(.int .i64 a8), (.int .i64 a9), (.int .i64 a10), (.int .i64 a11)])]) fun b51 =>
   cnd (!b51)
   (k6 (.exit 2000000) ⟨[(.agg [(.int .i64 a0), (.int .i64 a1), (.int .i64 a2), (.int .i64 a3)]), (.agg [(.int .i64 a4), (.int .i64 a5), (.int .i64 a6), (.int .i64 a7)]), (.agg [(.int .i64 a8), (.int .i64 a9), (.int .i64 a10), (.int .i64 a11)]), (.agg [(.int .i64 a12), (.int .i64 a13)]), (.int .i64 a14), (.int .i64 a15), (.ptr 0 0 0), (.ptr 1 0 0), (.ptr 2 0 0), (.ptr 3 0 0), (.tup []), (.tup []), (.bool false), (.ptr 4 0 0), (.agg [(.int .i64 a0), (.int .i64 a1), (.int .i64 a2), (.int .i64 a3)]), (.agg [(.int .i64 a4), (.int .i64 a5), (.int .i64 a6), (.int .i64 a7)]), (.agg [(.int .i64 x1), (.int .i64 x2), (.int .i64 x3), (.int .i64 x4)]), (.bool b48), (.bool (!b48)), (.bool false), (.agg [(.int .i64 a0), (.int .i64 a1), (.int .i64 a2), (.int .i64 a3)]), (.agg [(.int .i64 a4), (.int .i64 a5), (.int .i64 a6), (.int .i64 a7)]), (.bool b49), (.bool true), (.agg [(.int .i64 a4), (.int .i64 a5), (.int .i64 a6), (.int .i64 a7)]), (.agg [(.int .i64 a8), (.int .i64 a9), (.int .i64 a10), (.int .i64 a11)]), (.bool b50), (.bool b50), (.bool true), (.agg [(.int .i64 a0), (.int .i64 a1), (.int .i64 a2), (.int .i64 a3)]), (.agg [(.int .i64 a8), (.int .i64 a9), (.int .i64 a10), (.int .i64 a11)]), (.bool b51), (.bool (!b51)), (.bool (!b51)), (.bool (!b51)), (.bool true), (.tup []), (.tup []), (.tup []), (.tup []), (.tup []), (.tup []), (.tup []), (.tup []), (.tup []), (.tup []), (.tup []), (.tup []), (.tup []), (.bool true), (.bool true), (.tup []), (.tup []), (.tup []), (.tup []), (.tup []), (.bool true), (.tup []), (.tup []), (.tup []), (.tup []), (.tup []), (.tup []), (.tup []), (.tup []), (.tup []), (.tup []), (.tup []), (.tup []), (.tup []), (.tup []), (.tup []), (.tup []), (.tup []), (.tup []), (.tup []), (.tup []), (.tup []), (.tup []), (.tup []), (.tup []), (.tup []), (.tup []), (.tup []), (.tup []), (.tup []), (.tup []), (.tup []), (.tup []), (.tup []), (.tup []), (.tup []), (.tup []), (.tup []), (.tup []), (.tup []), (.tup []), (.tup []), (.tup []), (.tup []), (.tup []), (.tup []), (.tup []), (.tup []), (.tup []), (.tup []), (.tup []), (.tup []), (.tup []), (.tup [])], [some ⟨E25, [(.agg [(.int .i64 a0), (.int .i64 a1), (.int .i64 a2), (.int .i64 a3)])]⟩, some ⟨E25, [(.agg [(.int .i64 a4), (.int .i64 a5), (.int .i64 a6), (.int .i64 a7)])]⟩, some ⟨E25, [(.agg [(.int .i64 a8), (.int .i64 a9), (.int .i64 a10), (.int .i64 a11)])]⟩, some ⟨E23, [(.agg [(.int .i64 a12), (.int .i64 a13)])]⟩, some ⟨E25, [(.agg [(.int .i64 x1), (.int .i64 x2), (.int .i64 x3), (.int .i64 x4)])]⟩]⟩)
   (C.bool (pcall M d 17 [(.agg [(.int .i64 a0), (.int .i64 a1), (.int .i64 a2), (.int .i64 a3)]), (.agg [(.int .i64 a4), (.int .i64 a5), (.int .i64 a6), (.int .i64 a7)])]) fun b52 =>
   cnd b52
   (C.bool (pcall M d 17 [(.agg [(.int .i64 a4), (.int .i64 a5), (.int .i64 a6), (.int .i64 a7)]), (.agg [(.int .i64 a0), (.int .i64 a1), (.int .i64 a2), (.int .i64 a3)])]) fun b53 =>
   cnd b53
   (cnd (xor true ((a0 == a4) && ((a1 == a5) && ((a2 == a6) && ((a3 == a7) && true)))))
   (k6 (.exit 2000000) ⟨[(.agg [(.int .i64 a0), (.int .i64 a1), (.int .i64 a2), (.int .i64 a3)]), (.agg [(.int .i64 a4), (.int .i64 a5), (.int .i64 a6), (.int .i64 a7)]), (.agg [(.int .i64 a8), (.int .i64 a9), (.int .i64 a10), (.int .i64 a11)]), (.agg [(.int .i64 a12), (.int .i64 a13)]), (.int .i64 a14), (.int .i64 a15), (.ptr 0 0 0), (.ptr 1 0 0), (.ptr 2 0 0), (.ptr 3 0 0), (.tup []), (.tup []), (.bool false), (.ptr 4 0 0), (.agg [(.int .i64 a0), (.int .i64 a1), (.int .i64 a2), (.int .i64 a3)]), (.agg [(.int .i64 a4), (.int .i64 a5), (.int .i64 a6), (.int .i64 a7)]), (.agg [(.int .i64 x1), (.int .i64 x2), (.int .i64 x3), (.int .i64 x4)]), (.bool b48), (.bool (!b48)), (.bool false), (.agg [(.int .i64 a0), (.int .i64 a1), (.int .i64 a2), (.int .i64 a3)]), (.agg [(.int .i64 a4), (.int .i64 a5), (.int .i64 a6), (.int .i64 a7)]), (.bool b49), (.bool true), (.agg [(.int .i64 a4), (.int .i64 a5), (.int .i64 a6), (.int .i64 a7)]), (.agg [(.int .i64 a8), (.int .i64 a9), (.int .i64 a10), (.int .i64 a11)]), (.bool b50), (.bool b50), (.bool true), (.agg [(.int .i64 a0), (.int .i64 a1), (.int .i64 a2), (.int .i64 a3)]), (.agg [(.int .i64 a8), (.int .i64 a9), (.int .i64 a10), (.int .i64 a11)]), (.bool b51), (.bool (!b51)), (.bool (!b51)), (.bool (!b51)), (.bool false), (.agg [(.int .i64 a0), (.int .i64 a1), (.int .i64 a2), (.int .i64 a3)]), (.agg [(.int .i64 a4), (.int .i64 a5), (.int .i64 a6), (.int .i64 a7)]), (.bool b52), (.bool true), (.agg [(.int .i64 a4), (.int .i64 a5), (.int .i64 a6), (.int .i64 a7)]), (.agg [(.int .i64 a0), (.int .i64 a1), (.int .i64 a2), (.int .i64 a3)]), (.bool b53), (.bool b53), (.bool true), (.agg [(.int .i64 a0), (.int .i64 a1), (.int .i64 a2), (.int .i64 a3)]), (.agg [(.int .i64 a4), (.int .i64 a5), (.int .i64 a6), (.int .i64 a7)]), (.bool (xor true ((a0 == a4) && ((a1 == a5) && ((a2 == a6) && ((a3 == a7) && true)))))), (.bool (xor true ((a0 == a4) && ((a1 == a5) && ((a2 == a6) && ((a3 == a7) && true)))))), (.bool (xor true ((a0 == a4) && ((a1 == a5) && ((a2 == a6) && ((a3 == a7) && true)))))), (.bool true), (.tup []), (.tup []), (.tup []), (.tup []), (.tup []), (.bool true), (.tup []), (.tup []), (.tup []), (.tup []), (.tup []), (.tup []), (.tup []), (.tup []), (.tup []), (.tup []), (.tup []), (.tup []), (.tup []), (.tup []), (.tup []), (.tup []), (.tup []), (.tup []), (.tup []), (.tup []), (.tup []), (.tup []), (.tup []), (.tup []), (.tup []), (.tup []), (.tup []), (.tup []), (.tup []), (.tup []), (.tup []), (.tup []), (.tup []), (.tup []), (.tup []), (.tup []), (.tup []), (.tup []), (.tup []), (.tup []), (.tup []), (.tup []), (.tup []), (.tup []), (.tup []), (.tup []), (.tup []), (.tup []), (.tup []), (.tup []), (.tup []), (.tup []), (.tup [])], [some ⟨E25, [(.agg [(.int .i64 a0), (.int .i64 a1), (.int .i64 a2), (.int .i64 a3)])]⟩, some ⟨E25, [(.agg [(.int .i64 a4), (.int .i64 a5), (.int .i64 a6), (.int .i64 a7)])]⟩, some ⟨E25, [(.agg [(.int .i64 a8), (.int .i64 a9), (.int .i64 a10), (.int .i64 a11)])]⟩, some ⟨E23, [(.agg [(.int .i64 a12), (.int .i64 a13)])]⟩, some ⟨E25, [(.agg [(.int .i64 x1), (.int .i64 x2), (.int .i64 x3), (.int .i64 x4)])]⟩]⟩)
   (C.agg 4 (pcall M d 19 [(.agg [(.int .i64 a4), (.int .i64 a5), (.int .i64 a6), (.int .i64 a7)]), (.agg [(.int .i64 a0), (.int .i64 a1), (.int .i64 a2), (.int .i64 a3)])]) fun l54 =>
   C.int .i64 l54[0]? fun x55 =>
   C.int .i64 l54[1]? fun x56 =>
   C.int .i64 l54[2]? fun x57 =>
   C.int .i64 l54[3]? fun x58 =>
   k6 (.exit 2000000) ⟨[(.agg [(.int .i64 a0), (.int .i64 a1), (.int .i64 a2), (.int .i64 a3)]), (.agg [(.int .i64 a4), (.int .i64 a5), (.int .i64 a6), (.int .i64 a7)]), (.agg [(.int .i64 a8), (.int .i64 a9), (.int .i64 a10), (.int .i64 a11)]), (.agg [(.int .i64 a12), (.int .i64 a13)]), (.int .i64 a14), (.int .i64 a15), (.ptr 0 0 0), (.ptr 1 0 0), (.ptr 2 0 0), (.ptr 3 0 0), (.tup []), (.tup []), (.bool false), (.ptr 4 0 0), (.agg [(.int .i64 a0), (.int .i64 a1), (.int .i64 a2), (.int .i64 a3)]), (.agg [(.int .i64 a4), (.int .i64 a5), (.int .i64 a6), (.int .i64 a7)]), (.agg [(.int .i64 x1), (.int .i64 x2), (.int .i64 x3), (.int .i64 x4)]), (.bool b48), (.bool (!b48)), (.bool false), (.agg [(.int .i64 a0), (.int .i64 a1), (.int .i64 a2), (.int .i64 a3)]), (.agg [(.int .i64 a4), (.int .i64 a5), (.int .i64 a6), (.int .i64 a7)]), (.bool b49), (.bool true), (.agg [(.int .i64 a4), (.int .i64 a5), (.int .i64 a6), (.int .i64 a7)]), (.agg [(.int .i64 a8), (.int .i64 a9), (.int .i64 a10), (.int .i64 a11)]), (.bool b50), (.bool b50), (.bool true), (.agg [(.int .i64 a0), (.int .i64 a1), (.int .i64 a2), (.int .i64 a3)]), (.agg [(.int .i64 a8), (.int .i64 a9), (.int .i64 a10), (.int .i64 a11)]), (.bool b51), (.bool (!b51)), (.bool (!b51)), (.bool (!b51)), (.bool false), (.agg [(.int .i64 a0), (.int .i64 a1), (.int .i64 a2), (.int .i64 a3)]), (.agg [(.int .i64 a4), (.int .i64 a5), (.int .i64 a6), (.int .i64 a7)]), (.bool b52), (.bool true), (.agg [(.int .i64 a4), (.int .i64 a5), (.int .i64 a6), (.int .i64 a7)]), (.agg [(.int .i64 a0), (.int .i64 a1), (.int .i64 a2), (.int .i64 a3)]), (.bool b53), (.bool b53), (.bool true), (.agg [(.int .i64 a0), (.int .i64 a1), (.int .i64 a2), (.int .i64 a3)]), (.agg [(.int .i64 a4), (.int .i64 a5), (.int .i64 a6), (.int .i64 a7)]), (.bool (xor true ((a0 == a4) && ((a1 == a5) && ((a2 == a6) && ((a3 == a7) && true)))))), (.bool (xor true ((a0 == a4) && ((a1 == a5) && ((a2 == a6) && ((a3 == a7) && true)))))), (.bool (xor true ((a0 == a4) && ((a1 == a5) && ((a2 == a6) && ((a3 == a7) && true)))))), (.bool false), (.agg [(.int .i64 x1), (.int .i64 x2), (.int .i64 x3), (.int .i64 x4)]), (.agg [(.int .i64 a4), (.int .i64 a5), (.int .i64 a6), (.int .i64 a7)]), (.agg [(.int .i64 a0), (.int .i64 a1), (.int .i64 a2), (.int .i64 a3)]), (.agg [(.int .i64 x55), (.int .i64 x56), (.int .i64 x57), (.int .i64 x58)]), (.bool (xor true ((x1 == x55) && ((x2 == x56) && ((x3 == x57) && ((x4 == x58) && true)))))), (.bool (xor true ((x1 == x55) && ((x2 == x56) && ((x3 == x57) && ((x4 == x58) && true)))))), (.tup []), (.tup []), (.tup []), (.tup []), (.tup []), (.tup []), (.tup []), (.tup []), (.tup []), (.tup []), (.tup []), (.tup []), (.tup []), (.tup []), (.tup []), (.tup []), (.tup []), (.tup []), (.tup []), (.tup []), (.tup []), (.tup []), (.tup []), (.tup []), (.tup []), (.tup []), (.tup []), (.tup []), (.tup []), (.tup []), (.tup []), (.tup []), (.tup []), (.tup []), (.tup []), (.tup []), (.tup []), (.tup []), (.tup []), (.tup []), (.tup []), (.tup []), (.tup []), (.tup []), (.tup []), (.tup []), (.tup []), (.tup []), (.tup []), (.tup []), (.tup []), (.tup []), (.tup [])], [some ⟨E25, [(.agg [(.int .i64 a0), (.int .i64 a1), (.int .i64 a2), (.int .i64 a3)])]⟩, some ⟨E25, [(.agg [(.int .i64 a4), (.int .i64 a5), (.int .i64 a6), (.int .i64 a7)])]⟩, some ⟨E25, [(.agg [(.int .i64 a8), (.int .i64 a9), (.int .i64 a10), (.int .i64 a11)])]⟩, some ⟨E23, [(.agg [(.int .i64 a12), (.int .i64 a13)])]⟩, some ⟨E25, [(.agg [(.int .i64 x1), (.int .i64 x2), (.int .i64 x3), (.int .i64 x4)])]⟩]⟩))
   (C.agg 4 (pcall M d 19 [(.agg [(.int .i64 a4), (.int .i64 a5), (.int .i64 a6), (.int .i64 a7)]), (.agg [(.int .i64 a0), (.int .i64 a1), (.int .i64 a2), (.int .i64 a3)])]) fun l59 =>
   C.int .i64 l59[0]? fun x60 =>
   C.int .i64 l59[1]? fun x61 =>
   C.int .i64 l59[2]? fun x62 =>
   C.int .i64 l59[3]? fun x63 =>
   k6 (.exit 2000000) ⟨[(.agg [(.int .i64 a0), (.int .i64 a1), (.int .i64 a2), (.int .i64 a3)]), (.agg [(.int .i64 a4), (.int .i64 a5), (.int .i64 a6), (.int .i64 a7)]), (.agg [(.int .i64 a8), (.int .i64 a9), (.int .i64 a10), (.int .i64 a11)]), (.agg [(.int .i64 a12), (.int .i64 a13)]), (.int .i64 a14), (.int .i64 a15), (.ptr 0 0 0), (.ptr 1 0 0), (.ptr 2 0 0), (.ptr 3 0 0), (.tup []), (.tup []), (.bool false), (.ptr 4 0 0), (.agg [(.int .i64 a0), (.int .i64 a1), (.int .i64 a2), (.int .i64 a3)]), (.agg [(.int .i64 a4), (.int .i64 a5), (.int .i64 a6), (.int .i64 a7)]), (.agg [(.int .i64 x1), (.int .i64 x2), (.int .i64 x3), (.int .i64 x4)]), (.bool b48), (.bool (!b48)), (.bool false), (.agg [(.int .i64 a0), (.int .i64 a1), (.int .i64 a2), (.int .i64 a3)]), (.agg [(.int .i64 a4), (.int .i64 a5), (.int .i64 a6), (.int .i64 a7)]), (.bool b49), (.bool true), (.agg [(.int .i64 a4), (.int .i64 a5), (.int .i64 a6), (.int .i64 a7)]), (.agg [(.int .i64 a8), (.int .i64 a9), (.int .i64 a10), (.int .i64 a11)]), (.bool b50), (.bool b50), (.bool true), (.agg [(.int .i64 a0), (.int .i64 a1), (.int .i64 a2), (.int .i64 a3)]), (.agg [(.int .i64 a8), (.int .i64 a9), (.int .i64 a10), (.int .i64 a11)]), (.bool b51), (.bool (!b51)), (.bool (!b51)), (.bool (!b51)), (.bool false), (.agg [(.int .i64 a0), (.int .i64 a1), (.int .i64 a2), (.int .i64 a3)]), (.agg [(.int .i64 a4), (.int .i64 a5), (.int .i64 a6), (.int .i64 a7)]), (.bool b52), (.bool true), (.agg [(.int .i64 a4), (.int .i64 a5), (.int .i64 a6), (.int .i64 a7)]), (.agg [(.int .i64 a0), (.int .i64 a1), (.int .i64 a2), (.int .i64 a3)]), (.bool b53), (.bool b53), (.bool false), (.tup []), (.tup []), (.tup []), (.bool false), (.bool false), (.bool false), (.agg [(.int .i64 x1), (.int .i64 x2), (.int .i64 x3), (.int .i64 x4)]), (.agg [(.int .i64 a4), (.int .i64 a5), (.int .i64 a6), (.int .i64 a7)]), (.agg [(.int .i64 a0), (.int .i64 a1), (.int .i64 a2), (.int .i64 a3)]), (.agg [(.int .i64 x60), (.int .i64 x61), (.int .i64 x62), (.int .i64 x63)]), (.bool (xor true ((x1 == x60) && ((x2 == x61) && ((x3 == x62) && ((x4 == x63) && true)))))), (.bool (xor true ((x1 == x60) && ((x2 == x61) && ((x3 == x62) && ((x4 == x63) && true)))))), (.tup []), (.tup []), (.tup []), (.tup []), (.tup []), (.tup []), (.tup []), (.tup []), (.tup []), (.tup []), (.tup []), (.tup []), (.tup []), (.tup []), (.tup []), (.tup []), (.tup []), (.tup []), (.tup []), (.tup []), (.tup []), (.tup []), (.tup []), (.tup []), (.tup []), (.tup []), (.tup []), (.tup []), (.tup []), (.tup []), (.tup []), (.tup []), (.tup []), (.tup []), (.tup []), (.tup []), (.tup []), (.tup []), (.tup []), (.tup []), (.tup []), (.tup []), (.tup []), (.tup []), (.tup []), (.tup []), (.tup []), (.tup []), (.tup []), (.tup []), (.tup []), (.tup []), (.tup [])], [some ⟨E25, [(.agg [(.int .i64 a0), (.int .i64 a1), (.int .i64 a2), (.int .i64 a3)])]⟩, some ⟨E25, [(.agg [(.int .i64 a4), (.int .i64 a5), (.int .i64 a6), (.int .i64 a7)])]⟩, some ⟨E25, [(.agg [(.int .i64 a8), (.int .i64 a9), (.int .i64 a10), (.int .i64 a11)])]⟩, some ⟨E23, [(.agg [(.int .i64 a12), (.int .i64 a13)])]⟩, some ⟨E25, [(.agg [(.int .i64 x1), (.int .i64 x2), (.int .i64 x3), (.int .i64 x4)])]⟩]⟩))
   (C.agg 4 (pcall M d 19 [(.agg [(.int .i64 a4), (.int .i64 a5), (.int .i64 a6), (.int .i64 a7)]), (.agg [(.int .i64 a0), (.int .i64 a1), (.int .i64 a2), (.int .i64 a3)])]) fun l64 =>
   C.int .i64 l64[0]? fun x65 =>
   C.int .i64 l64[1]? fun x66 =>
   C.int .i64 l64[2]? fun x67 =>
   C.int .i64 l64[3]? fun x68 =>
   k6 (.exit 2000000) ⟨[(.agg [(.int .i64 a0), (.int .i64 a1), (.int .i64 a2), (.int .i64 a3)]), (.agg [(.int .i64 a4), (.int .i64 a5), (.int .i64 a6), (.int .i64 a7)]), (.agg [(.int .i64 a8), (.int .i64 a9), (.int .i64 a10), (.int .i64 a11)]), (.agg [(.int .i64 a12), (.int .i64 a13)]), (.int .i64 a14), (.int .i64 a15), (.ptr 0 0 0), (.ptr 1 0 0), (.ptr 2 0 0), (.ptr 3 0 0), (.tup []), (.tup []), (.bool false), (.ptr 4 0 0), (.agg [(.int .i64 a0), (.int .i64 a1), (.int .i64 a2), (.int .i64 a3)]), (.agg [(.int .i64 a4), (.int .i64 a5), (.int .i64 a6), (.int .i64 a7)]), (.agg [(.int .i64 x1), (.int .i64 x2), (.int .i64 x3), (.int .i64 x4)]), (.bool b48), (.bool (!b48)), (.bool false), (.agg [(.int .i64 a0), (.int .i64 a1), (.int .i64 a2), (.int .i64 a3)]), (.agg [(.int .i64 a4), (.int .i64 a5), (.int .i64 a6), (.int .i64 a7)]), (.bool b49), (.bool true), (.agg [(.int .i64 a4), (.int .i64 a5), (.int .i64 a6), (.int .i64 a7)]), (.agg [(.int .i64 a8), (.int .i64 a9), (.int .i64 a10), (.int .i64 a11)]), (.bool b50), (.bool b50), (.bool true), (.agg [(.int .i64 a0), (.int .i64 a1), (.int .i64 a2), (.int .i64 a3)]), (.agg [(.int .i64 a8), (.int .i64 a9), (.int .i64 a10), (.int .i64 a11)]), (.bool b51), (.bool (!b51)), (.bool (!b51)), (.bool (!b51)), (.bool false), (.agg [(.int .i64 a0), (.int .i64 a1), (.int .i64 a2), (.int .i64 a3)]), (.agg [(.int .i64 a4), (.int .i64 a5), (.int .i64 a6), (.int .i64 a7)]), (.bool b52), (.bool false), (.tup []), (.tup []), (.tup []), (.bool false), (.bool false), (.tup []), (.tup []), (.tup []), (.bool false), (.bool false), (.bool false), (.agg [(.int .i64 x1), (.int .i64 x2), (.int .i64 x3), (.int .i64 x4)]), (.agg [(.int .i64 a4), (.int .i64 a5), (.int .i64 a6), (.int .i64 a7)]), (.agg [(.int .i64 a0), (.int .i64 a1), (.int .i64 a2), (.int .i64 a3)]), (.agg [(.int .i64 x65), (.int .i64 x66), (.int .i64 x67), (.int .i64 x68)]), (.bool (xor true ((x1 == x65) && ((x2 == x66) && ((x3 == x67) && ((x4 == x68) && true)))))), (.bool (xor true ((x1 == x65) && ((x2 == x66) && ((x3 == x67) && ((x4 == x68) && true)))))), (.tup []), (.tup []), (.tup []), (.tup []), (.tup []), (.tup []), (.tup []), (.tup []), (.tup []), (.tup []), (.tup []), (.tup []), (.tup []), (.tup []), (.tup []), (.tup []), (.tup []), (.tup []), (.tup []), (.tup []), (.tup []), (.tup []), (.tup []), (.tup []), (.tup []), (.tup []), (.tup []), (.tup []), (.tup []), (.tup []), (.tup []), (.tup []), (.tup []), (.tup []), (.tup []), (.tup []), (.tup []), (.tup []), (.tup []), (.tup []), (.tup []), (.tup []), (.tup []), (.tup []), (.tup []), (.tup []), (.tup []), (.tup []), (.tup []), (.tup []), (.tup []), (.tup []), (.tup [])], [some ⟨E25, [(.agg [(.int .i64 a0), (.int .i64 a1), (.int .i64 a2), (.int .i64 a3)])]⟩, some ⟨E25, [(.agg [(.int .i64 a4), (.int .i64 a5), (.int .i64 a6), (.int .i64 a7)])]⟩, some ⟨E25, [(.agg [(.int .i64 a8), (.int .i64 a9), (.int .i64 a10), (.int .i64 a11)])]⟩, some ⟨E23, [(.agg [(.int .i64 a12), (.int .i64 a13)])]⟩, some ⟨E25, [(.agg [(.int .i64 x1), (.int .i64 x2), (.int .i64 x3), (.int .i64 x4)])]⟩]⟩)))
   (C.bool (pcall M d 17 [(.agg [(.int .i64 a0), (.int .i64 a1), (.int .i64 a2), (.int .i64 a3)]), (.agg [(.int .i64 a4), (.int .i64 a5), (.int .i64 a6), (.int .i64 a7)])]) fun b69 =>
   cnd b69
   (C.bool (pcall M d 17 [(.agg [(.int .i64 a4), (.int .i64 a5), (.int .i64 a6), (.int .i64 a7)]), (.agg [(.int .i64 a0), (.int .i64 a1), (.int .i64 a2), (.int .i64 a3)])]) fun b70 =>
   cnd b70
   (cnd (xor true ((a0 == a4) && ((a1 == a5) && ((a2 == a6) && ((a3 == a7) && true)))))
   (k6 (.exit 2000000) ⟨[(.agg [(.int .i64 a0), (.int .i64 a1), (.int .i64 a2), (.int .i64 a3)]), (.agg [(.int .i64 a4), (.int .i64 a5), (.int .i64 a6), (.int .i64 a7)]), (.agg [(.int .i64 a8), (.int .i64 a9), (.int .i64 a10), (.int .i64 a11)]), (.agg [(.int .i64 a12), (.int .i64 a13)]), (.int .i64 a14), (.int .i64 a15), (.ptr 0 0 0), (.ptr 1 0 0), (.ptr 2 0 0), (.ptr 3 0 0), (.tup []), (.tup []), (.bool false), (.ptr 4 0 0), (.agg [(.int .i64 a0), (.int .i64 a1), (.int .i64 a2), (.int .i64 a3)]), (.agg [(.int .i64 a4), (.int .i64 a5), (.int .i64 a6), (.int .i64 a7)]), (.agg [(.int .i64 x1), (.int .i64 x2), (.int .i64 x3), (.int .i64 x4)]), (.bool b48), (.bool (!b48)), (.bool false), (.agg [(.int .i64 a0), (.int .i64 a1), (.int .i64 a2), (.int .i64 a3)]), (.agg [(.int .i64 a4), (.int .i64 a5), (.int .i64 a6), (.int .i64 a7)]), (.bool b49), (.bool true), (.agg [(.int .i64 a4), (.int .i64 a5), (.int .i64 a6), (.int .i64 a7)]), (.agg [(.int .i64 a8), (.int .i64 a9), (.int .i64 a10), (.int .i64 a11)]), (.bool b50), (.bool b50), (.bool false), (.tup []), (.tup []), (.tup []), (.tup []), (.bool false), (.bool false), (.bool false), (.agg [(.int .i64 a0), (.int .i64 a1), (.int .i64 a2), (.int .i64 a3)]), (.agg [(.int .i64 a4), (.int .i64 a5), (.int .i64 a6), (.int .i64 a7)]), (.bool b69), (.bool true), (.agg [(.int .i64 a4), (.int .i64 a5), (.int .i64 a6), (.int .i64 a7)]), (.agg [(.int .i64 a0), (.int .i64 a1), (.int .i64 a2), (.int .i64 a3)]), (.bool b70), (.bool b70), (.bool true), (.agg [(.int .i64 a0), (.int .i64 a1), (.int .i64 a2), (.int .i64 a3)]), (.agg [(.int .i64 a4), (.int .i64 a5), (.int .i64 a6), (.int .i64 a7)]), (.bool (xor true ((a0 == a4) && ((a1 == a5) && ((a2 == a6) && ((a3 == a7) && true)))))), (.bool (xor true ((a0 == a4) && ((a1 == a5) && ((a2 == a6) && ((a3 == a7) && true)))))), (.bool (xor true ((a0 == a4) && ((a1 == a5) && ((a2 == a6) && ((a3 == a7) && true)))))), (.bool true), (.tup []), (.tup []), (.tup []), (.tup []), (.tup []), (.bool true), (.tup []), (.tup []), (.tup []), (.tup []), (.tup []), (.tup []), (.tup []), (.tup []), (.tup []), (.tup []), (.tup []), (.tup []), (.tup []), (.tup []), (.tup []), (.tup []), (.tup []), (.tup []), (.tup []), (.tup []), (.tup []), (.tup []), (.tup []), (.tup []), (.tup []), (.tup []), (.tup []), (.tup []), (.tup []), (.tup []), (.tup []), (.tup []), (.tup []), (.tup []), (.tup []), (.tup []), (.tup []), (.tup []), (.tup []), (.tup []), (.tup []), (.tup []), (.tup []), (.tup []), (.tup []), (.tup []), (.tup []), (.tup []), (.tup []), (.tup []), (.tup []), (.tup []), (.tup [])], [some ⟨E25, [(.agg [(.int .i64 a0), (.int .i64 a1), (.int .i64 a2), (.int .i64 a3)])]⟩, some ⟨E25, [(.agg [(.int .i64 a4), (.int .i64 a5), (.int .i64 a6), (.int .i64 a7)])]⟩, some ⟨E25, [(.agg [(.int .i64 a8), (.int .i64 a9), (.int .i64 a10), (.int .i64 a11)])]⟩, some ⟨E23, [(.agg [(.int .i64 a12), (.int .i64 a13)])]⟩, some ⟨E25, [(.agg [(.int .i64 x1), (.int .i64 x2), (.int .i64 x3), (.int .i64 x4)])]⟩]⟩)
   (C.agg 4 (pcall M d 19 [(.agg [(.int .i64 a4), (.int .i64 a5), (.int .i64 a6), (.int .i64 a7)]), (.agg [(.int .i64 a0), (.int .i64 a1), (.int .i64 a2), (.int .i64 a3)])]) fun l71 =>
   C.int .i64 l71[0]? fun x72 =>
   C.int .i64 l71[1]? fun x73 =>
   C.int .i64 l71[2]? fun x74 =>
   C.int .i64 l71[3]? fun x75 =>
   k6 (.exit 2000000) ⟨[(.agg [(.int .i64 a0), (.int .i64 a1), (.int .i64 a2), (.int .i64 a3)]), (.agg [(.int .i64 a4), (.int .i64 a5), (.int .i64 a6), (.int .i64 a7)]), (.agg [(.int .i64 a8), (.int .i64 a9), (.int .i64 a10), (.int .i64 a11)]), (.agg [(.int .i64 a12), (.int .i64 a13)]), (.int .i64 a14), (.int .i64 a15), (.ptr 0 0 0), (.ptr 1 0 0), (.ptr 2 0 0), (.ptr 3 0 0), (.tup []), (.tup []), (.bool false), (.ptr 4 0 0), (.agg [(.int .i64 a0), (.int .i64 a1), (.int .i64 a2), (.int .i64 a3)]), (.agg [(.int .i64 a4), (.int .i64 a5), (.int .i64 a6), (.int .i64 a7)]), (.agg [(.int .i64 x1), (.int .i64 x2), (.int .i64 x3), (.int .i64 x4)]), (.bool b48), (.bool (!b48)), (.bool false), (.agg [(.int .i64 a0), (.int .i64 a1), (.int .i64 a2), (.int .i64 a3)]), (.agg [(.int .i64 a4), (.int .i64 a5), (.int .i64 a6), (.int .i64 a7)]), (.bool b49), (.bool true), (.agg [(.int .i64 a4), (.int .i64 a5), (.int .i64 a6), (.int .i64 a7)]), (.agg [(.int .i64 a8), (.int .i64 a9), (.int .i64 a10), (.int .i64 a11)]), (.bool b50), (.bool b50), (.bool false), (.tup []), (.tup []), (.tup []), (.tup []), (.bool false), (.bool false), (.bool false), (.agg [(.int .i64 a0), (.int .i64 a1), (.int .i64 a2), (.int .i64 a3)]), (.agg [(.int .i64 a4), (.int .i64 a5), (.int .i64 a6), (.int .i64 a7)]), (.bool b69), (.bool true), (.agg [(.int .i64 a4), (.int .i64 a5), (.int .i64 a6), (.int .i64 a7)]), (.agg [(.int .i64 a0), (.int .i64 a1), (.int .i64 a2), (.int .i64 a3)]), (.bool b70), (.bool b70), (.bool true), (.agg [(.int .i64 a0), (.int .i64 a1), (.int .i64 a2), (.int .i64 a3)]), (.agg [(.int .i64 a4), (.int .i64 a5), (.int .i64 a6), (.int .i64 a7)]), (.bool (xor true ((a0 == a4) && ((a1 == a5) && ((a2 == a6) && ((a3 == a7) && true)))))), (.bool (xor true ((a0 == a4) && ((a1 == a5) && ((a2 == a6) && ((a3 == a7) && true)))))), (.bool (xor true ((a0 == a4) && ((a1 == a5) && ((a2 == a6) && ((a3 == a7) && true)))))), (.bool false), (.agg [(.int .i64 x1), (.int .i64 x2), (.int .i64 x3), (.int .i64 x4)]), (.agg [(.int .i64 a4), (.int .i64 a5), (.int .i64 a6), (.int .i64 a7)]), (.agg [(.int .i64 a0), (.int .i64 a1), (.int .i64 a2), (.int .i64 a3)]), (.agg [(.int .i64 x72), (.int .i64 x73), (.int .i64 x74), (.int .i64 x75)]), (.bool (xor true ((x1 == x72) && ((x2 == x73) && ((x3 == x74) && ((x4 == x75) && true)))))), (.bool (xor true ((x1 == x72) && ((x2 == x73) && ((x3 == x74) && ((x4 == x75) && true)))))), (.tup []), (.tup []), (.tup []), (.tup []), (.tup []), (.tup []), (.tup []), (.tup []), (.tup []), (.tup []), (.tup []), (.tup []), (.tup []), (.tup []), (.tup []), (.tup []), (.tup []), (.tup []), (.tup []), (.tup []), (.tup []), (.tup []), (.tup []), (.tup []), (.tup []), (.tup []), (.tup []), (.tup []), (.tup []), (.tup []), (.tup []), (.tup []), (.tup []), (.tup []), (.tup []), (.tup []), (.tup []), (.tup []), (.tup []), (.tup []), (.tup []), (.tup []), (.tup []), (.tup []), (.tup []), (.tup []), (.tup []), (.tup []), (.tup []), (.tup []), (.tup []), (.tup []), (.tup [])], [some ⟨E25, [(.agg [(.int .i64 a0), (.int .i64 a1), (.int .i64 a2), (.int .i64 a3)])]⟩, some ⟨E25, [(.agg [(.int .i64 a4), (.int .i64 a5), (.int .i64 a6), (.int .i64 a7)])]⟩, some ⟨E25, [(.agg [(.int .i64 a8), (.int .i64 a9), (.int .i64 a10), (.int .i64 a11)])]⟩, some ⟨E23, [(.agg [(.int .i64 a12), (.int .i64 a13)])]⟩, some ⟨E25, [(.agg [(.int .i64 x1), (.int .i64 x2), (.int .i64 x3), (.int .i64 x4)])]⟩]⟩))
   (C.agg 4 (pcall M d 19 [(.agg [(.int .i64 a4), (.int .i64 a5), (.int .i64 a6), (.int .i64 a7)]), (.agg [(.int .i64 a0), (.int .i64 a1), (.int .i64 a2), (.int .i64 a3)])]) fun l76 =>
   C.int .i64 l76[0]? fun x77 =>
   C.int .i64 l76[1]? fun x78 =>
   C.int .i64 l76[2]? fun x79 =>
   C.int .i64 l76[3]? fun x80 =>
   k6 (.exit 2000000) ⟨[(.agg [(.int .i64 a0), (.int .i64 a1), (.int .i64 a2), (.int .i64 a3)]), (.agg [(.int .i64 a4), (.int .i64 a5), (.int .i64 a6), (.int .i64 a7)]), (.agg [(.int .i64 a8), (.int .i64 a9), (.int .i64 a10), (.int .i64 a11)]), (.agg [(.int .i64 a12), (.int .i64 a13)]), (.int .i64 a14), (.int .i64 a15), (.ptr 0 0 0), (.ptr 1 0 0), (.ptr 2 0 0), (.ptr 3 0 0), (.tup []), (.tup []), (.bool false), (.ptr 4 0 0), (.agg [(.int .i64 a0), (.int .i64 a1), (.int .i64 a2), (.int .i64 a3)]), (.agg [(.int .i64 a4), (.int .i64 a5), (.int .i64 a6), (.int .i64 a7)]), (.agg [(.int .i64 x1), (.int .i64 x2), (.int .i64 x3), (.int .i64 x4)]), (.bool b48), (.bool (!b48)), (.bool false), (.agg [(.int .i64 a0), (.int .i64 a1), (.int .i64 a2), (.int .i64 a3)]), (.agg [(.int .i64 a4), (.int .i64 a5), (.int .i64 a6), (.int .i64 a7)]), (.bool b49), (.bool true), (.agg [(.int .i64 a4), (.int .i64 a5), (.int .i64 a6), (.int .i64 a7)]), (.agg [(.int .i64 a8), (.int .i64 a9), (.int .i64 a10), (.int .i64 a11)]), (.bool b50), (.bool b50), (.bool false), (.tup []), (.tup []), (.tup []), (.tup []), (.bool false), (.bool false), (.bool false), (.agg [(.int .i64 a0), (.int .i64 a1), (.int .i64 a2), (.int .i64 a3)]), (.agg [(.int .i64 a4), (.int .i64 a5), (.int .i64 a6), (.int .i64 a7)]), (.bool b69), (.bool true), (.agg [(.int .i64 a4), (.int .i64 a5), (.int .i64 a6), (.int .i64 a7)]), (.agg [(.int .i64 a0), (.int .i64 a1), (.int .i64 a2), (.int .i64 a3)]), (.bool b70), (.bool b70), (.bool false), (.tup []), (.tup []), (.tup []), (.bool false), (.bool false), (.bool false), (.agg [(.int .i64 x1), (.int .i64 x2), (.int .i64 x3), (.int .i64 x4)]), (.agg [(.int .i64 a4), (.int .i64 a5), (.int .i64 a6), (.int .i64 a7)]), (.agg [(.int .i64 a0), (.int .i64 a1), (.int .i64 a2), (.int .i64 a3)]), (.agg [(.int .i64 x77), (.int .i64 x78), (.int .i64 x79), (.int .i64 x80)]), (.bool (xor true ((x1 == x77) && ((x2 == x78) && ((x3 == x79) && ((x4 == x80) && true)))))), (.bool (xor true ((x1 == x77) && ((x2 == x78) && ((x3 == x79) && ((x4 == x80) && true)))))), (.tup []), (.tup []), (.tup []), (.tup []), (.tup []), (.tup []), (.tup []), (.tup []), (.tup []), (.tup []), (.tup []), (.tup []), (.tup []), (.tup []), (.tup []), (.tup []), (.tup []), (.tup []), (.tup []), (.tup []), (.tup []), (.tup []), (.tup []), (.tup []), (.tup []), (.tup []), (.tup []), (.tup []), (.tup []), (.tup []), (.tup []), (.tup []), (.tup []), (.tup []), (.tup []), (.tup []), (.tup []), (.tup []), (.tup []), (.tup []), (.tup []), (.tup []), (.tup []), (.tup []), (.tup []), (.tup []), (.tup []), (.tup []), (.tup []), (.tup []), (.tup []), (.tup []), (.tup [])], [some ⟨E25, [(.agg [(.int .i64 a0), (.int .i64 a1), (.int .i64 a2), (.int .i64 a3)])]⟩, some ⟨E25, [(.agg [(.int .i64 a4), (.int .i64 a5), (.int .i64 a6), (.int .i64 a7)])]⟩, some ⟨E25, [(.agg [(.int .i64 a8), (.int .i64 a9), (.int .i64 a10), (.int .i64 a11)])]⟩, some ⟨E23, [(.agg [(.int .i64 a12), (.int .i64 a13)])]⟩, some ⟨E25, [(.agg [(.int .i64 x1), (.int .i64 x2), (.int .i64 x3), (.int .i64 x4)])]⟩]⟩))
   (C.agg 4 (pcall M d 19 [(.agg [(.int .i64 a4), (.int .i64 a5), (.int .i64 a6), (.int .i64 a7)]), (.agg [(.int .i64 a0), (.int .i64 a1), (.int .i64 a2), (.int .i64 a3)])]) fun l81 =>
   C.int .i64 l81[0]? fun x82 =>
   C.int .i64 l81[1]? fun x83 =>
   C.int .i64 l81[2]? fun x84 =>
   C.int .i64 l81[3]? fun x85 =>
   k6 (.exit 2000000) ⟨[(.agg [(.int .i64 a0), (.int .i64 a1), (.int .i64 a2), (.int .i64 a3)]), (.agg [(.int .i64 a4), (.int .i64 a5), (.int .i64 a6), (.int .i64 a7)]), (.agg [(.int .i64 a8), (.int .i64 a9), (.int .i64 a10), (.int .i64 a11)]), (.agg [(.int .i64 a12), (.int .i64 a13)]), (.int .i64 a14), (.int .i64 a15), (.ptr 0 0 0), (.ptr 1 0 0), (.ptr 2 0 0), (.ptr 3 0 0), (.tup []), (.tup []), (.bool false), (.ptr 4 0 0), (.agg [(.int .i64 a0), (.int .i64 a1), (.int .i64 a2), (.int .i64 a3)]), (.agg [(.int .i64 a4), (.int .i64 a5), (.int .i64 a6), (.int .i64 a7)]), (.agg [(.int .i64 x1), (.int .i64 x2), (.int .i64 x3), (.int .i64 x4)]), (.bool b48), (.bool (!b48)), (.bool false), (.agg [(.int .i64 a0), (.int .i64 a1), (.int .i64 a2), (.int .i64 a3)]), (.agg [(.int .i64 a4), (.int .i64 a5), (.int .i64 a6), (.int .i64 a7)]), (.bool b49), (.bool true), (.agg [(.int .i64 a4), (.int .i64 a5), (.int .i64 a6), (.int .i64 a7)]), (.agg [(.int .i64 a8), (.int .i64 a9), (.int .i64 a10), (.int .i64 a11)]), (.bool b50), (.bool b50), (.bool false), (.tup []), (.tup []), (.tup []), (.tup []), (.bool false), (.bool false), (.bool false), (.agg [(.int .i64 a0), (.int .i64 a1), (.int .i64 a2), (.int .i64 a3)]), (.agg [(.int .i64 a4), (.int .i64 a5), (.int .i64 a6), (.int .i64 a7)]), (.bool b69), (.bool false), (.tup []), (.tup []), (.tup []), (.bool false), (.bool false), (.tup []), (.tup []), (.tup []), (.bool false), (.bool false), (.bool false), (.agg [(.int .i64 x1), (.int .i64 x2), (.int .i64 x3), (.int .i64 x4)]), (.agg [(.int .i64 a4), (.int .i64 a5), (.int .i64 a6), (.int .i64 a7)]), (.agg [(.int .i64 a0), (.int .i64 a1), (.int .i64 a2), (.int .i64 a3)]), (.agg [(.int .i64 x82), (.int .i64 x83), (.int .i64 x84), (.int .i64 x85)]), (.bool (xor true ((x1 == x82) && ((x2 == x83) && ((x3 == x84) && ((x4 == x85) && true)))))), (.bool (xor true ((x1 == x82) && ((x2 == x83) && ((x3 == x84) && ((x4 == x85) && true)))))), (.tup []), (.tup []), (.tup []), (.tup []), (.tup []), (.tup []), (.tup []), (.tup []), (.tup []), (.tup []), (.tup []), (.tup []), (.tup []), (.tup []), (.tup []), (.tup []), (.tup []), (.tup []), (.tup []), (.tup []), (.tup []), (.tup []), (.tup []), (.tup []), (.tup []), (.tup []), (.tup []), (.tup []), (.tup []), (.tup []), (.tup []), (.tup []), (.tup []), (.tup []), (.tup []), (.tup []), (.tup []), (.tup []), (.tup []), (.tup []), (.tup []), (.tup []), (.tup []), (.tup []), (.tup []), (.tup []), (.tup []), (.tup []), (.tup []), (.tup []), (.tup []), (.tup []), (.tup [])], [some ⟨E25, [(.agg [(.int .i64 a0), (.int .i64 a1), (.int .i64 a2), (.int .i64 a3)])]⟩, some ⟨E25, [(.agg [(.int .i64 a4), (.int .i64 a5), (.int .i64 a6), (.int .i64 a7)])]⟩, some ⟨E25, [(.agg [(.int .i64 a8), (.int .i64 a9), (.int .i64 a10), (.int .i64 a11)])]⟩, some ⟨E23, [(.agg [(.int .i64 a12), (.int .i64 a13)])]⟩, some ⟨E25, [(.agg [(.int .i64 x1), (.int .i64 x2), (.int .i64 x3), (.int .i64 x4)])]⟩]⟩)))
   (C.bool (pcall M d 17 [(.agg [(.int .i64 a0), (.int .i64 a1), (.int .i64 a2), (.int .i64 a3)]), (.agg [(.int .i64 a4), (.int .i64 a5), (.int .i64 a6), (.int .i64 a7)])]) fun b86 =>
   cnd b86
   (C.bool (pcall M d 17 [(.agg [(.int .i64 a4), (.int .i64 a5), (.int .i64 a6), (.int .i64 a7)]), (.agg [(.int .i64 a0), (.int .i64 a1), (.int .i64 a2), (.int .i64 a3)])]) fun b87 =>
   cnd b87
   (cnd (xor true ((a0 == a4) && ((a1 == a5) && ((a2 == a6) && ((a3 == a7) && true)))))
   (k6 (.exit 2000000) ⟨[(.agg [(.int .i64 a0), (.int .i64 a1), (.int .i64 a2), (.int .i64 a3)]), (.agg [(.int .i64 a4), (.int .i64 a5), (.int .i64 a6), (.int .i64 a7)]), (.agg [(.int .i64 a8), (.int .i64 a9), (.int .i64 a10), (.int .i64 a11)]), (.agg [(.int .i64 a12), (.int .i64 a13)]), (.int .i64 a14), (.int .i64 a15), (.ptr 0 0 0), (.ptr 1 0 0), (.ptr 2 0 0), (.ptr 3 0 0), (.tup []), (.tup []), (.bool false), (.ptr 4 0 0), (.agg [(.int .i64 a0), (.int .i64 a1), (.int .i64 a2), (.int .i64 a3)]), (.agg [(.int .i64 a4), (.int .i64 a5), (.int .i64 a6), (.int .i64 a7)]), (.agg [(.int .i64 x1), (.int .i64 x2), (.int .i64 x3), (.int .i64 x4)]), (.bool b48), (.bool (!b48)), (.bool false), (.agg [(.int .i64 a0), (.int .i64 a1), (.int .i64 a2), (.int .i64 a3)]), (.agg [(.int .i64 a4), (.int .i64 a5), (.int .i64 a6), (.int .i64 a7)]), (.bool b49), (.bool false), (.tup []), (.tup []), (.tup []), (.bool false), (.bool false), (.tup []), (.tup []), (.tup []), (.tup []), (.bool false), (.bool false), (.bool false), (.agg [(.int .i64 a0), (.int .i64 a1), (.int .i64 a2), (.int .i64 a3)]), (.agg [(.int .i64 a4), (.int .i64 a5), (.int .i64 a6), (.int .i64 a7)]), (.bool b86), (.bool true), (.agg [(.int .i64 a4), (.int .i64 a5), (.int .i64 a6), (.int .i64 a7)]), (.agg [(.int .i64 a0), (.int .i64 a1), (.int .i64 a2), (.int .i64 a3)]), (.bool b87), (.bool b87), (.bool true), (.agg [(.int .i64 a0), (.int .i64 a1), (.int .i64 a2), (.int .i64 a3)]), (.agg [(.int .i64 a4), (.int .i64 a5), (.int .i64 a6), (.int .i64 a7)]), (.bool (xor true ((a0 == a4) && ((a1 == a5) && ((a2 == a6) && ((a3 == a7) && true)))))), (.bool (xor true ((a0 == a4) && ((a1 == a5) && ((a2 == a6) && ((a3 == a7) && true)))))), (.bool (xor true ((a0 == a4) && ((a1 == a5) && ((a2 == a6) && ((a3 == a7) && true)))))), (.bool true), (.tup []), (.tup []), (.tup []), (.tup []), (.tup []), (.bool true), (.tup []), (.tup []), (.tup []), (.tup []), (.tup []), (.tup []), (.tup []), (.tup []), (.tup []), (.tup []), (.tup []), (.tup []), (.tup []), (.tup []), (.tup []), (.tup []), (.tup []), (.tup []), (.tup []), (.tup []), (.tup []), (.tup []), (.tup []), (.tup []), (.tup []), (.tup []), (.tup []), (.tup []), (.tup []), (.tup []), (.tup []), (.tup []), (.tup []), (.tup []), (.tup []), (.tup []), (.tup []), (.tup []), (.tup []), (.tup []), (.tup []), (.tup []), (.tup []), (.tup []), (.tup []), (.tup []), (.tup []), (.tup []), (.tup []), (.tup []), (.tup []), (.tup []), (.tup [])], [some ⟨E25, [(.agg [(.int .i64 a0), (.int .i64 a1), (.int .i64 a2), (.int .i64 a3)])]⟩, some ⟨E25, [(.agg [(.int .i64 a4), (.int .i64 a5), (.int .i64 a6), (.int .i64 a7)])]⟩, some ⟨E25, [(.agg [(.int .i64 a8), (.int .i64 a9), (.int .i64 a10), (.int .i64 a11)])]⟩, some ⟨E23, [(.agg [(.int .i64 a12), (.int .i64 a13)])]⟩, some ⟨E25, [(.agg [(.int .i64 x1), (.int .i64 x2), (.int .i64 x3), (.int .i64 x4)])]⟩]⟩)
   (C.agg 4 (pcall M d 19 [(.agg [(.int .i64 a4), (.int .i64 a5), (.int .i64 a6), (.int .i64 a7)]), (.agg [(.int .i64 a0), (.int .i64 a1), (.int .i64 a2), (.int .i64 a3)])]) fun l88 =>
   C.int .i64 l88[0]? fun x89 =>
   C.int .i64 l88[1]? fun x90 =>
   C.int .i64 l88[2]? fun x91 =>
   C.int .i64 l88[3]? fun x92 =>
   k6 (.exit 2000000) ⟨[(.agg [(.int .i64 a0), (.int .i64 a1), (.int .i64 a2), (.int .i64 a3)]), (.agg [(.int .i64 a4), (.int .i64 a5), (.int .i64 a6), (.int .i64 a7)]), (.agg [(.int .i64 a8), (.int .i64 a9), (.int .i64 a10), (.int .i64 a11)]), (.agg [(.int .i64 a12), (.int .i64 a13)]), (.int .i64 a14), (.int .i64 a15), (.ptr 0 0 0), (.ptr 1 0 0), (.ptr 2 0 0), (.ptr 3 0 0), (.tup []), (.tup []), (.bool false), (.ptr 4 0 0), (.agg [(.int .i64 a0), (.int .i64 a1), (.int .i64 a2), (.int .i64 a3)]), (.agg [(.int .i64 a4), (.int .i64 a5), (.int .i64 a6), (.int .i64 a7)]), (.agg [(.int .i64 x1), (.int .i64 x2), (.int .i64 x3), (.int .i64 x4)]), (.bool b48), (.bool (!b48)), (.bool false), (.agg [(.int .i64 a0), (.int .i64 a1), (.int .i64 a2), (.int .i64 a3)]), (.agg [(.int .i64 a4), (.int .i64 a5), (.int .i64 a6), (.int .i64 a7)]), (.bool b49), (.bool false), (.tup []), (.tup []), (.tup []), (.bool false), (.bool false), (.tup []), (.tup []), (.tup []), (.tup []), (.bool false), (.bool false), (.bool false), (.agg [(.int .i64 a0), (.int .i64 a1), (.int .i64 a2), (.int .i64 a3)]), (.agg [(.int .i64 a4), (.int .i64 a5), (.int .i64 a6), (.int .i64 a7)]), (.bool b86), (.bool true), (.agg [(.int .i64 a4), (.int .i64 a5), (.int .i64 a6), (.int .i64 a7)]), (.agg [(.int .i64 a0), (.int .i64 a1), (.int .i64 a2), (.int .i64 a3)]), (.bool b87), (.bool b87), (.bool true), (.agg [(.int .i64 a0), (.int .i64 a1), (.int .i64 a2), (.int .i64 a3)]), (.agg [(.int .i64 a4), (.int .i64 a5), (.int .i64 a6), (.int .i64 a7)]), (.bool (xor true ((a0 == a4) && ((a1 == a5) && ((a2 == a6) && ((a3 == a7) && true)))))), (.bool (xor true ((a0 == a4) && ((a1 == a5) && ((a2 == a6) && ((a3 == a7) && true)))))), (.bool (xor true ((a0 == a4) && ((a1 == a5) && ((a2 == a6) && ((a3 == a7) && true)))))), (.bool false), (.agg [(.int .i64 x1), (.int .i64 x2), (.int .i64 x3), (.int .i64 x4)]), (.agg [(.int .i64 a4), (.int .i64 a5), (.int .i64 a6), (.int .i64 a7)]), (.agg [(.int .i64 a0), (.int .i64 a1), (.int .i64 a2), (.int .i64 a3)]), (.agg [(.int .i64 x89), (.int .i64 x90), (.int .i64 x91), (.int .i64 x92)]), (.bool (xor true ((x1 == x89) && ((x2 == x90) && ((x3 == x91) && ((x4 == x92) && true)))))), (.bool (xor true ((x1 == x89) && ((x2 == x90) && ((x3 == x91) && ((x4 == x92) && true)))))), (.tup []), (.tup []), (.tup []), (.tup []), (.tup []), (.tup []), (.tup []), (.tup []), (.tup []), (.tup []), (.tup []), (.tup []), (.tup []), (.tup []), (.tup []), (.tup []), (.tup []), (.tup []), (.tup []), (.tup []), (.tup []), (.tup []), (.tup []), (.tup []), (.tup []), (.tup []), (.tup []), (.tup []), (.tup []), (.tup []), (.tup []), (.tup []), (.tup []), (.tup []), (.tup []), (.tup []), (.tup []), (.tup []), (.tup []), (.tup []), (.tup []), (.tup []), (.tup []), (.tup []), (.tup []), (.tup []), (.tup []), (.tup []), (.tup []), (.tup []), (.tup []), (.tup []), (.tup [])], [some ⟨E25, [(.agg [(.int .i64 a0), (.int .i64 a1), (.int .i64 a2), (.int .i64 a3)])]⟩, some ⟨E25, [(.agg [(.int .i64 a4), (.int .i64 a5), (.int .i64 a6), (.int .i64 a7)])]⟩, some ⟨E25, [(.agg [(.int .i64 a8), (.int .i64 a9), (.int .i64 a10), (.int .i64 a11)])]⟩, some ⟨E23, [(.agg [(.int .i64 a12), (.int .i64 a13)])]⟩, some ⟨E25, [(.agg [(.int .i64 x1), (.int .i64 x2), (.int .i64 x3), (.int .i64 x4)])]⟩]⟩))
   (C.agg 4 (pcall M d 19 [(.agg [(.int .i64 a4), (.int .i64 a5), (.int .i64 a6), (.int .i64 a7)]), (.agg [(.int .i64 a0), (.int .i64 a1), (.int .i64 a2), (.int .i64 a3)])]) fun l93 =>
   C.int .i64 l93[0]? fun x94 =>
   C.int .i64 l93[1]? fun x95 =>
   C.int .i64 l93[2]? fun x96 =>
   C.int .i64 l93[3]? fun x97 =>
   k6 (.exit 2000000) ⟨[(.agg [(.int .i64 a0), (.int .i64 a1), (.int .i64 a2), (.int .i64 a3)]), (.agg [(.int .i64 a4), (.int .i64 a5), (.int .i64 a6), (.int .i64 a7)]), (.agg [(.int .i64 a8), (.int .i64 a9), (.int .i64 a10), (.int .i64 a11)]), (.agg [(.int .i64 a12), (.int .i64 a13)]), (.int .i64 a14), (.int .i64 a15), (.ptr 0 0 0), (.ptr 1 0 0), (.ptr 2 0 0), (.ptr 3 0 0), (.tup []), (.tup []), (.bool false), (.ptr 4 0 0), (.agg [(.int .i64 a0), (.int .i64 a1), (.int .i64 a2), (.int .i64 a3)]), (.agg [(.int .i64 a4), (.int .i64 a5), (.int .i64 a6), (.int .i64 a7)]), (.agg [(.int .i64 x1), (.int .i64 x2), (.int .i64 x3), (.int .i64 x4)]), (.bool b48), (.bool (!b48)), (.bool false), (.agg [(.int .i64 a0), (.int .i64 a1), (.int .i64 a2), (.int .i64 a3)]), (.agg [(.int .i64 a4), (.int .i64 a5), (.int .i64 a6), (.int .i64 a7)]), (.bool b49), (.bool false), (.tup []), (.tup []), (.tup []), (.bool false), (.bool false), (.tup []), (.tup []), (.tup []), (.tup []), (.bool false), (.bool false), (.bool false), (.agg [(.int .i64 a0), (.int .i64 a1), (.int .i64 a2), (.int .i64 a3)]), (.agg [(.int .i64 a4), (.int .i64 a5), (.int .i64 a6), (.int .i64 a7)]), (.bool b86), (.bool true), (.agg [(.int .i64 a4), (.int .i64 a5), (.int .i64 a6), (.int .i64 a7)]), (.agg [(.int .i64 a0), (.int .i64 a1), (.int .i64 a2), (.int .i64 a3)]), (.bool b87), (.bool b87), (.bool false), (.tup []), (.tup []), (.tup []), (.bool false), (.bool false), (.bool false), (.agg [(.int .i64 x1), (.int .i64 x2), (.int .i64 x3), (.int .i64 x4)]), (.agg [(.int .i64 a4), (.int .i64 a5), (.int .i64 a6), (.int .i64 a7)]), (.agg [(.int .i64 a0), (.int .i64 a1), (.int .i64 a2), (.int .i64 a3)]), (.agg [(.int .i64 x94), (.int .i64 x95), (.int .i64 x96), (.int .i64 x97)]), (.bool (xor true ((x1 == x94) && ((x2 == x95) && ((x3 == x96) && ((x4 == x97) && true)))))), (.bool (xor true ((x1 == x94) && ((x2 == x95) && ((x3 == x96) && ((x4 == x97) && true)))))), (.tup []), (.tup []), (.tup []), (.tup []), (.tup []), (.tup []), (.tup []), (.tup []), (.tup []), (.tup []), (.tup []), (.tup []), (.tup []), (.tup []), (.tup []), (.tup []), (.tup []), (.tup []), (.tup []), (.tup []), (.tup []), (.tup []), (.tup []), (.tup []), (.tup []), (.tup []), (.tup []), (.tup []), (.tup []), (.tup []), (.tup []), (.tup []), (.tup []), (.tup []), (.tup []), (.tup []), (.tup []), (.tup []), (.tup []), (.tup []), (.tup []), (.tup []), (.tup []), (.tup []), (.tup []), (.tup []), (.tup []), (.tup []), (.tup []), (.tup []), (.tup []), (.tup []), (.tup [])], [some ⟨E25, [(.agg [(.int .i64 a0), (.int .i64 a1), (.int .i64 a2), (.int .i64 a3)])]⟩, some ⟨E25, [(.agg [(.int .i64 a4), (.int .i64 a5), (.int .i64 a6), (.int .i64 a7)])]⟩, some ⟨E25, [(.agg [(.int .i64 a8), (.int .i64 a9), (.int .i64 a10), (.int .i64 a11)])]⟩, some ⟨E23, [(.agg [(.int .i64 a12), (.int .i64 a13)])]⟩, some ⟨E25, [(.agg [(.int .i64 x1), (.int .i64 x2), (.int .i64 x3), (.int .i64 x4)])]⟩]⟩))
   (C.agg 4 (pcall M d 19 [(.agg [(.int .i64 a4), (.int .i64 a5), (.int .i64 a6), (.int .i64 a7)]), (.agg [(.int .i64 a0), (.int .i64 a1), (.int .i64 a2), (.int .i64 a3)])]) fun l98 =>
   C.int .i64 l98[0]? fun x99 =>
   C.int .i64 l98[1]? fun x100 =>
   C.int .i64 l98[2]? fun x101 =>
   C.int .i64 l98[3]? fun x102 =>
   k6 (.exit 2000000) ⟨[(.agg [(.int .i64 a0), (.int .i64 a1), (.int .i64 a2), (.int .i64 a3)]), (.agg [(.int .i64 a4), (.int .i64 a5), (.int .i64 a6), (.int .i64 a7)]), (.agg [(.int .i64 a8), (.int .i64 a9), (.int .i64 a10), (.int .i64 a11)]), (.agg [(.int .i64 a12), (.int .i64 a13)]), (.int .i64 a14), (.int .i64 a15), (.ptr 0 0 0), (.ptr 1 0 0), (.ptr 2 0 0), (.ptr 3 0 0), (.tup []), (.tup []), (.bool false), (.ptr 4 0 0), (.agg [(.int .i64 a0), (.int .i64 a1), (.int .i64 a2), (.int .i64 a3)]), (.agg [(.int .i64 a4), (.int .i64 a5), (.int .i64 a6), (.int .i64 a7)]), (.agg [(.int .i64 x1), (.int .i64 x2), (.int .i64 x3), (.int .i64 x4)]), (.bool b48), (.bool (!b48)), (.bool false), (.agg [(.int .i64 a0), (.int .i64 a1), (.int .i64 a2), (.int .i64 a3)]), (.agg [(.int .i64 a4), (.int .i64 a5), (.int .i64 a6), (.int .i64 a7)]), (.bool b49), (.bool false), (.tup []), (.tup []), (.tup []), (.bool false), (.bool false), (.tup []), (.tup []), (.tup []), (.tup []), (.bool false), (.bool false), (.bool false), (.agg [(.int .i64 a0), (.int .i64 a1), (.int .i64 a2), (.int .i64 a3)]), (.agg [(.int .i64 a4), (.int .i64 a5), (.int .i64 a6), (.int .i64 a7)]), (.bool b86), (.bool false), (.tup []), (.tup []), (.tup []), (.bool false), (.bool false), (.tup []), (.tup []), (.tup []), (.bool false), (.bool false), (.bool false), (.agg [(.int .i64 x1), (.int .i64 x2), (.int .i64 x3), (.int .i64 x4)]), (.agg [(.int .i64 a4), (.int .i64 a5), (.int .i64 a6), (.int .i64 a7)]), (.agg [(.int .i64 a0), (.int .i64 a1), (.int .i64 a2), (.int .i64 a3)]), (.agg [(.int .i64 x99), (.int .i64 x100), (.int .i64 x101), (.int .i64 x102)]), (.bool (xor true ((x1 == x99) && ((x2 == x100) && ((x3 == x101) && ((x4 == x102) && true)))))), (.bool (xor true ((x1 == x99) && ((x2 == x100) && ((x3 == x101) && ((x4 == x102) && true)))))), (.tup []), (.tup []), (.tup []), (.tup []), (.tup []), (.tup []), (.tup []), (.tup []), (.tup []), (.tup []), (.tup []), (.tup []), (.tup []), (.tup []), (.tup []), (.tup []), (.tup []), (.tup []), (.tup []), (.tup []), (.tup []), (.tup []), (.tup []), (.tup []), (.tup []), (.tup []), (.tup []), (.tup []), (.tup []), (.tup []), (.tup []), (.tup []), (.tup []), (.tup []), (.tup []), (.tup []), (.tup []), (.tup []), (.tup []), (.tup []), (.tup []), (.tup []), (.tup []), (.tup []), (.tup []), (.tup []), (.tup []), (.tup []), (.tup []), (.tup []), (.tup []), (.tup []), (.tup [])], [some ⟨E25, [(.agg [(.int .i64 a0), (.int .i64 a1), (.int .i64 a2), (.int .i64 a3)])]⟩, some ⟨E25, [(.agg [(.int .i64 a4), (.int .i64 a5), (.int .i64 a6), (.int .i64 a7)])]⟩, some ⟨E25, [(.agg [(.int .i64 a8), (.int .i64 a9), (.int .i64 a10), (.int .i64 a11)])]⟩, some ⟨E23, [(.agg [(.int .i64 a12), (.int .i64 a13)])]⟩, some ⟨E25, [(.agg [(.int .i64 x1), (.int .i64 x2), (.int .i64 x3), (.int .i64 x4)])]⟩]⟩))))
   (none)
def r8X0_0 (C : Cb) (d : Nat) (a0 a1 a2 a3 a4 a5 a6 a7 a8 a9 a10 a11 a12 a13 a14 a15 x1 x2 x3 x4 : Int) : St → Ans := fun s103 =>
  cnd ((List.length (St.env s103)) == 110)
   (C.same (St.env s103)[0]? (.agg [(.int .i64 a0), (.int .i64 a1), (.int .i64 a2), (.int .i64 a3)]) <|
   C.same (St.env s103)[1]? (.agg [(.int .i64 a4), (.int .i64 a5), (.int .i64 a6), (.int .i64 a7)]) <|
   C.same (St.env s103)[2]? (.agg [(.int .i64 a8), (.int .i64 a9), (.int .i64 a10), (.int .i64 a11)]) <|
   C.same (St.env s103)[3]? (.agg [(.int .i64 a12), (.int .i64 a13)]) <|
   C.same (St.env s103)[4]? (.int .i64 a14) <|
   C.same (St.env s103)[5]? (.int .i64 a15) <|
   C.same (St.env s103)[6]? (.ptr 0 0 0) <|
   C.same (St.env s103)[7]? (.ptr 1 0 0) <|
   C.same (St.env s103)[8]? (.ptr 2 0 0) <|
   C.same (St.env s103)[9]? (.ptr 3 0 0) <|
   C.same (St.env s103)[10]? (.tup []) <|
   C.same (St.env s103)[11]? (.tup []) <|
   C.same (St.env s103)[12]? (.bool false) <|
   C.same (St.env s103)[13]? (.ptr 4 0 0) <|
   C.same (St.env s103)[14]? (.agg [(.int .i64 a0), (.int .i64 a1), (.int .i64 a2), (.int .i64 a3)]) <|
   C.same (St.env s103)[15]? (.agg [(.int .i64 a4), (.int .i64 a5), (.int .i64 a6), (.int .i64 a7)]) <|
   C.same (St.env s103)[16]? (.agg [(.int .i64 x1), (.int .i64 x2), (.int .i64 x3), (.int .i64 x4)]) <|
   C.bool (St.env s103)[17]? fun b104 =>
   C.bool (St.env s103)[18]? fun b105 =>
   C.bool (St.env s103)[19]? fun b106 =>
   C.any (St.env s103)[20]? fun v107 =>
   C.any (St.env s103)[21]? fun v108 =>
   C.any (St.env s103)[22]? fun v109 =>
   C.any (St.env s103)[23]? fun v110 =>
   C.any (St.env s103)[24]? fun v111 =>
   C.any (St.env s103)[25]? fun v112 =>
   C.any (St.env s103)[26]? fun v113 =>
   C.any (St.env s103)[27]? fun v114 =>
   C.any (St.env s103)[28]? fun v115 =>
   C.any (St.env s103)[29]? fun v116 =>
   C.any (St.env s103)[30]? fun v117 =>
   C.any (St.env s103)[31]? fun v118 =>
   C.any (St.env s103)[32]? fun v119 =>
   C.any (St.env s103)[33]? fun v120 =>
   C.bool (St.env s103)[34]? fun b121 =>
   C.bool (St.env s103)[35]? fun b122 =>
   C.any (St.env s103)[36]? fun v123 =>
   C.any (St.env s103)[37]? fun v124 =>
   C.any (St.env s103)[38]? fun v125 =>
   C.any (St.env s103)[39]? fun v126 =>
   C.any (St.env s103)[40]? fun v127 =>
   C.any (St.env s103)[41]? fun v128 =>
   C.any (St.env s103)[42]? fun v129 =>
   C.any (St.env s103)[43]? fun v130 =>
   C.any (St.env s103)[44]? fun v131 =>
   C.any (St.env s103)[45]? fun v132 =>
   C.any (St.env s103)[46]? fun v133 =>
   C.any (St.env s103)[47]? fun v134 =>
   C.any (St.env s103)[48]? fun v135 =>
   C.bool (St.env s103)[49]? fun b136 =>
   C.bool (St.env s103)[50]? fun b137 =>
   C.any (St.env s103)[51]? fun v138 =>
   C.any (St.env s103)[52]? fun v139 =>
   C.any (St.env s103)[53]? fun v140 =>
   C.any (St.env s103)[54]? fun v141 =>
   C.any (St.env s103)[55]? fun v142 =>
   C.bool (St.env s103)[56]? fun b143 =>
   C.same (St.env s103)[57]? (.tup []) <|
   C.same (St.env s103)[58]? (.tup []) <|
   C.same (St.env s103)[59]? (.tup []) <|
   C.same (St.env s103)[60]? (.tup []) <|
   C.same (St.env s103)[61]? (.tup []) <|
   C.same (St.env s103)[62]? (.tup []) <|
   C.same (St.env s103)[63]? (.tup []) <|
   C.same (St.env s103)[64]? (.tup []) <|
   C.same (St.env s103)[65]? (.tup []) <|
   C.same (St.env s103)[66]? (.tup []) <|
   C.same (St.env s103)[67]? (.tup []) <|
   C.same (St.env s103)[68]? (.tup []) <|
   C.same (St.env s103)[69]? (.tup []) <|
   C.same (St.env s103)[70]? (.tup []) <|
   C.same (St.env s103)[71]? (.tup []) <|
   C.same (St.env s103)[72]? (.tup []) <|
   C.same (St.env s103)[73]? (.tup []) <|
   C.same (St.env s103)[74]? (.tup []) <|
   C.same (St.env s103)[75]? (.tup []) <|
   C.same (St.env s103)[76]? (.tup []) <|
   C.same (St.env s103)[77]? (.tup []) <|
   C.same (St.env s103)[78]? (.tup []) <|
   C.same (St.env s103)[79]? (.tup []) <|
   C.same (St.env s103)[80]? (.tup []) <|
   C.same (St.env s103)[81]? (.tup []) <|
   C.same (St.env s103)[82]? (.tup []) <|
   C.same (St.env s103)[83]? (.tup []) <|
   C.same (St.env s103)[84]? (.tup []) <|
   C.same (St.env s103)[85]? (.tup []) <|
   C.same (St.env s103)[86]? (.tup []) <|
   C.same (St.env s103)[87]? (.tup []) <|
   C.same (St.env s103)[88]? (.tup []) <|
   C.same (St.env s103)[89]? (.tup []) <|
   C.same (St.env s103)[90]? (.tup []) <|
   C.same (St.env s103)[91]? (.tup []) <|
   C.same (St.env s103)[92]? (.tup []) <|
   C.same (St.env s103)[93]? (.tup []) <|
   C.same (St.env s103)[94]? (.tup []) <|
   C.same (St.env s103)[95]? (.tup []) <|
   C.same (St.env s103)[96]? (.tup []) <|
   C.same (St.env s103)[97]? (.tup []) <|
   C.same (St.env s103)[98]? (.tup []) <|
   C.same (St.env s103)[99]? (.tup []) <|
   C.same (St.env s103)[100]? (.tup []) <|
   C.same (St.env s103)[101]? (.tup []) <|
   C.same (St.env s103)[102]? (.tup []) <|
   C.same (St.env s103)[103]? (.tup []) <|
   C.same (St.env s103)[104]? (.tup []) <|
   C.same (St.env s103)[105]? (.tup []) <|
   C.same (St.env s103)[106]? (.tup []) <|
   C.same (St.env s103)[107]? (.tup []) <|
   C.same (St.env s103)[108]? (.tup []) <|
   C.same (St.env s103)[109]? (.tup []) <|
   C.sameH (St.H s103) [some ⟨E25, [(.agg [(.int .i64 a0), (.int .i64 a1), (.int .i64 a2), (.int .i64 a3)])]⟩, some ⟨E25, [(.agg [(.int .i64 a4), (.int .i64 a5), (.int .i64 a6), (.int .i64 a7)])]⟩, some ⟨E25, [(.agg [(.int .i64 a8), (.int .i64 a9), (.int .i64 a10), (.int .i64 a11)])]⟩, some ⟨E23, [(.agg [(.int .i64 a12), (.int .i64 a13)])]⟩, some ⟨E25, [(.agg [(.int .i64 x1), (.int .i64 x2), (.int .i64 x3), (.int .i64 x4)])]⟩] <|
   cnd b143
   (some (.bool false))
   (C.iter (r8R1 C d a0 a1 a2 a3 a4 a5 a6 a7 a8 a9 a10 a11 a12 a13 a14 a15 x1 x2 x3 x4 b104 b105 b106 v107 v108 v109 v110 v111 v112 v113 v114 v115 v116 v117 v118 v119 v120 b121 b122 v123 v124 v125 v126 v127 v128 v129 v130 v131 v132 v133 v134 v135 b136 b137 v138 v139 v140 v141 v142) 1 ⟨[(.agg [(.int .i64 a0), (.int .i64 a1), (.int .i64 a2), (.int .i64 a3)]), (.agg [(.int .i64 a4), (.int .i64 a5), (.int .i64 a6), (.int .i64 a7)]), (.agg [(.int .i64 a8), (.int .i64 a9), (.int .i64 a10), (.int .i64 a11)]), (.agg [(.int .i64 a12), (.int .i64 a13)]), (.int .i64 a14), (.int .i64 a15), (.ptr 0 0 0), (.ptr 1 0 0), (.ptr 2 0 0), (.ptr 3 0 0), (.tup []), (.tup []), (.bool false), (.ptr 4 0 0), (.agg [(.int .i64 a0), (.int .i64 a1), (.int .i64 a2), (.int .i64 a3)]), (.agg [(.int .i64 a4), (.int .i64 a5), (.int .i64 a6), (.int .i64 a7)]), (.agg [(.int .i64 x1), (.int .i64 x2), (.int .i64 x3), (.int .i64 x4)]), (.bool b104), (.bool b105), (.bool b106), v107, v108, v109, v110, v111, v112, v113, v114, v115, v116, v117, v118, v119, v120, (.bool b121), (.bool b122), v123, v124, v125, v126, v127, v128, v129, v130, v131, v132, v133, v134, v135, (.bool b136), (.bool b137), v138, v139, v140, v141, v142, (.bool false), (.tup []), (.tup []), (.tup []), (.tup []), (.tup []), (.tup []), (.tup []), (.tup []), (.tup []), (.tup []), (.tup []), (.tup []), (.tup []), (.tup []), (.tup []), (.tup []), (.tup []), (.tup []), (.tup []), (.tup []), (.tup []), (.tup []), (.tup []), (.tup []), (.tup []), (.tup []), (.tup []), (.tup []), (.tup []), (.tup []), (.tup []), (.tup []), (.tup []), (.tup []), (.tup []), (.tup []), (.tup []), (.tup []), (.tup []), (.tup []), (.tup []), (.tup []), (.tup []), (.tup []), (.tup []), (.tup []), (.tup []), (.tup []), (.tup []), (.tup []), (.tup []), (.tup []), (.tup [])], [some ⟨E25, [(.agg [(.int .i64 a0), (.int .i64 a1), (.int .i64 a2), (.int .i64 a3)])]⟩, some ⟨E25, [(.agg [(.int .i64 a4), (.int .i64 a5), (.int .i64 a6), (.int .i64 a7)])]⟩, some ⟨E25, [(.agg [(.int .i64 a8), (.int .i64 a9), (.int .i64 a10), (.int .i64 a11)])]⟩, some ⟨E23, [(.agg [(.int .i64 a12), (.int .i64 a13)])]⟩, some ⟨E25, [(.agg [(.int .i64 x1), (.int .i64 x2), (.int .i64 x3), (.int .i64 x4)])]⟩]⟩ [2000000] [r8X1_0 C d a0 a1 a2 a3 a4 a5 a6 a7 a8 a9 a10 a11 a12 a13 a14 a15 x1 x2 x3 x4 b104 b105 b106 v107 v108 v109 v110 v111 v112 v113 v114 v115 v116 v117 v118 v119 v120 b121 b122 v123 v124 v125 v126 v127 v128 v129 v130 v131 v132 v133 v134 v135 b136 b137 v138 v139 v140 v141 v142] (r8E1 C d a0 a1 a2 a3 a4 a5 a6 a7 a8 a9 a10 a11 a12 a13 a14 a15 x1 x2 x3 x4 b104 b105 b106 v107 v108 v109 v110 v111 v112 v113 v114 v115 v116 v117 v118 v119 v120 b121 b122 v123 v124 v125 v126 v127 v128 v129 v130 v131 v132 v133 v134 v135 b136 b137 v138 v139 v140 v141 v142)))
   (none)
def r8E0 (C : Cb) (d : Nat) (a0 a1 a2 a3 a4 a5 a6 a7 a8 a9 a10 a11 a12 a13 a14 a15 x1 x2 x3 x4 : Int) : St → Ans := fun s7 =>
  cnd ((List.length (St.env s7)) == 110)
   (C.same (St.env s7)[0]? (.agg [(.int .i64 a0), (.int .i64 a1), (.int .i64 a2), (.int .i64 a3)]) <|
   C.same (St.env s7)[1]? (.agg [(.int .i64 a4), (.int .i64 a5), (.int .i64 a6), (.int .i64 a7)]) <|
   C.same (St.env s7)[2]? (.agg [(.int .i64 a8), (.int .i64 a9), (.int .i64 a10), (.int .i64 a11)]) <|
   C.same (St.env s7)[3]? (.agg [(.int .i64 a12), (.int .i64 a13)]) <|
   C.same (St.env s7)[4]? (.int .i64 a14) <|
   C.same (St.env s7)[5]? (.int .i64 a15) <|
   C.same (St.env s7)[6]? (.ptr 0 0 0) <|
   C.same (St.env s7)[7]? (.ptr 1 0 0) <|
   C.same (St.env s7)[8]? (.ptr 2 0 0) <|
   C.same (St.env s7)[9]? (.ptr 3 0 0) <|
   C.same (St.env s7)[10]? (.tup []) <|
   C.same (St.env s7)[11]? (.tup []) <|
   C.same (St.env s7)[12]? (.bool false) <|
   C.same (St.env s7)[13]? (.ptr 4 0 0) <|
   C.same (St.env s7)[14]? (.agg [(.int .i64 a0), (.int .i64 a1), (.int .i64 a2), (.int .i64 a3)]) <|
   C.same (St.env s7)[15]? (.agg [(.int .i64 a4), (.int .i64 a5), (.int .i64 a6), (.int .i64 a7)]) <|
   C.same (St.env s7)[16]? (.agg [(.int .i64 x1), (.int .i64 x2), (.int .i64 x3), (.int .i64 x4)]) <|
   C.any (St.env s7)[17]? fun v350 =>
   C.any (St.env s7)[18]? fun v351 =>
   C.any (St.env s7)[19]? fun v352 =>
   C.any (St.env s7)[20]? fun v353 =>
   C.any (St.env s7)[21]? fun v354 =>
   C.any (St.env s7)[22]? fun v355 =>
   C.any (St.env s7)[23]? fun v356 =>
   C.any (St.env s7)[24]? fun v357 =>
   C.any (St.env s7)[25]? fun v358 =>
   C.any (St.env s7)[26]? fun v359 =>
   C.any (St.env s7)[27]? fun v360 =>
   C.any (St.env s7)[28]? fun v361 =>
   C.any (St.env s7)[29]? fun v362 =>
   C.any (St.env s7)[30]? fun v363 =>
   C.any (St.env s7)[31]? fun v364 =>
   C.any (St.env s7)[32]? fun v365 =>
   C.any (St.env s7)[33]? fun v366 =>
   C.any (St.env s7)[34]? fun v367 =>
   C.any (St.env s7)[35]? fun v368 =>
   C.any (St.env s7)[36]? fun v369 =>
   C.any (St.env s7)[37]? fun v370 =>
   C.any (St.env s7)[38]? fun v371 =>
   C.any (St.env s7)[39]? fun v372 =>
   C.any (St.env s7)[40]? fun v373 =>
   C.any (St.env s7)[41]? fun v374 =>
   C.any (St.env s7)[42]? fun v375 =>
   C.any (St.env s7)[43]? fun v376 =>
   C.any (St.env s7)[44]? fun v377 =>
   C.any (St.env s7)[45]? fun v378 =>
   C.any (St.env s7)[46]? fun v379 =>
   C.any (St.env s7)[47]? fun v380 =>
   C.any (St.env s7)[48]? fun v381 =>
   C.any (St.env s7)[49]? fun v382 =>
   C.any (St.env s7)[50]? fun v383 =>
   C.any (St.env s7)[51]? fun v384 =>
   C.any (St.env s7)[52]? fun v385 =>
   C.any (St.env s7)[53]? fun v386 =>
   C.any (St.env s7)[54]? fun v387 =>
   C.any (St.env s7)[55]? fun v388 =>
   C.any (St.env s7)[56]? fun v389 =>
   C.same (St.env s7)[57]? (.tup []) <|
   C.same (St.env s7)[58]? (.tup []) <|
   C.same (St.env s7)[59]? (.tup []) <|
   C.same (St.env s7)[60]? (.tup []) <|
   C.same (St.env s7)[61]? (.tup []) <|
   C.same (St.env s7)[62]? (.tup []) <|
   C.same (St.env s7)[63]? (.tup []) <|
   C.same (St.env s7)[64]? (.tup []) <|
   C.same (St.env s7)[65]? (.tup []) <|
   C.same (St.env s7)[66]? (.tup []) <|
   C.same (St.env s7)[67]? (.tup []) <|
   C.same (St.env s7)[68]? (.tup []) <|
   C.same (St.env s7)[69]? (.tup []) <|
   C.same (St.env s7)[70]? (.tup []) <|
   C.same (St.env s7)[71]? (.tup []) <|
   C.same (St.env s7)[72]? (.tup []) <|
   C.same (St.env s7)[73]? (.tup []) <|
   C.same (St.env s7)[74]? (.tup []) <|
   C.same (St.env s7)[75]? (.tup []) <|
   C.same (St.env s7)[76]? (.tup []) <|
   C.same (St.env s7)[77]? (.tup []) <|
   C.same (St.env s7)[78]? (.tup []) <|
   C.same (St.env s7)[79]? (.tup []) <|
   C.same (St.env s7)[80]? (.tup []) <|
   C.same (St.env s7)[81]? (.tup []) <|
   C.same (St.env s7)[82]? (.tup []) <|
   C.same (St.env s7)[83]? (.tup []) <|
   C.same (St.env s7)[84]? (.tup []) <|
   C.same (St.env s7)[85]? (.tup []) <|
   C.same (St.env s7)[86]? (.tup []) <|
   C.same (St.env s7)[87]? (.tup []) <|
   C.same (St.env s7)[88]? (.tup []) <|
   C.same (St.env s7)[89]? (.tup []) <|
   C.same (St.env s7)[90]? (.tup []) <|
   C.same (St.env s7)[91]? (.tup []) <|
   C.same (St.env s7)[92]? (.tup []) <|
   C.same (St.env s7)[93]? (.tup []) <|
   C.same (St.env s7)[94]? (.tup []) <|
   C.same (St.env s7)[95]? (.tup []) <|
   C.same (St.env s7)[96]? (.tup []) <|
   C.same (St.env s7)[97]? (.tup []) <|
   C.same (St.env s7)[98]? (.tup []) <|
   C.same (St.env s7)[99]? (.tup []) <|
   C.same (St.env s7)[100]? (.tup []) <|
   C.same (St.env s7)[101]? (.tup []) <|
   C.same (St.env s7)[102]? (.tup []) <|
   C.same (St.env s7)[103]? (.tup []) <|
   C.same (St.env s7)[104]? (.tup []) <|
   C.same (St.env s7)[105]? (.tup []) <|
   C.same (St.env s7)[106]? (.tup []) <|
   C.same (St.env s7)[107]? (.tup []) <|
   C.same (St.env s7)[108]? (.tup []) <|
   C.same (St.env s7)[109]? (.tup []) <|
   C.sameH (St.H s7) [some ⟨E25, [(.agg [(.int .i64 a0), (.int .i64 a1), (.int .i64 a2), (.int .i64 a3)])]⟩, some ⟨E25, [(.agg [(.int .i64 a4), (.int .i64 a5), (.int .i64 a6), (.int .i64 a7)])]⟩, some ⟨E25, [(.agg [(.int .i64 a8), (.int .i64 a9), (.int .i64 a10), (.int .i64 a11)])]⟩, some ⟨E23, [(.agg [(.int .i64 a12), (.int .i64 a13)])]⟩, some ⟨E25, [(.agg [(.int .i64 x1), (.int .i64 x2), (.int .i64 x3), (.int .i64 x4)])]⟩] <|
   some (.bool false))
   (none)
/-- apogee/apogeelaw12.BoxOrder -/
theorem r8 (C : Cb) (d : Nat) (a0 a1 a2 a3 a4 a5 a6 a7 a8 a9 a10 a11 a12 a13 a14 a15 : Int) : xcall C M unr d 8 [(.agg [(.int .i64 a0), (.int .i64 a1), (.int .i64 a2), (.int .i64 a3)]), (.agg [(.int .i64 a4), (.int .i64 a5), (.int .i64 a6), (.int .i64 a7)]), (.agg [(.int .i64 a8), (.int .i64 a9), (.int .i64 a10), (.int .i64 a11)]), (.agg [(.int .i64 a12), (.int .i64 a13)]), (.int .i64 a14), (.int .i64 a15)] =
  C.agg 4 (pcall M d 19 [(.agg [(.int .i64 a0), (.int .i64 a1), (.int .i64 a2), (.int .i64 a3)]), (.agg [(.int .i64 a4), (.int .i64 a5), (.int .i64 a6), (.int .i64 a7)])]) fun l0 =>
  C.int .i64 l0[0]? fun x1 =>
  C.int .i64 l0[1]? fun x2 =>
  C.int .i64 l0[2]? fun x3 =>
  C.int .i64 l0[3]? fun x4 =>
  C.iter (r8R0 C d a0 a1 a2 a3 a4 a5 a6 a7 a8 a9 a10 a11 a12 a13 a14 a15 x1 x2 x3 x4) 1 ⟨[(.agg [(.int .i64 a0), (.int .i64 a1), (.int .i64 a2), (.int .i64 a3)]), (.agg [(.int .i64 a4), (.int .i64 a5), (.int .i64 a6), (.int .i64 a7)]), (.agg [(.int .i64 a8), (.int .i64 a9), (.int .i64 a10), (.int .i64 a11)]), (.agg [(.int .i64 a12), (.int .i64 a13)]), (.int .i64 a14), (.int .i64 a15), (.ptr 0 0 0), (.ptr 1 0 0), (.ptr 2 0 0), (.ptr 3 0 0), (.tup []), (.tup []), (.bool false), (.ptr 4 0 0), (.agg [(.int .i64 a0), (.int .i64 a1), (.int .i64 a2), (.int .i64 a3)]), (.agg [(.int .i64 a4), (.int .i64 a5), (.int .i64 a6), (.int .i64 a7)]), (.agg [(.int .i64 x1), (.int .i64 x2), (.int .i64 x3), (.int .i64 x4)]), (.tup []), (.tup []), (.tup []), (.tup []), (.tup []), (.tup []), (.tup []), (.tup []), (.tup []), (.tup []), (.tup []), (.tup []), (.tup []), (.tup []), (.tup []), (.tup []), (.tup []), (.tup []), (.tup []), (.tup []), (.tup []), (.tup []), (.tup []), (.tup []), (.tup []), (.tup []), (.tup []), (.tup []), (.tup []), (.tup []), (.tup []), (.tup []), (.tup []), (.tup []), (.tup []), (.tup []), (.tup []), (.tup []), (.tup []), (.tup []), (.tup []), (.tup []), (.tup []), (.tup []), (.tup []), (.tup []), (.tup []), (.tup []), (.tup []), (.tup []), (.tup []), (.tup []), (.tup []), (.tup []), (.tup []), (.tup []), (.tup []), (.tup []), (.tup []), (.tup []), (.tup []), (.tup []), (.tup []), (.tup []), (.tup []), (.tup []), (.tup []), (.tup []), (.tup []), (.tup []), (.tup []), (.tup []), (.tup []), (.tup []), (.tup []), (.tup []), (.tup []), (.tup []), (.tup []), (.tup []), (.tup []), (.tup []), (.tup []), (.tup []), (.tup []), (.tup []), (.tup []), (.tup []), (.tup []), (.tup []), (.tup []), (.tup []), (.tup [])], [some ⟨E25, [(.agg [(.int .i64 a0), (.int .i64 a1), (.int .i64 a2), (.int .i64 a3)])]⟩, some ⟨E25, [(.agg [(.int .i64 a4), (.int .i64 a5), (.int .i64 a6), (.int .i64 a7)])]⟩, some ⟨E25, [(.agg [(.int .i64 a8), (.int .i64 a9), (.int .i64 a10), (.int .i64 a11)])]⟩, some ⟨E23, [(.agg [(.int .i64 a12), (.int .i64 a13)])]⟩, some ⟨E25, [(.agg [(.int .i64 x1), (.int .i64 x2), (.int .i64 x3), (.int .i64 x4)])]⟩]⟩ [2000000] [r8X0_0 C d a0 a1 a2 a3 a4 a5 a6 a7 a8 a9 a10 a11 a12 a13 a14 a15 x1 x2 x3 x4] (r8E0 C d a0 a1 a2 a3 a4 a5 a6 a7 a8 a9 a10 a11 a12 a13 a14 a15 x1 x2 x3 x4) := by kernel_rfl
end Go.Proofs.Ytjblhppbjebagaa.AE

namespace Go.Proofs.Ytjblhppbjebagaa.AE
set_option linter.unusedVariables false
set_option linter.unusedSimpArgs false
set_option linter.constructorNameAsVariable false
open Go
set_option maxRecDepth 100000
noncomputable def X8_3_0 (d : Nat) (a12 a13 a14 a15 : Int) (b276 : Bool) : Ans :=
  some (.bool b276)
theorem X8_3_0_ok (d : Nat) (a0 a1 a2 a3 a4 a5 a6 a7 a8 a9 a10 a11 a12 a13 a14 a15 x1 x2 x3 x4 : Int) (b104 b105 b106 : Bool) (v107 v108 v109 v110 v111 v112 v113 v114 v115 v116 v117 v118 v119 v120 : AV) (b121 b122 : Bool) (v123 v124 v125 v126 v127 v128 v129 v130 v131 v132 v133 v134 v135 : AV) (b136 b137 : Bool) (v138 v139 v140 v141 v142 : AV) (x173 x174 x175 x176 : Int) (b177 b178 : Bool) (v179 v180 v181 v182 : AV) (b183 b184 : Bool) (v185 v186 v187 v188 v189 v190 v191 v192 : AV) (x221 x222 x223 x224 : Int) (b225 b226 : Bool) (v227 v228 v229 : AV) (b230 b231 : Bool) (v232 v233 v234 : AV) (b235 b236 : Bool) (v237 v238 v239 v240 : AV) (b276 : Bool) (x278 x279 : Int) (b280 b281 b282 : Bool) (v283 v284 v285 : AV) (b286 b287 : Bool) (v288 v289 v290 v291 v292 v293 v294 : AV) (b295 : Bool) : r8X3_0 C0 d a0 a1 a2 a3 a4 a5 a6 a7 a8 a9 a10 a11 a12 a13 a14 a15 x1 x2 x3 x4 b104 b105 b106 v107 v108 v109 v110 v111 v112 v113 v114 v115 v116 v117 v118 v119 v120 b121 b122 v123 v124 v125 v126 v127 v128 v129 v130 v131 v132 v133 v134 v135 b136 b137 v138 v139 v140 v141 v142 x173 x174 x175 x176 b177 b178 v179 v180 v181 v182 b183 b184 v185 v186 v187 v188 v189 v190 v191 v192 x221 x222 x223 x224 b225 b226 v227 v228 v229 b230 b231 v232 v233 v234 b235 b236 v237 v238 v239 v240 ⟨[(.agg [(.int .i64 a0), (.int .i64 a1), (.int .i64 a2), (.int .i64 a3)]), (.agg [(.int .i64 a4), (.int .i64 a5), (.int .i64 a6), (.int .i64 a7)]), (.agg [(.int .i64 a8), (.int .i64 a9), (.int .i64 a10), (.int .i64 a11)]), (.agg [(.int .i64 a12), (.int .i64 a13)]), (.int .i64 a14), (.int .i64 a15), (.ptr 0 0 0), (.ptr 1 0 0), (.ptr 2 0 0), (.ptr 3 0 0), (.tup []), (.tup []), (.bool b276), (.ptr 4 0 0), (.agg [(.int .i64 a0), (.int .i64 a1), (.int .i64 a2), (.int .i64 a3)]), (.agg [(.int .i64 a4), (.int .i64 a5), (.int .i64 a6), (.int .i64 a7)]), (.agg [(.int .i64 x1), (.int .i64 x2), (.int .i64 x3), (.int .i64 x4)]), (.bool b104), (.bool b105), (.bool b106), v107, v108, v109, v110, v111, v112, v113, v114, v115, v116, v117, v118, v119, v120, (.bool b121), (.bool b122), v123, v124, v125, v126, v127, v128, v129, v130, v131, v132, v133, v134, v135, (.bool b136), (.bool b137), v138, v139, v140, v141, v142, (.bool false), (.agg [(.int .i64 x173), (.int .i64 x174), (.int .i64 x175), (.int .i64 x176)]), (.bool b177), (.bool b178), v179, v180, v181, v182, (.bool b183), (.bool b184), v185, v186, v187, v188, v189, v190, v191, v192, (.bool false), (.agg [(.int .i64 x221), (.int .i64 x222), (.int .i64 x223), (.int .i64 x224)]), (.bool b225), (.bool b226), v227, v228, v229, (.bool b230), (.bool b231), v232, v233, v234, (.bool b235), (.bool b236), v237, v238, v239, v240, (.bool false), (.agg [(.int .i64 x278), (.int .i64 x279)]), (.bool b280), (.bool b281), (.bool b282), v283, v284, v285, (.bool b286), (.bool b287), v288, v289, v290, v291, v292, v293, v294, (.bool b295)], [some ⟨E25, [(.agg [(.int .i64 a0), (.int .i64 a1), (.int .i64 a2), (.int .i64 a3)])]⟩, some ⟨E25, [(.agg [(.int .i64 a4), (.int .i64 a5), (.int .i64 a6), (.int .i64 a7)])]⟩, some ⟨E25, [(.agg [(.int .i64 a8), (.int .i64 a9), (.int .i64 a10), (.int .i64 a11)])]⟩, some ⟨E23, [(.agg [(.int .i64 a12), (.int .i64 a13)])]⟩, some ⟨E25, [(.agg [(.int .i64 x1), (.int .i64 x2), (.int .i64 x3), (.int .i64 x4)])]⟩]⟩ = X8_3_0 d a12 a13 a14 a15 b276 := by
  unfold r8X3_0; refine Eq.trans (pl_len (by rfl)) ?_; (iterate 12 (refine Eq.trans (pl_same (by rfl)) ?_)); refine Eq.trans (pl_bool (by rfl)) ?_; (iterate 80 (refine Eq.trans (pl_same (by rfl)) ?_)); refine Eq.trans (pl_agg (by rfl) (by rfl)) ?_; (iterate 2 (refine Eq.trans (pl_int (by rfl)) ?_)); (iterate 3 (refine Eq.trans (pl_bool (by rfl)) ?_)); (iterate 3 (refine Eq.trans (pl_any (by rfl)) ?_)); (iterate 2 (refine Eq.trans (pl_bool (by rfl)) ?_)); (iterate 7 (refine Eq.trans (pl_any (by rfl)) ?_)); refine Eq.trans (pl_bool (by rfl)) ?_; refine Eq.trans (pl_sameH) ?_
  rfl
noncomputable def E8_3 (d : Nat) (a12 a13 a14 a15 : Int) (b296 : Bool) : Ans :=
  some (.bool b296)
theorem E8_3_ok (d : Nat) (a0 a1 a2 a3 a4 a5 a6 a7 a8 a9 a10 a11 a12 a13 a14 a15 x1 x2 x3 x4 : Int) (b104 b105 b106 : Bool) (v107 v108 v109 v110 v111 v112 v113 v114 v115 v116 v117 v118 v119 v120 : AV) (b121 b122 : Bool) (v123 v124 v125 v126 v127 v128 v129 v130 v131 v132 v133 v134 v135 : AV) (b136 b137 : Bool) (v138 v139 v140 v141 v142 : AV) (x173 x174 x175 x176 : Int) (b177 b178 : Bool) (v179 v180 v181 v182 : AV) (b183 b184 : Bool) (v185 v186 v187 v188 v189 v190 v191 v192 : AV) (x221 x222 x223 x224 : Int) (b225 b226 : Bool) (v227 v228 v229 : AV) (b230 b231 : Bool) (v232 v233 v234 : AV) (b235 b236 : Bool) (v237 v238 v239 v240 : AV) (b296 : Bool) (v297 v298 v299 v300 v301 v302 v303 v304 v305 v306 v307 v308 v309 v310 v311 v312 v313 : AV) : r8E3 C0 d a0 a1 a2 a3 a4 a5 a6 a7 a8 a9 a10 a11 a12 a13 a14 a15 x1 x2 x3 x4 b104 b105 b106 v107 v108 v109 v110 v111 v112 v113 v114 v115 v116 v117 v118 v119 v120 b121 b122 v123 v124 v125 v126 v127 v128 v129 v130 v131 v132 v133 v134 v135 b136 b137 v138 v139 v140 v141 v142 x173 x174 x175 x176 b177 b178 v179 v180 v181 v182 b183 b184 v185 v186 v187 v188 v189 v190 v191 v192 x221 x222 x223 x224 b225 b226 v227 v228 v229 b230 b231 v232 v233 v234 b235 b236 v237 v238 v239 v240 ⟨[(.agg [(.int .i64 a0), (.int .i64 a1), (.int .i64 a2), (.int .i64 a3)]), (.agg [(.int .i64 a4), (.int .i64 a5), (.int .i64 a6), (.int .i64 a7)]), (.agg [(.int .i64 a8), (.int .i64 a9), (.int .i64 a10), (.int .i64 a11)]), (.agg [(.int .i64 a12), (.int .i64 a13)]), (.int .i64 a14), (.int .i64 a15), (.ptr 0 0 0), (.ptr 1 0 0), (.ptr 2 0 0), (.ptr 3 0 0), (.tup []), (.tup []), (.bool b296), (.ptr 4 0 0), (.agg [(.int .i64 a0), (.int .i64 a1), (.int .i64 a2), (.int .i64 a3)]), (.agg [(.int .i64 a4), (.int .i64 a5), (.int .i64 a6), (.int .i64 a7)]), (.agg [(.int .i64 x1), (.int .i64 x2), (.int .i64 x3), (.int .i64 x4)]), (.bool b104), (.bool b105), (.bool b106), v107, v108, v109, v110, v111, v112, v113, v114, v115, v116, v117, v118, v119, v120, (.bool b121), (.bool b122), v123, v124, v125, v126, v127, v128, v129, v130, v131, v132, v133, v134, v135, (.bool b136), (.bool b137), v138, v139, v140, v141, v142, (.bool false), (.agg [(.int .i64 x173), (.int .i64 x174), (.int .i64 x175), (.int .i64 x176)]), (.bool b177), (.bool b178), v179, v180, v181, v182, (.bool b183), (.bool b184), v185, v186, v187, v188, v189, v190, v191, v192, (.bool false), (.agg [(.int .i64 x221), (.int .i64 x222), (.int .i64 x223), (.int .i64 x224)]), (.bool b225), (.bool b226), v227, v228, v229, (.bool b230), (.bool b231), v232, v233, v234, (.bool b235), (.bool b236), v237, v238, v239, v240, (.bool false), v297, v298, v299, v300, v301, v302, v303, v304, v305, v306, v307, v308, v309, v310, v311, v312, v313], [some ⟨E25, [(.agg [(.int .i64 a0), (.int .i64 a1), (.int .i64 a2), (.int .i64 a3)])]⟩, some ⟨E25, [(.agg [(.int .i64 a4), (.int .i64 a5), (.int .i64 a6), (.int .i64 a7)])]⟩, some ⟨E25, [(.agg [(.int .i64 a8), (.int .i64 a9), (.int .i64 a10), (.int .i64 a11)])]⟩, some ⟨E23, [(.agg [(.int .i64 a12), (.int .i64 a13)])]⟩, some ⟨E25, [(.agg [(.int .i64 x1), (.int .i64 x2), (.int .i64 x3), (.int .i64 x4)])]⟩]⟩ = E8_3 d a12 a13 a14 a15 b296 := by
  unfold r8E3; refine Eq.trans (pl_len (by rfl)) ?_; (iterate 12 (refine Eq.trans (pl_same (by rfl)) ?_)); refine Eq.trans (pl_bool (by rfl)) ?_; (iterate 80 (refine Eq.trans (pl_same (by rfl)) ?_)); (iterate 17 (refine Eq.trans (pl_any (by rfl)) ?_)); refine Eq.trans (pl_sameH) ?_
  rfl
noncomputable def L8_3 (d : Nat) (a12 a13 a14 a15 : Int) : Nat → Ans
  | 0 => none
  | n + 1 =>
  C0.bool (pcall M d 26 [(.agg [(.int .i64 a12), (.int .i64 a13)])]) fun b263 =>
   cnd (!b263)
   (X8_3_0 d a12 a13 a14 a15 true)
   (cnd (decide (a14 > a15))
   (X8_3_0 d a12 a13 a14 a15 true)
   (C0.agg 4 (pcall M d 14 [(.agg [(.int .i64 a12), (.int .i64 a13)]), (.int .i64 a14)]) fun l264 =>
   C0.int .i64 l264[0]? fun x265 =>
   C0.int .i64 l264[1]? fun x266 =>
   C0.int .i64 l264[2]? fun x267 =>
   C0.int .i64 l264[3]? fun x268 =>
   C0.agg 4 (pcall M d 14 [(.agg [(.int .i64 a12), (.int .i64 a13)]), (.int .i64 a15)]) fun l269 =>
   C0.int .i64 l269[0]? fun x270 =>
   C0.int .i64 l269[1]? fun x271 =>
   C0.int .i64 l269[2]? fun x272 =>
   C0.int .i64 l269[3]? fun x273 =>
   C0.bool (pcall M d 17 [(.agg [(.int .i64 x265), (.int .i64 x266), (.int .i64 x267), (.int .i64 x268)]), (.agg [(.int .i64 x270), (.int .i64 x271), (.int .i64 x272), (.int .i64 x273)])]) fun b274 =>
   X8_3_0 d a12 a13 a14 a15 b274))
theorem it8_3 (d : Nat) (a0 a1 a2 a3 a4 a5 a6 a7 a8 a9 a10 a11 a12 a13 a14 a15 x1 x2 x3 x4 : Int) (b104 b105 b106 : Bool) (v107 v108 v109 v110 v111 v112 v113 v114 v115 v116 v117 v118 v119 v120 : AV) (b121 b122 : Bool) (v123 v124 v125 v126 v127 v128 v129 v130 v131 v132 v133 v134 v135 : AV) (b136 b137 : Bool) (v138 v139 v140 v141 v142 : AV) (x173 x174 x175 x176 : Int) (b177 b178 : Bool) (v179 v180 v181 v182 : AV) (b183 b184 : Bool) (v185 v186 v187 v188 v189 v190 v191 v192 : AV) (x221 x222 x223 x224 : Int) (b225 b226 : Bool) (v227 v228 v229 : AV) (b230 b231 : Bool) (v232 v233 v234 : AV) (b235 b236 : Bool) (v237 v238 v239 v240 : AV)   : ∀ (n : Nat) (b245 : Bool) (v246 v247 v248 v249 v250 v251 v252 v253 v254 v255 v256 v257 v258 v259 v260 v261 v262 : AV), C0.iter (r8R3 C0 d a0 a1 a2 a3 a4 a5 a6 a7 a8 a9 a10 a11 a12 a13 a14 a15 x1 x2 x3 x4 b104 b105 b106 v107 v108 v109 v110 v111 v112 v113 v114 v115 v116 v117 v118 v119 v120 b121 b122 v123 v124 v125 v126 v127 v128 v129 v130 v131 v132 v133 v134 v135 b136 b137 v138 v139 v140 v141 v142 x173 x174 x175 x176 b177 b178 v179 v180 v181 v182 b183 b184 v185 v186 v187 v188 v189 v190 v191 v192 x221 x222 x223 x224 b225 b226 v227 v228 v229 b230 b231 v232 v233 v234 b235 b236 v237 v238 v239 v240) n ⟨[(.agg [(.int .i64 a0), (.int .i64 a1), (.int .i64 a2), (.int .i64 a3)]), (.agg [(.int .i64 a4), (.int .i64 a5), (.int .i64 a6), (.int .i64 a7)]), (.agg [(.int .i64 a8), (.int .i64 a9), (.int .i64 a10), (.int .i64 a11)]), (.agg [(.int .i64 a12), (.int .i64 a13)]), (.int .i64 a14), (.int .i64 a15), (.ptr 0 0 0), (.ptr 1 0 0), (.ptr 2 0 0), (.ptr 3 0 0), (.tup []), (.tup []), (.bool b245), (.ptr 4 0 0), (.agg [(.int .i64 a0), (.int .i64 a1), (.int .i64 a2), (.int .i64 a3)]), (.agg [(.int .i64 a4), (.int .i64 a5), (.int .i64 a6), (.int .i64 a7)]), (.agg [(.int .i64 x1), (.int .i64 x2), (.int .i64 x3), (.int .i64 x4)]), (.bool b104), (.bool b105), (.bool b106), v107, v108, v109, v110, v111, v112, v113, v114, v115, v116, v117, v118, v119, v120, (.bool b121), (.bool b122), v123, v124, v125, v126, v127, v128, v129, v130, v131, v132, v133, v134, v135, (.bool b136), (.bool b137), v138, v139, v140, v141, v142, (.bool false), (.agg [(.int .i64 x173), (.int .i64 x174), (.int .i64 x175), (.int .i64 x176)]), (.bool b177), (.bool b178), v179, v180, v181, v182, (.bool b183), (.bool b184), v185, v186, v187, v188, v189, v190, v191, v192, (.bool false), (.agg [(.int .i64 x221), (.int .i64 x222), (.int .i64 x223), (.int .i64 x224)]), (.bool b225), (.bool b226), v227, v228, v229, (.bool b230), (.bool b231), v232, v233, v234, (.bool b235), (.bool b236), v237, v238, v239, v240, (.bool false), v246, v247, v248, v249, v250, v251, v252, v253, v254, v255, v256, v257, v258, v259, v260, v261, v262], [some ⟨E25, [(.agg [(.int .i64 a0), (.int .i64 a1), (.int .i64 a2), (.int .i64 a3)])]⟩, some ⟨E25, [(.agg [(.int .i64 a4), (.int .i64 a5), (.int .i64 a6), (.int .i64 a7)])]⟩, some ⟨E25, [(.agg [(.int .i64 a8), (.int .i64 a9), (.int .i64 a10), (.int .i64 a11)])]⟩, some ⟨E23, [(.agg [(.int .i64 a12), (.int .i64 a13)])]⟩, some ⟨E25, [(.agg [(.int .i64 x1), (.int .i64 x2), (.int .i64 x3), (.int .i64 x4)])]⟩]⟩ [2000000] [r8X3_0 C0 d a0 a1 a2 a3 a4 a5 a6 a7 a8 a9 a10 a11 a12 a13 a14 a15 x1 x2 x3 x4 b104 b105 b106 v107 v108 v109 v110 v111 v112 v113 v114 v115 v116 v117 v118 v119 v120 b121 b122 v123 v124 v125 v126 v127 v128 v129 v130 v131 v132 v133 v134 v135 b136 b137 v138 v139 v140 v141 v142 x173 x174 x175 x176 b177 b178 v179 v180 v181 v182 b183 b184 v185 v186 v187 v188 v189 v190 v191 v192 x221 x222 x223 x224 b225 b226 v227 v228 v229 b230 b231 v232 v233 v234 b235 b236 v237 v238 v239 v240] (r8E3 C0 d a0 a1 a2 a3 a4 a5 a6 a7 a8 a9 a10 a11 a12 a13 a14 a15 x1 x2 x3 x4 b104 b105 b106 v107 v108 v109 v110 v111 v112 v113 v114 v115 v116 v117 v118 v119 v120 b121 b122 v123 v124 v125 v126 v127 v128 v129 v130 v131 v132 v133 v134 v135 b136 b137 v138 v139 v140 v141 v142 x173 x174 x175 x176 b177 b178 v179 v180 v181 v182 b183 b184 v185 v186 v187 v188 v189 v190 v191 v192 x221 x222 x223 x224 b225 b226 v227 v228 v229 b230 b231 v232 v233 v234 b235 b236 v237 v238 v239 v240) = L8_3 d a12 a13 a14 a15 n  := by
  generalize hR : r8R3 C0 d a0 a1 a2 a3 a4 a5 a6 a7 a8 a9 a10 a11 a12 a13 a14 a15 x1 x2 x3 x4 b104 b105 b106 v107 v108 v109 v110 v111 v112 v113 v114 v115 v116 v117 v118 v119 v120 b121 b122 v123 v124 v125 v126 v127 v128 v129 v130 v131 v132 v133 v134 v135 b136 b137 v138 v139 v140 v141 v142 x173 x174 x175 x176 b177 b178 v179 v180 v181 v182 b183 b184 v185 v186 v187 v188 v189 v190 v191 v192 x221 x222 x223 x224 b225 b226 v227 v228 v229 b230 b231 v232 v233 v234 b235 b236 v237 v238 v239 v240 = R
  intro n
  induction n with
  | zero => intros; rfl
  | succ n ih =>
    intro b245 v246 v247 v248 v249 v250 v251 v252 v253 v254 v255 v256 v257 v258 v259 v260 v261 v262
    simp only [it_ret] at ih
    rw [it_ret, xiter_s]
    refine Eq.trans (congrFun (congrFun hR.symm _) _) ?_
    unfold r8R3
    refine Eq.trans (pl_len (by rfl)) ?_; (iterate 12 (refine Eq.trans (pl_same (by rfl)) ?_)); refine Eq.trans (pl_bool (by rfl)) ?_; (iterate 80 (refine Eq.trans (pl_same (by rfl)) ?_)); (iterate 17 (refine Eq.trans (pl_any (by rfl)) ?_)); refine Eq.trans (pl_sameH) ?_
    simp only [L8_3, kIter_n, kIter_x, kIter_r, kOut_x, kOut_r, xgo_hit, xgo_miss, ih, X8_3_0_ok d a0 a1 a2 a3 a4 a5 a6 a7 a8 a9 a10 a11 a12 a13 a14 a15 x1 x2 x3 x4 b104 b105 b106 v107 v108 v109 v110 v111 v112 v113 v114 v115 v116 v117 v118 v119 v120 b121 b122 v123 v124 v125 v126 v127 v128 v129 v130 v131 v132 v133 v134 v135 b136 b137 v138 v139 v140 v141 v142 x173 x174 x175 x176 b177 b178 v179 v180 v181 v182 b183 b184 v185 v186 v187 v188 v189 v190 v191 v192 x221 x222 x223 x224 b225 b226 v227 v228 v229 b230 b231 v232 v233 v234 b235 b236 v237 v238 v239 v240  , E8_3_ok d a0 a1 a2 a3 a4 a5 a6 a7 a8 a9 a10 a11 a12 a13 a14 a15 x1 x2 x3 x4 b104 b105 b106 v107 v108 v109 v110 v111 v112 v113 v114 v115 v116 v117 v118 v119 v120 b121 b122 v123 v124 v125 v126 v127 v128 v129 v130 v131 v132 v133 v134 v135 b136 b137 v138 v139 v140 v141 v142 x173 x174 x175 x176 b177 b178 v179 v180 v181 v182 b183 b184 v185 v186 v187 v188 v189 v190 v191 v192 x221 x222 x223 x224 b225 b226 v227 v228 v229 b230 b231 v232 v233 v234 b235 b236 v237 v238 v239 v240  ]
noncomputable def X8_2_0 (d : Nat) (a0 a1 a2 a3 a4 a5 a6 a7 a8 a9 a10 a11 a12 a13 a14 a15 x1 x2 x3 x4 : Int) (b241 : Bool) : Ans :=
  cnd b241
   (some (.bool false))
   (L8_3 d a12 a13 a14 a15 1)
theorem X8_2_0_ok (d : Nat) (a0 a1 a2 a3 a4 a5 a6 a7 a8 a9 a10 a11 a12 a13 a14 a15 x1 x2 x3 x4 : Int) (b104 b105 b106 : Bool) (v107 v108 v109 v110 v111 v112 v113 v114 v115 v116 v117 v118 v119 v120 : AV) (b121 b122 : Bool) (v123 v124 v125 v126 v127 v128 v129 v130 v131 v132 v133 v134 v135 : AV) (b136 b137 : Bool) (v138 v139 v140 v141 v142 : AV) (x173 x174 x175 x176 : Int) (b177 b178 : Bool) (v179 v180 v181 v182 : AV) (b183 b184 : Bool) (v185 v186 v187 v188 v189 v190 v191 v192 : AV) (x221 x222 x223 x224 : Int) (b225 b226 : Bool) (v227 v228 v229 : AV) (b230 b231 : Bool) (v232 v233 v234 : AV) (b235 b236 : Bool) (v237 v238 v239 v240 : AV) (b241 : Bool) : r8X2_0 C0 d a0 a1 a2 a3 a4 a5 a6 a7 a8 a9 a10 a11 a12 a13 a14 a15 x1 x2 x3 x4 b104 b105 b106 v107 v108 v109 v110 v111 v112 v113 v114 v115 v116 v117 v118 v119 v120 b121 b122 v123 v124 v125 v126 v127 v128 v129 v130 v131 v132 v133 v134 v135 b136 b137 v138 v139 v140 v141 v142 x173 x174 x175 x176 b177 b178 v179 v180 v181 v182 b183 b184 v185 v186 v187 v188 v189 v190 v191 v192 ⟨[(.agg [(.int .i64 a0), (.int .i64 a1), (.int .i64 a2), (.int .i64 a3)]), (.agg [(.int .i64 a4), (.int .i64 a5), (.int .i64 a6), (.int .i64 a7)]), (.agg [(.int .i64 a8), (.int .i64 a9), (.int .i64 a10), (.int .i64 a11)]), (.agg [(.int .i64 a12), (.int .i64 a13)]), (.int .i64 a14), (.int .i64 a15), (.ptr 0 0 0), (.ptr 1 0 0), (.ptr 2 0 0), (.ptr 3 0 0), (.tup []), (.tup []), (.bool false), (.ptr 4 0 0), (.agg [(.int .i64 a0), (.int .i64 a1), (.int .i64 a2), (.int .i64 a3)]), (.agg [(.int .i64 a4), (.int .i64 a5), (.int .i64 a6), (.int .i64 a7)]), (.agg [(.int .i64 x1), (.int .i64 x2), (.int .i64 x3), (.int .i64 x4)]), (.bool b104), (.bool b105), (.bool b106), v107, v108, v109, v110, v111, v112, v113, v114, v115, v116, v117, v118, v119, v120, (.bool b121), (.bool b122), v123, v124, v125, v126, v127, v128, v129, v130, v131, v132, v133, v134, v135, (.bool b136), (.bool b137), v138, v139, v140, v141, v142, (.bool false), (.agg [(.int .i64 x173), (.int .i64 x174), (.int .i64 x175), (.int .i64 x176)]), (.bool b177), (.bool b178), v179, v180, v181, v182, (.bool b183), (.bool b184), v185, v186, v187, v188, v189, v190, v191, v192, (.bool false), (.agg [(.int .i64 x221), (.int .i64 x222), (.int .i64 x223), (.int .i64 x224)]), (.bool b225), (.bool b226), v227, v228, v229, (.bool b230), (.bool b231), v232, v233, v234, (.bool b235), (.bool b236), v237, v238, v239, v240, (.bool b241), (.tup []), (.tup []), (.tup []), (.tup []), (.tup []), (.tup []), (.tup []), (.tup []), (.tup []), (.tup []), (.tup []), (.tup []), (.tup []), (.tup []), (.tup []), (.tup []), (.tup [])], [some ⟨E25, [(.agg [(.int .i64 a0), (.int .i64 a1), (.int .i64 a2), (.int .i64 a3)])]⟩, some ⟨E25, [(.agg [(.int .i64 a4), (.int .i64 a5), (.int .i64 a6), (.int .i64 a7)])]⟩, some ⟨E25, [(.agg [(.int .i64 a8), (.int .i64 a9), (.int .i64 a10), (.int .i64 a11)])]⟩, some ⟨E23, [(.agg [(.int .i64 a12), (.int .i64 a13)])]⟩, some ⟨E25, [(.agg [(.int .i64 x1), (.int .i64 x2), (.int .i64 x3), (.int .i64 x4)])]⟩]⟩ = X8_2_0 d a0 a1 a2 a3 a4 a5 a6 a7 a8 a9 a10 a11 a12 a13 a14 a15 x1 x2 x3 x4 b241 := by
  unfold r8X2_0; refine Eq.trans (pl_len (by rfl)) ?_; (iterate 75 (refine Eq.trans (pl_same (by rfl)) ?_)); refine Eq.trans (pl_agg (by rfl) (by rfl)) ?_; (iterate 4 (refine Eq.trans (pl_int (by rfl)) ?_)); (iterate 2 (refine Eq.trans (pl_bool (by rfl)) ?_)); (iterate 3 (refine Eq.trans (pl_any (by rfl)) ?_)); (iterate 2 (refine Eq.trans (pl_bool (by rfl)) ?_)); (iterate 3 (refine Eq.trans (pl_any (by rfl)) ?_)); (iterate 2 (refine Eq.trans (pl_bool (by rfl)) ?_)); (iterate 4 (refine Eq.trans (pl_any (by rfl)) ?_)); refine Eq.trans (pl_bool (by rfl)) ?_; (iterate 17 (refine Eq.trans (pl_same (by rfl)) ?_)); refine Eq.trans (pl_sameH) ?_
  first | rfl | (simp only [it8_3] <;> rfl)
noncomputable def E8_2 (d : Nat) (a0 a1 a2 a3 a4 a5 a6 a7 a8 a9 a10 a11 a12 a13 a14 a15 x1 x2 x3 x4 : Int)  : Ans :=
  some (.bool false)
theorem E8_2_ok (d : Nat) (a0 a1 a2 a3 a4 a5 a6 a7 a8 a9 a10 a11 a12 a13 a14 a15 x1 x2 x3 x4 : Int) (b104 b105 b106 : Bool) (v107 v108 v109 v110 v111 v112 v113 v114 v115 v116 v117 v118 v119 v120 : AV) (b121 b122 : Bool) (v123 v124 v125 v126 v127 v128 v129 v130 v131 v132 v133 v134 v135 : AV) (b136 b137 : Bool) (v138 v139 v140 v141 v142 : AV) (x173 x174 x175 x176 : Int) (b177 b178 : Bool) (v179 v180 v181 v182 : AV) (b183 b184 : Bool) (v185 v186 v187 v188 v189 v190 v191 v192 v314 v315 v316 v317 v318 v319 v320 v321 v322 v323 v324 v325 v326 v327 v328 v329 v330 v331 : AV) : r8E2 C0 d a0 a1 a2 a3 a4 a5 a6 a7 a8 a9 a10 a11 a12 a13 a14 a15 x1 x2 x3 x4 b104 b105 b106 v107 v108 v109 v110 v111 v112 v113 v114 v115 v116 v117 v118 v119 v120 b121 b122 v123 v124 v125 v126 v127 v128 v129 v130 v131 v132 v133 v134 v135 b136 b137 v138 v139 v140 v141 v142 x173 x174 x175 x176 b177 b178 v179 v180 v181 v182 b183 b184 v185 v186 v187 v188 v189 v190 v191 v192 ⟨[(.agg [(.int .i64 a0), (.int .i64 a1), (.int .i64 a2), (.int .i64 a3)]), (.agg [(.int .i64 a4), (.int .i64 a5), (.int .i64 a6), (.int .i64 a7)]), (.agg [(.int .i64 a8), (.int .i64 a9), (.int .i64 a10), (.int .i64 a11)]), (.agg [(.int .i64 a12), (.int .i64 a13)]), (.int .i64 a14), (.int .i64 a15), (.ptr 0 0 0), (.ptr 1 0 0), (.ptr 2 0 0), (.ptr 3 0 0), (.tup []), (.tup []), (.bool false), (.ptr 4 0 0), (.agg [(.int .i64 a0), (.int .i64 a1), (.int .i64 a2), (.int .i64 a3)]), (.agg [(.int .i64 a4), (.int .i64 a5), (.int .i64 a6), (.int .i64 a7)]), (.agg [(.int .i64 x1), (.int .i64 x2), (.int .i64 x3), (.int .i64 x4)]), (.bool b104), (.bool b105), (.bool b106), v107, v108, v109, v110, v111, v112, v113, v114, v115, v116, v117, v118, v119, v120, (.bool b121), (.bool b122), v123, v124, v125, v126, v127, v128, v129, v130, v131, v132, v133, v134, v135, (.bool b136), (.bool b137), v138, v139, v140, v141, v142, (.bool false), (.agg [(.int .i64 x173), (.int .i64 x174), (.int .i64 x175), (.int .i64 x176)]), (.bool b177), (.bool b178), v179, v180, v181, v182, (.bool b183), (.bool b184), v185, v186, v187, v188, v189, v190, v191, v192, (.bool false), v314, v315, v316, v317, v318, v319, v320, v321, v322, v323, v324, v325, v326, v327, v328, v329, v330, v331, (.tup []), (.tup []), (.tup []), (.tup []), (.tup []), (.tup []), (.tup []), (.tup []), (.tup []), (.tup []), (.tup []), (.tup []), (.tup []), (.tup []), (.tup []), (.tup []), (.tup [])], [some ⟨E25, [(.agg [(.int .i64 a0), (.int .i64 a1), (.int .i64 a2), (.int .i64 a3)])]⟩, some ⟨E25, [(.agg [(.int .i64 a4), (.int .i64 a5), (.int .i64 a6), (.int .i64 a7)])]⟩, some ⟨E25, [(.agg [(.int .i64 a8), (.int .i64 a9), (.int .i64 a10), (.int .i64 a11)])]⟩, some ⟨E23, [(.agg [(.int .i64 a12), (.int .i64 a13)])]⟩, some ⟨E25, [(.agg [(.int .i64 x1), (.int .i64 x2), (.int .i64 x3), (.int .i64 x4)])]⟩]⟩ = E8_2 d a0 a1 a2 a3 a4 a5 a6 a7 a8 a9 a10 a11 a12 a13 a14 a15 x1 x2 x3 x4  := by
  unfold r8E2; refine Eq.trans (pl_len (by rfl)) ?_; (iterate 75 (refine Eq.trans (pl_same (by rfl)) ?_)); (iterate 18 (refine Eq.trans (pl_any (by rfl)) ?_)); (iterate 17 (refine Eq.trans (pl_same (by rfl)) ?_)); refine Eq.trans (pl_sameH) ?_
  rfl
noncomputable def L8_2 (d : Nat) (a0 a1 a2 a3 a4 a5 a6 a7 a8 a9 a10 a11 a12 a13 a14 a15 x1 x2 x3 x4 : Int) : Nat → Ans
  | 0 => none
  | n + 1 =>
  C0.bool (pcall M d 13 [(.agg [(.int .i64 a8), (.int .i64 a9), (.int .i64 a10), (.int .i64 a11)])]) fun b215 =>
   cnd b215
   (C0.bool (pcall M d 17 [(.agg [(.int .i64 a0), (.int .i64 a1), (.int .i64 a2), (.int .i64 a3)]), (.agg [(.int .i64 a8), (.int .i64 a9), (.int .i64 a10), (.int .i64 a11)])]) fun b216 =>
   cnd b216
   (C0.bool (pcall M d 17 [(.agg [(.int .i64 a4), (.int .i64 a5), (.int .i64 a6), (.int .i64 a7)]), (.agg [(.int .i64 a8), (.int .i64 a9), (.int .i64 a10), (.int .i64 a11)])]) fun b217 =>
   cnd b217
   (C0.bool (pcall M d 17 [(.agg [(.int .i64 x1), (.int .i64 x2), (.int .i64 x3), (.int .i64 x4)]), (.agg [(.int .i64 a8), (.int .i64 a9), (.int .i64 a10), (.int .i64 a11)])]) fun b218 =>
   X8_2_0 d a0 a1 a2 a3 a4 a5 a6 a7 a8 a9 a10 a11 a12 a13 a14 a15 x1 x2 x3 x4 (!b218))
   (X8_2_0 d a0 a1 a2 a3 a4 a5 a6 a7 a8 a9 a10 a11 a12 a13 a14 a15 x1 x2 x3 x4 false))
   (X8_2_0 d a0 a1 a2 a3 a4 a5 a6 a7 a8 a9 a10 a11 a12 a13 a14 a15 x1 x2 x3 x4 false))
   (X8_2_0 d a0 a1 a2 a3 a4 a5 a6 a7 a8 a9 a10 a11 a12 a13 a14 a15 x1 x2 x3 x4 false)
theorem it8_2 (d : Nat) (a0 a1 a2 a3 a4 a5 a6 a7 a8 a9 a10 a11 a12 a13 a14 a15 x1 x2 x3 x4 : Int) (b104 b105 b106 : Bool) (v107 v108 v109 v110 v111 v112 v113 v114 v115 v116 v117 v118 v119 v120 : AV) (b121 b122 : Bool) (v123 v124 v125 v126 v127 v128 v129 v130 v131 v132 v133 v134 v135 : AV) (b136 b137 : Bool) (v138 v139 v140 v141 v142 : AV) (x173 x174 x175 x176 : Int) (b177 b178 : Bool) (v179 v180 v181 v182 : AV) (b183 b184 : Bool) (v185 v186 v187 v188 v189 v190 v191 v192 : AV)   : ∀ (n : Nat) (v197 v198 v199 v200 v201 v202 v203 v204 v205 v206 v207 v208 v209 v210 v211 v212 v213 v214 : AV), C0.iter (r8R2 C0 d a0 a1 a2 a3 a4 a5 a6 a7 a8 a9 a10 a11 a12 a13 a14 a15 x1 x2 x3 x4 b104 b105 b106 v107 v108 v109 v110 v111 v112 v113 v114 v115 v116 v117 v118 v119 v120 b121 b122 v123 v124 v125 v126 v127 v128 v129 v130 v131 v132 v133 v134 v135 b136 b137 v138 v139 v140 v141 v142 x173 x174 x175 x176 b177 b178 v179 v180 v181 v182 b183 b184 v185 v186 v187 v188 v189 v190 v191 v192) n ⟨[(.agg [(.int .i64 a0), (.int .i64 a1), (.int .i64 a2), (.int .i64 a3)]), (.agg [(.int .i64 a4), (.int .i64 a5), (.int .i64 a6), (.int .i64 a7)]), (.agg [(.int .i64 a8), (.int .i64 a9), (.int .i64 a10), (.int .i64 a11)]), (.agg [(.int .i64 a12), (.int .i64 a13)]), (.int .i64 a14), (.int .i64 a15), (.ptr 0 0 0), (.ptr 1 0 0), (.ptr 2 0 0), (.ptr 3 0 0), (.tup []), (.tup []), (.bool false), (.ptr 4 0 0), (.agg [(.int .i64 a0), (.int .i64 a1), (.int .i64 a2), (.int .i64 a3)]), (.agg [(.int .i64 a4), (.int .i64 a5), (.int .i64 a6), (.int .i64 a7)]), (.agg [(.int .i64 x1), (.int .i64 x2), (.int .i64 x3), (.int .i64 x4)]), (.bool b104), (.bool b105), (.bool b106), v107, v108, v109, v110, v111, v112, v113, v114, v115, v116, v117, v118, v119, v120, (.bool b121), (.bool b122), v123, v124, v125, v126, v127, v128, v129, v130, v131, v132, v133, v134, v135, (.bool b136), (.bool b137), v138, v139, v140, v141, v142, (.bool false), (.agg [(.int .i64 x173), (.int .i64 x174), (.int .i64 x175), (.int .i64 x176)]), (.bool b177), (.bool b178), v179, v180, v181, v182, (.bool b183), (.bool b184), v185, v186, v187, v188, v189, v190, v191, v192, (.bool false), v197, v198, v199, v200, v201, v202, v203, v204, v205, v206, v207, v208, v209, v210, v211, v212, v213, v214, (.tup []), (.tup []), (.tup []), (.tup []), (.tup []), (.tup []), (.tup []), (.tup []), (.tup []), (.tup []), (.tup []), (.tup []), (.tup []), (.tup []), (.tup []), (.tup []), (.tup [])], [some ⟨E25, [(.agg [(.int .i64 a0), (.int .i64 a1), (.int .i64 a2), (.int .i64 a3)])]⟩, some ⟨E25, [(.agg [(.int .i64 a4), (.int .i64 a5), (.int .i64 a6), (.int .i64 a7)])]⟩, some ⟨E25, [(.agg [(.int .i64 a8), (.int .i64 a9), (.int .i64 a10), (.int .i64 a11)])]⟩, some ⟨E23, [(.agg [(.int .i64 a12), (.int .i64 a13)])]⟩, some ⟨E25, [(.agg [(.int .i64 x1), (.int .i64 x2), (.int .i64 x3), (.int .i64 x4)])]⟩]⟩ [2000000] [r8X2_0 C0 d a0 a1 a2 a3 a4 a5 a6 a7 a8 a9 a10 a11 a12 a13 a14 a15 x1 x2 x3 x4 b104 b105 b106 v107 v108 v109 v110 v111 v112 v113 v114 v115 v116 v117 v118 v119 v120 b121 b122 v123 v124 v125 v126 v127 v128 v129 v130 v131 v132 v133 v134 v135 b136 b137 v138 v139 v140 v141 v142 x173 x174 x175 x176 b177 b178 v179 v180 v181 v182 b183 b184 v185 v186 v187 v188 v189 v190 v191 v192] (r8E2 C0 d a0 a1 a2 a3 a4 a5 a6 a7 a8 a9 a10 a11 a12 a13 a14 a15 x1 x2 x3 x4 b104 b105 b106 v107 v108 v109 v110 v111 v112 v113 v114 v115 v116 v117 v118 v119 v120 b121 b122 v123 v124 v125 v126 v127 v128 v129 v130 v131 v132 v133 v134 v135 b136 b137 v138 v139 v140 v141 v142 x173 x174 x175 x176 b177 b178 v179 v180 v181 v182 b183 b184 v185 v186 v187 v188 v189 v190 v191 v192) = L8_2 d a0 a1 a2 a3 a4 a5 a6 a7 a8 a9 a10 a11 a12 a13 a14 a15 x1 x2 x3 x4 n  := by
  generalize hR : r8R2 C0 d a0 a1 a2 a3 a4 a5 a6 a7 a8 a9 a10 a11 a12 a13 a14 a15 x1 x2 x3 x4 b104 b105 b106 v107 v108 v109 v110 v111 v112 v113 v114 v115 v116 v117 v118 v119 v120 b121 b122 v123 v124 v125 v126 v127 v128 v129 v130 v131 v132 v133 v134 v135 b136 b137 v138 v139 v140 v141 v142 x173 x174 x175 x176 b177 b178 v179 v180 v181 v182 b183 b184 v185 v186 v187 v188 v189 v190 v191 v192 = R
  intro n
  induction n with
  | zero => intros; rfl
  | succ n ih =>
    intro v197 v198 v199 v200 v201 v202 v203 v204 v205 v206 v207 v208 v209 v210 v211 v212 v213 v214
    simp only [it_ret] at ih
    rw [it_ret, xiter_s]
    refine Eq.trans (congrFun (congrFun hR.symm _) _) ?_
    unfold r8R2
    refine Eq.trans (pl_len (by rfl)) ?_; (iterate 75 (refine Eq.trans (pl_same (by rfl)) ?_)); (iterate 18 (refine Eq.trans (pl_any (by rfl)) ?_)); (iterate 17 (refine Eq.trans (pl_same (by rfl)) ?_)); refine Eq.trans (pl_sameH) ?_
    simp only [L8_2, kIter_n, kIter_x, kIter_r, kOut_x, kOut_r, xgo_hit, xgo_miss, ih, X8_2_0_ok d a0 a1 a2 a3 a4 a5 a6 a7 a8 a9 a10 a11 a12 a13 a14 a15 x1 x2 x3 x4 b104 b105 b106 v107 v108 v109 v110 v111 v112 v113 v114 v115 v116 v117 v118 v119 v120 b121 b122 v123 v124 v125 v126 v127 v128 v129 v130 v131 v132 v133 v134 v135 b136 b137 v138 v139 v140 v141 v142 x173 x174 x175 x176 b177 b178 v179 v180 v181 v182 b183 b184 v185 v186 v187 v188 v189 v190 v191 v192  , E8_2_ok d a0 a1 a2 a3 a4 a5 a6 a7 a8 a9 a10 a11 a12 a13 a14 a15 x1 x2 x3 x4 b104 b105 b106 v107 v108 v109 v110 v111 v112 v113 v114 v115 v116 v117 v118 v119 v120 b121 b122 v123 v124 v125 v126 v127 v128 v129 v130 v131 v132 v133 v134 v135 b136 b137 v138 v139 v140 v141 v142 x173 x174 x175 x176 b177 b178 v179 v180 v181 v182 b183 b184 v185 v186 v187 v188 v189 v190 v191 v192  ]
noncomputable def X8_1_0 (d : Nat) (a0 a1 a2 a3 a4 a5 a6 a7 a8 a9 a10 a11 a12 a13 a14 a15 x1 x2 x3 x4 : Int) (b193 : Bool) : Ans :=
  cnd b193
   (some (.bool false))
   (L8_2 d a0 a1 a2 a3 a4 a5 a6 a7 a8 a9 a10 a11 a12 a13 a14 a15 x1 x2 x3 x4 1)
theorem X8_1_0_ok (d : Nat) (a0 a1 a2 a3 a4 a5 a6 a7 a8 a9 a10 a11 a12 a13 a14 a15 x1 x2 x3 x4 : Int) (b104 b105 b106 : Bool) (v107 v108 v109 v110 v111 v112 v113 v114 v115 v116 v117 v118 v119 v120 : AV) (b121 b122 : Bool) (v123 v124 v125 v126 v127 v128 v129 v130 v131 v132 v133 v134 v135 : AV) (b136 b137 : Bool) (v138 v139 v140 v141 v142 : AV) (x173 x174 x175 x176 : Int) (b177 b178 : Bool) (v179 v180 v181 v182 : AV) (b183 b184 : Bool) (v185 v186 v187 v188 v189 v190 v191 v192 : AV) (b193 : Bool) : r8X1_0 C0 d a0 a1 a2 a3 a4 a5 a6 a7 a8 a9 a10 a11 a12 a13 a14 a15 x1 x2 x3 x4 b104 b105 b106 v107 v108 v109 v110 v111 v112 v113 v114 v115 v116 v117 v118 v119 v120 b121 b122 v123 v124 v125 v126 v127 v128 v129 v130 v131 v132 v133 v134 v135 b136 b137 v138 v139 v140 v141 v142 ⟨[(.agg [(.int .i64 a0), (.int .i64 a1), (.int .i64 a2), (.int .i64 a3)]), (.agg [(.int .i64 a4), (.int .i64 a5), (.int .i64 a6), (.int .i64 a7)]), (.agg [(.int .i64 a8), (.int .i64 a9), (.int .i64 a10), (.int .i64 a11)]), (.agg [(.int .i64 a12), (.int .i64 a13)]), (.int .i64 a14), (.int .i64 a15), (.ptr 0 0 0), (.ptr 1 0 0), (.ptr 2 0 0), (.ptr 3 0 0), (.tup []), (.tup []), (.bool false), (.ptr 4 0 0), (.agg [(.int .i64 a0), (.int .i64 a1), (.int .i64 a2), (.int .i64 a3)]), (.agg [(.int .i64 a4), (.int .i64 a5), (.int .i64 a6), (.int .i64 a7)]), (.agg [(.int .i64 x1), (.int .i64 x2), (.int .i64 x3), (.int .i64 x4)]), (.bool b104), (.bool b105), (.bool b106), v107, v108, v109, v110, v111, v112, v113, v114, v115, v116, v117, v118, v119, v120, (.bool b121), (.bool b122), v123, v124, v125, v126, v127, v128, v129, v130, v131, v132, v133, v134, v135, (.bool b136), (.bool b137), v138, v139, v140, v141, v142, (.bool false), (.agg [(.int .i64 x173), (.int .i64 x174), (.int .i64 x175), (.int .i64 x176)]), (.bool b177), (.bool b178), v179, v180, v181, v182, (.bool b183), (.bool b184), v185, v186, v187, v188, v189, v190, v191, v192, (.bool b193), (.tup []), (.tup []), (.tup []), (.tup []), (.tup []), (.tup []), (.tup []), (.tup []), (.tup []), (.tup []), (.tup []), (.tup []), (.tup []), (.tup []), (.tup []), (.tup []), (.tup []), (.tup []), (.tup []), (.tup []), (.tup []), (.tup []), (.tup []), (.tup []), (.tup []), (.tup []), (.tup []), (.tup []), (.tup []), (.tup []), (.tup []), (.tup []), (.tup []), (.tup []), (.tup [])], [some ⟨E25, [(.agg [(.int .i64 a0), (.int .i64 a1), (.int .i64 a2), (.int .i64 a3)])]⟩, some ⟨E25, [(.agg [(.int .i64 a4), (.int .i64 a5), (.int .i64 a6), (.int .i64 a7)])]⟩, some ⟨E25, [(.agg [(.int .i64 a8), (.int .i64 a9), (.int .i64 a10), (.int .i64 a11)])]⟩, some ⟨E23, [(.agg [(.int .i64 a12), (.int .i64 a13)])]⟩, some ⟨E25, [(.agg [(.int .i64 x1), (.int .i64 x2), (.int .i64 x3), (.int .i64 x4)])]⟩]⟩ = X8_1_0 d a0 a1 a2 a3 a4 a5 a6 a7 a8 a9 a10 a11 a12 a13 a14 a15 x1 x2 x3 x4 b193 := by
  unfold r8X1_0; refine Eq.trans (pl_len (by rfl)) ?_; (iterate 57 (refine Eq.trans (pl_same (by rfl)) ?_)); refine Eq.trans (pl_agg (by rfl) (by rfl)) ?_; (iterate 4 (refine Eq.trans (pl_int (by rfl)) ?_)); (iterate 2 (refine Eq.trans (pl_bool (by rfl)) ?_)); (iterate 4 (refine Eq.trans (pl_any (by rfl)) ?_)); (iterate 2 (refine Eq.trans (pl_bool (by rfl)) ?_)); (iterate 8 (refine Eq.trans (pl_any (by rfl)) ?_)); refine Eq.trans (pl_bool (by rfl)) ?_; (iterate 35 (refine Eq.trans (pl_same (by rfl)) ?_)); refine Eq.trans (pl_sameH) ?_
  first | rfl | (simp only [it8_2] <;> rfl)
noncomputable def E8_1 (d : Nat) (a0 a1 a2 a3 a4 a5 a6 a7 a8 a9 a10 a11 a12 a13 a14 a15 x1 x2 x3 x4 : Int)  : Ans :=
  some (.bool false)
theorem E8_1_ok (d : Nat) (a0 a1 a2 a3 a4 a5 a6 a7 a8 a9 a10 a11 a12 a13 a14 a15 x1 x2 x3 x4 : Int) (b104 b105 b106 : Bool) (v107 v108 v109 v110 v111 v112 v113 v114 v115 v116 v117 v118 v119 v120 : AV) (b121 b122 : Bool) (v123 v124 v125 v126 v127 v128 v129 v130 v131 v132 v133 v134 v135 : AV) (b136 b137 : Bool) (v138 v139 v140 v141 v142 v332 v333 v334 v335 v336 v337 v338 v339 v340 v341 v342 v343 v344 v345 v346 v347 v348 v349 : AV) : r8E1 C0 d a0 a1 a2 a3 a4 a5 a6 a7 a8 a9 a10 a11 a12 a13 a14 a15 x1 x2 x3 x4 b104 b105 b106 v107 v108 v109 v110 v111 v112 v113 v114 v115 v116 v117 v118 v119 v120 b121 b122 v123 v124 v125 v126 v127 v128 v129 v130 v131 v132 v133 v134 v135 b136 b137 v138 v139 v140 v141 v142 ⟨[(.agg [(.int .i64 a0), (.int .i64 a1), (.int .i64 a2), (.int .i64 a3)]), (.agg [(.int .i64 a4), (.int .i64 a5), (.int .i64 a6), (.int .i64 a7)]), (.agg [(.int .i64 a8), (.int .i64 a9), (.int .i64 a10), (.int .i64 a11)]), (.agg [(.int .i64 a12), (.int .i64 a13)]), (.int .i64 a14), (.int .i64 a15), (.ptr 0 0 0), (.ptr 1 0 0), (.ptr 2 0 0), (.ptr 3 0 0), (.tup []), (.tup []), (.bool false), (.ptr 4 0 0), (.agg [(.int .i64 a0), (.int .i64 a1), (.int .i64 a2), (.int .i64 a3)]), (.agg [(.int .i64 a4), (.int .i64 a5), (.int .i64 a6), (.int .i64 a7)]), (.agg [(.int .i64 x1), (.int .i64 x2), (.int .i64 x3), (.int .i64 x4)]), (.bool b104), (.bool b105), (.bool b106), v107, v108, v109, v110, v111, v112, v113, v114, v115, v116, v117, v118, v119, v120, (.bool b121), (.bool b122), v123, v124, v125, v126, v127, v128, v129, v130, v131, v132, v133, v134, v135, (.bool b136), (.bool b137), v138, v139, v140, v141, v142, (.bool false), v332, v333, v334, v335, v336, v337, v338, v339, v340, v341, v342, v343, v344, v345, v346, v347, v348, v349, (.tup []), (.tup []), (.tup []), (.tup []), (.tup []), (.tup []), (.tup []), (.tup []), (.tup []), (.tup []), (.tup []), (.tup []), (.tup []), (.tup []), (.tup []), (.tup []), (.tup []), (.tup []), (.tup []), (.tup []), (.tup []), (.tup []), (.tup []), (.tup []), (.tup []), (.tup []), (.tup []), (.tup []), (.tup []), (.tup []), (.tup []), (.tup []), (.tup []), (.tup []), (.tup [])], [some ⟨E25, [(.agg [(.int .i64 a0), (.int .i64 a1), (.int .i64 a2), (.int .i64 a3)])]⟩, some ⟨E25, [(.agg [(.int .i64 a4), (.int .i64 a5), (.int .i64 a6), (.int .i64 a7)])]⟩, some ⟨E25, [(.agg [(.int .i64 a8), (.int .i64 a9), (.int .i64 a10), (.int .i64 a11)])]⟩, some ⟨E23, [(.agg [(.int .i64 a12), (.int .i64 a13)])]⟩, some ⟨E25, [(.agg [(.int .i64 x1), (.int .i64 x2), (.int .i64 x3), (.int .i64 x4)])]⟩]⟩ = E8_1 d a0 a1 a2 a3 a4 a5 a6 a7 a8 a9 a10 a11 a12 a13 a14 a15 x1 x2 x3 x4  := by
  unfold r8E1; refine Eq.trans (pl_len (by rfl)) ?_; (iterate 57 (refine Eq.trans (pl_same (by rfl)) ?_)); (iterate 18 (refine Eq.trans (pl_any (by rfl)) ?_)); (iterate 35 (refine Eq.trans (pl_same (by rfl)) ?_)); refine Eq.trans (pl_sameH) ?_
  rfl
noncomputable def L8_1 (d : Nat) (a0 a1 a2 a3 a4 a5 a6 a7 a8 a9 a10 a11 a12 a13 a14 a15 x1 x2 x3 x4 : Int) : Nat → Ans
  | 0 => none
  | n + 1 =>
  C0.bool (pcall M d 13 [(.agg [(.int .i64 a0), (.int .i64 a1), (.int .i64 a2), (.int .i64 a3)])]) fun b165 =>
   cnd b165
   (C0.bool (pcall M d 17 [(.agg [(.int .i64 a0), (.int .i64 a1), (.int .i64 a2), (.int .i64 a3)]), (.agg [(.int .i64 x1), (.int .i64 x2), (.int .i64 x3), (.int .i64 x4)])]) fun b166 =>
   cnd (!b166)
   (X8_1_0 d a0 a1 a2 a3 a4 a5 a6 a7 a8 a9 a10 a11 a12 a13 a14 a15 x1 x2 x3 x4 true)
   (C0.bool (pcall M d 13 [(.agg [(.int .i64 a4), (.int .i64 a5), (.int .i64 a6), (.int .i64 a7)])]) fun b167 =>
   cnd b167
   (C0.bool (pcall M d 17 [(.agg [(.int .i64 a4), (.int .i64 a5), (.int .i64 a6), (.int .i64 a7)]), (.agg [(.int .i64 x1), (.int .i64 x2), (.int .i64 x3), (.int .i64 x4)])]) fun b168 =>
   X8_1_0 d a0 a1 a2 a3 a4 a5 a6 a7 a8 a9 a10 a11 a12 a13 a14 a15 x1 x2 x3 x4 (!b168))
   (X8_1_0 d a0 a1 a2 a3 a4 a5 a6 a7 a8 a9 a10 a11 a12 a13 a14 a15 x1 x2 x3 x4 false)))
   (C0.bool (pcall M d 13 [(.agg [(.int .i64 a4), (.int .i64 a5), (.int .i64 a6), (.int .i64 a7)])]) fun b169 =>
   cnd b169
   (C0.bool (pcall M d 17 [(.agg [(.int .i64 a4), (.int .i64 a5), (.int .i64 a6), (.int .i64 a7)]), (.agg [(.int .i64 x1), (.int .i64 x2), (.int .i64 x3), (.int .i64 x4)])]) fun b170 =>
   X8_1_0 d a0 a1 a2 a3 a4 a5 a6 a7 a8 a9 a10 a11 a12 a13 a14 a15 x1 x2 x3 x4 (!b170))
   (X8_1_0 d a0 a1 a2 a3 a4 a5 a6 a7 a8 a9 a10 a11 a12 a13 a14 a15 x1 x2 x3 x4 false))
theorem it8_1 (d : Nat) (a0 a1 a2 a3 a4 a5 a6 a7 a8 a9 a10 a11 a12 a13 a14 a15 x1 x2 x3 x4 : Int) (b104 b105 b106 : Bool) (v107 v108 v109 v110 v111 v112 v113 v114 v115 v116 v117 v118 v119 v120 : AV) (b121 b122 : Bool) (v123 v124 v125 v126 v127 v128 v129 v130 v131 v132 v133 v134 v135 : AV) (b136 b137 : Bool) (v138 v139 v140 v141 v142 : AV)   : ∀ (n : Nat) (v147 v148 v149 v150 v151 v152 v153 v154 v155 v156 v157 v158 v159 v160 v161 v162 v163 v164 : AV), C0.iter (r8R1 C0 d a0 a1 a2 a3 a4 a5 a6 a7 a8 a9 a10 a11 a12 a13 a14 a15 x1 x2 x3 x4 b104 b105 b106 v107 v108 v109 v110 v111 v112 v113 v114 v115 v116 v117 v118 v119 v120 b121 b122 v123 v124 v125 v126 v127 v128 v129 v130 v131 v132 v133 v134 v135 b136 b137 v138 v139 v140 v141 v142) n ⟨[(.agg [(.int .i64 a0), (.int .i64 a1), (.int .i64 a2), (.int .i64 a3)]), (.agg [(.int .i64 a4), (.int .i64 a5), (.int .i64 a6), (.int .i64 a7)]), (.agg [(.int .i64 a8), (.int .i64 a9), (.int .i64 a10), (.int .i64 a11)]), (.agg [(.int .i64 a12), (.int .i64 a13)]), (.int .i64 a14), (.int .i64 a15), (.ptr 0 0 0), (.ptr 1 0 0), (.ptr 2 0 0), (.ptr 3 0 0), (.tup []), (.tup []), (.bool false), (.ptr 4 0 0), (.agg [(.int .i64 a0), (.int .i64 a1), (.int .i64 a2), (.int .i64 a3)]), (.agg [(.int .i64 a4), (.int .i64 a5), (.int .i64 a6), (.int .i64 a7)]), (.agg [(.int .i64 x1), (.int .i64 x2), (.int .i64 x3), (.int .i64 x4)]), (.bool b104), (.bool b105), (.bool b106), v107, v108, v109, v110, v111, v112, v113, v114, v115, v116, v117, v118, v119, v120, (.bool b121), (.bool b122), v123, v124, v125, v126, v127, v128, v129, v130, v131, v132, v133, v134, v135, (.bool b136), (.bool b137), v138, v139, v140, v141, v142, (.bool false), v147, v148, v149, v150, v151, v152, v153, v154, v155, v156, v157, v158, v159, v160, v161, v162, v163, v164, (.tup []), (.tup []), (.tup []), (.tup []), (.tup []), (.tup []), (.tup []), (.tup []), (.tup []), (.tup []), (.tup []), (.tup []), (.tup []), (.tup []), (.tup []), (.tup []), (.tup []), (.tup []), (.tup []), (.tup []), (.tup []), (.tup []), (.tup []), (.tup []), (.tup []), (.tup []), (.tup []), (.tup []), (.tup []), (.tup []), (.tup []), (.tup []), (.tup []), (.tup []), (.tup [])], [some ⟨E25, [(.agg [(.int .i64 a0), (.int .i64 a1), (.int .i64 a2), (.int .i64 a3)])]⟩, some ⟨E25, [(.agg [(.int .i64 a4), (.int .i64 a5), (.int .i64 a6), (.int .i64 a7)])]⟩, some ⟨E25, [(.agg [(.int .i64 a8), (.int .i64 a9), (.int .i64 a10), (.int .i64 a11)])]⟩, some ⟨E23, [(.agg [(.int .i64 a12), (.int .i64 a13)])]⟩, some ⟨E25, [(.agg [(.int .i64 x1), (.int .i64 x2), (.int .i64 x3), (.int .i64 x4)])]⟩]⟩ [2000000] [r8X1_0 C0 d a0 a1 a2 a3 a4 a5 a6 a7 a8 a9 a10 a11 a12 a13 a14 a15 x1 x2 x3 x4 b104 b105 b106 v107 v108 v109 v110 v111 v112 v113 v114 v115 v116 v117 v118 v119 v120 b121 b122 v123 v124 v125 v126 v127 v128 v129 v130 v131 v132 v133 v134 v135 b136 b137 v138 v139 v140 v141 v142] (r8E1 C0 d a0 a1 a2 a3 a4 a5 a6 a7 a8 a9 a10 a11 a12 a13 a14 a15 x1 x2 x3 x4 b104 b105 b106 v107 v108 v109 v110 v111 v112 v113 v114 v115 v116 v117 v118 v119 v120 b121 b122 v123 v124 v125 v126 v127 v128 v129 v130 v131 v132 v133 v134 v135 b136 b137 v138 v139 v140 v141 v142) = L8_1 d a0 a1 a2 a3 a4 a5 a6 a7 a8 a9 a10 a11 a12 a13 a14 a15 x1 x2 x3 x4 n  := by
  generalize hR : r8R1 C0 d a0 a1 a2 a3 a4 a5 a6 a7 a8 a9 a10 a11 a12 a13 a14 a15 x1 x2 x3 x4 b104 b105 b106 v107 v108 v109 v110 v111 v112 v113 v114 v115 v116 v117 v118 v119 v120 b121 b122 v123 v124 v125 v126 v127 v128 v129 v130 v131 v132 v133 v134 v135 b136 b137 v138 v139 v140 v141 v142 = R
  intro n
  induction n with
  | zero => intros; rfl
  | succ n ih =>
    intro v147 v148 v149 v150 v151 v152 v153 v154 v155 v156 v157 v158 v159 v160 v161 v162 v163 v164
    simp only [it_ret] at ih
    rw [it_ret, xiter_s]
    refine Eq.trans (congrFun (congrFun hR.symm _) _) ?_
    unfold r8R1
    refine Eq.trans (pl_len (by rfl)) ?_; (iterate 57 (refine Eq.trans (pl_same (by rfl)) ?_)); (iterate 18 (refine Eq.trans (pl_any (by rfl)) ?_)); (iterate 35 (refine Eq.trans (pl_same (by rfl)) ?_)); refine Eq.trans (pl_sameH) ?_
    simp only [L8_1, kIter_n, kIter_x, kIter_r, kOut_x, kOut_r, xgo_hit, xgo_miss, ih, X8_1_0_ok d a0 a1 a2 a3 a4 a5 a6 a7 a8 a9 a10 a11 a12 a13 a14 a15 x1 x2 x3 x4 b104 b105 b106 v107 v108 v109 v110 v111 v112 v113 v114 v115 v116 v117 v118 v119 v120 b121 b122 v123 v124 v125 v126 v127 v128 v129 v130 v131 v132 v133 v134 v135 b136 b137 v138 v139 v140 v141 v142  , E8_1_ok d a0 a1 a2 a3 a4 a5 a6 a7 a8 a9 a10 a11 a12 a13 a14 a15 x1 x2 x3 x4 b104 b105 b106 v107 v108 v109 v110 v111 v112 v113 v114 v115 v116 v117 v118 v119 v120 b121 b122 v123 v124 v125 v126 v127 v128 v129 v130 v131 v132 v133 v134 v135 b136 b137 v138 v139 v140 v141 v142  ]
noncomputable def X8_0_0 (d : Nat) (a0 a1 a2 a3 a4 a5 a6 a7 a8 a9 a10 a11 a12 a13 a14 a15 x1 x2 x3 x4 : Int) (b143 : Bool) : Ans :=
  cnd b143
   (some (.bool false))
   (L8_1 d a0 a1 a2 a3 a4 a5 a6 a7 a8 a9 a10 a11 a12 a13 a14 a15 x1 x2 x3 x4 1)
theorem X8_0_0_ok (d : Nat) (a0 a1 a2 a3 a4 a5 a6 a7 a8 a9 a10 a11 a12 a13 a14 a15 x1 x2 x3 x4 : Int) (b104 b105 b106 : Bool) (v107 v108 v109 v110 v111 v112 v113 v114 v115 v116 v117 v118 v119 v120 : AV) (b121 b122 : Bool) (v123 v124 v125 v126 v127 v128 v129 v130 v131 v132 v133 v134 v135 : AV) (b136 b137 : Bool) (v138 v139 v140 v141 v142 : AV) (b143 : Bool) : r8X0_0 C0 d a0 a1 a2 a3 a4 a5 a6 a7 a8 a9 a10 a11 a12 a13 a14 a15 x1 x2 x3 x4 ⟨[(.agg [(.int .i64 a0), (.int .i64 a1), (.int .i64 a2), (.int .i64 a3)]), (.agg [(.int .i64 a4), (.int .i64 a5), (.int .i64 a6), (.int .i64 a7)]), (.agg [(.int .i64 a8), (.int .i64 a9), (.int .i64 a10), (.int .i64 a11)]), (.agg [(.int .i64 a12), (.int .i64 a13)]), (.int .i64 a14), (.int .i64 a15), (.ptr 0 0 0), (.ptr 1 0 0), (.ptr 2 0 0), (.ptr 3 0 0), (.tup []), (.tup []), (.bool false), (.ptr 4 0 0), (.agg [(.int .i64 a0), (.int .i64 a1), (.int .i64 a2), (.int .i64 a3)]), (.agg [(.int .i64 a4), (.int .i64 a5), (.int .i64 a6), (.int .i64 a7)]), (.agg [(.int .i64 x1), (.int .i64 x2), (.int .i64 x3), (.int .i64 x4)]), (.bool b104), (.bool b105), (.bool b106), v107, v108, v109, v110, v111, v112, v113, v114, v115, v116, v117, v118, v119, v120, (.bool b121), (.bool b122), v123, v124, v125, v126, v127, v128, v129, v130, v131, v132, v133, v134, v135, (.bool b136), (.bool b137), v138, v139, v140, v141, v142, (.bool b143), (.tup []), (.tup []), (.tup []), (.tup []), (.tup []), (.tup []), (.tup []), (.tup []), (.tup []), (.tup []), (.tup []), (.tup []), (.tup []), (.tup []), (.tup []), (.tup []), (.tup []), (.tup []), (.tup []), (.tup []), (.tup []), (.tup []), (.tup []), (.tup []), (.tup []), (.tup []), (.tup []), (.tup []), (.tup []), (.tup []), (.tup []), (.tup []), (.tup []), (.tup []), (.tup []), (.tup []), (.tup []), (.tup []), (.tup []), (.tup []), (.tup []), (.tup []), (.tup []), (.tup []), (.tup []), (.tup []), (.tup []), (.tup []), (.tup []), (.tup []), (.tup []), (.tup []), (.tup [])], [some ⟨E25, [(.agg [(.int .i64 a0), (.int .i64 a1), (.int .i64 a2), (.int .i64 a3)])]⟩, some ⟨E25, [(.agg [(.int .i64 a4), (.int .i64 a5), (.int .i64 a6), (.int .i64 a7)])]⟩, some ⟨E25, [(.agg [(.int .i64 a8), (.int .i64 a9), (.int .i64 a10), (.int .i64 a11)])]⟩, some ⟨E23, [(.agg [(.int .i64 a12), (.int .i64 a13)])]⟩, some ⟨E25, [(.agg [(.int .i64 x1), (.int .i64 x2), (.int .i64 x3), (.int .i64 x4)])]⟩]⟩ = X8_0_0 d a0 a1 a2 a3 a4 a5 a6 a7 a8 a9 a10 a11 a12 a13 a14 a15 x1 x2 x3 x4 b143 := by
  unfold r8X0_0; refine Eq.trans (pl_len (by rfl)) ?_; (iterate 17 (refine Eq.trans (pl_same (by rfl)) ?_)); (iterate 3 (refine Eq.trans (pl_bool (by rfl)) ?_)); (iterate 14 (refine Eq.trans (pl_any (by rfl)) ?_)); (iterate 2 (refine Eq.trans (pl_bool (by rfl)) ?_)); (iterate 13 (refine Eq.trans (pl_any (by rfl)) ?_)); (iterate 2 (refine Eq.trans (pl_bool (by rfl)) ?_)); (iterate 5 (refine Eq.trans (pl_any (by rfl)) ?_)); refine Eq.trans (pl_bool (by rfl)) ?_; (iterate 53 (refine Eq.trans (pl_same (by rfl)) ?_)); refine Eq.trans (pl_sameH) ?_
  first | rfl | (simp only [it8_1] <;> rfl)
noncomputable def E8_0 (d : Nat) (a0 a1 a2 a3 a4 a5 a6 a7 a8 a9 a10 a11 a12 a13 a14 a15 x1 x2 x3 x4 : Int)  : Ans :=
  some (.bool false)
theorem E8_0_ok (d : Nat) (a0 a1 a2 a3 a4 a5 a6 a7 a8 a9 a10 a11 a12 a13 a14 a15 x1 x2 x3 x4 : Int) (v350 v351 v352 v353 v354 v355 v356 v357 v358 v359 v360 v361 v362 v363 v364 v365 v366 v367 v368 v369 v370 v371 v372 v373 v374 v375 v376 v377 v378 v379 v380 v381 v382 v383 v384 v385 v386 v387 v388 v389 : AV) : r8E0 C0 d a0 a1 a2 a3 a4 a5 a6 a7 a8 a9 a10 a11 a12 a13 a14 a15 x1 x2 x3 x4 ⟨[(.agg [(.int .i64 a0), (.int .i64 a1), (.int .i64 a2), (.int .i64 a3)]), (.agg [(.int .i64 a4), (.int .i64 a5), (.int .i64 a6), (.int .i64 a7)]), (.agg [(.int .i64 a8), (.int .i64 a9), (.int .i64 a10), (.int .i64 a11)]), (.agg [(.int .i64 a12), (.int .i64 a13)]), (.int .i64 a14), (.int .i64 a15), (.ptr 0 0 0), (.ptr 1 0 0), (.ptr 2 0 0), (.ptr 3 0 0), (.tup []), (.tup []), (.bool false), (.ptr 4 0 0), (.agg [(.int .i64 a0), (.int .i64 a1), (.int .i64 a2), (.int .i64 a3)]), (.agg [(.int .i64 a4), (.int .i64 a5), (.int .i64 a6), (.int .i64 a7)]), (.agg [(.int .i64 x1), (.int .i64 x2), (.int .i64 x3), (.int .i64 x4)]), v350, v351, v352, v353, v354, v355, v356, v357, v358, v359, v360, v361, v362, v363, v364, v365, v366, v367, v368, v369, v370, v371, v372, v373, v374, v375, v376, v377, v378, v379, v380, v381, v382, v383, v384, v385, v386, v387, v388, v389, (.tup []), (.tup []), (.tup []), (.tup []), (.tup []), (.tup []), (.tup []), (.tup []), (.tup []), (.tup []), (.tup []), (.tup []), (.tup []), (.tup []), (.tup []), (.tup []), (.tup []), (.tup []), (.tup []), (.tup []), (.tup []), (.tup []), (.tup []), (.tup []), (.tup []), (.tup []), (.tup []), (.tup []), (.tup []), (.tup []), (.tup []), (.tup []), (.tup []), (.tup []), (.tup []), (.tup []), (.tup []), (.tup []), (.tup []), (.tup []), (.tup []), (.tup []), (.tup []), (.tup []), (.tup []), (.tup []), (.tup []), (.tup []), (.tup []), (.tup []), (.tup []), (.tup []), (.tup [])], [some ⟨E25, [(.agg [(.int .i64 a0), (.int .i64 a1), (.int .i64 a2), (.int .i64 a3)])]⟩, some ⟨E25, [(.agg [(.int .i64 a4), (.int .i64 a5), (.int .i64 a6), (.int .i64 a7)])]⟩, some ⟨E25, [(.agg [(.int .i64 a8), (.int .i64 a9), (.int .i64 a10), (.int .i64 a11)])]⟩, some ⟨E23, [(.agg [(.int .i64 a12), (.int .i64 a13)])]⟩, some ⟨E25, [(.agg [(.int .i64 x1), (.int .i64 x2), (.int .i64 x3), (.int .i64 x4)])]⟩]⟩ = E8_0 d a0 a1 a2 a3 a4 a5 a6 a7 a8 a9 a10 a11 a12 a13 a14 a15 x1 x2 x3 x4  := by
  unfold r8E0; refine Eq.trans (pl_len (by rfl)) ?_; (iterate 17 (refine Eq.trans (pl_same (by rfl)) ?_)); (iterate 40 (refine Eq.trans (pl_any (by rfl)) ?_)); (iterate 53 (refine Eq.trans (pl_same (by rfl)) ?_)); refine Eq.trans (pl_sameH) ?_
  rfl
noncomputable def L8_0 (d : Nat) (a0 a1 a2 a3 a4 a5 a6 a7 a8 a9 a10 a11 a12 a13 a14 a15 x1 x2 x3 x4 : Int) : Nat → Ans
  | 0 => none
  | n + 1 =>
  C0.bool (pcall M d 11 []) fun b48 =>
   cnd (!b48)
   (X8_0_0 d a0 a1 a2 a3 a4 a5 a6 a7 a8 a9 a10 a11 a12 a13 a14 a15 x1 x2 x3 x4 true)
   (C0.bool (pcall M d 17 [(.agg [(.int .i64 a0), (.int .i64 a1), (.int .i64 a2), (.int .i64 a3)]), (.agg [(.int .i64 a4), (.int .i64 a5), (.int .i64 a6), (.int .i64 a7)])]) fun b49 =>
   cnd b49
   (C0.bool (pcall M d 17 [(.agg [(.int .i64 a4), (.int .i64 a5), (.int .i64 a6), (.int .i64 a7)]), (.agg [(.int .i64 a8), (.int .i64 a9), (.int .i64 a10), (.int .i64 a11)])]) fun b50 =>
   cnd b50
   (C0.bool (pcall M d 17 [(.agg [(.int .i64 a0), (.int .i64 a1), (.int .i64 a2), (.int .i64 a3)]), (.agg [(.int .i64 a8), (.int .i64 a9), (.int .i64 a10), (.int .i64 a11)])]) fun b51 =>
   cnd (!b51)
   (X8_0_0 d a0 a1 a2 a3 a4 a5 a6 a7 a8 a9 a10 a11 a12 a13 a14 a15 x1 x2 x3 x4 true)
   (C0.bool (pcall M d 17 [(.agg [(.int .i64 a0), (.int .i64 a1), (.int .i64 a2), (.int .i64 a3)]), (.agg [(.int .i64 a4), (.int .i64 a5), (.int .i64 a6), (.int .i64 a7)])]) fun b52 =>
   cnd b52
   (C0.bool (pcall M d 17 [(.agg [(.int .i64 a4), (.int .i64 a5), (.int .i64 a6), (.int .i64 a7)]), (.agg [(.int .i64 a0), (.int .i64 a1), (.int .i64 a2), (.int .i64 a3)])]) fun b53 =>
   cnd b53
   (cnd (xor true ((a0 == a4) && ((a1 == a5) && ((a2 == a6) && ((a3 == a7) && true)))))
   (X8_0_0 d a0 a1 a2 a3 a4 a5 a6 a7 a8 a9 a10 a11 a12 a13 a14 a15 x1 x2 x3 x4 true)
   (C0.agg 4 (pcall M d 19 [(.agg [(.int .i64 a4), (.int .i64 a5), (.int .i64 a6), (.int .i64 a7)]), (.agg [(.int .i64 a0), (.int .i64 a1), (.int .i64 a2), (.int .i64 a3)])]) fun l54 =>
   C0.int .i64 l54[0]? fun x55 =>
   C0.int .i64 l54[1]? fun x56 =>
   C0.int .i64 l54[2]? fun x57 =>
   C0.int .i64 l54[3]? fun x58 =>
   X8_0_0 d a0 a1 a2 a3 a4 a5 a6 a7 a8 a9 a10 a11 a12 a13 a14 a15 x1 x2 x3 x4 (xor true ((x1 == x55) && ((x2 == x56) && ((x3 == x57) && ((x4 == x58) && true)))))))
   (C0.agg 4 (pcall M d 19 [(.agg [(.int .i64 a4), (.int .i64 a5), (.int .i64 a6), (.int .i64 a7)]), (.agg [(.int .i64 a0), (.int .i64 a1), (.int .i64 a2), (.int .i64 a3)])]) fun l59 =>
   C0.int .i64 l59[0]? fun x60 =>
   C0.int .i64 l59[1]? fun x61 =>
   C0.int .i64 l59[2]? fun x62 =>
   C0.int .i64 l59[3]? fun x63 =>
   X8_0_0 d a0 a1 a2 a3 a4 a5 a6 a7 a8 a9 a10 a11 a12 a13 a14 a15 x1 x2 x3 x4 (xor true ((x1 == x60) && ((x2 == x61) && ((x3 == x62) && ((x4 == x63) && true)))))))
   (C0.agg 4 (pcall M d 19 [(.agg [(.int .i64 a4), (.int .i64 a5), (.int .i64 a6), (.int .i64 a7)]), (.agg [(.int .i64 a0), (.int .i64 a1), (.int .i64 a2), (.int .i64 a3)])]) fun l64 =>
   C0.int .i64 l64[0]? fun x65 =>
   C0.int .i64 l64[1]? fun x66 =>
   C0.int .i64 l64[2]? fun x67 =>
   C0.int .i64 l64[3]? fun x68 =>
   X8_0_0 d a0 a1 a2 a3 a4 a5 a6 a7 a8 a9 a10 a11 a12 a13 a14 a15 x1 x2 x3 x4 (xor true ((x1 == x65) && ((x2 == x66) && ((x3 == x67) && ((x4 == x68) && true))))))))
   (C0.bool (pcall M d 17 [(.agg [(.int .i64 a0), (.int .i64 a1), (.int .i64 a2), (.int .i64 a3)]), (.agg [(.int .i64 a4), (.int .i64 a5), (.int .i64 a6), (.int .i64 a7)])]) fun b69 =>
   cnd b69
   (C0.bool (pcall M d 17 [(.agg [(.int .i64 a4), (.int .i64 a5), (.int .i64 a6), (.int .i64 a7)]), (.agg [(.int .i64 a0), (.int .i64 a1), (.int .i64 a2), (.int .i64 a3)])]) fun b70 =>
   cnd b70
   (cnd (xor true ((a0 == a4) && ((a1 == a5) && ((a2 == a6) && ((a3 == a7) && true)))))
   (X8_0_0 d a0 a1 a2 a3 a4 a5 a6 a7 a8 a9 a10 a11 a12 a13 a14 a15 x1 x2 x3 x4 true)
   (C0.agg 4 (pcall M d 19 [(.agg [(.int .i64 a4), (.int .i64 a5), (.int .i64 a6), (.int .i64 a7)]), (.agg [(.int .i64 a0), (.int .i64 a1), (.int .i64 a2), (.int .i64 a3)])]) fun l71 =>
   C0.int .i64 l71[0]? fun x72 =>
   C0.int .i64 l71[1]? fun x73 =>
   C0.int .i64 l71[2]? fun x74 =>
   C0.int .i64 l71[3]? fun x75 =>
   X8_0_0 d a0 a1 a2 a3 a4 a5 a6 a7 a8 a9 a10 a11 a12 a13 a14 a15 x1 x2 x3 x4 (xor true ((x1 == x72) && ((x2 == x73) && ((x3 == x74) && ((x4 == x75) && true)))))))
   (C0.agg 4 (pcall M d 19 [(.agg [(.int .i64 a4), (.int .i64 a5), (.int .i64 a6), (.int .i64 a7)]), (.agg [(.int .i64 a0), (.int .i64 a1), (.int .i64 a2), (.int .i64 a3)])]) fun l76 =>
   C0.int .i64 l76[0]? fun x77 =>
   C0.int .i64 l76[1]? fun x78 =>
   C0.int .i64 l76[2]? fun x79 =>
   C0.int .i64 l76[3]? fun x80 =>
   X8_0_0 d a0 a1 a2 a3 a4 a5 a6 a7 a8 a9 a10 a11 a12 a13 a14 a15 x1 x2 x3 x4 (xor true ((x1 == x77) && ((x2 == x78) && ((x3 == x79) && ((x4 == x80) && true)))))))
   (C0.agg 4 (pcall M d 19 [(.agg [(.int .i64 a4), (.int .i64 a5), (.int .i64 a6), (.int .i64 a7)]), (.agg [(.int .i64 a0), (.int .i64 a1), (.int .i64 a2), (.int .i64 a3)])]) fun l81 =>
   C0.int .i64 l81[0]? fun x82 =>
   C0.int .i64 l81[1]? fun x83 =>
   C0.int .i64 l81[2]? fun x84 =>
   C0.int .i64 l81[3]? fun x85 =>
   X8_0_0 d a0 a1 a2 a3 a4 a5 a6 a7 a8 a9 a10 a11 a12 a13 a14 a15 x1 x2 x3 x4 (xor true ((x1 == x82) && ((x2 == x83) && ((x3 == x84) && ((x4 == x85) && true))))))))
   (C0.bool (pcall M d 17 [(.agg [(.int .i64 a0), (.int .i64 a1), (.int .i64 a2), (.int .i64 a3)]), (.agg [(.int .i64 a4), (.int .i64 a5), (.int .i64 a6), (.int .i64 a7)])]) fun b86 =>
   cnd b86
   (C0.bool (pcall M d 17 [(.agg [(.int .i64 a4), (.int .i64 a5), (.int .i64 a6), (.int .i64 a7)]), (.agg [(.int .i64 a0), (.int .i64 a1), (.int .i64 a2), (.int .i64 a3)])]) fun b87 =>
   cnd b87
   (cnd (xor true ((a0 == a4) && ((a1 == a5) && ((a2 == a6) && ((a3 == a7) && true)))))
   (X8_0_0 d a0 a1 a2 a3 a4 a5 a6 a7 a8 a9 a10 a11 a12 a13 a14 a15 x1 x2 x3 x4 true)
   (C0.agg 4 (pcall M d 19 [(.agg [(.int .i64 a4), (.int .i64 a5), (.int .i64 a6), (.int .i64 a7)]), (.agg [(.int .i64 a0), (.int .i64 a1), (.int .i64 a2), (.int .i64 a3)])]) fun l88 =>
   C0.int .i64 l88[0]? fun x89 =>
   C0.int .i64 l88[1]? fun x90 =>
   C0.int .i64 l88[2]? fun x91 =>
   C0.int .i64 l88[3]? fun x92 =>
   X8_0_0 d a0 a1 a2 a3 a4 a5 a6 a7 a8 a9 a10 a11 a12 a13 a14 a15 x1 x2 x3 x4 (xor true ((x1 == x89) && ((x2 == x90) && ((x3 == x91) && ((x4 == x92) && true)))))))
   (C0.agg 4 (pcall M d 19 [(.agg [(.int .i64 a4), (.int .i64 a5), (.int .i64 a6), (.int .i64 a7)]), (.agg [(.int .i64 a0), (.int .i64 a1), (.int .i64 a2), (.int .i64 a3)])]) fun l93 =>
   C0.int .i64 l93[0]? fun x94 =>
   C0.int .i64 l93[1]? fun x95 =>
   C0.int .i64 l93[2]? fun x96 =>
   C0.int .i64 l93[3]? fun x97 =>
   X8_0_0 d a0 a1 a2 a3 a4 a5 a6 a7 a8 a9 a10 a11 a12 a13 a14 a15 x1 x2 x3 x4 (xor true ((x1 == x94) && ((x2 == x95) && ((x3 == x96) && ((x4 == x97) && true)))))))
   (C0.agg 4 (pcall M d 19 [(.agg [(.int .i64 a4), (.int .i64 a5), (.int .i64 a6), (.int .i64 a7)]), (.agg [(.int .i64 a0), (.int .i64 a1), (.int .i64 a2), (.int .i64 a3)])]) fun l98 =>
   C0.int .i64 l98[0]? fun x99 =>
   C0.int .i64 l98[1]? fun x100 =>
   C0.int .i64 l98[2]? fun x101 =>
   C0.int .i64 l98[3]? fun x102 =>
   X8_0_0 d a0 a1 a2 a3 a4 a5 a6 a7 a8 a9 a10 a11 a12 a13 a14 a15 x1 x2 x3 x4 (xor true ((x1 == x99) && ((x2 == x100) && ((x3 == x101) && ((x4 == x102) && true))))))))
theorem it8_0 (d : Nat) (a0 a1 a2 a3 a4 a5 a6 a7 a8 a9 a10 a11 a12 a13 a14 a15 x1 x2 x3 x4 : Int)   : ∀ (n : Nat) (v8 v9 v10 v11 v12 v13 v14 v15 v16 v17 v18 v19 v20 v21 v22 v23 v24 v25 v26 v27 v28 v29 v30 v31 v32 v33 v34 v35 v36 v37 v38 v39 v40 v41 v42 v43 v44 v45 v46 v47 : AV), C0.iter (r8R0 C0 d a0 a1 a2 a3 a4 a5 a6 a7 a8 a9 a10 a11 a12 a13 a14 a15 x1 x2 x3 x4) n ⟨[(.agg [(.int .i64 a0), (.int .i64 a1), (.int .i64 a2), (.int .i64 a3)]), (.agg [(.int .i64 a4), (.int .i64 a5), (.int .i64 a6), (.int .i64 a7)]), (.agg [(.int .i64 a8), (.int .i64 a9), (.int .i64 a10), (.int .i64 a11)]), (.agg [(.int .i64 a12), (.int .i64 a13)]), (.int .i64 a14), (.int .i64 a15), (.ptr 0 0 0), (.ptr 1 0 0), (.ptr 2 0 0), (.ptr 3 0 0), (.tup []), (.tup []), (.bool false), (.ptr 4 0 0), (.agg [(.int .i64 a0), (.int .i64 a1), (.int .i64 a2), (.int .i64 a3)]), (.agg [(.int .i64 a4), (.int .i64 a5), (.int .i64 a6), (.int .i64 a7)]), (.agg [(.int .i64 x1), (.int .i64 x2), (.int .i64 x3), (.int .i64 x4)]), v8, v9, v10, v11, v12, v13, v14, v15, v16, v17, v18, v19, v20, v21, v22, v23, v24, v25, v26, v27, v28, v29, v30, v31, v32, v33, v34, v35, v36, v37, v38, v39, v40, v41, v42, v43, v44, v45, v46, v47, (.tup []), (.tup []), (.tup []), (.tup []), (.tup []), (.tup []), (.tup []), (.tup []), (.tup []), (.tup []), (.tup []), (.tup []), (.tup []), (.tup []), (.tup []), (.tup []), (.tup []), (.tup []), (.tup []), (.tup []), (.tup []), (.tup []), (.tup []), (.tup []), (.tup []), (.tup []), (.tup []), (.tup []), (.tup []), (.tup []), (.tup []), (.tup []), (.tup []), (.tup []), (.tup []), (.tup []), (.tup []), (.tup []), (.tup []), (.tup []), (.tup []), (.tup []), (.tup []), (.tup []), (.tup []), (.tup []), (.tup []), (.tup []), (.tup []), (.tup []), (.tup []), (.tup []), (.tup [])], [some ⟨E25, [(.agg [(.int .i64 a0), (.int .i64 a1), (.int .i64 a2), (.int .i64 a3)])]⟩, some ⟨E25, [(.agg [(.int .i64 a4), (.int .i64 a5), (.int .i64 a6), (.int .i64 a7)])]⟩, some ⟨E25, [(.agg [(.int .i64 a8), (.int .i64 a9), (.int .i64 a10), (.int .i64 a11)])]⟩, some ⟨E23, [(.agg [(.int .i64 a12), (.int .i64 a13)])]⟩, some ⟨E25, [(.agg [(.int .i64 x1), (.int .i64 x2), (.int .i64 x3), (.int .i64 x4)])]⟩]⟩ [2000000] [r8X0_0 C0 d a0 a1 a2 a3 a4 a5 a6 a7 a8 a9 a10 a11 a12 a13 a14 a15 x1 x2 x3 x4] (r8E0 C0 d a0 a1 a2 a3 a4 a5 a6 a7 a8 a9 a10 a11 a12 a13 a14 a15 x1 x2 x3 x4) = L8_0 d a0 a1 a2 a3 a4 a5 a6 a7 a8 a9 a10 a11 a12 a13 a14 a15 x1 x2 x3 x4 n  := by
  generalize hR : r8R0 C0 d a0 a1 a2 a3 a4 a5 a6 a7 a8 a9 a10 a11 a12 a13 a14 a15 x1 x2 x3 x4 = R
  intro n
  induction n with
  | zero => intros; rfl
  | succ n ih =>
    intro v8 v9 v10 v11 v12 v13 v14 v15 v16 v17 v18 v19 v20 v21 v22 v23 v24 v25 v26 v27 v28 v29 v30 v31 v32 v33 v34 v35 v36 v37 v38 v39 v40 v41 v42 v43 v44 v45 v46 v47
    simp only [it_ret] at ih
    rw [it_ret, xiter_s]
    refine Eq.trans (congrFun (congrFun hR.symm _) _) ?_
    unfold r8R0
    refine Eq.trans (pl_len (by rfl)) ?_; (iterate 17 (refine Eq.trans (pl_same (by rfl)) ?_)); (iterate 40 (refine Eq.trans (pl_any (by rfl)) ?_)); (iterate 53 (refine Eq.trans (pl_same (by rfl)) ?_)); refine Eq.trans (pl_sameH) ?_
    simp only [L8_0, kIter_n, kIter_x, kIter_r, kOut_x, kOut_r, xgo_hit, xgo_miss, ih, X8_0_0_ok d a0 a1 a2 a3 a4 a5 a6 a7 a8 a9 a10 a11 a12 a13 a14 a15 x1 x2 x3 x4  , E8_0_ok d a0 a1 a2 a3 a4 a5 a6 a7 a8 a9 a10 a11 a12 a13 a14 a15 x1 x2 x3 x4  ]
/-- apogee/apogeelaw12.BoxOrder -/
theorem q8 (d : Nat) (a0 a1 a2 a3 a4 a5 a6 a7 a8 a9 a10 a11 a12 a13 a14 a15 : Int) : xcall C0 M unr d 8 [(.agg [(.int .i64 a0), (.int .i64 a1), (.int .i64 a2), (.int .i64 a3)]), (.agg [(.int .i64 a4), (.int .i64 a5), (.int .i64 a6), (.int .i64 a7)]), (.agg [(.int .i64 a8), (.int .i64 a9), (.int .i64 a10), (.int .i64 a11)]), (.agg [(.int .i64 a12), (.int .i64 a13)]), (.int .i64 a14), (.int .i64 a15)] =
  C0.agg 4 (pcall M d 19 [(.agg [(.int .i64 a0), (.int .i64 a1), (.int .i64 a2), (.int .i64 a3)]), (.agg [(.int .i64 a4), (.int .i64 a5), (.int .i64 a6), (.int .i64 a7)])]) fun l0 =>
  C0.int .i64 l0[0]? fun x1 =>
  C0.int .i64 l0[1]? fun x2 =>
  C0.int .i64 l0[2]? fun x3 =>
  C0.int .i64 l0[3]? fun x4 =>
  L8_0 d a0 a1 a2 a3 a4 a5 a6 a7 a8 a9 a10 a11 a12 a13 a14 a15 x1 x2 x3 x4 1 := (r8 C0 d a0 a1 a2 a3 a4 a5 a6 a7 a8 a9 a10 a11 a12 a13 a14 a15).trans (by simp only [it8_0])
end Go.Proofs.Ytjblhppbjebagaa.AE

namespace Go.Proofs.Ytjblhppbjebagaa.AE
set_option linter.unusedVariables false
set_option linter.unusedSimpArgs false
set_option linter.constructorNameAsVariable false
open Go Go.Proofs.Ytjblhppbjebagaa.Geo
set_option maxRecDepth 100000
theorem four_iff {a b : Bx} : ((a.1.1 == b.1.1) && ((a.1.2 == b.1.2) && ((a.2.1 == b.2.1) && ((a.2.2 == b.2.2) && true)))) = decide (a = b) := by
  rw [Bool.eq_iff_iff]
  simp only [Bool.and_eq_true, beq_iff_eq, decide_eq_true_iff, and_true]
  exact ⟨fun h => Prod.ext (Prod.ext h.1 h.2.1) (Prod.ext h.2.2.1 h.2.2.2), fun h => by subst h; exact ⟨rfl, rfl, rfl, rfl⟩⟩
theorem order_core (a b c : Bx) (p : Pt) (n m : Int) : pcall M 41 8 [bx a, bx b, bx c, pt p, .int .i64 n, .int .i64 m] = some (.bool true) := told (q8 40 _ _ _ _ _ _ _ _ _ _ _ _ _ _ _ _) (by
  have i1 := s17 35 a b
  have i2 := s17 35 b c
  have i3 := s17 35 a c
  have i4 := s17 35 b a
  have i5 := s17 35 a (joinX a b)
  have i6 := s17 35 b (joinX a b)
  have i7 := s17 35 (joinX a b) c
  have i8 := s17 35 (ofX p n) (ofX p m)
  have j1 := s19 36 a b
  have j2 := s19 36 b a
  have r1 := s13 38 a
  have r2 := s13 38 b
  have r3 := s13 38 c
  have o1 := s26 39 p
  have o2 := s14 37 p n
  have o3 := s14 37 p m
  have t1 : ∀ u v : Bx, (xor true ((u.1.1 == v.1.1) && ((u.1.2 == v.1.2) && ((u.2.1 == v.2.1) && ((u.2.2 == v.2.2) && true))))) = !decide (u = v) := fun u v => by rw [four_iff]; cases decide (u = v) <;> rfl
  have t2 := t1 a b
  have t3 := t1 (joinX a b) (joinX b a)
  rw [← joinX_comm a b] at t3 j2
  simp only [bx, pt] at i1 i2 i3 i4 i5 i6 i7 i8 j1 j2 r1 r2 r3 o1 o2 o3
  have last : L8_3 40 p.1 p.2 n m 1 = some (.bool true) := by
    simp only [L8_3, X8_3_0, o1, o2, o3, i8, C0_bool, C0_agg4, at0, at1, at2, at3, C0_int]
    by_cases hp : OkP p
    · by_cases hn : n > m
      · simp [hp, hn, cnd]
      · have := ofX_mono (okb_t.mpr hp) (show n ≤ m by omega)
        simp [hp, hn, cnd, this]
    · simp [hp, cnd]
  have third : L8_2 40 a.1.1 a.1.2 a.2.1 a.2.2 b.1.1 b.1.2 b.2.1 b.2.2 c.1.1 c.1.2 c.2.1 c.2.2 p.1 p.2 n m (joinX a b).1.1 (joinX a b).1.2 (joinX a b).2.1 (joinX a b).2.2 1 = some (.bool true) := by
    simp only [L8_2, X8_2_0, last, r3, i2, i3, i7, C0_bool]
    have := @join_in a b c
    cases h1 : rightX c <;> cases h2 : inX a c <;> cases h3 : inX b c <;> simp_all [cnd]
  have second : L8_1 40 a.1.1 a.1.2 a.2.1 a.2.2 b.1.1 b.1.2 b.2.1 b.2.2 c.1.1 c.1.2 c.2.1 c.2.2 p.1 p.2 n m (joinX a b).1.1 (joinX a b).1.2 (joinX a b).2.1 (joinX a b).2.2 1 = some (.bool true) := by
    simp only [L8_1, X8_1_0, third, r1, r2, i5, i6, C0_bool]
    have k1 := @in_join a b
    have k2 := @in_join b a
    rw [joinX_comm b a] at k2
    cases h1 : rightX a <;> cases h2 : rightX b <;> simp_all [cnd]
  rw [j1, C0_agg4]
  simp only [at0, at1, at2, at3, C0_int]
  simp only [L8_0, X8_0_0, second, awake, i1, i2, i3, i4, j2, C0_bool, C0_agg4, at0, at1, at2, at3, C0_int, t2, t3]
  have k1 := @inX_trans a b c
  have k2 := @inX_anti a b
  cases h1 : inX a b <;> cases h2 : inX b c <;> cases h3 : inX a c <;> cases h4 : inX b a <;> simp_all [cnd])
theorem law_BoxOrder (a0_0 : Int) (a0_1 : Int) (a0_2 : Int) (a0_3 : Int) (a1_0 : Int) (a1_1 : Int) (a1_2 : Int) (a1_3 : Int) (a2_0 : Int) (a2_1 : Int) (a2_2 : Int) (a2_3 : Int) (a3_0 : Int) (a3_1 : Int) (a4 : Int) (a5 : Int) (w0_0 : (Lit.int .i64 a0_0).wf = true) (w0_1 : (Lit.int .i64 a0_1).wf = true) (w0_2 : (Lit.int .i64 a0_2).wf = true) (w0_3 : (Lit.int .i64 a0_3).wf = true) (w1_0 : (Lit.int .i64 a1_0).wf = true) (w1_1 : (Lit.int .i64 a1_1).wf = true) (w1_2 : (Lit.int .i64 a1_2).wf = true) (w1_3 : (Lit.int .i64 a1_3).wf = true) (w2_0 : (Lit.int .i64 a2_0).wf = true) (w2_1 : (Lit.int .i64 a2_1).wf = true) (w2_2 : (Lit.int .i64 a2_2).wf = true) (w2_3 : (Lit.int .i64 a2_3).wf = true) (w3_0 : (Lit.int .i64 a3_0).wf = true) (w3_1 : (Lit.int .i64 a3_1).wf = true) (w4 : (Lit.int .i64 a4).wf = true) (w5 : (Lit.int .i64 a5).wf = true) :
    pcall M 41 8 [.agg [.int .i64 a0_0, .int .i64 a0_1, .int .i64 a0_2, .int .i64 a0_3], .agg [.int .i64 a1_0, .int .i64 a1_1, .int .i64 a1_2, .int .i64 a1_3], .agg [.int .i64 a2_0, .int .i64 a2_1, .int .i64 a2_2, .int .i64 a2_3], .agg [.int .i64 a3_0, .int .i64 a3_1], .int .i64 a4, .int .i64 a5] = some (.bool true) := order_core ((a0_0, a0_1), (a0_2, a0_3)) ((a1_0, a1_1), (a1_2, a1_3)) ((a2_0, a2_1), (a2_2, a2_3)) (a3_0, a3_1) a4 a5
end Go.Proofs.Ytjblhppbjebagaa.AE
