/- The texts that the law ImpactGoes needs, part 0. No conditions. -/
import Derived.Test.YtnldgacamgjpnaaProg
import Derived.Test.YtnldgacamgjpnaaMc2
namespace Go.Proofs.Ytnldgacamgjpnaa.AE
set_option linter.unusedVariables false
set_option linter.unusedSimpArgs false
set_option linter.constructorNameAsVariable false
open Go
def h37 : List (Nat × Sh) := [(0, i6), (1, i6), (9, i6), (10, (.agg [i6, (.i .u64)])), (11, (.agg [i6, (.i .u64)])), (12, i6), (13, (.i .u64)), (7, (.i .u64)), (8, i6), (14, i6), (15, .b), (18, (.i .u64)), (19, i6), (20, (.i .u64)), (21, (.i .u64)), (22, .b), (23, (.agg [i6, (.i .u64)])), (24, (.agg [i6, (.i .u64)])), (25, (.agg [i6, (.i .u64)])), (26, (.agg [i6, (.i .u64)])), (27, (.agg [i6, (.i .u64)])), (28, (.agg [i6, (.i .u64)])), (16, i6), (17, i6), (8, i6), (29, i6), (30, .b), (31, (.agg [i6, (.i .u64)])), (32, (.agg [i6, (.i .u64)])), (33, (.agg [i6, (.i .u64)])), (34, (.agg [i6, (.i .u64)])), (35, (.agg [i6, (.i .u64)]))]
def h46 : List (Nat × Sh) := [(0, (.agg [i6, (.i .u64)])), (2, .l), (3, .l), (4, i6), (6, i6), (7, .b), (10, .l), (12, (.i .u64)), (13, i6), (14, (.i .u64)), (15, (.i .u64)), (16, i6), (17, .l), (18, .l), (3, .l), (8, i6), (9, i6), (4, i6), (5, i6), (19, i6), (20, .b), (23, .l), (25, i6), (26, (.i .u64)), (27, i6), (28, (.i .u64)), (29, (.i .u64)), (30, i6), (31, .l), (32, .l), (3, .l), (21, i6), (22, i6), (5, i6), (33, .l), (2, .l)]
def h47 : List (Nat × Sh) := [(0, .l), (6, (.agg [i6, (.i .u64)])), (4, (.i .u64)), (5, i6), (7, i6), (8, .b), (11, .l), (12, i6), (14, i6), (15, .b), (17, (.i .u64)), (18, i6), (19, (.i .u64)), (20, (.i .u64)), (22, .l), (23, i6), (24, i6), (26, i6), (27, .b), (28, (.i .u64)), (29, i6), (30, (.i .u64)), (31, (.i .u64)), (4, (.i .u64)), (9, i6), (10, i6), (5, i6), (32, (.i .u64)), (33, i6), (35, (.agg [i6, (.i .u64)]))]
end Go.Proofs.Ytnldgacamgjpnaa.AE

namespace Go.Proofs.Ytnldgacamgjpnaa.AE
set_option linter.unusedVariables false
set_option linter.unusedSimpArgs false
set_option linter.constructorNameAsVariable false
open Go
set_option maxRecDepth 100000
/-- apogee/apogeeref01.Of -/
theorem r25 (C : Cb) (d : Nat) (a0 : Int) : xcall C M unr d 25 [(iz a0)] =
 cnd (decide (a0 < 0))
 (some (.agg [(iz (-1)), (.int .u64 (IntKind.wrap .u64 a0))]))
 (some (.agg [(iz 0), (.int .u64 (IntKind.wrap .u64 a0))])) := by kernel_rfl
/-- apogee/apogeeref01.Cmp -/
theorem r36 (C : Cb) (d : Nat) (a0 a1 a2 a3 : Int) : xcall C M unr d 36 [(.agg [(iz a0), (.int .u64 a1)]), (.agg [(iz a2), (.int .u64 a3)])] =
 cnd (decide (a0 < a2))
 (some (iz (-1)))
 (cnd (a0 == a2)
 (cnd (decide (a1 < a3))
 (some (iz (-1)))
 (cnd (xor false ((a0 == a2) && ((a1 == a3) && true)))
 (some (iz 0))
 (some (iz 1))))
 (cnd (xor false ((a0 == a2) && ((a1 == a3) && true)))
 (some (iz 0))
 (some (iz 1)))) := by kernel_rfl
def r37R0 (C : Cb) (d : Nat) (a0 a1 : Int) (v0 : AV) (x3 x4 : Int) (v5 v9 : AV) : St → (Ex → St → Ans) → Ans := fun s13 k14 =>
 cnd ((List.length s13.env) == 36)
 (C.same s13.env[0]? (iz a0) <|
 C.same s13.env[1]? (iz a1) <|
 C.same s13.env[2]? tz <|
 C.same s13.env[3]? tz <|
 C.same s13.env[4]? v0 <|
 C.same s13.env[5]? v5 <|
 C.same s13.env[6]? v9 <|
 C.same s13.env[7]? (.int .u64 (IntKind.wrap .u64 a1)) <|
 C.int .i64 s13.env[8]? fun x16 =>
 C.same s13.env[9]? (iz a0) <|
 C.same s13.env[10]? (.agg [(iz x3), (.int .u64 x4)]) <|
 C.same s13.env[11]? (.agg [(iz 0), (.int .u64 0)]) <|
 C.same s13.env[12]? (iz a1) <|
 C.same s13.env[13]? (.int .u64 (IntKind.wrap .u64 a1)) <|
 C.any s13.env[14]? fun v17 =>
 C.any s13.env[15]? fun v18 =>
 C.any s13.env[16]? fun v19 =>
 C.any s13.env[17]? fun v20 =>
 C.any s13.env[18]? fun v21 =>
 C.any s13.env[19]? fun v22 =>
 C.any s13.env[20]? fun v23 =>
 C.any s13.env[21]? fun v24 =>
 C.any s13.env[22]? fun v25 =>
 C.any s13.env[23]? fun v26 =>
 C.any s13.env[24]? fun v27 =>
 C.any s13.env[25]? fun v28 =>
 C.any s13.env[26]? fun v29 =>
 C.any s13.env[27]? fun v30 =>
 C.any s13.env[28]? fun v31 =>
 C.same s13.env[29]? tz <|
 C.same s13.env[30]? tz <|
 C.same s13.env[31]? tz <|
 C.same s13.env[32]? tz <|
 C.same s13.env[33]? tz <|
 C.same s13.env[34]? tz <|
 C.same s13.env[35]? tz <|
 cnd (decide (x16 < 64))
 (cnd (decide (x16 < 0))
 (none)
 (cnd ((bits .and .u64 (Int.fdiv (IntKind.wrap .u64 a1) (2 ^ (min (Int.toNat x16) 64))) 1) == 1)
 (C.hop (St.H s13) (.load true 2 (.v v9)) fun v32 h33 =>
 C.agg 2 (some v32) fun l34 =>
 C.int .i64 l34[0]? fun x35 =>
 C.int .u64 l34[1]? fun x36 =>
 C.hop h33 (.load true 2 (.v v5)) fun v37 h38 =>
 C.agg 2 (some v37) fun l39 =>
 C.int .i64 l39[0]? fun x40 =>
 C.int .u64 l39[1]? fun x41 =>
 C.agg 2 (pcall M d 41 [(.agg [(iz x35), (.int .u64 x36)]), (.agg [(iz x40), (.int .u64 x41)])]) fun l42 =>
 C.int .i64 l42[0]? fun x43 =>
 C.int .u64 l42[1]? fun x44 =>
 C.hop h38 (.store 2 (.v v9) (.v (.agg [(iz x43), (.int .u64 x44)]))) fun v45 h46 =>
 C.hop h46 (.load true 2 (.v v5)) fun v47 h48 =>
 C.agg 2 (some v47) fun l49 =>
 C.int .i64 l49[0]? fun x50 =>
 C.int .u64 l49[1]? fun x51 =>
 C.hop h48 (.load true 2 (.v v5)) fun v52 h53 =>
 C.agg 2 (some v52) fun l54 =>
 C.int .i64 l54[0]? fun x55 =>
 C.int .u64 l54[1]? fun x56 =>
 C.agg 2 (pcall M d 41 [(.agg [(iz x50), (.int .u64 x51)]), (.agg [(iz x55), (.int .u64 x56)])]) fun l57 =>
 C.int .i64 l57[0]? fun x58 =>
 C.int .u64 l57[1]? fun x59 =>
 C.hop h53 (.store 2 (.v v5) (.v (.agg [(iz x58), (.int .u64 x59)]))) fun v60 h61 =>
 k14 .normal ⟨[(iz a0), (iz a1), tz, tz, v0, v5, v9, (.int .u64 (IntKind.wrap .u64 a1)), (iz (IntKind.wrap .i64 (x16 + 1))), (iz a0), (.agg [(iz x3), (.int .u64 x4)]), (.agg [(iz 0), (.int .u64 0)]), (iz a1), (.int .u64 (IntKind.wrap .u64 a1)), (iz x16), bt, (iz x16), (iz (IntKind.wrap .i64 (x16 + 1))), (.int .u64 (IntKind.wrap .u64 a1)), (iz x16), (.int .u64 (Int.fdiv (IntKind.wrap .u64 a1) (2 ^ (min (Int.toNat x16) 64)))), (.int .u64 (bits .and .u64 (Int.fdiv (IntKind.wrap .u64 a1) (2 ^ (min (Int.toNat x16) 64))) 1)), bt, (.agg [(iz x35), (.int .u64 x36)]), (.agg [(iz x40), (.int .u64 x41)]), (.agg [(iz x43), (.int .u64 x44)]), (.agg [(iz x50), (.int .u64 x51)]), (.agg [(iz x55), (.int .u64 x56)]), (.agg [(iz x58), (.int .u64 x59)]), tz, tz, tz, tz, tz, tz, tz], h61⟩)
 (C.hop (St.H s13) (.load true 2 (.v v5)) fun v62 h63 =>
 C.agg 2 (some v62) fun l64 =>
 C.int .i64 l64[0]? fun x65 =>
 C.int .u64 l64[1]? fun x66 =>
 C.hop h63 (.load true 2 (.v v5)) fun v67 h68 =>
 C.agg 2 (some v67) fun l69 =>
 C.int .i64 l69[0]? fun x70 =>
 C.int .u64 l69[1]? fun x71 =>
 C.agg 2 (pcall M d 41 [(.agg [(iz x65), (.int .u64 x66)]), (.agg [(iz x70), (.int .u64 x71)])]) fun l72 =>
 C.int .i64 l72[0]? fun x73 =>
 C.int .u64 l72[1]? fun x74 =>
 C.hop h68 (.store 2 (.v v5) (.v (.agg [(iz x73), (.int .u64 x74)]))) fun v75 h76 =>
 k14 .normal ⟨[(iz a0), (iz a1), tz, tz, v0, v5, v9, (.int .u64 (IntKind.wrap .u64 a1)), (iz (IntKind.wrap .i64 (x16 + 1))), (iz a0), (.agg [(iz x3), (.int .u64 x4)]), (.agg [(iz 0), (.int .u64 0)]), (iz a1), (.int .u64 (IntKind.wrap .u64 a1)), (iz x16), bt, (iz x16), (iz (IntKind.wrap .i64 (x16 + 1))), (.int .u64 (IntKind.wrap .u64 a1)), (iz x16), (.int .u64 (Int.fdiv (IntKind.wrap .u64 a1) (2 ^ (min (Int.toNat x16) 64)))), (.int .u64 (bits .and .u64 (Int.fdiv (IntKind.wrap .u64 a1) (2 ^ (min (Int.toNat x16) 64))) 1)), bf, v26, v27, v28, (.agg [(iz x65), (.int .u64 x66)]), (.agg [(iz x70), (.int .u64 x71)]), (.agg [(iz x73), (.int .u64 x74)]), tz, tz, tz, tz, tz, tz, tz], h76⟩)))
 (k14 (.exit 0) ⟨[(iz a0), (iz a1), tz, tz, v0, v5, v9, (.int .u64 (IntKind.wrap .u64 a1)), (iz x16), (iz a0), (.agg [(iz x3), (.int .u64 x4)]), (.agg [(iz 0), (.int .u64 0)]), (iz a1), (.int .u64 (IntKind.wrap .u64 a1)), (iz x16), bf, v19, v20, v21, v22, v23, v24, v25, v26, v27, v28, v29, v30, v31, tz, tz, tz, tz, tz, tz, tz], (St.H s13)⟩))
 (none)
def r37X0_0 (C : Cb) (d : Nat) (a0 a1 : Int) (v0 : AV) (x3 x4 : Int) (v5 v9 : AV) : St → Ans := fun s77 =>
 cnd ((List.length s77.env) == 36)
 (C.same s77.env[0]? (iz a0) <|
 C.same s77.env[1]? (iz a1) <|
 C.same s77.env[2]? tz <|
 C.same s77.env[3]? tz <|
 C.same s77.env[4]? v0 <|
 C.same s77.env[5]? v5 <|
 C.same s77.env[6]? v9 <|
 C.same s77.env[7]? (.int .u64 (IntKind.wrap .u64 a1)) <|
 C.int .i64 s77.env[8]? fun x78 =>
 C.same s77.env[9]? (iz a0) <|
 C.same s77.env[10]? (.agg [(iz x3), (.int .u64 x4)]) <|
 C.same s77.env[11]? (.agg [(iz 0), (.int .u64 0)]) <|
 C.same s77.env[12]? (iz a1) <|
 C.same s77.env[13]? (.int .u64 (IntKind.wrap .u64 a1)) <|
 C.int .i64 s77.env[14]? fun x79 =>
 C.bool s77.env[15]? fun b80 =>
 C.any s77.env[16]? fun v81 =>
 C.any s77.env[17]? fun v82 =>
 C.any s77.env[18]? fun v83 =>
 C.any s77.env[19]? fun v84 =>
 C.any s77.env[20]? fun v85 =>
 C.any s77.env[21]? fun v86 =>
 C.any s77.env[22]? fun v87 =>
 C.any s77.env[23]? fun v88 =>
 C.any s77.env[24]? fun v89 =>
 C.any s77.env[25]? fun v90 =>
 C.any s77.env[26]? fun v91 =>
 C.any s77.env[27]? fun v92 =>
 C.any s77.env[28]? fun v93 =>
 C.same s77.env[29]? tz <|
 C.same s77.env[30]? tz <|
 C.same s77.env[31]? tz <|
 C.same s77.env[32]? tz <|
 C.same s77.env[33]? tz <|
 C.same s77.env[34]? tz <|
 C.same s77.env[35]? tz <|
 cnd (decide (a1 < 0))
 (C.hop (St.H s77) (.load true 2 (.v v9)) fun v94 h95 =>
 C.agg 2 (some v94) fun l96 =>
 C.int .i64 l96[0]? fun x97 =>
 C.int .u64 l96[1]? fun x98 =>
 C.hop h95 (.load true 2 (.v v5)) fun v99 h100 =>
 C.agg 2 (some v99) fun l101 =>
 C.int .i64 l101[0]? fun x102 =>
 C.int .u64 l101[1]? fun x103 =>
 C.agg 2 (pcall M d 42 [(.agg [(iz x102), (.int .u64 x103)])]) fun l104 =>
 C.int .i64 l104[0]? fun x105 =>
 C.int .u64 l104[1]? fun x106 =>
 C.agg 2 (pcall M d 41 [(.agg [(iz x97), (.int .u64 x98)]), (.agg [(iz x105), (.int .u64 x106)])]) fun l107 =>
 C.int .i64 l107[0]? fun x108 =>
 C.int .u64 l107[1]? fun x109 =>
 C.hop h100 (.store 2 (.v v9) (.v (.agg [(iz x108), (.int .u64 x109)]))) fun v110 h111 =>
 C.hop h111 (.load true 2 (.v v9)) fun v112 h113 =>
 C.agg 2 (some v112) fun l114 =>
 C.int .i64 l114[0]? fun x115 =>
 C.int .u64 l114[1]? fun x116 =>
 C.hop h113 (.store 2 (.v v0) (.v (.agg [(iz x115), (.int .u64 x116)]))) fun v117 h118 =>
 C.hop h118 (.load true 2 (.v v0)) fun v119 h120 =>
 C.fin h118 v119)
 (C.hop (St.H s77) (.load true 2 (.v v9)) fun v121 h122 =>
 C.agg 2 (some v121) fun l123 =>
 C.int .i64 l123[0]? fun x124 =>
 C.int .u64 l123[1]? fun x125 =>
 C.hop h122 (.store 2 (.v v0) (.v (.agg [(iz x124), (.int .u64 x125)]))) fun v126 h127 =>
 C.hop h127 (.load true 2 (.v v0)) fun v128 h129 =>
 C.fin h127 v128))
 (none)
def r37E0 (C : Cb) (d : Nat) (a0 a1 : Int) (v0 : AV) (x3 x4 : Int) (v5 v9 : AV) : St → Ans := fun s15 =>
 cnd ((List.length s15.env) == 36)
 (C.same s15.env[0]? (iz a0) <|
 C.same s15.env[1]? (iz a1) <|
 C.same s15.env[2]? tz <|
 C.same s15.env[3]? tz <|
 C.same s15.env[4]? v0 <|
 C.same s15.env[5]? v5 <|
 C.same s15.env[6]? v9 <|
 C.same s15.env[7]? (.int .u64 (IntKind.wrap .u64 a1)) <|
 C.int .i64 s15.env[8]? fun x130 =>
 C.same s15.env[9]? (iz a0) <|
 C.same s15.env[10]? (.agg [(iz x3), (.int .u64 x4)]) <|
 C.same s15.env[11]? (.agg [(iz 0), (.int .u64 0)]) <|
 C.same s15.env[12]? (iz a1) <|
 C.same s15.env[13]? (.int .u64 (IntKind.wrap .u64 a1)) <|
 C.any s15.env[14]? fun v131 =>
 C.any s15.env[15]? fun v132 =>
 C.any s15.env[16]? fun v133 =>
 C.any s15.env[17]? fun v134 =>
 C.any s15.env[18]? fun v135 =>
 C.any s15.env[19]? fun v136 =>
 C.any s15.env[20]? fun v137 =>
 C.any s15.env[21]? fun v138 =>
 C.any s15.env[22]? fun v139 =>
 C.any s15.env[23]? fun v140 =>
 C.any s15.env[24]? fun v141 =>
 C.any s15.env[25]? fun v142 =>
 C.any s15.env[26]? fun v143 =>
 C.any s15.env[27]? fun v144 =>
 C.any s15.env[28]? fun v145 =>
 C.same s15.env[29]? tz <|
 C.same s15.env[30]? tz <|
 C.same s15.env[31]? tz <|
 C.same s15.env[32]? tz <|
 C.same s15.env[33]? tz <|
 C.same s15.env[34]? tz <|
 C.same s15.env[35]? tz <|
 C.hop (St.H s15) (.load true 2 (.v v0)) fun v146 h147 =>
 C.fin (St.H s15) v146)
 (none)
/-- apogee/apogeeref01.Mul -/
theorem r37 (C : Cb) (d : Nat) (a0 a1 : Int) : xcall C M unr d 37 [(iz a0), (iz a1)] =
 C.hop [] (.alloc E59) fun v0 h1 =>
 C.agg 2 (pcall M d 25 [(iz a0)]) fun l2 =>
 C.int .i64 l2[0]? fun x3 =>
 C.int .u64 l2[1]? fun x4 =>
 C.hop h1 (.alloc E59) fun v5 h6 =>
 C.hop h6 (.store 2 (.v v5) (.v (.agg [(iz x3), (.int .u64 x4)]))) fun v7 h8 =>
 C.hop h8 (.alloc E59) fun v9 h10 =>
 C.hop h10 (.store 2 (.v v9) (.v (.agg [(iz 0), (.int .u64 0)]))) fun v11 h12 =>
 C.iter (r37R0 C d a0 a1 v0 x3 x4 v5 v9) 1000000000000000000 ⟨[(iz a0), (iz a1), tz, tz, v0, v5, v9, (.int .u64 (IntKind.wrap .u64 a1)), (iz 0), (iz a0), (.agg [(iz x3), (.int .u64 x4)]), (.agg [(iz 0), (.int .u64 0)]), (iz a1), (.int .u64 (IntKind.wrap .u64 a1)), tz, tz, tz, tz, tz, tz, tz, tz, tz, tz, tz, tz, tz, tz, tz, tz, tz, tz, tz, tz, tz, tz], h12⟩ [0] [r37X0_0 C d a0 a1 v0 x3 x4 v5 v9] (r37E0 C d a0 a1 v0 x3 x4 v5 v9) := by kernel_rfl
def r41R0 (C : Cb) (d : Nat) (a0 a1 a2 a3 : Int) (v0 v2 v4 : AV) (x9 x10 : Int) (v11 : AV) (x15 x16 : Int) (v17 : AV) : St → (Ex → St → Ans) → Ans := fun s18 k19 =>
 cnd ((List.length s18.env) == 39)
 (C.same s18.env[0]? (.agg [(iz a0), (.int .u64 a1)]) <|
 C.same s18.env[1]? (.agg [(iz a2), (.int .u64 a3)]) <|
 C.same s18.env[2]? v0 <|
 C.same s18.env[3]? v2 <|
 C.same s18.env[4]? v4 <|
 C.same s18.env[5]? v11 <|
 C.same s18.env[6]? v17 <|
 C.any s18.env[7]? fun v21 =>
 C.int .i64 s18.env[8]? fun x22 =>
 C.int .i64 s18.env[9]? fun x23 =>
 C.any s18.env[10]? fun v24 =>
 C.same s18.env[11]? (.agg [(iz x9), (.int .u64 x10)]) <|
 C.same s18.env[12]? v11 <|
 C.same s18.env[13]? (.agg [(iz x15), (.int .u64 x16)]) <|
 C.same s18.env[14]? v17 <|
 C.any s18.env[15]? fun v25 =>
 C.any s18.env[16]? fun v26 =>
 C.any s18.env[17]? fun v27 =>
 C.any s18.env[18]? fun v28 =>
 C.any s18.env[19]? fun v29 =>
 C.any s18.env[20]? fun v30 =>
 C.any s18.env[21]? fun v31 =>
 C.any s18.env[22]? fun v32 =>
 C.any s18.env[23]? fun v33 =>
 C.any s18.env[24]? fun v34 =>
 C.any s18.env[25]? fun v35 =>
 C.any s18.env[26]? fun v36 =>
 C.any s18.env[27]? fun v37 =>
 C.any s18.env[28]? fun v38 =>
 C.any s18.env[29]? fun v39 =>
 C.any s18.env[30]? fun v40 =>
 C.any s18.env[31]? fun v41 =>
 C.any s18.env[32]? fun v42 =>
 C.any s18.env[33]? fun v43 =>
 C.any s18.env[34]? fun v44 =>
 C.any s18.env[35]? fun v45 =>
 C.any s18.env[36]? fun v46 =>
 C.same s18.env[37]? tz <|
 C.same s18.env[38]? tz <|
 cnd (decide (x23 < 128))
 (C.hop (St.H s18) (.ixAS .any 1 (.v v11) (.v (iz x23))) fun v47 h48 =>
 C.hop h48 (.load false 1 (.v v47)) fun v49 h50 =>
 C.int .i64 (some v49) fun x51 =>
 C.hop h50 (.ixAS .any 1 (.v v17) (.v (iz x23))) fun v52 h53 =>
 C.hop h53 (.load false 1 (.v v52)) fun v54 h55 =>
 C.int .i64 (some v54) fun x56 =>
 C.hop h55 (.mkrow E3 1 [(0, (.v (iz (Int.tmod (IntKind.wrap .i64 ((IntKind.wrap .i64 (x51 + x56)) + x22)) 2))))]) fun v57 h58 =>
 C.hop h58 (.app E3 (.v v21) (.v v57)) fun v59 h60 =>
 k19 .normal ⟨[(.agg [(iz a0), (.int .u64 a1)]), (.agg [(iz a2), (.int .u64 a3)]), v0, v2, v4, v11, v17, v59, (iz (IntKind.wrap .i64 (Int.tdiv (IntKind.wrap .i64 ((IntKind.wrap .i64 (x51 + x56)) + x22)) 2))), (iz (IntKind.wrap .i64 (x23 + 1))), (iz (IntKind.wrap .i64 ((IntKind.wrap .i64 (x51 + x56)) + x22))), (.agg [(iz x9), (.int .u64 x10)]), v11, (.agg [(iz x15), (.int .u64 x16)]), v17, (iz x23), bt, (iz x23), (iz (IntKind.wrap .i64 (x23 + 1))), v11, (iz x23), v47, (iz x51), v17, (iz x23), v52, (iz x56), (iz (IntKind.wrap .i64 (x51 + x56))), (iz x22), (iz (IntKind.wrap .i64 ((IntKind.wrap .i64 (x51 + x56)) + x22))), v21, (iz (IntKind.wrap .i64 ((IntKind.wrap .i64 (x51 + x56)) + x22))), (iz (Int.tmod (IntKind.wrap .i64 ((IntKind.wrap .i64 (x51 + x56)) + x22)) 2)), v57, v59, (iz (IntKind.wrap .i64 ((IntKind.wrap .i64 (x51 + x56)) + x22))), (iz (IntKind.wrap .i64 (Int.tdiv (IntKind.wrap .i64 ((IntKind.wrap .i64 (x51 + x56)) + x22)) 2))), tz, tz], h60⟩)
 (k19 (.exit 0) ⟨[(.agg [(iz a0), (.int .u64 a1)]), (.agg [(iz a2), (.int .u64 a3)]), v0, v2, v4, v11, v17, v21, (iz x22), (iz x23), v24, (.agg [(iz x9), (.int .u64 x10)]), v11, (.agg [(iz x15), (.int .u64 x16)]), v17, (iz x23), bf, v27, v28, v29, v30, v31, v32, v33, v34, v35, v36, v37, v38, v39, v40, v41, v42, v43, v44, v45, v46, tz, tz], (St.H s18)⟩))
 (none)
def r41X0_0 (C : Cb) (d : Nat) (a0 a1 a2 a3 : Int) (v0 v2 v4 : AV) (x9 x10 : Int) (v11 : AV) (x15 x16 : Int) (v17 : AV) : St → Ans := fun s61 =>
 cnd ((List.length s61.env) == 39)
 (C.same s61.env[0]? (.agg [(iz a0), (.int .u64 a1)]) <|
 C.same s61.env[1]? (.agg [(iz a2), (.int .u64 a3)]) <|
 C.same s61.env[2]? v0 <|
 C.same s61.env[3]? v2 <|
 C.same s61.env[4]? v4 <|
 C.same s61.env[5]? v11 <|
 C.same s61.env[6]? v17 <|
 C.any s61.env[7]? fun v62 =>
 C.int .i64 s61.env[8]? fun x63 =>
 C.int .i64 s61.env[9]? fun x64 =>
 C.any s61.env[10]? fun v65 =>
 C.same s61.env[11]? (.agg [(iz x9), (.int .u64 x10)]) <|
 C.same s61.env[12]? v11 <|
 C.same s61.env[13]? (.agg [(iz x15), (.int .u64 x16)]) <|
 C.same s61.env[14]? v17 <|
 C.int .i64 s61.env[15]? fun x66 =>
 C.bool s61.env[16]? fun b67 =>
 C.any s61.env[17]? fun v68 =>
 C.any s61.env[18]? fun v69 =>
 C.any s61.env[19]? fun v70 =>
 C.any s61.env[20]? fun v71 =>
 C.any s61.env[21]? fun v72 =>
 C.any s61.env[22]? fun v73 =>
 C.any s61.env[23]? fun v74 =>
 C.any s61.env[24]? fun v75 =>
 C.any s61.env[25]? fun v76 =>
 C.any s61.env[26]? fun v77 =>
 C.any s61.env[27]? fun v78 =>
 C.any s61.env[28]? fun v79 =>
 C.any s61.env[29]? fun v80 =>
 C.any s61.env[30]? fun v81 =>
 C.any s61.env[31]? fun v82 =>
 C.any s61.env[32]? fun v83 =>
 C.any s61.env[33]? fun v84 =>
 C.any s61.env[34]? fun v85 =>
 C.any s61.env[35]? fun v86 =>
 C.any s61.env[36]? fun v87 =>
 C.same s61.env[37]? tz <|
 C.same s61.env[38]? tz <|
 C.snp (St.H s61) [v62] fun l88 b89 =>
 C.agg 2 (pcall M d 47 l88) fun l90 =>
 C.int .i64 l90[0]? fun x91 =>
 C.int .u64 l90[1]? fun x92 =>
 cnd (b89 || true)
 (C.hop (St.H s61) (.store 2 (.v v4) (.v (.agg [(iz x91), (.int .u64 x92)]))) fun v93 h94 =>
 C.hop h94 (.load true 2 (.v v4)) fun v95 h96 =>
 C.fin h94 v95)
 (none))
 (none)
def r41E0 (C : Cb) (d : Nat) (a0 a1 a2 a3 : Int) (v0 v2 v4 : AV) (x9 x10 : Int) (v11 : AV) (x15 x16 : Int) (v17 : AV) : St → Ans := fun s20 =>
 cnd ((List.length s20.env) == 39)
 (C.same s20.env[0]? (.agg [(iz a0), (.int .u64 a1)]) <|
 C.same s20.env[1]? (.agg [(iz a2), (.int .u64 a3)]) <|
 C.same s20.env[2]? v0 <|
 C.same s20.env[3]? v2 <|
 C.same s20.env[4]? v4 <|
 C.same s20.env[5]? v11 <|
 C.same s20.env[6]? v17 <|
 C.any s20.env[7]? fun v97 =>
 C.int .i64 s20.env[8]? fun x98 =>
 C.int .i64 s20.env[9]? fun x99 =>
 C.any s20.env[10]? fun v100 =>
 C.same s20.env[11]? (.agg [(iz x9), (.int .u64 x10)]) <|
 C.same s20.env[12]? v11 <|
 C.same s20.env[13]? (.agg [(iz x15), (.int .u64 x16)]) <|
 C.same s20.env[14]? v17 <|
 C.any s20.env[15]? fun v101 =>
 C.any s20.env[16]? fun v102 =>
 C.any s20.env[17]? fun v103 =>
 C.any s20.env[18]? fun v104 =>
 C.any s20.env[19]? fun v105 =>
 C.any s20.env[20]? fun v106 =>
 C.any s20.env[21]? fun v107 =>
 C.any s20.env[22]? fun v108 =>
 C.any s20.env[23]? fun v109 =>
 C.any s20.env[24]? fun v110 =>
 C.any s20.env[25]? fun v111 =>
 C.any s20.env[26]? fun v112 =>
 C.any s20.env[27]? fun v113 =>
 C.any s20.env[28]? fun v114 =>
 C.any s20.env[29]? fun v115 =>
 C.any s20.env[30]? fun v116 =>
 C.any s20.env[31]? fun v117 =>
 C.any s20.env[32]? fun v118 =>
 C.any s20.env[33]? fun v119 =>
 C.any s20.env[34]? fun v120 =>
 C.any s20.env[35]? fun v121 =>
 C.any s20.env[36]? fun v122 =>
 C.same s20.env[37]? tz <|
 C.same s20.env[38]? tz <|
 C.hop (St.H s20) (.load true 2 (.v v4)) fun v123 h124 =>
 C.fin (St.H s20) v123)
 (none)
/-- apogee/apogeeref01.plus -/
theorem r41 (C : Cb) (d : Nat) (a0 a1 a2 a3 : Int) : xcall C M unr d 41 [(.agg [(iz a0), (.int .u64 a1)]), (.agg [(iz a2), (.int .u64 a3)])] =
 C.hop [] (.box E59 (.v (.agg [(iz a0), (.int .u64 a1)]))) fun v0 h1 =>
 C.hop h1 (.box E59 (.v (.agg [(iz a2), (.int .u64 a3)]))) fun v2 h3 =>
 C.hop h3 (.alloc E59) fun v4 h5 =>
 C.hop h5 (.load true 2 (.v v0)) fun v6 h7 =>
 C.agg 2 (some v6) fun l8 =>
 C.int .i64 l8[0]? fun x9 =>
 C.int .u64 l8[1]? fun x10 =>
 C.any (pcall M d 46 [(.agg [(iz x9), (.int .u64 x10)])]) fun v11 =>
 C.hop h7 (.load true 2 (.v v2)) fun v12 h13 =>
 C.agg 2 (some v12) fun l14 =>
 C.int .i64 l14[0]? fun x15 =>
 C.int .u64 l14[1]? fun x16 =>
 C.any (pcall M d 46 [(.agg [(iz x15), (.int .u64 x16)])]) fun v17 =>
 C.iter (r41R0 C d a0 a1 a2 a3 v0 v2 v4 x9 x10 v11 x15 x16 v17) 1000000000000000000 ⟨[(.agg [(iz a0), (.int .u64 a1)]), (.agg [(iz a2), (.int .u64 a3)]), v0, v2, v4, v11, v17, (.zsl true), (iz 0), (iz 0), tz, (.agg [(iz x9), (.int .u64 x10)]), v11, (.agg [(iz x15), (.int .u64 x16)]), v17, tz, tz, tz, tz, tz, tz, tz, tz, tz, tz, tz, tz, tz, tz, tz, tz, tz, tz, tz, tz, tz, tz, tz, tz], h13⟩ [0] [r41X0_0 C d a0 a1 a2 a3 v0 v2 v4 x9 x10 v11 x15 x16 v17] (r41E0 C d a0 a1 a2 a3 v0 v2 v4 x9 x10 v11 x15 x16 v17) := by kernel_rfl
/-- apogee/apogeeref01.Flip -/
theorem r42 (C : Cb) (d : Nat) (a0 a1 : Int) : xcall C M unr d 42 [(.agg [(iz a0), (.int .u64 a1)])] =
 C.agg 2 (pcall M d 41 [(.agg [(iz (bits .xor .i64 (if (true = true) then (-1) else (IntKind.max .i64)) a0)), (.int .u64 (bits .xor .u64 (if (false = true) then (-1) else (IntKind.max .u64)) a1))]), (.agg [(iz 0), (.int .u64 1)])]) fun l0 =>
 C.int .i64 l0[0]? fun x1 =>
 C.int .u64 l0[1]? fun x2 =>
 some (.agg [(iz x1), (.int .u64 x2)]) := by kernel_rfl
def r46R1 (C : Cb) (d : Nat) (a0 a1 : Int) (v0 : AV) (x31 x32 : Int) (b33 : Bool) (v34 v35 v36 v37 v38 v39 v40 v41 v42 v43 v44 : AV) : St → (Ex → St → Ans) → Ans := fun s45 k46 =>
 cnd ((List.length s45.env) == 34)
 (C.same s45.env[0]? (.agg [(iz a0), (.int .u64 a1)]) <|
 C.same s45.env[1]? v0 <|
 C.same s45.env[2]? (.zsl true) <|
 C.any s45.env[3]? fun v48 =>
 C.same s45.env[4]? (iz x31) <|
 C.int .i64 s45.env[5]? fun x49 =>
 C.same s45.env[6]? (iz x32) <|
 C.same s45.env[7]? (.bool b33) <|
 C.same s45.env[8]? v34 <|
 C.same s45.env[9]? v35 <|
 C.same s45.env[10]? v36 <|
 C.same s45.env[11]? v37 <|
 C.same s45.env[12]? v38 <|
 C.same s45.env[13]? v39 <|
 C.same s45.env[14]? v40 <|
 C.same s45.env[15]? v41 <|
 C.same s45.env[16]? v42 <|
 C.same s45.env[17]? v43 <|
 C.same s45.env[18]? v44 <|
 C.any s45.env[19]? fun v50 =>
 C.any s45.env[20]? fun v51 =>
 C.any s45.env[21]? fun v52 =>
 C.any s45.env[22]? fun v53 =>
 C.any s45.env[23]? fun v54 =>
 C.any s45.env[24]? fun v55 =>
 C.any s45.env[25]? fun v56 =>
 C.any s45.env[26]? fun v57 =>
 C.any s45.env[27]? fun v58 =>
 C.any s45.env[28]? fun v59 =>
 C.any s45.env[29]? fun v60 =>
 C.any s45.env[30]? fun v61 =>
 C.any s45.env[31]? fun v62 =>
 C.any s45.env[32]? fun v63 =>
 C.same s45.env[33]? tz <|
 cnd (decide (x49 < 64))
 (C.hop (St.H s45) (.fldA 0 (.v v0)) fun v64 h65 =>
 C.hop h65 (.load false 1 (.v v64)) fun v66 h67 =>
 C.int .i64 (some v66) fun x68 =>
 cnd (decide (x49 < 0))
 (none)
 (C.hop h67 (.mkrow E3 1 [(0, (.v (iz (IntKind.wrap .i64 (bits .and .u64 (Int.fdiv (IntKind.wrap .u64 x68) (2 ^ (min (Int.toNat x49) 64))) 1)))))]) fun v69 h70 =>
 C.hop h70 (.app E3 (.v v48) (.v v69)) fun v71 h72 =>
 k46 .normal ⟨[(.agg [(iz a0), (.int .u64 a1)]), v0, (.zsl true), v71, (iz x31), (iz (IntKind.wrap .i64 (x49 + 1))), (iz x32), (.bool b33), v34, v35, v36, v37, v38, v39, v40, v41, v42, v43, v44, (iz x49), bt, (iz x49), (iz (IntKind.wrap .i64 (x49 + 1))), v48, v64, (iz x68), (.int .u64 (IntKind.wrap .u64 x68)), (iz x49), (.int .u64 (Int.fdiv (IntKind.wrap .u64 x68) (2 ^ (min (Int.toNat x49) 64)))), (.int .u64 (bits .and .u64 (Int.fdiv (IntKind.wrap .u64 x68) (2 ^ (min (Int.toNat x49) 64))) 1)), (iz (IntKind.wrap .i64 (bits .and .u64 (Int.fdiv (IntKind.wrap .u64 x68) (2 ^ (min (Int.toNat x49) 64))) 1))), v69, v71, tz], h72⟩))
 (k46 (.exit 2) ⟨[(.agg [(iz a0), (.int .u64 a1)]), v0, (.zsl true), v48, (iz x31), (iz x49), (iz x32), (.bool b33), v34, v35, v36, v37, v38, v39, v40, v41, v42, v43, v44, (iz x49), bf, v52, v53, v54, v55, v56, v57, v58, v59, v60, v61, v62, v63, tz], (St.H s45)⟩))
 (none)
def r46X1_0 (C : Cb) (d : Nat) (a0 a1 : Int) (v0 : AV) (x31 x32 : Int) (b33 : Bool) (v34 v35 v36 v37 v38 v39 v40 v41 v42 v43 v44 : AV) : St → Ans := fun s73 =>
 cnd ((List.length s73.env) == 34)
 (C.same s73.env[0]? (.agg [(iz a0), (.int .u64 a1)]) <|
 C.same s73.env[1]? v0 <|
 C.same s73.env[2]? (.zsl true) <|
 C.any s73.env[3]? fun v74 =>
 C.same s73.env[4]? (iz x31) <|
 C.int .i64 s73.env[5]? fun x75 =>
 C.same s73.env[6]? (iz x32) <|
 C.same s73.env[7]? (.bool b33) <|
 C.same s73.env[8]? v34 <|
 C.same s73.env[9]? v35 <|
 C.same s73.env[10]? v36 <|
 C.same s73.env[11]? v37 <|
 C.same s73.env[12]? v38 <|
 C.same s73.env[13]? v39 <|
 C.same s73.env[14]? v40 <|
 C.same s73.env[15]? v41 <|
 C.same s73.env[16]? v42 <|
 C.same s73.env[17]? v43 <|
 C.same s73.env[18]? v44 <|
 C.int .i64 s73.env[19]? fun x76 =>
 C.bool s73.env[20]? fun b77 =>
 C.any s73.env[21]? fun v78 =>
 C.any s73.env[22]? fun v79 =>
 C.any s73.env[23]? fun v80 =>
 C.any s73.env[24]? fun v81 =>
 C.any s73.env[25]? fun v82 =>
 C.any s73.env[26]? fun v83 =>
 C.any s73.env[27]? fun v84 =>
 C.any s73.env[28]? fun v85 =>
 C.any s73.env[29]? fun v86 =>
 C.any s73.env[30]? fun v87 =>
 C.any s73.env[31]? fun v88 =>
 C.any s73.env[32]? fun v89 =>
 C.same s73.env[33]? tz <|
 C.fin (St.H s73) v74)
 (none)
def r46E1 (C : Cb) (d : Nat) (a0 a1 : Int) (v0 : AV) (x31 x32 : Int) (b33 : Bool) (v34 v35 v36 v37 v38 v39 v40 v41 v42 v43 v44 : AV) : St → Ans := fun s47 =>
 cnd ((List.length s47.env) == 34)
 (C.same s47.env[0]? (.agg [(iz a0), (.int .u64 a1)]) <|
 C.same s47.env[1]? v0 <|
 C.same s47.env[2]? (.zsl true) <|
 C.any s47.env[3]? fun v90 =>
 C.same s47.env[4]? (iz x31) <|
 C.int .i64 s47.env[5]? fun x91 =>
 C.same s47.env[6]? (iz x32) <|
 C.same s47.env[7]? (.bool b33) <|
 C.same s47.env[8]? v34 <|
 C.same s47.env[9]? v35 <|
 C.same s47.env[10]? v36 <|
 C.same s47.env[11]? v37 <|
 C.same s47.env[12]? v38 <|
 C.same s47.env[13]? v39 <|
 C.same s47.env[14]? v40 <|
 C.same s47.env[15]? v41 <|
 C.same s47.env[16]? v42 <|
 C.same s47.env[17]? v43 <|
 C.same s47.env[18]? v44 <|
 C.any s47.env[19]? fun v92 =>
 C.any s47.env[20]? fun v93 =>
 C.any s47.env[21]? fun v94 =>
 C.any s47.env[22]? fun v95 =>
 C.any s47.env[23]? fun v96 =>
 C.any s47.env[24]? fun v97 =>
 C.any s47.env[25]? fun v98 =>
 C.any s47.env[26]? fun v99 =>
 C.any s47.env[27]? fun v100 =>
 C.any s47.env[28]? fun v101 =>
 C.any s47.env[29]? fun v102 =>
 C.any s47.env[30]? fun v103 =>
 C.any s47.env[31]? fun v104 =>
 C.any s47.env[32]? fun v105 =>
 C.same s47.env[33]? tz <|
 C.fin (St.H s47) (.zsl true))
 (none)
def r46R0 (C : Cb) (d : Nat) (a0 a1 : Int) (v0 : AV) : St → (Ex → St → Ans) → Ans := fun s2 k3 =>
 cnd ((List.length s2.env) == 34)
 (C.same s2.env[0]? (.agg [(iz a0), (.int .u64 a1)]) <|
 C.same s2.env[1]? v0 <|
 C.same s2.env[2]? (.zsl true) <|
 C.any s2.env[3]? fun v5 =>
 C.int .i64 s2.env[4]? fun x6 =>
 C.same s2.env[5]? tz <|
 C.any s2.env[6]? fun v7 =>
 C.any s2.env[7]? fun v8 =>
 C.any s2.env[8]? fun v9 =>
 C.any s2.env[9]? fun v10 =>
 C.any s2.env[10]? fun v11 =>
 C.any s2.env[11]? fun v12 =>
 C.any s2.env[12]? fun v13 =>
 C.any s2.env[13]? fun v14 =>
 C.any s2.env[14]? fun v15 =>
 C.any s2.env[15]? fun v16 =>
 C.any s2.env[16]? fun v17 =>
 C.any s2.env[17]? fun v18 =>
 C.any s2.env[18]? fun v19 =>
 C.same s2.env[19]? tz <|
 C.same s2.env[20]? tz <|
 C.same s2.env[21]? tz <|
 C.same s2.env[22]? tz <|
 C.same s2.env[23]? tz <|
 C.same s2.env[24]? tz <|
 C.same s2.env[25]? tz <|
 C.same s2.env[26]? tz <|
 C.same s2.env[27]? tz <|
 C.same s2.env[28]? tz <|
 C.same s2.env[29]? tz <|
 C.same s2.env[30]? tz <|
 C.same s2.env[31]? tz <|
 C.same s2.env[32]? tz <|
 C.same s2.env[33]? tz <|
 cnd (decide (x6 < 64))
 (C.hop (St.H s2) (.fldA 1 (.v v0)) fun v20 h21 =>
 C.hop h21 (.load false 1 (.v v20)) fun v22 h23 =>
 C.int .u64 (some v22) fun x24 =>
 cnd (decide (x6 < 0))
 (none)
 (C.hop h23 (.mkrow E3 1 [(0, (.v (iz (IntKind.wrap .i64 (bits .and .u64 (Int.fdiv x24 (2 ^ (min (Int.toNat x6) 64))) 1)))))]) fun v25 h26 =>
 C.hop h26 (.app E3 (.v v5) (.v v25)) fun v27 h28 =>
 k3 .normal ⟨[(.agg [(iz a0), (.int .u64 a1)]), v0, (.zsl true), v27, (iz (IntKind.wrap .i64 (x6 + 1))), tz, (iz x6), bt, (iz x6), (iz (IntKind.wrap .i64 (x6 + 1))), v5, v20, (.int .u64 x24), (iz x6), (.int .u64 (Int.fdiv x24 (2 ^ (min (Int.toNat x6) 64)))), (.int .u64 (bits .and .u64 (Int.fdiv x24 (2 ^ (min (Int.toNat x6) 64))) 1)), (iz (IntKind.wrap .i64 (bits .and .u64 (Int.fdiv x24 (2 ^ (min (Int.toNat x6) 64))) 1))), v25, v27, tz, tz, tz, tz, tz, tz, tz, tz, tz, tz, tz, tz, tz, tz, tz], h28⟩))
 (k3 (.exit 0) ⟨[(.agg [(iz a0), (.int .u64 a1)]), v0, (.zsl true), v5, (iz x6), tz, (iz x6), bf, v9, v10, v11, v12, v13, v14, v15, v16, v17, v18, v19, tz, tz, tz, tz, tz, tz, tz, tz, tz, tz, tz, tz, tz, tz, tz], (St.H s2)⟩))
 (none)
def r46X0_0 (C : Cb) (d : Nat) (a0 a1 : Int) (v0 : AV) : St → Ans := fun s29 =>
 cnd ((List.length s29.env) == 34)
 (C.same s29.env[0]? (.agg [(iz a0), (.int .u64 a1)]) <|
 C.same s29.env[1]? v0 <|
 C.same s29.env[2]? (.zsl true) <|
 C.any s29.env[3]? fun v30 =>
 C.int .i64 s29.env[4]? fun x31 =>
 C.same s29.env[5]? tz <|
 C.int .i64 s29.env[6]? fun x32 =>
 C.bool s29.env[7]? fun b33 =>
 C.any s29.env[8]? fun v34 =>
 C.any s29.env[9]? fun v35 =>
 C.any s29.env[10]? fun v36 =>
 C.any s29.env[11]? fun v37 =>
 C.any s29.env[12]? fun v38 =>
 C.any s29.env[13]? fun v39 =>
 C.any s29.env[14]? fun v40 =>
 C.any s29.env[15]? fun v41 =>
 C.any s29.env[16]? fun v42 =>
 C.any s29.env[17]? fun v43 =>
 C.any s29.env[18]? fun v44 =>
 C.same s29.env[19]? tz <|
 C.same s29.env[20]? tz <|
 C.same s29.env[21]? tz <|
 C.same s29.env[22]? tz <|
 C.same s29.env[23]? tz <|
 C.same s29.env[24]? tz <|
 C.same s29.env[25]? tz <|
 C.same s29.env[26]? tz <|
 C.same s29.env[27]? tz <|
 C.same s29.env[28]? tz <|
 C.same s29.env[29]? tz <|
 C.same s29.env[30]? tz <|
 C.same s29.env[31]? tz <|
 C.same s29.env[32]? tz <|
 C.same s29.env[33]? tz <|
 C.iter (r46R1 C d a0 a1 v0 x31 x32 b33 v34 v35 v36 v37 v38 v39 v40 v41 v42 v43 v44) 1000000000000000000 ⟨[(.agg [(iz a0), (.int .u64 a1)]), v0, (.zsl true), v30, (iz x31), (iz 0), (iz x32), (.bool b33), v34, v35, v36, v37, v38, v39, v40, v41, v42, v43, v44, tz, tz, tz, tz, tz, tz, tz, tz, tz, tz, tz, tz, tz, tz, tz], (St.H s29)⟩ [2] [r46X1_0 C d a0 a1 v0 x31 x32 b33 v34 v35 v36 v37 v38 v39 v40 v41 v42 v43 v44] (r46E1 C d a0 a1 v0 x31 x32 b33 v34 v35 v36 v37 v38 v39 v40 v41 v42 v43 v44))
 (none)
def r46E0 (C : Cb) (d : Nat) (a0 a1 : Int) (v0 : AV) : St → Ans := fun s4 =>
 cnd ((List.length s4.env) == 34)
 (C.same s4.env[0]? (.agg [(iz a0), (.int .u64 a1)]) <|
 C.same s4.env[1]? v0 <|
 C.same s4.env[2]? (.zsl true) <|
 C.any s4.env[3]? fun v106 =>
 C.int .i64 s4.env[4]? fun x107 =>
 C.same s4.env[5]? tz <|
 C.any s4.env[6]? fun v108 =>
 C.any s4.env[7]? fun v109 =>
 C.any s4.env[8]? fun v110 =>
 C.any s4.env[9]? fun v111 =>
 C.any s4.env[10]? fun v112 =>
 C.any s4.env[11]? fun v113 =>
 C.any s4.env[12]? fun v114 =>
 C.any s4.env[13]? fun v115 =>
 C.any s4.env[14]? fun v116 =>
 C.any s4.env[15]? fun v117 =>
 C.any s4.env[16]? fun v118 =>
 C.any s4.env[17]? fun v119 =>
 C.any s4.env[18]? fun v120 =>
 C.same s4.env[19]? tz <|
 C.same s4.env[20]? tz <|
 C.same s4.env[21]? tz <|
 C.same s4.env[22]? tz <|
 C.same s4.env[23]? tz <|
 C.same s4.env[24]? tz <|
 C.same s4.env[25]? tz <|
 C.same s4.env[26]? tz <|
 C.same s4.env[27]? tz <|
 C.same s4.env[28]? tz <|
 C.same s4.env[29]? tz <|
 C.same s4.env[30]? tz <|
 C.same s4.env[31]? tz <|
 C.same s4.env[32]? tz <|
 C.same s4.env[33]? tz <|
 C.fin (St.H s4) (.zsl true))
 (none)
/-- apogee/apogeeref01.bits -/
theorem r46 (C : Cb) (d : Nat) (a0 a1 : Int) : xcall C M unr d 46 [(.agg [(iz a0), (.int .u64 a1)])] =
 C.hop [] (.box E59 (.v (.agg [(iz a0), (.int .u64 a1)]))) fun v0 h1 =>
 C.iter (r46R0 C d a0 a1 v0) 1000000000000000000 ⟨[(.agg [(iz a0), (.int .u64 a1)]), v0, (.zsl true), (.zsl true), (iz 0), tz, tz, tz, tz, tz, tz, tz, tz, tz, tz, tz, tz, tz, tz, tz, tz, tz, tz, tz, tz, tz, tz, tz, tz, tz, tz, tz, tz, tz], h1⟩ [0] [r46X0_0 C d a0 a1 v0] (r46E0 C d a0 a1 v0) := by kernel_rfl
def r47R0 (C : Cb) (d : Nat) (a0 : List AV) (v0 v2 : AV) : St → (Ex → St → Ans) → Ans := fun s6 k7 =>
 cnd ((List.length s6.env) == 36)
 (C.same s6.env[0]? (.lst a0) <|
 C.same s6.env[1]? tz <|
 C.same s6.env[2]? v0 <|
 C.same s6.env[3]? v2 <|
 C.int .u64 s6.env[4]? fun x9 =>
 C.int .i64 s6.env[5]? fun x10 =>
 C.same s6.env[6]? (.agg [(iz 0), (.int .u64 0)]) <|
 C.any s6.env[7]? fun v11 =>
 C.any s6.env[8]? fun v12 =>
 C.any s6.env[9]? fun v13 =>
 C.any s6.env[10]? fun v14 =>
 C.any s6.env[11]? fun v15 =>
 C.any s6.env[12]? fun v16 =>
 C.any s6.env[13]? fun v17 =>
 C.any s6.env[14]? fun v18 =>
 C.any s6.env[15]? fun v19 =>
 C.any s6.env[16]? fun v20 =>
 C.any s6.env[17]? fun v21 =>
 C.any s6.env[18]? fun v22 =>
 C.any s6.env[19]? fun v23 =>
 C.any s6.env[20]? fun v24 =>
 C.any s6.env[21]? fun v25 =>
 C.any s6.env[22]? fun v26 =>
 C.any s6.env[23]? fun v27 =>
 C.any s6.env[24]? fun v28 =>
 C.any s6.env[25]? fun v29 =>
 C.any s6.env[26]? fun v30 =>
 C.any s6.env[27]? fun v31 =>
 C.any s6.env[28]? fun v32 =>
 C.any s6.env[29]? fun v33 =>
 C.any s6.env[30]? fun v34 =>
 C.any s6.env[31]? fun v35 =>
 C.same s6.env[32]? tz <|
 C.same s6.env[33]? tz <|
 C.same s6.env[34]? tz <|
 C.same s6.env[35]? tz <|
 cnd (decide (x10 < 64))
 (C.hop (St.H s6) (.ixAS .any 1 (.v (.lst a0)) (.v (iz x10))) fun v36 h37 =>
 C.hop h37 (.load false 1 (.v v36)) fun v38 h39 =>
 C.int .i64 (some v38) fun x40 =>
 cnd (x40 == 1)
 (C.hop h39 (.fldA 1 (.v v2)) fun v41 h42 =>
 C.hop h42 (.load false 1 (.v v41)) fun v43 h44 =>
 C.int .u64 (some v43) fun x45 =>
 cnd (decide (x10 < 0))
 (none)
 (C.hop h44 (.fldA 1 (.v v2)) fun v46 h47 =>
 C.hop h47 (.store 1 (.v v46) (.v (.int .u64 (bits .or .u64 x45 (IntKind.wrap .u64 (1 * (2 ^ (min (Int.toNat x10) 64)))))))) fun v48 h49 =>
 C.hop h49 (.ixAS .any 1 (.v (.lst a0)) (.v (iz (IntKind.wrap .i64 (64 + x10))))) fun v50 h51 =>
 C.hop h51 (.load false 1 (.v v50)) fun v52 h53 =>
 C.int .i64 (some v52) fun x54 =>
 cnd (x54 == 1)
 (cnd (decide (x10 < 0))
 (none)
 (k7 .normal ⟨[(.lst a0), tz, v0, v2, (.int .u64 (bits .or .u64 x9 (IntKind.wrap .u64 (1 * (2 ^ (min (Int.toNat x10) 64)))))), (iz (IntKind.wrap .i64 (x10 + 1))), (.agg [(iz 0), (.int .u64 0)]), (iz x10), bt, (iz x10), (iz (IntKind.wrap .i64 (x10 + 1))), (.lst a0), (iz x10), v36, (iz x40), bt, v41, (.int .u64 x45), (iz x10), (.int .u64 (IntKind.wrap .u64 (1 * (2 ^ (min (Int.toNat x10) 64))))), (.int .u64 (bits .or .u64 x45 (IntKind.wrap .u64 (1 * (2 ^ (min (Int.toNat x10) 64)))))), v46, (.lst a0), (iz x10), (iz (IntKind.wrap .i64 (64 + x10))), v50, (iz x54), bt, (.int .u64 x9), (iz x10), (.int .u64 (IntKind.wrap .u64 (1 * (2 ^ (min (Int.toNat x10) 64))))), (.int .u64 (bits .or .u64 x9 (IntKind.wrap .u64 (1 * (2 ^ (min (Int.toNat x10) 64)))))), tz, tz, tz, tz], h53⟩))
 (k7 .normal ⟨[(.lst a0), tz, v0, v2, (.int .u64 x9), (iz (IntKind.wrap .i64 (x10 + 1))), (.agg [(iz 0), (.int .u64 0)]), (iz x10), bt, (iz x10), (iz (IntKind.wrap .i64 (x10 + 1))), (.lst a0), (iz x10), v36, (iz x40), bt, v41, (.int .u64 x45), (iz x10), (.int .u64 (IntKind.wrap .u64 (1 * (2 ^ (min (Int.toNat x10) 64))))), (.int .u64 (bits .or .u64 x45 (IntKind.wrap .u64 (1 * (2 ^ (min (Int.toNat x10) 64)))))), v46, (.lst a0), (iz x10), (iz (IntKind.wrap .i64 (64 + x10))), v50, (iz x54), bf, v32, v33, v34, v35, tz, tz, tz, tz], h53⟩)))
 (C.hop h39 (.ixAS .any 1 (.v (.lst a0)) (.v (iz (IntKind.wrap .i64 (64 + x10))))) fun v55 h56 =>
 C.hop h56 (.load false 1 (.v v55)) fun v57 h58 =>
 C.int .i64 (some v57) fun x59 =>
 cnd (x59 == 1)
 (cnd (decide (x10 < 0))
 (none)
 (k7 .normal ⟨[(.lst a0), tz, v0, v2, (.int .u64 (bits .or .u64 x9 (IntKind.wrap .u64 (1 * (2 ^ (min (Int.toNat x10) 64)))))), (iz (IntKind.wrap .i64 (x10 + 1))), (.agg [(iz 0), (.int .u64 0)]), (iz x10), bt, (iz x10), (iz (IntKind.wrap .i64 (x10 + 1))), (.lst a0), (iz x10), v36, (iz x40), bf, v20, v21, v22, v23, v24, v25, (.lst a0), (iz x10), (iz (IntKind.wrap .i64 (64 + x10))), v55, (iz x59), bt, (.int .u64 x9), (iz x10), (.int .u64 (IntKind.wrap .u64 (1 * (2 ^ (min (Int.toNat x10) 64))))), (.int .u64 (bits .or .u64 x9 (IntKind.wrap .u64 (1 * (2 ^ (min (Int.toNat x10) 64)))))), tz, tz, tz, tz], h58⟩))
 (k7 .normal ⟨[(.lst a0), tz, v0, v2, (.int .u64 x9), (iz (IntKind.wrap .i64 (x10 + 1))), (.agg [(iz 0), (.int .u64 0)]), (iz x10), bt, (iz x10), (iz (IntKind.wrap .i64 (x10 + 1))), (.lst a0), (iz x10), v36, (iz x40), bf, v20, v21, v22, v23, v24, v25, (.lst a0), (iz x10), (iz (IntKind.wrap .i64 (64 + x10))), v55, (iz x59), bf, v32, v33, v34, v35, tz, tz, tz, tz], h58⟩)))
 (k7 (.exit 0) ⟨[(.lst a0), tz, v0, v2, (.int .u64 x9), (iz x10), (.agg [(iz 0), (.int .u64 0)]), (iz x10), bf, v13, v14, v15, v16, v17, v18, v19, v20, v21, v22, v23, v24, v25, v26, v27, v28, v29, v30, v31, v32, v33, v34, v35, tz, tz, tz, tz], (St.H s6)⟩))
 (none)
def r47X0_0 (C : Cb) (d : Nat) (a0 : List AV) (v0 v2 : AV) : St → Ans := fun s60 =>
 cnd ((List.length s60.env) == 36)
 (C.same s60.env[0]? (.lst a0) <|
 C.same s60.env[1]? tz <|
 C.same s60.env[2]? v0 <|
 C.same s60.env[3]? v2 <|
 C.int .u64 s60.env[4]? fun x61 =>
 C.int .i64 s60.env[5]? fun x62 =>
 C.same s60.env[6]? (.agg [(iz 0), (.int .u64 0)]) <|
 C.int .i64 s60.env[7]? fun x63 =>
 C.bool s60.env[8]? fun b64 =>
 C.any s60.env[9]? fun v65 =>
 C.any s60.env[10]? fun v66 =>
 C.any s60.env[11]? fun v67 =>
 C.any s60.env[12]? fun v68 =>
 C.any s60.env[13]? fun v69 =>
 C.any s60.env[14]? fun v70 =>
 C.any s60.env[15]? fun v71 =>
 C.any s60.env[16]? fun v72 =>
 C.any s60.env[17]? fun v73 =>
 C.any s60.env[18]? fun v74 =>
 C.any s60.env[19]? fun v75 =>
 C.any s60.env[20]? fun v76 =>
 C.any s60.env[21]? fun v77 =>
 C.any s60.env[22]? fun v78 =>
 C.any s60.env[23]? fun v79 =>
 C.any s60.env[24]? fun v80 =>
 C.any s60.env[25]? fun v81 =>
 C.any s60.env[26]? fun v82 =>
 C.any s60.env[27]? fun v83 =>
 C.any s60.env[28]? fun v84 =>
 C.any s60.env[29]? fun v85 =>
 C.any s60.env[30]? fun v86 =>
 C.any s60.env[31]? fun v87 =>
 C.same s60.env[32]? tz <|
 C.same s60.env[33]? tz <|
 C.same s60.env[34]? tz <|
 C.same s60.env[35]? tz <|
 C.hop (St.H s60) (.fldA 0 (.v v2)) fun v88 h89 =>
 C.hop h89 (.store 1 (.v v88) (.v (iz (IntKind.wrap .i64 x61)))) fun v90 h91 =>
 C.hop h91 (.load true 2 (.v v2)) fun v92 h93 =>
 C.agg 2 (some v92) fun l94 =>
 C.int .i64 l94[0]? fun x95 =>
 C.int .u64 l94[1]? fun x96 =>
 C.hop h93 (.store 2 (.v v0) (.v (.agg [(iz x95), (.int .u64 x96)]))) fun v97 h98 =>
 C.hop h98 (.load true 2 (.v v0)) fun v99 h100 =>
 C.fin h98 v99)
 (none)
def r47E0 (C : Cb) (d : Nat) (a0 : List AV) (v0 v2 : AV) : St → Ans := fun s8 =>
 cnd ((List.length s8.env) == 36)
 (C.same s8.env[0]? (.lst a0) <|
 C.same s8.env[1]? tz <|
 C.same s8.env[2]? v0 <|
 C.same s8.env[3]? v2 <|
 C.int .u64 s8.env[4]? fun x101 =>
 C.int .i64 s8.env[5]? fun x102 =>
 C.same s8.env[6]? (.agg [(iz 0), (.int .u64 0)]) <|
 C.any s8.env[7]? fun v103 =>
 C.any s8.env[8]? fun v104 =>
 C.any s8.env[9]? fun v105 =>
 C.any s8.env[10]? fun v106 =>
 C.any s8.env[11]? fun v107 =>
 C.any s8.env[12]? fun v108 =>
 C.any s8.env[13]? fun v109 =>
 C.any s8.env[14]? fun v110 =>
 C.any s8.env[15]? fun v111 =>
 C.any s8.env[16]? fun v112 =>
 C.any s8.env[17]? fun v113 =>
 C.any s8.env[18]? fun v114 =>
 C.any s8.env[19]? fun v115 =>
 C.any s8.env[20]? fun v116 =>
 C.any s8.env[21]? fun v117 =>
 C.any s8.env[22]? fun v118 =>
 C.any s8.env[23]? fun v119 =>
 C.any s8.env[24]? fun v120 =>
 C.any s8.env[25]? fun v121 =>
 C.any s8.env[26]? fun v122 =>
 C.any s8.env[27]? fun v123 =>
 C.any s8.env[28]? fun v124 =>
 C.any s8.env[29]? fun v125 =>
 C.any s8.env[30]? fun v126 =>
 C.any s8.env[31]? fun v127 =>
 C.same s8.env[32]? tz <|
 C.same s8.env[33]? tz <|
 C.same s8.env[34]? tz <|
 C.same s8.env[35]? tz <|
 C.hop (St.H s8) (.load true 2 (.v v0)) fun v128 h129 =>
 C.fin (St.H s8) v128)
 (none)
/-- apogee/apogeeref01.value -/
theorem r47 (C : Cb) (d : Nat) (a0 : List AV) : xcall C M unr d 47 [(.lst a0)] =
 C.hop [] (.alloc E59) fun v0 h1 =>
 C.hop h1 (.alloc E59) fun v2 h3 =>
 C.hop h3 (.store 2 (.v v2) (.v (.agg [(iz 0), (.int .u64 0)]))) fun v4 h5 =>
 C.iter (r47R0 C d a0 v0 v2) 1000000000000000000 ⟨[(.lst a0), tz, v0, v2, (.int .u64 0), (iz 0), (.agg [(iz 0), (.int .u64 0)]), tz, tz, tz, tz, tz, tz, tz, tz, tz, tz, tz, tz, tz, tz, tz, tz, tz, tz, tz, tz, tz, tz, tz, tz, tz, tz, tz, tz, tz], h5⟩ [0] [r47X0_0 C d a0 v0 v2] (r47E0 C d a0 v0 v2) := by kernel_rfl
end Go.Proofs.Ytnldgacamgjpnaa.AE

namespace Go.Proofs.Ytnldgacamgjpnaa.AE
set_option linter.unusedVariables false
set_option linter.unusedSimpArgs false
set_option linter.constructorNameAsVariable false
open Go
set_option maxRecDepth 100000
set_option maxHeartbeats 0
noncomputable def X37_0_0 (d : Nat) (a1 : Int) (v0 v5 v9 : AV) (H : Heap) : Ans :=
  cnd (decide (a1 < 0))
   (C0.hop H (.load true 2 (.v v9)) fun v94 h95 =>
   C0.agg 2 (some v94) fun l96 =>
   C0.int .i64 l96[0]? fun x97 =>
   C0.int .u64 l96[1]? fun x98 =>
   C0.hop h95 (.load true 2 (.v v5)) fun v99 h100 =>
   C0.agg 2 (some v99) fun l101 =>
   C0.int .i64 l101[0]? fun x102 =>
   C0.int .u64 l101[1]? fun x103 =>
   C0.agg 2 (pcall M d 42 [(.agg [(iz x102), (.int .u64 x103)])]) fun l104 =>
   C0.int .i64 l104[0]? fun x105 =>
   C0.int .u64 l104[1]? fun x106 =>
   C0.agg 2 (pcall M d 41 [(.agg [(iz x97), (.int .u64 x98)]), (.agg [(iz x105), (.int .u64 x106)])]) fun l107 =>
   C0.int .i64 l107[0]? fun x108 =>
   C0.int .u64 l107[1]? fun x109 =>
   C0.hop h100 (.store 2 (.v v9) (.v (.agg [(iz x108), (.int .u64 x109)]))) fun v110 h111 =>
   C0.hop h111 (.load true 2 (.v v9)) fun v112 h113 =>
   C0.agg 2 (some v112) fun l114 =>
   C0.int .i64 l114[0]? fun x115 =>
   C0.int .u64 l114[1]? fun x116 =>
   C0.hop h113 (.store 2 (.v v0) (.v (.agg [(iz x115), (.int .u64 x116)]))) fun v117 h118 =>
   C0.hop h118 (.load true 2 (.v v0)) fun v119 h120 =>
   C0.fin h118 v119)
   (C0.hop H (.load true 2 (.v v9)) fun v121 h122 =>
   C0.agg 2 (some v121) fun l123 =>
   C0.int .i64 l123[0]? fun x124 =>
   C0.int .u64 l123[1]? fun x125 =>
   C0.hop h122 (.store 2 (.v v0) (.v (.agg [(iz x124), (.int .u64 x125)]))) fun v126 h127 =>
   C0.hop h127 (.load true 2 (.v v0)) fun v128 h129 =>
   C0.fin h127 v128)
theorem X37_0_0_ok (d : Nat) (a0 a1 : Int) (v0 : AV) (x3 x4 : Int) (v5 v9 : AV) (x78 x79 : Int) (b80 : Bool) (v81 v82 v83 v84 v85 v86 v87 v88 v89 v90 v91 v92 v93 : AV) (H : Heap) : r37X0_0 C0 d a0 a1 v0 x3 x4 v5 v9 ⟨[(iz a0), (iz a1), tz, tz, v0, v5, v9, (.int .u64 (IntKind.wrap .u64 a1)), (iz x78), (iz a0), (.agg [(iz x3), (.int .u64 x4)]), (.agg [(iz 0), (.int .u64 0)]), (iz a1), (.int .u64 (IntKind.wrap .u64 a1)), (iz x79), (.bool b80), v81, v82, v83, v84, v85, v86, v87, v88, v89, v90, v91, v92, v93, tz, tz, tz, tz, tz, tz, tz], H⟩ = X37_0_0 d a1 v0 v5 v9 H := by
  unfold r37X0_0; refine Eq.trans (pl_len (by rfl)) ?_; (iterate 8 (refine yt yS ?_)); refine yt yI ?_; (iterate 5 (refine yt yS ?_)); refine yt yI ?_; refine yt yB ?_; (iterate 13 (refine yt yA ?_)); (iterate 7 (refine yt yS ?_))
  rfl
noncomputable def E37_0 (d : Nat) (a1 : Int) (v0 v5 v9 : AV) (H : Heap) : Ans :=
  C0.hop H (.load true 2 (.v v0)) fun v146 h147 =>
   C0.fin H v146
theorem E37_0_ok (d : Nat) (a0 a1 : Int) (v0 : AV) (x3 x4 : Int) (v5 v9 : AV) (x130 : Int) (v131 v132 v133 v134 v135 v136 v137 v138 v139 v140 v141 v142 v143 v144 v145 : AV) (H : Heap) : r37E0 C0 d a0 a1 v0 x3 x4 v5 v9 ⟨[(iz a0), (iz a1), tz, tz, v0, v5, v9, (.int .u64 (IntKind.wrap .u64 a1)), (iz x130), (iz a0), (.agg [(iz x3), (.int .u64 x4)]), (.agg [(iz 0), (.int .u64 0)]), (iz a1), (.int .u64 (IntKind.wrap .u64 a1)), v131, v132, v133, v134, v135, v136, v137, v138, v139, v140, v141, v142, v143, v144, v145, tz, tz, tz, tz, tz, tz, tz], H⟩ = E37_0 d a1 v0 v5 v9 H := by
  unfold r37E0; refine Eq.trans (pl_len (by rfl)) ?_; (iterate 8 (refine yt yS ?_)); refine yt yI ?_; (iterate 5 (refine yt yS ?_)); (iterate 15 (refine yt yA ?_)); (iterate 7 (refine yt yS ?_))
  rfl
noncomputable def L37_0 (d : Nat) (a1 : Int) (v0 v5 v9 : AV) : Nat → Int → Heap → Ans
  | 0, _, _ => none
  | n + 1, x16, H =>
  cnd (decide (x16 < 64))
   (cnd (decide (x16 < 0))
   (none)
   (cnd ((bits .and .u64 (Int.fdiv (IntKind.wrap .u64 a1) (2 ^ (min (Int.toNat x16) 64))) 1) == 1)
   (C0.hop H (.load true 2 (.v v9)) fun v32 h33 =>
   C0.agg 2 (some v32) fun l34 =>
   C0.int .i64 l34[0]? fun x35 =>
   C0.int .u64 l34[1]? fun x36 =>
   C0.hop h33 (.load true 2 (.v v5)) fun v37 h38 =>
   C0.agg 2 (some v37) fun l39 =>
   C0.int .i64 l39[0]? fun x40 =>
   C0.int .u64 l39[1]? fun x41 =>
   C0.agg 2 (pcall M d 41 [(.agg [(iz x35), (.int .u64 x36)]), (.agg [(iz x40), (.int .u64 x41)])]) fun l42 =>
   C0.int .i64 l42[0]? fun x43 =>
   C0.int .u64 l42[1]? fun x44 =>
   C0.hop h38 (.store 2 (.v v9) (.v (.agg [(iz x43), (.int .u64 x44)]))) fun v45 h46 =>
   C0.hop h46 (.load true 2 (.v v5)) fun v47 h48 =>
   C0.agg 2 (some v47) fun l49 =>
   C0.int .i64 l49[0]? fun x50 =>
   C0.int .u64 l49[1]? fun x51 =>
   C0.hop h48 (.load true 2 (.v v5)) fun v52 h53 =>
   C0.agg 2 (some v52) fun l54 =>
   C0.int .i64 l54[0]? fun x55 =>
   C0.int .u64 l54[1]? fun x56 =>
   C0.agg 2 (pcall M d 41 [(.agg [(iz x50), (.int .u64 x51)]), (.agg [(iz x55), (.int .u64 x56)])]) fun l57 =>
   C0.int .i64 l57[0]? fun x58 =>
   C0.int .u64 l57[1]? fun x59 =>
   C0.hop h53 (.store 2 (.v v5) (.v (.agg [(iz x58), (.int .u64 x59)]))) fun v60 h61 =>
   L37_0 d a1 v0 v5 v9 n (IntKind.wrap .i64 (x16 + 1)) h61)
   (C0.hop H (.load true 2 (.v v5)) fun v62 h63 =>
   C0.agg 2 (some v62) fun l64 =>
   C0.int .i64 l64[0]? fun x65 =>
   C0.int .u64 l64[1]? fun x66 =>
   C0.hop h63 (.load true 2 (.v v5)) fun v67 h68 =>
   C0.agg 2 (some v67) fun l69 =>
   C0.int .i64 l69[0]? fun x70 =>
   C0.int .u64 l69[1]? fun x71 =>
   C0.agg 2 (pcall M d 41 [(.agg [(iz x65), (.int .u64 x66)]), (.agg [(iz x70), (.int .u64 x71)])]) fun l72 =>
   C0.int .i64 l72[0]? fun x73 =>
   C0.int .u64 l72[1]? fun x74 =>
   C0.hop h68 (.store 2 (.v v5) (.v (.agg [(iz x73), (.int .u64 x74)]))) fun v75 h76 =>
   L37_0 d a1 v0 v5 v9 n (IntKind.wrap .i64 (x16 + 1)) h76)))
   (X37_0_0 d a1 v0 v5 v9 H)
theorem it37_0 (d : Nat) (a0 a1 : Int) (v0 : AV) (x3 x4 : Int) (v5 v9 : AV)   : ∀ (n : Nat) (x16 : Int) (v17 v18 v19 v20 v21 v22 v23 v24 v25 v26 v27 v28 v29 v30 v31 : AV) (H : Heap), C0.iter (r37R0 C0 d a0 a1 v0 x3 x4 v5 v9) n ⟨[(iz a0), (iz a1), tz, tz, v0, v5, v9, (.int .u64 (IntKind.wrap .u64 a1)), (iz x16), (iz a0), (.agg [(iz x3), (.int .u64 x4)]), (.agg [(iz 0), (.int .u64 0)]), (iz a1), (.int .u64 (IntKind.wrap .u64 a1)), v17, v18, v19, v20, v21, v22, v23, v24, v25, v26, v27, v28, v29, v30, v31, tz, tz, tz, tz, tz, tz, tz], H⟩ [0] [r37X0_0 C0 d a0 a1 v0 x3 x4 v5 v9] (r37E0 C0 d a0 a1 v0 x3 x4 v5 v9) = L37_0 d a1 v0 v5 v9 n x16 H := by
  generalize hR : r37R0 C0 d a0 a1 v0 x3 x4 v5 v9 = R
  intro n
  induction n with
  | zero => intros; rfl
  | succ n ih =>
    intro x16 v17 v18 v19 v20 v21 v22 v23 v24 v25 v26 v27 v28 v29 v30 v31 H
    simp only [it_ret] at ih
    rw [it_ret, xiter_s]
    refine Eq.trans (congrFun (congrFun hR.symm _) _) ?_
    unfold r37R0
    refine Eq.trans (pl_len (by rfl)) ?_; (iterate 8 (refine yt yS ?_)); refine yt yI ?_; (iterate 5 (refine yt yS ?_)); (iterate 15 (refine yt yA ?_)); (iterate 7 (refine yt yS ?_))
    simp only [L37_0, kIter_n, kIter_x, kIter_r, kOut_x, kOut_r, xgo_hit, xgo_miss, ih, X37_0_0_ok d a0 a1 v0 x3 x4 v5 v9  , E37_0_ok d a0 a1 v0 x3 x4 v5 v9  ]
/-- apogee/apogeeref01.Mul -/
theorem q37 (d : Nat) (a0 a1 : Int) : xcall C0 M unr d 37 [(iz a0), (iz a1)] =
  C0.hop [] (.alloc E59) fun v0 h1 =>
  C0.agg 2 (pcall M d 25 [(iz a0)]) fun l2 =>
  C0.int .i64 l2[0]? fun x3 =>
  C0.int .u64 l2[1]? fun x4 =>
  C0.hop h1 (.alloc E59) fun v5 h6 =>
  C0.hop h6 (.store 2 (.v v5) (.v (.agg [(iz x3), (.int .u64 x4)]))) fun v7 h8 =>
  C0.hop h8 (.alloc E59) fun v9 h10 =>
  C0.hop h10 (.store 2 (.v v9) (.v (.agg [(iz 0), (.int .u64 0)]))) fun v11 h12 =>
  L37_0 d a1 v0 v5 v9 1000000000000000000 0 h12 := (r37 C0 d a0 a1).trans (by simp only [it37_0])
noncomputable def X41_0_0 (d : Nat) (v4 v11 v17 v62 : AV) (H : Heap) : Ans :=
  C0.snp H [v62] fun l88 b89 =>
   C0.agg 2 (pcall M d 47 l88) fun l90 =>
   C0.int .i64 l90[0]? fun x91 =>
   C0.int .u64 l90[1]? fun x92 =>
   cnd (b89 || true)
   (C0.hop H (.store 2 (.v v4) (.v (.agg [(iz x91), (.int .u64 x92)]))) fun v93 h94 =>
   C0.hop h94 (.load true 2 (.v v4)) fun v95 h96 =>
   C0.fin h94 v95)
   (none)
theorem X41_0_0_ok (d : Nat) (a0 a1 a2 a3 : Int) (v0 v2 v4 : AV) (x9 x10 : Int) (v11 : AV) (x15 x16 : Int) (v17 v62 : AV) (x63 x64 : Int) (v65 : AV) (x66 : Int) (b67 : Bool) (v68 v69 v70 v71 v72 v73 v74 v75 v76 v77 v78 v79 v80 v81 v82 v83 v84 v85 v86 v87 : AV) (H : Heap) : r41X0_0 C0 d a0 a1 a2 a3 v0 v2 v4 x9 x10 v11 x15 x16 v17 ⟨[(.agg [(iz a0), (.int .u64 a1)]), (.agg [(iz a2), (.int .u64 a3)]), v0, v2, v4, v11, v17, v62, (iz x63), (iz x64), v65, (.agg [(iz x9), (.int .u64 x10)]), v11, (.agg [(iz x15), (.int .u64 x16)]), v17, (iz x66), (.bool b67), v68, v69, v70, v71, v72, v73, v74, v75, v76, v77, v78, v79, v80, v81, v82, v83, v84, v85, v86, v87, tz, tz], H⟩ = X41_0_0 d v4 v11 v17 v62 H := by
  unfold r41X0_0; refine Eq.trans (pl_len (by rfl)) ?_; (iterate 7 (refine yt yS ?_)); refine yt yA ?_; (iterate 2 (refine yt yI ?_)); refine yt yA ?_; (iterate 4 (refine yt yS ?_)); refine yt yI ?_; refine yt yB ?_; (iterate 20 (refine yt yA ?_)); (iterate 2 (refine yt yS ?_))
  rfl
noncomputable def E41_0 (d : Nat) (v4 v11 v17 : AV) (H : Heap) : Ans :=
  C0.hop H (.load true 2 (.v v4)) fun v123 h124 =>
   C0.fin H v123
theorem E41_0_ok (d : Nat) (a0 a1 a2 a3 : Int) (v0 v2 v4 : AV) (x9 x10 : Int) (v11 : AV) (x15 x16 : Int) (v17 v97 : AV) (x98 x99 : Int) (v100 v101 v102 v103 v104 v105 v106 v107 v108 v109 v110 v111 v112 v113 v114 v115 v116 v117 v118 v119 v120 v121 v122 : AV) (H : Heap) : r41E0 C0 d a0 a1 a2 a3 v0 v2 v4 x9 x10 v11 x15 x16 v17 ⟨[(.agg [(iz a0), (.int .u64 a1)]), (.agg [(iz a2), (.int .u64 a3)]), v0, v2, v4, v11, v17, v97, (iz x98), (iz x99), v100, (.agg [(iz x9), (.int .u64 x10)]), v11, (.agg [(iz x15), (.int .u64 x16)]), v17, v101, v102, v103, v104, v105, v106, v107, v108, v109, v110, v111, v112, v113, v114, v115, v116, v117, v118, v119, v120, v121, v122, tz, tz], H⟩ = E41_0 d v4 v11 v17 H := by
  unfold r41E0; refine Eq.trans (pl_len (by rfl)) ?_; (iterate 7 (refine yt yS ?_)); refine yt yA ?_; (iterate 2 (refine yt yI ?_)); refine yt yA ?_; (iterate 4 (refine yt yS ?_)); (iterate 22 (refine yt yA ?_)); (iterate 2 (refine yt yS ?_))
  rfl
noncomputable def L41_0 (d : Nat) (v4 v11 v17 : AV) : Nat → AV → Int → Int → Heap → Ans
  | 0, _, _, _, _ => none
  | n + 1, v21, x22, x23, H =>
  cnd (decide (x23 < 128))
   (C0.hop H (.ixAS .any 1 (.v v11) (.v (iz x23))) fun v47 h48 =>
   C0.hop h48 (.load false 1 (.v v47)) fun v49 h50 =>
   C0.int .i64 (some v49) fun x51 =>
   C0.hop h50 (.ixAS .any 1 (.v v17) (.v (iz x23))) fun v52 h53 =>
   C0.hop h53 (.load false 1 (.v v52)) fun v54 h55 =>
   C0.int .i64 (some v54) fun x56 =>
   C0.hop h55 (.mkrow E3 1 [(0, (.v (iz (Int.tmod (IntKind.wrap .i64 ((IntKind.wrap .i64 (x51 + x56)) + x22)) 2))))]) fun v57 h58 =>
   C0.hop h58 (.app E3 (.v v21) (.v v57)) fun v59 h60 =>
   L41_0 d v4 v11 v17 n v59 (IntKind.wrap .i64 (Int.tdiv (IntKind.wrap .i64 ((IntKind.wrap .i64 (x51 + x56)) + x22)) 2)) (IntKind.wrap .i64 (x23 + 1)) h60)
   (X41_0_0 d v4 v11 v17 v21 H)
theorem it41_0 (d : Nat) (a0 a1 a2 a3 : Int) (v0 v2 v4 : AV) (x9 x10 : Int) (v11 : AV) (x15 x16 : Int) (v17 : AV)   : ∀ (n : Nat) (v21 : AV) (x22 x23 : Int) (v24 v25 v26 v27 v28 v29 v30 v31 v32 v33 v34 v35 v36 v37 v38 v39 v40 v41 v42 v43 v44 v45 v46 : AV) (H : Heap), C0.iter (r41R0 C0 d a0 a1 a2 a3 v0 v2 v4 x9 x10 v11 x15 x16 v17) n ⟨[(.agg [(iz a0), (.int .u64 a1)]), (.agg [(iz a2), (.int .u64 a3)]), v0, v2, v4, v11, v17, v21, (iz x22), (iz x23), v24, (.agg [(iz x9), (.int .u64 x10)]), v11, (.agg [(iz x15), (.int .u64 x16)]), v17, v25, v26, v27, v28, v29, v30, v31, v32, v33, v34, v35, v36, v37, v38, v39, v40, v41, v42, v43, v44, v45, v46, tz, tz], H⟩ [0] [r41X0_0 C0 d a0 a1 a2 a3 v0 v2 v4 x9 x10 v11 x15 x16 v17] (r41E0 C0 d a0 a1 a2 a3 v0 v2 v4 x9 x10 v11 x15 x16 v17) = L41_0 d v4 v11 v17 n v21 x22 x23 H := by
  generalize hR : r41R0 C0 d a0 a1 a2 a3 v0 v2 v4 x9 x10 v11 x15 x16 v17 = R
  intro n
  induction n with
  | zero => intros; rfl
  | succ n ih =>
    intro v21 x22 x23 v24 v25 v26 v27 v28 v29 v30 v31 v32 v33 v34 v35 v36 v37 v38 v39 v40 v41 v42 v43 v44 v45 v46 H
    simp only [it_ret] at ih
    rw [it_ret, xiter_s]
    refine Eq.trans (congrFun (congrFun hR.symm _) _) ?_
    unfold r41R0
    refine Eq.trans (pl_len (by rfl)) ?_; (iterate 7 (refine yt yS ?_)); refine yt yA ?_; (iterate 2 (refine yt yI ?_)); refine yt yA ?_; (iterate 4 (refine yt yS ?_)); (iterate 22 (refine yt yA ?_)); (iterate 2 (refine yt yS ?_))
    simp only [L41_0, kIter_n, kIter_x, kIter_r, kOut_x, kOut_r, xgo_hit, xgo_miss, ih, X41_0_0_ok d a0 a1 a2 a3 v0 v2 v4 x9 x10 v11 x15 x16 v17  , E41_0_ok d a0 a1 a2 a3 v0 v2 v4 x9 x10 v11 x15 x16 v17  ]
/-- apogee/apogeeref01.plus -/
theorem q41 (d : Nat) (a0 a1 a2 a3 : Int) : xcall C0 M unr d 41 [(.agg [(iz a0), (.int .u64 a1)]), (.agg [(iz a2), (.int .u64 a3)])] =
  C0.hop [] (.box E59 (.v (.agg [(iz a0), (.int .u64 a1)]))) fun v0 h1 =>
  C0.hop h1 (.box E59 (.v (.agg [(iz a2), (.int .u64 a3)]))) fun v2 h3 =>
  C0.hop h3 (.alloc E59) fun v4 h5 =>
  C0.hop h5 (.load true 2 (.v v0)) fun v6 h7 =>
  C0.agg 2 (some v6) fun l8 =>
  C0.int .i64 l8[0]? fun x9 =>
  C0.int .u64 l8[1]? fun x10 =>
  C0.any (pcall M d 46 [(.agg [(iz x9), (.int .u64 x10)])]) fun v11 =>
  C0.hop h7 (.load true 2 (.v v2)) fun v12 h13 =>
  C0.agg 2 (some v12) fun l14 =>
  C0.int .i64 l14[0]? fun x15 =>
  C0.int .u64 l14[1]? fun x16 =>
  C0.any (pcall M d 46 [(.agg [(iz x15), (.int .u64 x16)])]) fun v17 =>
  L41_0 d v4 v11 v17 1000000000000000000 (.zsl true) 0 0 h13 := (r41 C0 d a0 a1 a2 a3).trans (by simp only [it41_0])
noncomputable def X46_1_0 (d : Nat) (v0 v74 : AV) (H : Heap) : Ans :=
  C0.fin H v74
theorem X46_1_0_ok (d : Nat) (a0 a1 : Int) (v0 : AV) (x31 x32 : Int) (b33 : Bool) (v34 v35 v36 v37 v38 v39 v40 v41 v42 v43 v44 v74 : AV) (x75 x76 : Int) (b77 : Bool) (v78 v79 v80 v81 v82 v83 v84 v85 v86 v87 v88 v89 : AV) (H : Heap) : r46X1_0 C0 d a0 a1 v0 x31 x32 b33 v34 v35 v36 v37 v38 v39 v40 v41 v42 v43 v44 ⟨[(.agg [(iz a0), (.int .u64 a1)]), v0, (.zsl true), v74, (iz x31), (iz x75), (iz x32), (.bool b33), v34, v35, v36, v37, v38, v39, v40, v41, v42, v43, v44, (iz x76), (.bool b77), v78, v79, v80, v81, v82, v83, v84, v85, v86, v87, v88, v89, tz], H⟩ = X46_1_0 d v0 v74 H := by
  unfold r46X1_0; refine Eq.trans (pl_len (by rfl)) ?_; (iterate 3 (refine yt yS ?_)); refine yt yA ?_; refine yt yS ?_; refine yt yI ?_; (iterate 13 (refine yt yS ?_)); refine yt yI ?_; refine yt yB ?_; (iterate 12 (refine yt yA ?_)); refine yt yS ?_
  rfl
noncomputable def E46_1 (d : Nat) (v0 : AV) (H : Heap) : Ans :=
  C0.fin H (.zsl true)
theorem E46_1_ok (d : Nat) (a0 a1 : Int) (v0 : AV) (x31 x32 : Int) (b33 : Bool) (v34 v35 v36 v37 v38 v39 v40 v41 v42 v43 v44 v90 : AV) (x91 : Int) (v92 v93 v94 v95 v96 v97 v98 v99 v100 v101 v102 v103 v104 v105 : AV) (H : Heap) : r46E1 C0 d a0 a1 v0 x31 x32 b33 v34 v35 v36 v37 v38 v39 v40 v41 v42 v43 v44 ⟨[(.agg [(iz a0), (.int .u64 a1)]), v0, (.zsl true), v90, (iz x31), (iz x91), (iz x32), (.bool b33), v34, v35, v36, v37, v38, v39, v40, v41, v42, v43, v44, v92, v93, v94, v95, v96, v97, v98, v99, v100, v101, v102, v103, v104, v105, tz], H⟩ = E46_1 d v0 H := by
  unfold r46E1; refine Eq.trans (pl_len (by rfl)) ?_; (iterate 3 (refine yt yS ?_)); refine yt yA ?_; refine yt yS ?_; refine yt yI ?_; (iterate 13 (refine yt yS ?_)); (iterate 14 (refine yt yA ?_)); refine yt yS ?_
  rfl
noncomputable def L46_1 (d : Nat) (v0 : AV) : Nat → AV → Int → Heap → Ans
  | 0, _, _, _ => none
  | n + 1, v48, x49, H =>
  cnd (decide (x49 < 64))
   (C0.hop H (.fldA 0 (.v v0)) fun v64 h65 =>
   C0.hop h65 (.load false 1 (.v v64)) fun v66 h67 =>
   C0.int .i64 (some v66) fun x68 =>
   cnd (decide (x49 < 0))
   (none)
   (C0.hop h67 (.mkrow E3 1 [(0, (.v (iz (IntKind.wrap .i64 (bits .and .u64 (Int.fdiv (IntKind.wrap .u64 x68) (2 ^ (min (Int.toNat x49) 64))) 1)))))]) fun v69 h70 =>
   C0.hop h70 (.app E3 (.v v48) (.v v69)) fun v71 h72 =>
   L46_1 d v0 n v71 (IntKind.wrap .i64 (x49 + 1)) h72))
   (X46_1_0 d v0 v48 H)
theorem it46_1 (d : Nat) (a0 a1 : Int) (v0 : AV) (x31 x32 : Int) (b33 : Bool) (v34 v35 v36 v37 v38 v39 v40 v41 v42 v43 v44 : AV)   : ∀ (n : Nat) (v48 : AV) (x49 : Int) (v50 v51 v52 v53 v54 v55 v56 v57 v58 v59 v60 v61 v62 v63 : AV) (H : Heap), C0.iter (r46R1 C0 d a0 a1 v0 x31 x32 b33 v34 v35 v36 v37 v38 v39 v40 v41 v42 v43 v44) n ⟨[(.agg [(iz a0), (.int .u64 a1)]), v0, (.zsl true), v48, (iz x31), (iz x49), (iz x32), (.bool b33), v34, v35, v36, v37, v38, v39, v40, v41, v42, v43, v44, v50, v51, v52, v53, v54, v55, v56, v57, v58, v59, v60, v61, v62, v63, tz], H⟩ [2] [r46X1_0 C0 d a0 a1 v0 x31 x32 b33 v34 v35 v36 v37 v38 v39 v40 v41 v42 v43 v44] (r46E1 C0 d a0 a1 v0 x31 x32 b33 v34 v35 v36 v37 v38 v39 v40 v41 v42 v43 v44) = L46_1 d v0 n v48 x49 H := by
  generalize hR : r46R1 C0 d a0 a1 v0 x31 x32 b33 v34 v35 v36 v37 v38 v39 v40 v41 v42 v43 v44 = R
  intro n
  induction n with
  | zero => intros; rfl
  | succ n ih =>
    intro v48 x49 v50 v51 v52 v53 v54 v55 v56 v57 v58 v59 v60 v61 v62 v63 H
    simp only [it_ret] at ih
    rw [it_ret, xiter_s]
    refine Eq.trans (congrFun (congrFun hR.symm _) _) ?_
    unfold r46R1
    refine Eq.trans (pl_len (by rfl)) ?_; (iterate 3 (refine yt yS ?_)); refine yt yA ?_; refine yt yS ?_; refine yt yI ?_; (iterate 13 (refine yt yS ?_)); (iterate 14 (refine yt yA ?_)); refine yt yS ?_
    simp only [L46_1, kIter_n, kIter_x, kIter_r, kOut_x, kOut_r, xgo_hit, xgo_miss, ih, X46_1_0_ok d a0 a1 v0 x31 x32 b33 v34 v35 v36 v37 v38 v39 v40 v41 v42 v43 v44  , E46_1_ok d a0 a1 v0 x31 x32 b33 v34 v35 v36 v37 v38 v39 v40 v41 v42 v43 v44  ]
noncomputable def X46_0_0 (d : Nat) (v0 v30 : AV) (H : Heap) : Ans :=
  L46_1 d v0 1000000000000000000 v30 0 H
theorem X46_0_0_ok (d : Nat) (a0 a1 : Int) (v0 v30 : AV) (x31 x32 : Int) (b33 : Bool) (v34 v35 v36 v37 v38 v39 v40 v41 v42 v43 v44 : AV) (H : Heap) : r46X0_0 C0 d a0 a1 v0 ⟨[(.agg [(iz a0), (.int .u64 a1)]), v0, (.zsl true), v30, (iz x31), tz, (iz x32), (.bool b33), v34, v35, v36, v37, v38, v39, v40, v41, v42, v43, v44, tz, tz, tz, tz, tz, tz, tz, tz, tz, tz, tz, tz, tz, tz, tz], H⟩ = X46_0_0 d v0 v30 H := by
  unfold r46X0_0; refine Eq.trans (pl_len (by rfl)) ?_; (iterate 3 (refine yt yS ?_)); refine yt yA ?_; refine yt yI ?_; refine yt yS ?_; refine yt yI ?_; refine yt yB ?_; (iterate 11 (refine yt yA ?_)); (iterate 15 (refine yt yS ?_))
  first | (simp only [it46_1] <;> rfl) | rfl
noncomputable def E46_0 (d : Nat) (v0 : AV) (H : Heap) : Ans :=
  C0.fin H (.zsl true)
theorem E46_0_ok (d : Nat) (a0 a1 : Int) (v0 v106 : AV) (x107 : Int) (v108 v109 v110 v111 v112 v113 v114 v115 v116 v117 v118 v119 v120 : AV) (H : Heap) : r46E0 C0 d a0 a1 v0 ⟨[(.agg [(iz a0), (.int .u64 a1)]), v0, (.zsl true), v106, (iz x107), tz, v108, v109, v110, v111, v112, v113, v114, v115, v116, v117, v118, v119, v120, tz, tz, tz, tz, tz, tz, tz, tz, tz, tz, tz, tz, tz, tz, tz], H⟩ = E46_0 d v0 H := by
  unfold r46E0; refine Eq.trans (pl_len (by rfl)) ?_; (iterate 3 (refine yt yS ?_)); refine yt yA ?_; refine yt yI ?_; refine yt yS ?_; (iterate 13 (refine yt yA ?_)); (iterate 15 (refine yt yS ?_))
  rfl
noncomputable def L46_0 (d : Nat) (v0 : AV) : Nat → AV → Int → Heap → Ans
  | 0, _, _, _ => none
  | n + 1, v5, x6, H =>
  cnd (decide (x6 < 64))
   (C0.hop H (.fldA 1 (.v v0)) fun v20 h21 =>
   C0.hop h21 (.load false 1 (.v v20)) fun v22 h23 =>
   C0.int .u64 (some v22) fun x24 =>
   cnd (decide (x6 < 0))
   (none)
   (C0.hop h23 (.mkrow E3 1 [(0, (.v (iz (IntKind.wrap .i64 (bits .and .u64 (Int.fdiv x24 (2 ^ (min (Int.toNat x6) 64))) 1)))))]) fun v25 h26 =>
   C0.hop h26 (.app E3 (.v v5) (.v v25)) fun v27 h28 =>
   L46_0 d v0 n v27 (IntKind.wrap .i64 (x6 + 1)) h28))
   (X46_0_0 d v0 v5 H)
theorem it46_0 (d : Nat) (a0 a1 : Int) (v0 : AV)   : ∀ (n : Nat) (v5 : AV) (x6 : Int) (v7 v8 v9 v10 v11 v12 v13 v14 v15 v16 v17 v18 v19 : AV) (H : Heap), C0.iter (r46R0 C0 d a0 a1 v0) n ⟨[(.agg [(iz a0), (.int .u64 a1)]), v0, (.zsl true), v5, (iz x6), tz, v7, v8, v9, v10, v11, v12, v13, v14, v15, v16, v17, v18, v19, tz, tz, tz, tz, tz, tz, tz, tz, tz, tz, tz, tz, tz, tz, tz], H⟩ [0] [r46X0_0 C0 d a0 a1 v0] (r46E0 C0 d a0 a1 v0) = L46_0 d v0 n v5 x6 H := by
  generalize hR : r46R0 C0 d a0 a1 v0 = R
  intro n
  induction n with
  | zero => intros; rfl
  | succ n ih =>
    intro v5 x6 v7 v8 v9 v10 v11 v12 v13 v14 v15 v16 v17 v18 v19 H
    simp only [it_ret] at ih
    rw [it_ret, xiter_s]
    refine Eq.trans (congrFun (congrFun hR.symm _) _) ?_
    unfold r46R0
    refine Eq.trans (pl_len (by rfl)) ?_; (iterate 3 (refine yt yS ?_)); refine yt yA ?_; refine yt yI ?_; refine yt yS ?_; (iterate 13 (refine yt yA ?_)); (iterate 15 (refine yt yS ?_))
    simp only [L46_0, kIter_n, kIter_x, kIter_r, kOut_x, kOut_r, xgo_hit, xgo_miss, ih, X46_0_0_ok d a0 a1 v0  , E46_0_ok d a0 a1 v0  ]
/-- apogee/apogeeref01.bits -/
theorem q46 (d : Nat) (a0 a1 : Int) : xcall C0 M unr d 46 [(.agg [(iz a0), (.int .u64 a1)])] =
  C0.hop [] (.box E59 (.v (.agg [(iz a0), (.int .u64 a1)]))) fun v0 h1 =>
  L46_0 d v0 1000000000000000000 (.zsl true) 0 h1 := (r46 C0 d a0 a1).trans (by simp only [it46_0])
noncomputable def X47_0_0 (d : Nat) (a0 : List AV) (v0 v2 : AV) (x61 : Int) (H : Heap) : Ans :=
  C0.hop H (.fldA 0 (.v v2)) fun v88 h89 =>
   C0.hop h89 (.store 1 (.v v88) (.v (iz (IntKind.wrap .i64 x61)))) fun v90 h91 =>
   C0.hop h91 (.load true 2 (.v v2)) fun v92 h93 =>
   C0.agg 2 (some v92) fun l94 =>
   C0.int .i64 l94[0]? fun x95 =>
   C0.int .u64 l94[1]? fun x96 =>
   C0.hop h93 (.store 2 (.v v0) (.v (.agg [(iz x95), (.int .u64 x96)]))) fun v97 h98 =>
   C0.hop h98 (.load true 2 (.v v0)) fun v99 h100 =>
   C0.fin h98 v99
theorem X47_0_0_ok (d : Nat) (a0 : List AV) (v0 v2 : AV) (x61 x62 x63 : Int) (b64 : Bool) (v65 v66 v67 v68 v69 v70 v71 v72 v73 v74 v75 v76 v77 v78 v79 v80 v81 v82 v83 v84 v85 v86 v87 : AV) (H : Heap) : r47X0_0 C0 d a0 v0 v2 ⟨[(.lst a0), tz, v0, v2, (.int .u64 x61), (iz x62), (.agg [(iz 0), (.int .u64 0)]), (iz x63), (.bool b64), v65, v66, v67, v68, v69, v70, v71, v72, v73, v74, v75, v76, v77, v78, v79, v80, v81, v82, v83, v84, v85, v86, v87, tz, tz, tz, tz], H⟩ = X47_0_0 d a0 v0 v2 x61 H := by
  unfold r47X0_0; refine Eq.trans (pl_len (by rfl)) ?_; (iterate 4 (refine yt yS ?_)); (iterate 2 (refine yt yI ?_)); refine yt yS ?_; refine yt yI ?_; refine yt yB ?_; (iterate 23 (refine yt yA ?_)); (iterate 4 (refine yt yS ?_))
  rfl
noncomputable def E47_0 (d : Nat) (a0 : List AV) (v0 v2 : AV) (H : Heap) : Ans :=
  C0.hop H (.load true 2 (.v v0)) fun v128 h129 =>
   C0.fin H v128
theorem E47_0_ok (d : Nat) (a0 : List AV) (v0 v2 : AV) (x101 x102 : Int) (v103 v104 v105 v106 v107 v108 v109 v110 v111 v112 v113 v114 v115 v116 v117 v118 v119 v120 v121 v122 v123 v124 v125 v126 v127 : AV) (H : Heap) : r47E0 C0 d a0 v0 v2 ⟨[(.lst a0), tz, v0, v2, (.int .u64 x101), (iz x102), (.agg [(iz 0), (.int .u64 0)]), v103, v104, v105, v106, v107, v108, v109, v110, v111, v112, v113, v114, v115, v116, v117, v118, v119, v120, v121, v122, v123, v124, v125, v126, v127, tz, tz, tz, tz], H⟩ = E47_0 d a0 v0 v2 H := by
  unfold r47E0; refine Eq.trans (pl_len (by rfl)) ?_; (iterate 4 (refine yt yS ?_)); (iterate 2 (refine yt yI ?_)); refine yt yS ?_; (iterate 25 (refine yt yA ?_)); (iterate 4 (refine yt yS ?_))
  rfl
noncomputable def L47_0 (d : Nat) (a0 : List AV) (v0 v2 : AV) : Nat → Int → Int → Heap → Ans
  | 0, _, _, _ => none
  | n + 1, x9, x10, H =>
  cnd (decide (x10 < 64))
   (C0.hop H (.ixAS .any 1 (.v (.lst a0)) (.v (iz x10))) fun v36 h37 =>
   C0.hop h37 (.load false 1 (.v v36)) fun v38 h39 =>
   C0.int .i64 (some v38) fun x40 =>
   cnd (x40 == 1)
   (C0.hop h39 (.fldA 1 (.v v2)) fun v41 h42 =>
   C0.hop h42 (.load false 1 (.v v41)) fun v43 h44 =>
   C0.int .u64 (some v43) fun x45 =>
   cnd (decide (x10 < 0))
   (none)
   (C0.hop h44 (.fldA 1 (.v v2)) fun v46 h47 =>
   C0.hop h47 (.store 1 (.v v46) (.v (.int .u64 (bits .or .u64 x45 (IntKind.wrap .u64 (1 * (2 ^ (min (Int.toNat x10) 64)))))))) fun v48 h49 =>
   C0.hop h49 (.ixAS .any 1 (.v (.lst a0)) (.v (iz (IntKind.wrap .i64 (64 + x10))))) fun v50 h51 =>
   C0.hop h51 (.load false 1 (.v v50)) fun v52 h53 =>
   C0.int .i64 (some v52) fun x54 =>
   cnd (x54 == 1)
   (cnd (decide (x10 < 0))
   (none)
   (L47_0 d a0 v0 v2 n (bits .or .u64 x9 (IntKind.wrap .u64 (1 * (2 ^ (min (Int.toNat x10) 64))))) (IntKind.wrap .i64 (x10 + 1)) h53))
   (L47_0 d a0 v0 v2 n x9 (IntKind.wrap .i64 (x10 + 1)) h53)))
   (C0.hop h39 (.ixAS .any 1 (.v (.lst a0)) (.v (iz (IntKind.wrap .i64 (64 + x10))))) fun v55 h56 =>
   C0.hop h56 (.load false 1 (.v v55)) fun v57 h58 =>
   C0.int .i64 (some v57) fun x59 =>
   cnd (x59 == 1)
   (cnd (decide (x10 < 0))
   (none)
   (L47_0 d a0 v0 v2 n (bits .or .u64 x9 (IntKind.wrap .u64 (1 * (2 ^ (min (Int.toNat x10) 64))))) (IntKind.wrap .i64 (x10 + 1)) h58))
   (L47_0 d a0 v0 v2 n x9 (IntKind.wrap .i64 (x10 + 1)) h58)))
   (X47_0_0 d a0 v0 v2 x9 H)
theorem it47_0 (d : Nat) (a0 : List AV) (v0 v2 : AV)   : ∀ (n : Nat) (x9 x10 : Int) (v11 v12 v13 v14 v15 v16 v17 v18 v19 v20 v21 v22 v23 v24 v25 v26 v27 v28 v29 v30 v31 v32 v33 v34 v35 : AV) (H : Heap), C0.iter (r47R0 C0 d a0 v0 v2) n ⟨[(.lst a0), tz, v0, v2, (.int .u64 x9), (iz x10), (.agg [(iz 0), (.int .u64 0)]), v11, v12, v13, v14, v15, v16, v17, v18, v19, v20, v21, v22, v23, v24, v25, v26, v27, v28, v29, v30, v31, v32, v33, v34, v35, tz, tz, tz, tz], H⟩ [0] [r47X0_0 C0 d a0 v0 v2] (r47E0 C0 d a0 v0 v2) = L47_0 d a0 v0 v2 n x9 x10 H := by
  generalize hR : r47R0 C0 d a0 v0 v2 = R
  intro n
  induction n with
  | zero => intros; rfl
  | succ n ih =>
    intro x9 x10 v11 v12 v13 v14 v15 v16 v17 v18 v19 v20 v21 v22 v23 v24 v25 v26 v27 v28 v29 v30 v31 v32 v33 v34 v35 H
    simp only [it_ret] at ih
    rw [it_ret, xiter_s]
    refine Eq.trans (congrFun (congrFun hR.symm _) _) ?_
    unfold r47R0
    refine Eq.trans (pl_len (by rfl)) ?_; (iterate 4 (refine yt yS ?_)); (iterate 2 (refine yt yI ?_)); refine yt yS ?_; (iterate 25 (refine yt yA ?_)); (iterate 4 (refine yt yS ?_))
    simp only [L47_0, kIter_n, kIter_x, kIter_r, kOut_x, kOut_r, xgo_hit, xgo_miss, ih, X47_0_0_ok d a0 v0 v2  , E47_0_ok d a0 v0 v2  ]
/-- apogee/apogeeref01.value -/
theorem q47 (d : Nat) (a0 : List AV) : xcall C0 M unr d 47 [(.lst a0)] =
  C0.hop [] (.alloc E59) fun v0 h1 =>
  C0.hop h1 (.alloc E59) fun v2 h3 =>
  C0.hop h3 (.store 2 (.v v2) (.v (.agg [(iz 0), (.int .u64 0)]))) fun v4 h5 =>
  L47_0 d a0 v0 v2 1000000000000000000 0 0 h5 := (r47 C0 d a0).trans (by simp only [it47_0])
end Go.Proofs.Ytnldgacamgjpnaa.AE

namespace Go.Proofs.Ytnldgacamgjpnaa.AE
set_option linter.unusedVariables false
set_option linter.unusedSimpArgs false
set_option linter.constructorNameAsVariable false
open Go
theorem hg_lt {H : Heap} {id : Nat} {b : Blk} (h : hget H id = some b) : id < H.length := by
  unfold hget at h
  rcases Nat.lt_or_ge id H.length with h1 | h1
  · exact h1
  · rw [List.getElem?_eq_none h1] at h; cases h
theorem hget_app {H l : Heap} {id : Nat} {b : Blk} (h : hget H id = some b) : hget (H ++ l) id = some b := by
  have := hg_lt h
  unfold hget at *
  rw [List.getElem?_append_left this]; exact h
theorem hget_new {H : Heap} {b : Blk} : hget (H ++ [some b]) H.length = some b := by unfold hget; simp
theorem hget_set {H : Heap} {id : Nat} {b : Blk} (h : id < H.length) : hget (H.set id (some b)) id = some b := by unfold hget; simp [h]
theorem hget_set_ne {H : Heap} {id id' : Nat} {x : Option Blk} (h : id ≠ id') : hget (H.set id x) id' = hget H id' := by unfold hget; rw [List.getElem?_set_ne h]
/-- A slice that may grow: all of a block of its own, or none. -/
def Own (H : Heap) (e : ETy) (v : AV) (l : List AV) : Prop := (l = [] ∧ ∃ b, v = .zsl b) ∨ ∃ id, v = .slc id 0 l.length ∧ hget H id = some ⟨e, l⟩
/-- It names that memory. -/
def names (v : AV) (id : Nat) : Prop := ∃ o n, v = .slc id o n
theorem own_keep {H H' : Heap} {e : ETy} {v : AV} {l : List AV} (h : Own H e v l) (hk : ∀ id b, names v id → hget H id = some b → hget H' id = some b) : Own H' e v l := by
  rcases h with ⟨rfl, b, rfl⟩ | ⟨id, rfl, h⟩
  · exact .inl ⟨rfl, b, rfl⟩
  · exact .inr ⟨id, rfl, hk _ _ ⟨_, _, rfl⟩ h⟩
/-- Onto a slice of one's own. -/
theorem app_own {H : Heap} {e : ETy} {v : AV} {l xs : List AV} {r : AV} (ho : Own H e v l) (hr : elsOf H r = some xs) (hx : xs.all (elOk e) = true) (hs : (l.length + xs.length) * e.bytes ≤ 140737488355328) (hs2 : l.length + xs.length ≤ 9223372036854775807) :
    ∃ v' H', aop noCall (evO []) H (.app e (.v v) (.v r)) = some (v', H') ∧ Own H' e v' (l ++ xs) ∧ v' = .slc H.length 0 (l.length + xs.length) ∧ H'.length = H.length + 1 ∧ ∀ id b, ¬ names v id → hget H id = some b → hget H' id = some b := by
  rcases ho with ⟨rfl, b, rfl⟩ | ⟨id, rfl, h⟩
  · refine ⟨.slc H.length 0 xs.length, H ++ [some ⟨e, xs⟩], ?_, .inr ⟨H.length, by simp, by simp [hget_new]⟩, by simp, by simp, fun id b _ h => hget_app h⟩
    simp only [aop, evO, hr, aApp]
    rw [if_pos ⟨by simpa using hs, by simpa using hs2, hx⟩]
  · have hid := hg_lt h
    have hl : (H.set id none).length = H.length := by simp
    refine ⟨.slc H.length 0 (l.length + xs.length), H.set id none ++ [some ⟨e, l ++ xs⟩], ?_, .inr ⟨H.length, by simp, ?_⟩, rfl, by simp, fun id' b hn h' => ?_⟩
    · simp only [aop, evO, hr, aApp, h]
      rw [if_pos ⟨trivial, hs, hs2, trivial, trivial, hx⟩]
    · rw [← hl]; exact hget_new
    · refine hget_app ?_
      rw [hget_set_ne]; exact h'
      rintro rfl; exact hn ⟨_, _, rfl⟩
/-- One more. -/
theorem app_one {H : Heap} {e : ETy} {v x : AV} {l : List AV} (ho : Own H e v l) (hx : elOk e x = true) (hs : (l.length + 1) * e.bytes ≤ 140737488355328) (hs2 : l.length + 1 ≤ 9223372036854775807) :
    ∃ v' H', (∀ K : AV → Heap → Ans, (C0.hop H (.mkrow e 1 [(0, .v x)]) fun r H1 => C0.hop H1 (.app e (.v v) (.v r)) K) = K v' H') ∧ Own H' e v' (l ++ [x]) ∧ (∀ id, names v' id → H.length < id) ∧ H.length ≤ H'.length ∧ ∀ id b, ¬ names v id → hget H id = some b → hget H' id = some b := by
  have e1 : aop noCall (evO []) H (.mkrow e 1 [(0, .v x)]) = some (.slc H.length 0 1, H ++ [some ⟨e, [x]⟩]) := by
    simp [aop, evO, fillR, hx]
  have ho' : Own (H ++ [some ⟨e, [x]⟩]) e v l := own_keep ho fun id b _ h => hget_app h
  obtain ⟨v', H', h1, h2, h5, h3, h4⟩ := app_own (xs := [x]) (r := .slc H.length 0 1) ho' (by simp [elsOf, hget_new]) (by simp [hx]) (by simpa using hs) (by simpa using hs2)
  refine ⟨v', H', ?_, h2, ?_, by rw [h3]; simp; omega, fun id b hn h => h4 id b hn (hget_app h)⟩
  · intro K; rw [hop_eq e1, hop_eq h1]
  · rintro id ⟨o, n, rfl⟩
    injection h5 with h6
    rw [h6]; simp
theorem ix_lst {H : Heap} {l : List AV} {es : Nat} {q : Int} {x : AV} {K : AV → Heap → Ans} (h0 : 0 ≤ q) (hx : l[q.toNat]? = some x) (he : x.cells.length = es) :
    C0.hop H (.ixAS .any es (.v (.lst l)) (.v (.int .i64 q))) K = K (.fptr x 0) H := hop_eq (by simp [aop, evO, aInt, aIx, h0, hx, he])
theorem snap_own {H : Heap} {e : ETy} {v : AV} {l : List AV} {k : Nat} (ho : Own H e v l) (hf : ∀ x ∈ l, snap (k + 1) H x = x) : snap (k + 2) H v = .lst l := by
  rcases ho with ⟨rfl, b, rfl⟩ | ⟨id, rfl, h⟩
  · rfl
  · simp only [snap, h]
    rw [if_neg (by omega), if_pos (by simp)]
    congr 1
    simp only [List.drop_zero, List.take_length]
    exact (List.map_congr_left hf).trans (List.map_id _)
def iv (l : List Int) : List AV := l.map fun x => .int .i64 x
theorem iv_len (l : List Int) : (iv l).length = l.length := by simp [iv]
theorem iv_app (l m : List Int) : iv (l ++ m) = iv l ++ iv m := by simp [iv]
theorem iv_at (l : List Int) (i : Nat) : (iv l)[i]? = l[i]?.map fun x => .int .i64 x := by simp [iv]
theorem snap_iv {H : Heap} {e : ETy} {v : AV} {l : List Int} (ho : Own H e v (iv l)) : snap 12 H v = .lst (iv l) :=
  snap_own (k := 10) ho fun x hx => by
    unfold iv at hx
    obtain ⟨n, _, rfl⟩ := List.mem_map.mp hx
    rfl
theorem snp_own {H : Heap} {e : ETy} {v : AV} {l : List Int} {K : List AV → Bool → Ans} (ho : Own H e v (iv l)) (hne : l ≠ []) : C0.snp H [v] K = K [.lst (iv l)] false := by
  have hs := snap_iv ho
  rcases ho with ⟨h, _⟩ | ⟨id, rfl, h⟩
  · exact absurd (by simpa [iv] using h) hne
  · rw [snp_id (by rfl)]
    simp only [List.map_cons, List.map_nil]
    rw [show DEPTH = 12 from rfl, hs]
end Go.Proofs.Ytnldgacamgjpnaa.AE

namespace Go.Proofs.Ytnldgacamgjpnaa.AE
set_option linter.unusedVariables false
set_option linter.unusedSimpArgs false
set_option linter.constructorNameAsVariable false
open Go
theorem mul_bd63 (a b : Int) (ha : -9223372036854775808 ≤ a) (ha' : a < 9223372036854775808) (hb : -9223372036854775808 ≤ b) (hb' : b < 9223372036854775808) :
    -85070591730234615865843651857942052864 ≤ a * b ∧ a * b ≤ 85070591730234615865843651857942052864 := by
  have h1 := Int.mul_nonneg (show 0 ≤ 9223372036854775808 - a by omega) (show 0 ≤ 9223372036854775808 + b by omega)
  have h2 := Int.mul_nonneg (show 0 ≤ 9223372036854775808 + a by omega) (show 0 ≤ 9223372036854775808 - b by omega)
  have h3 := Int.mul_nonneg (show 0 ≤ 9223372036854775808 - a by omega) (show 0 ≤ 9223372036854775808 - b by omega)
  have h4 := Int.mul_nonneg (show 0 ≤ 9223372036854775808 + a by omega) (show 0 ≤ 9223372036854775808 + b by omega)
  have e1 : (9223372036854775808 - a) * (9223372036854775808 + b) = 85070591730234615865843651857942052864 + 9223372036854775808 * b - 9223372036854775808 * a - a * b := by grind
  have e2 : (9223372036854775808 + a) * (9223372036854775808 - b) = 85070591730234615865843651857942052864 - 9223372036854775808 * b + 9223372036854775808 * a - a * b := by grind
  have e3 : (9223372036854775808 - a) * (9223372036854775808 - b) = 85070591730234615865843651857942052864 - 9223372036854775808 * b - 9223372036854775808 * a + a * b := by grind
  have e4 : (9223372036854775808 + a) * (9223372036854775808 + b) = 85070591730234615865843651857942052864 + 9223372036854775808 * b + 9223372036854775808 * a + a * b := by grind
  omega
def cmp (x y : Int) : Int := if x < y then -1 else if y < x then 1 else 0
end Go.Proofs.Ytnldgacamgjpnaa.AE

namespace Go.Proofs.Ytnldgacamgjpnaa.AE
set_option linter.unusedVariables false
set_option linter.unusedSimpArgs false
open Go
def bitl (n : Int) : Nat → List Int
  | 0 => []
  | k + 1 => n % 2 :: bitl (n / 2) k
theorem bin_app (l m : List Int) : bin (l ++ m) = bin l + 2 ^ l.length * bin m := by
  induction l with
  | nil => simp [bin]
  | cons x l ih => simp only [List.cons_append, bin, ih, List.length_cons, Int.pow_succ]; grind
theorem bitl_len (n : Int) (k : Nat) : (bitl n k).length = k := by
  induction k generalizing n with
  | zero => rfl
  | succ k ih => simp [bitl, ih]
theorem bitl_snoc (n : Int) (k : Nat) : bitl n (k + 1) = bitl n k ++ [n / 2 ^ k % 2] := by
  induction k generalizing n with
  | zero => simp [bitl]
  | succ k ih =>
    rw [bitl, ih (n / 2), bitl]
    simp only [List.cons_append]
    rw [Int.ediv_ediv_of_nonneg (by decide), Int.pow_succ, Int.mul_comm (2 ^ k) 2]
theorem bin_bitl (n : Int) (k : Nat) : bin (bitl n k) = n % 2 ^ k := by
  induction k generalizing n with
  | zero => simp [bitl, bin]
  | succ k ih =>
    simp only [bitl, bin, ih]
    have hp : (0 : Int) < 2 ^ k := Int.pow_pos (by decide)
    have e1 := Int.mul_ediv_add_emod (n / 2) (2 ^ k)
    have e2 := Int.emod_nonneg (n / 2) (show (2 : Int) ^ k ≠ 0 by omega)
    have e3 := Int.emod_lt_of_pos (n / 2) hp
    rw [Int.pow_succ]
    symm
    have e0 : n = n % 2 + 2 * (n / 2 % 2 ^ k) + (2 ^ k * 2) * (n / 2 / 2 ^ k) := by
      rw [Int.mul_assoc (2 ^ k) 2, Int.mul_left_comm (2 ^ k) 2]; omega
    rw [e0]
    rw [Int.add_mul_emod_self_left]
    have h2 : (n % 2 + 2 * (n / 2 % 2 ^ k) + 2 ^ k * 2 * (n / 2 / 2 ^ k)) = n := e0.symm
    rw [h2]
    exact Int.emod_eq_of_lt (by omega) (by omega)
def Bits (l : List Int) : Prop := ∀ x ∈ l, x = 0 ∨ x = 1
theorem bin_nonneg {l : List Int} (h : Bits l) : 0 ≤ bin l ∧ bin l < 2 ^ l.length := by
  induction l with
  | nil => simp [bin]
  | cons x l ih =>
    have := ih fun y hy => h y (List.mem_cons_of_mem _ hy)
    have hx := h x (List.mem_cons_self ..)
    simp only [bin, List.length_cons, Int.pow_succ]
    omega
theorem bitl_bits (n : Int) (k : Nat) : Bits (bitl n k) := by
  induction k generalizing n with
  | zero => intro x hx; cases hx
  | succ k ih =>
    intro x hx
    rcases List.mem_cons.mp hx with rfl | hx
    · omega
    · exact ih _ x hx
theorem bits_app {l m : List Int} : Bits (l ++ m) ↔ Bits l ∧ Bits m := by
  unfold Bits; simp only [List.mem_append]
  exact ⟨fun h => ⟨fun x hx => h x (.inl hx), fun x hx => h x (.inr hx)⟩, fun h x hx => hx.elim (h.1 x) (h.2 x)⟩
theorem u64_or_pow {x : Int} {i : Nat} (hi : i < 64) (h : 0 ≤ x) (h' : x < 2 ^ i) : Go.bits .or .u64 x (2 ^ i) = x + 2 ^ i := by
  obtain ⟨n, rfl⟩ := Int.eq_ofNat_of_zero_le h
  have hn : n < 2 ^ i := by exact_mod_cast h'
  have hp : (2 : Nat) ^ i < 2 ^ 64 := Nat.pow_lt_pow_right (by decide) hi
  have hp2 : (2 : Nat) ^ i + 2 ^ i ≤ 2 ^ 64 := by
    have := Nat.pow_le_pow_right (n := 2) (by decide) (show i + 1 ≤ 64 by omega)
    rw [Nat.pow_succ] at this; omega
  show IntKind.u64.wrap ((BitVec.ofInt 64 (n : Int) ||| BitVec.ofInt 64 ((2 : Int) ^ i)).toNat : Int) = _
  rw [show ((2 : Int) ^ i) = ((2 ^ i : Nat) : Int) by simp, BitVec.toNat_or, BitVec.ofInt_natCast, BitVec.ofInt_natCast, BitVec.toNat_ofNat, BitVec.toNat_ofNat, Nat.mod_eq_of_lt (by omega), Nat.mod_eq_of_lt hp]
  have := Nat.two_pow_add_eq_or_of_lt (i := i) hn 1
  rw [Nat.mul_one] at this
  rw [Nat.or_comm, ← this, u64_small (by omega) (by omega)]
  simp; omega
theorem pow64 (i : Nat) (hi : i < 64) : (0 : Int) < 2 ^ i ∧ (2 : Int) ^ i < 18446744073709551616 := by
  constructor
  · exact Int.pow_pos (by decide)
  · have : (2 : Nat) ^ i < 2 ^ 64 := Nat.pow_lt_pow_right (by decide) hi
    have h2 : ((2 ^ i : Nat) : Int) < ((2 ^ 64 : Nat) : Int) := by exact_mod_cast this
    simpa using h2
end Go.Proofs.Ytnldgacamgjpnaa.AE

namespace Go.Proofs.Ytnldgacamgjpnaa.AE
set_option linter.unusedVariables false
set_option linter.unusedSimpArgs false
set_option linter.constructorNameAsVariable false
open Go
theorem low_rng (n : Int) : 0 ≤ low n ∧ low n < 18446744073709551616 := by unfold low; omega
theorem u_hiw (n : Int) : IntKind.wrap .u64 (hiw n) = n / 18446744073709551616 % 18446744073709551616 := by unfold hiw; rw [i64w, u64w]; omega
theorem shr1 {x : Int} {i : Nat} (hi : i < 64) (h : 0 ≤ x) (h' : x < 18446744073709551616) : IntKind.wrap .i64 (bits .and .u64 (Int.fdiv x (2 ^ (min (Int.toNat (i : Int)) 64))) 1) = x / 2 ^ i % 2 := by
  rw [show min (Int.toNat (i : Int)) 64 = i by omega, Int.fdiv_eq_ediv_of_nonneg _ (Int.le_of_lt (pow64 i hi).1)]
  have hp := pow64 i hi
  have h1 : 0 ≤ x / 2 ^ i := Int.ediv_nonneg h (by omega)
  have h2 : x / 2 ^ i < 18446744073709551616 := Int.lt_of_le_of_lt (Int.ediv_le_self _ h) h'
  have := u64_mask 1 (by decide) h1 h2
  rw [show ((2 : Int) ^ 1 - 1) = 1 by decide, show ((2 : Int) ^ 1) = 2 by decide] at this
  rw [this, i64w]; omega
theorem wrap_succ (i : Nat) (h : i < 1000000000000000000) : IntKind.wrap .i64 ((i : Int) + 1) = ((i + 1 : Nat) : Int) := by rw [i64w]; omega
theorem bits1 (d : Nat) (n : Int) : ∀ (k i f : Nat) (H : Heap) (v : AV) (l : List Int), i + k = 64 → k < f → l.length = 64 + i → hget H 0 = some ⟨E59, [wd n]⟩ → Own H E3 v (iv l) → ¬ names v 0 →
    L46_1 d (.ptr 0 0 0) f v (i : Nat) H = some (.lst (iv (l ++ ((List.range k).map fun j => n / 18446744073709551616 % 18446744073709551616 / 2 ^ (i + j) % 2)))) := by
  intro k
  induction k with
  | zero =>
    intro i f H v l hi hf hl h0 ho hn
    obtain ⟨f, rfl⟩ : ∃ g, f = g + 1 := ⟨f - 1, by omega⟩
    rw [L46_1, decide_eq_false (by omega), cnd_f, X46_1_0, C0_fin, snap_iv ho]; simp
  | succ k ih =>
    intro i f H v l hi hf hl h0 ho hn
    obtain ⟨f, rfl⟩ : ∃ g, f = g + 1 := ⟨f - 1, by omega⟩
    rw [L46_1, decide_eq_true (by omega), cnd_t, sh_ptr, ld_ptr h0 (by rfl) (by rfl), C0_int, decide_eq_false (by omega), cnd_f, u_hiw, shr1 (by omega) (by omega) (by omega)]
    obtain ⟨v', H', e, ho', hn', _, hk⟩ := app_one (x := .int .i64 (n / 18446744073709551616 % 18446744073709551616 / 2 ^ i % 2)) ho (by rfl) (by rw [iv_len, hl]; change (64 + i + 1) * 8 ≤ _; omega) (by rw [iv_len]; omega)
    rw [e, wrap_succ i (by omega), ih (i + 1) f H' v' (l ++ [n / 18446744073709551616 % 18446744073709551616 / 2 ^ i % 2]) (by omega) (by omega) (by simp; omega) (hk 0 _ hn h0) (by rw [iv_app]; exact ho') (fun hc => by have := hn' 0 hc; omega)]
    rw [List.append_assoc, List.range_succ_eq_map]
    simp [Nat.add_assoc, Nat.add_comm 1, List.map_map, Function.comp_def]
end Go.Proofs.Ytnldgacamgjpnaa.AE

namespace Go.Proofs.Ytnldgacamgjpnaa.AE
set_option linter.unusedVariables false
set_option linter.unusedSimpArgs false
set_option linter.constructorNameAsVariable false
open Go
theorem bitl_range (m : Int) (k : Nat) : bitl m k = (List.range k).map fun j => m / 2 ^ j % 2 := by
  induction k with
  | zero => rfl
  | succ k ih => rw [bitl_snoc, ih, List.range_succ, List.map_append]; rfl
def wbits (n : Int) : List Int := bitl (low n) 64 ++ bitl (n / 18446744073709551616 % 18446744073709551616) 64
theorem wbits_len (n : Int) : (wbits n).length = 128 := by simp [wbits, bitl_len]
theorem wbits_bits (n : Int) : Bits (wbits n) := bits_app.mpr ⟨bitl_bits _ _, bitl_bits _ _⟩
theorem bin_wbits (n : Int) : bin (wbits n) = n % 340282366920938463463374607431768211456 := by
  unfold wbits; rw [bin_app, bin_bitl, bin_bitl, bitl_len]
  have e : (2 : Int) ^ 64 = 18446744073709551616 := by decide
  rw [e]; unfold low; omega
theorem bits0 (d : Nat) (n : Int) : ∀ (k i f : Nat) (H : Heap) (v : AV), i + k = 64 → k < f → hget H 0 = some ⟨E59, [wd n]⟩ → Own H E3 v (iv (bitl (low n) i)) → ¬ names v 0 →
    L46_0 d (.ptr 0 0 0) f v (i : Nat) H = some (.lst (iv (wbits n))) := by
  intro k
  induction k with
  | zero =>
    intro i f H v hi hf h0 ho hn
    obtain ⟨f, rfl⟩ : ∃ g, f = g + 1 := ⟨f - 1, by omega⟩
    obtain rfl : i = 64 := by omega
    rw [L46_0, decide_eq_false (by omega), cnd_f, X46_0_0]
    have := bits1 d n 64 0 1000000000000000000 H v _ (by omega) (by omega) (by simp [bitl_len]) h0 ho hn
    simp only [Nat.zero_add, ← bitl_range] at this
    exact this
  | succ k ih =>
    intro i f H v hi hf h0 ho hn
    obtain ⟨f, rfl⟩ : ∃ g, f = g + 1 := ⟨f - 1, by omega⟩
    have l0 := low_rng n
    rw [L46_0, decide_eq_true (by omega), cnd_t, sh_ptr, ld_ptr h0 (by rfl) (by rfl), C0_int, decide_eq_false (by omega), cnd_f, shr1 (by omega) l0.1 l0.2]
    obtain ⟨v', H', e, ho', hn', _, hk⟩ := app_one (x := .int .i64 (low n / 2 ^ i % 2)) ho (by rfl) (by rw [iv_len, bitl_len]; change (i + 1) * 8 ≤ _; omega) (by rw [iv_len, bitl_len]; omega)
    rw [e, wrap_succ i (by omega), ih (i + 1) f H' v' (by omega) (by omega) (hk 0 _ hn h0) (by rw [bitl_snoc, iv_app]; exact ho') (fun hc => by have := hn' 0 hc; omega)]
theorem s46 (d : Nat) (n : Int) : pcall M (d + 1) 46 [wd n] = some (.lst (iv (wbits n))) := told (q46 d _ _) (by
  refine Eq.trans (hop_eq (by rfl)) ?_
  exact bits0 d n 64 0 1000000000000000000 _ _ (by omega) (by omega) rfl (.inl ⟨rfl, _, rfl⟩) (by rintro ⟨o, m, h⟩; cases h))
theorem bin_take {l : List Int} {i : Nat} (h : i < l.length) : bin (l.take (i + 1)) = bin (l.take i) + 2 ^ i * l[i] := by
  rw [List.take_succ_eq_append_getElem h, bin_app]
  simp [bin, List.length_take, Nat.min_eq_left (Nat.le_of_lt h)]
theorem wd_congr {a b : Int} (h : a % 340282366920938463463374607431768211456 = b % 340282366920938463463374607431768211456) : wd a = wd b := by
  have e1 : hiw a = hiw b := by unfold hiw; rw [i64w, i64w]; omega
  have e2 : low a = low b := by unfold low; omega
  rw [wd, wd, e1, e2]
theorem take_bits {l : List Int} (h : Bits l) (i : Nat) : Bits (l.take i) := fun x hx => h x (List.mem_of_mem_take hx)
theorem drop_bits {l : List Int} (h : Bits l) (i : Nat) : Bits (l.drop i) := fun x hx => h x (List.mem_of_mem_drop hx)
theorem bin_lt {l : List Int} (h : Bits l) {i : Nat} (hi : i ≤ l.length) : 0 ≤ bin (l.take i) ∧ bin (l.take i) < 2 ^ i := by
  have := bin_nonneg (take_bits h i)
  rwa [List.length_take, Nat.min_eq_left hi] at this
theorem shl1 {i : Nat} (hi : i < 64) : IntKind.wrap .u64 (1 * (2 ^ (min (Int.toNat (i : Int)) 64))) = 2 ^ i := by
  rw [show min (Int.toNat (i : Int)) 64 = i by omega, Int.one_mul]
  exact u64_small (Int.le_of_lt (pow64 i hi).1) (pow64 i hi).2
theorem value1 (d : Nat) (l : List Int) (hb : Bits l) (hl : l.length = 128) : ∀ (k i f : Nat), i + k = 64 → k < f →
    L47_0 d (iv l) (.ptr 0 0 0) (.ptr 1 0 0) f (bin ((l.drop 64).take i)) (i : Nat) [some ⟨E59, [wd 0]⟩, some ⟨E59, [.agg [.int .i64 0, .int .u64 (bin (l.take i))]]⟩] = some (wd (bin l)) := by
  intro k
  induction k with
  | zero =>
    intro i f hi hf
    obtain ⟨f, rfl⟩ : ∃ g, f = g + 1 := ⟨f - 1, by omega⟩
    obtain rfl : i = 64 := by omega
    rw [L47_0, decide_eq_false (by omega), cnd_f, X47_0_0]
    have b1 := bin_lt hb (i := 64) (by omega)
    have e0 : (l.drop 64).take 64 = l.drop 64 := List.take_of_length_le (by simp; omega)
    have e1 : bin l = bin (l.take 64) + 2 ^ 64 * bin (l.drop 64) := by
      have := bin_app (l.take 64) (l.drop 64)
      rw [List.take_append_drop, List.length_take, Nat.min_eq_left (by omega)] at this
      exact this
    have e2 : (2 : Int) ^ 64 = 18446744073709551616 := by decide
    rw [e2] at b1 e1
    have h1 : hiw (bin l) = IntKind.wrap .i64 (bin (l.drop 64)) := by unfold hiw; rw [e1]; congr 1; omega
    have h2 : low (bin l) = bin (l.take 64) := by unfold low; omega
    have hwd : wd (bin l) = .agg [.int .i64 (IntKind.wrap .i64 (bin (l.drop 64))), .int .u64 (bin (l.take 64))] := by rw [wd, h1, h2]
    rw [hwd, e0]
    refine Eq.trans (hop_eq (by rfl)) ?_; refine Eq.trans (hop_eq (by rfl)) ?_; refine Eq.trans (hop_eq (by rfl)) ?_; refine Eq.trans (pl_agg (by rfl) (by rfl)) ?_; refine Eq.trans (pl_int (by rfl)) ?_; refine Eq.trans (pl_int (by rfl)) ?_; refine Eq.trans (hop_eq (by rfl)) ?_; refine Eq.trans (hop_eq (by rfl)) ?_
    rfl
  | succ k ih =>
    intro i f hi hf
    obtain ⟨f, rfl⟩ : ∃ g, f = g + 1 := ⟨f - 1, by omega⟩
    have i1 : i < l.length := by omega
    have i2 : i < (l.drop 64).length := by simp; omega
    have g1 : (iv l)[((i : Nat) : Int).toNat]? = some (.int .i64 l[i]) := by rw [iv_at]; simp [i1]
    have g2 : (iv l)[(IntKind.wrap .i64 (64 + (i : Int))).toNat]? = some (.int .i64 (l.drop 64)[i]) := by
      have : (IntKind.wrap .i64 (64 + (i : Int))).toNat = 64 + i := by rw [i64w]; omega
      rw [this, iv_at]; simp [List.getElem?_eq_getElem (show 64 + i < l.length by omega)]
    have w0 : 0 ≤ IntKind.wrap .i64 (64 + (i : Int)) := by rw [i64w]; omega
    have b1 := bin_lt hb (i := i) (by omega)
    have b2 := bin_lt (drop_bits hb 64) (i := i) (by simp; omega)
    have IH := ih (i + 1) f (by omega) (by omega)
    rw [bin_take i1, bin_take i2] at IH
    rw [L47_0, decide_eq_true (by omega), cnd_t]
    refine Eq.trans (ix_lst (by omega) g1 (by rfl)) ?_
    refine Eq.trans (hop_eq (by rfl)) ?_; refine Eq.trans (pl_int (by rfl)) ?_
    have c0 : ∀ i : Nat, decide ((i : Int) < 0) = false := fun i => decide_eq_false (by omega)
    rcases hb l[i] (List.getElem_mem _) with x0 | x0 <;> rcases drop_bits hb 64 (l.drop 64)[i] (List.getElem_mem _) with y0 | y0
    all_goals rw [x0] ; rw [y0] at g2
    · rw [x0, y0] at IH
      refine Eq.trans (pl_f (by rfl)) ?_
      refine Eq.trans (ix_lst w0 g2 (by rfl)) ?_
      refine Eq.trans (hop_eq (by rfl)) ?_; refine Eq.trans (pl_int (by rfl)) ?_
      refine Eq.trans (pl_f (by rfl)) ?_
      rw [wrap_succ i (by omega)]
      simpa using IH
    · rw [x0, y0] at IH
      refine Eq.trans (pl_f (by rfl)) ?_
      refine Eq.trans (ix_lst w0 g2 (by rfl)) ?_
      refine Eq.trans (hop_eq (by rfl)) ?_; refine Eq.trans (pl_int (by rfl)) ?_; refine Eq.trans (pl_len (by rfl)) ?_
      rw [c0, cnd_f, wrap_succ i (by omega), shl1 (by omega), u64_or_pow (by omega) b2.1 b2.2]
      simpa using IH
    · rw [x0, y0] at IH
      refine Eq.trans (pl_len (by rfl)) ?_; refine Eq.trans (hop_eq (by rfl)) ?_; refine Eq.trans (hop_eq (by rfl)) ?_; refine Eq.trans (pl_int (by rfl)) ?_
      rw [c0, cnd_f, shl1 (by omega), u64_or_pow (by omega) b1.1 b1.2]
      refine Eq.trans (hop_eq (by rfl)) ?_; refine Eq.trans (hop_eq (by rfl)) ?_
      refine Eq.trans (ix_lst w0 g2 (by rfl)) ?_
      refine Eq.trans (hop_eq (by rfl)) ?_; refine Eq.trans (pl_int (by rfl)) ?_
      refine Eq.trans (pl_f (by rfl)) ?_
      rw [wrap_succ i (by omega)]
      simp only [Int.mul_one, Int.mul_zero, Int.add_zero] at IH
      exact IH
    · rw [x0, y0] at IH
      refine Eq.trans (pl_len (by rfl)) ?_; refine Eq.trans (hop_eq (by rfl)) ?_; refine Eq.trans (hop_eq (by rfl)) ?_; refine Eq.trans (pl_int (by rfl)) ?_
      rw [c0, cnd_f, shl1 (by omega), u64_or_pow (by omega) b1.1 b1.2]
      refine Eq.trans (hop_eq (by rfl)) ?_; refine Eq.trans (hop_eq (by rfl)) ?_
      refine Eq.trans (ix_lst w0 g2 (by rfl)) ?_
      refine Eq.trans (hop_eq (by rfl)) ?_; refine Eq.trans (pl_int (by rfl)) ?_; refine Eq.trans (pl_len (by rfl)) ?_
      rw [cnd_f, wrap_succ i (by omega), u64_or_pow (by omega) b2.1 b2.2]
      simp only [Int.mul_one] at IH
      exact IH
theorem s47 (d : Nat) (l : List Int) (hb : Bits l) (hl : l.length = 128) : pcall M (d + 1) 47 [.lst (iv l)] = some (wd (bin l)) := told (q47 d _) (by
  refine Eq.trans (hop_eq (by rfl)) ?_; refine Eq.trans (hop_eq (by rfl)) ?_; refine Eq.trans (hop_eq (by rfl)) ?_
  have := value1 d l hb hl 64 0 1000000000000000000 (by omega) (by omega)
  simp only [List.take_zero, bin] at this
  exact this)
end Go.Proofs.Ytnldgacamgjpnaa.AE

namespace Go.Proofs.Ytnldgacamgjpnaa.AE
set_option linter.unusedVariables false
set_option linter.unusedSimpArgs false
set_option linter.constructorNameAsVariable false
open Go
theorem plus1 (d : Nat) (x y : List Int) (hx : Bits x) (hy : Bits y) (lx : x.length = 128) (ly : y.length = 128) : ∀ (k i f : Nat) (H : Heap) (v : AV) (out : List Int) (c : Int), i + k = 128 → k < f → out.length = i → Bits out → (c = 0 ∨ c = 1) →
    bin out + 2 ^ i * c = bin (x.take i) + bin (y.take i) → hget H 2 = some ⟨E59, [wd 0]⟩ → Own H E3 v (iv out) → ¬ names v 2 → 2 < H.length →
    L41_0 (d + 1) (.ptr 2 0 0) (.lst (iv x)) (.lst (iv y)) f v c (i : Nat) H = some (wd (bin x + bin y)) := by
  intro k
  induction k with
  | zero =>
    intro i f H v out c hi hf lo ob hc hs h2 ho hn hl
    obtain ⟨f, rfl⟩ : ∃ g, f = g + 1 := ⟨f - 1, by omega⟩
    obtain rfl : i = 128 := by omega
    rw [L41_0, decide_eq_false (by omega), cnd_f, X41_0_0, snp_own ho (by intro h; rw [h] at lo; simp at lo), s47 d out ob lo]
    refine Eq.trans (pl_agg (by rfl) (by rfl)) ?_; refine Eq.trans (pl_int (by rfl)) ?_; refine Eq.trans (pl_int (by rfl)) ?_; refine Eq.trans (pl_len (by rfl)) ?_
    rw [st_ptr h2 (by rfl) (by rfl)]
    refine Eq.trans (ld_ptr (hget_set hl) (by rfl) (by rfl)) ?_
    rw [List.take_of_length_le (by omega), List.take_of_length_le (by omega)] at hs
    have e2 : (2 : Int) ^ 128 = 340282366920938463463374607431768211456 := by decide
    rw [e2] at hs
    rw [wd_congr (a := bin x + bin y) (b := bin out) (by rw [← hs]; omega)]
    rfl
  | succ k ih =>
    intro i f H v out c hi hf lo ob hc hs h2 ho hn hl
    obtain ⟨f, rfl⟩ : ∃ g, f = g + 1 := ⟨f - 1, by omega⟩
    have i1 : i < x.length := by omega
    have i2 : i < y.length := by omega
    have g1 : (iv x)[((i : Nat) : Int).toNat]? = some (.int .i64 x[i]) := by rw [iv_at]; simp [i1]
    have g2 : (iv y)[((i : Nat) : Int).toNat]? = some (.int .i64 y[i]) := by rw [iv_at]; simp [i2]
    have bx := hx x[i] (List.getElem_mem _)
    have by' := hy y[i] (List.getElem_mem _)
    rw [L41_0, decide_eq_true (by omega), cnd_t]
    refine Eq.trans (ix_lst (by omega) g1 (by rfl)) ?_
    refine Eq.trans (hop_eq (by rfl)) ?_; refine Eq.trans (pl_int (by rfl)) ?_
    refine Eq.trans (ix_lst (by omega) g2 (by rfl)) ?_
    refine Eq.trans (hop_eq (by rfl)) ?_; refine Eq.trans (pl_int (by rfl)) ?_
    obtain ⟨t, ht⟩ : ∃ t, t = x[i] + y[i] + c := ⟨_, rfl⟩
    have ew : IntKind.wrap .i64 ((IntKind.wrap .i64 (x[i] + y[i])) + c) = t := by rw [i64w, i64w]; omega
    have e1 : Int.tmod t 2 = t % 2 := Int.tmod_eq_emod_of_nonneg (by omega)
    have e2 : Int.tdiv t 2 = t / 2 := Int.tdiv_eq_ediv_of_nonneg (by omega)
    have e3 : IntKind.wrap .i64 (t / 2) = t / 2 := i64_small (by omega) (by omega)
    rw [ew, e1, e2, e3]
    obtain ⟨v', H', e, ho', hn', hl', hk⟩ := app_one (x := .int .i64 (t % 2)) ho (by rfl) (by rw [iv_len, lo]; change (i + 1) * 8 ≤ _; omega) (by rw [iv_len, lo]; omega)
    rw [e, wrap_succ i (by omega)]
    refine ih (i + 1) f H' v' (out ++ [t % 2]) (t / 2) (by omega) (by omega) (by simp [lo]) (bits_app.mpr ⟨ob, by intro z hz; simp at hz; omega⟩) (by omega) ?_ (hk 2 _ hn h2) (by rw [iv_app]; exact ho') (fun hc => by have := hn' 2 hc; omega) (by omega)
    rw [bin_app, lo, bin_take i1, bin_take i2, Int.pow_succ]
    simp only [bin]
    have e4 : t = t % 2 + 2 * (t / 2) := by omega
    have : bin out + 2 ^ i * (t % 2 + 2 * 0) + 2 ^ i * 2 * (t / 2) = bin out + 2 ^ i * (t % 2 + 2 * (t / 2)) := by grind
    rw [this, ← e4, ht]
    grind
theorem s41 (d : Nat) (a b : Int) : pcall M (d + 2) 41 [wd a, wd b] = some (wd (a + b)) := told (q41 (d + 1) _ _ _ _) (by
  refine Eq.trans (hop_eq (by rfl)) ?_; refine Eq.trans (hop_eq (by rfl)) ?_; refine Eq.trans (hop_eq (by rfl)) ?_; refine Eq.trans (hop_eq (by rfl)) ?_; refine Eq.trans (pl_agg (by rfl) (by rfl)) ?_; refine Eq.trans (pl_int (by rfl)) ?_; refine Eq.trans (pl_int (by rfl)) ?_
  refine Eq.trans (pl_any (s46 d a)) ?_
  refine Eq.trans (hop_eq (by rfl)) ?_; refine Eq.trans (pl_agg (by rfl) (by rfl)) ?_; refine Eq.trans (pl_int (by rfl)) ?_; refine Eq.trans (pl_int (by rfl)) ?_
  refine Eq.trans (pl_any (s46 d b)) ?_
  have := plus1 d (wbits a) (wbits b) (wbits_bits a) (wbits_bits b) (wbits_len a) (wbits_len b) 128 0 1000000000000000000
    [some ⟨E59, [wd a]⟩, some ⟨E59, [wd b]⟩, some ⟨E59, [wd 0]⟩] (.zsl true) [] 0 (by omega) (by omega) rfl (by intro z hz; cases hz) (.inl rfl) (by simp [bin]) rfl (.inl ⟨rfl, _, rfl⟩) (by rintro ⟨o, m, h⟩; cases h) (by simp)
  refine this.trans ?_
  rw [bin_wbits, bin_wbits, wd_congr (a := a + b) (b := a % 340282366920938463463374607431768211456 + b % 340282366920938463463374607431768211456) (by omega)])
theorem s25 (d : Nat) (x : Int) (h : -9223372036854775808 ≤ x) (h' : x < 9223372036854775808) : pcall M (d + 1) 25 [.int .i64 x] = some (wd x) := told (r25 C0 d x) (by
  have e2 : IntKind.wrap .u64 x = low x := by unfold low; rw [u64w]
  rw [e2]
  by_cases hx : x < 0
  · rw [decide_eq_true hx, cnd_t, wd, show hiw x = -1 by unfold hiw; rw [i64w]; omega]
  · rw [decide_eq_false hx, cnd_f, wd, show hiw x = 0 by unfold hiw; rw [i64w]; omega])
theorem bits_not_i64 (x : Int) (h : -9223372036854775808 ≤ x) (h' : x < 9223372036854775808) : Go.bits .xor .i64 (-1) x = -1 - x := by
  show IntKind.i64.wrap ((BitVec.ofInt 64 (-1) ^^^ BitVec.ofInt 64 x).toNat : Int) = _
  rw [show BitVec.ofInt 64 (-1) = BitVec.allOnes 64 by decide, BitVec.allOnes_xor, BitVec.toNat_not, i64w, BitVec.toNat_ofInt]
  have : ((2 ^ 64 : Nat) : Int) = 18446744073709551616 := by decide
  rw [this]
  omega
theorem bits_not_u64 (x : Int) (h : 0 ≤ x) (h' : x < 18446744073709551616) : Go.bits .xor .u64 18446744073709551615 x = 18446744073709551615 - x := by
  show IntKind.u64.wrap ((BitVec.ofInt 64 18446744073709551615 ^^^ BitVec.ofInt 64 x).toNat : Int) = _
  rw [show BitVec.ofInt 64 18446744073709551615 = BitVec.allOnes 64 by decide, BitVec.allOnes_xor, BitVec.toNat_not, u64w, BitVec.toNat_ofInt]
  have : ((2 ^ 64 : Nat) : Int) = 18446744073709551616 := by decide
  rw [this]
  omega
theorem hiw_rng (n : Int) : -9223372036854775808 ≤ hiw n ∧ hiw n < 9223372036854775808 := by unfold hiw; rw [i64w]; omega
theorem s42 (d : Nat) (n : Int) : pcall M (d + 3) 42 [wd n] = some (wd (-n)) := told (r42 C0 (d + 2) _ _) (by
  have r1 := hiw_rng n
  have r2 := low_rng n
  rw [if_pos rfl, if_neg (by decide), bits_not_i64 _ r1.1 r1.2, show IntKind.max .u64 = 18446744073709551615 by decide, bits_not_u64 _ r2.1 r2.2]
  have e : (.agg [.int .i64 (-1 - hiw n), .int .u64 (18446744073709551615 - low n)] : AV) = wd (-1 - n) := by
    rw [wd, show -1 - hiw n = hiw (-1 - n) by unfold hiw; rw [i64w, i64w]; omega, show 18446744073709551615 - low n = low (-1 - n) by unfold low; omega]
  have e1 : (.agg [.int .i64 0, .int .u64 1] : AV) = wd 1 := by rfl
  rw [e, e1, s41]
  refine Eq.trans (pl_agg (by rfl) (by rfl)) ?_; refine Eq.trans (pl_int (by rfl)) ?_; refine Eq.trans (pl_int (by rfl)) ?_
  rw [show -1 - n + 1 = -n by omega])
theorem mod_succ (n : Int) (i : Nat) : n % 2 ^ (i + 1) = n % 2 ^ i + 2 ^ i * (n / 2 ^ i % 2) := by
  have := congrArg bin (bitl_snoc n i)
  rw [bin_app, bin_bitl, bin_bitl, bitl_len] at this
  simpa [bin] using this
theorem and1 {x : Int} {i : Nat} (hi : i < 64) (h : 0 ≤ x) (h' : x < 18446744073709551616) : bits .and .u64 (Int.fdiv x (2 ^ (min (Int.toNat (i : Int)) 64))) 1 = x / 2 ^ i % 2 := by
  rw [show min (Int.toNat (i : Int)) 64 = i by omega, Int.fdiv_eq_ediv_of_nonneg _ (Int.le_of_lt (pow64 i hi).1)]
  have hp := pow64 i hi
  have h1 : 0 ≤ x / 2 ^ i := Int.ediv_nonneg h (by omega)
  have h2 : x / 2 ^ i < 18446744073709551616 := Int.lt_of_le_of_lt (Int.ediv_le_self _ h) h'
  have := u64_mask 1 (by decide) h1 h2
  rwa [show ((2 : Int) ^ 1 - 1) = 1 by decide, show ((2 : Int) ^ 1) = 2 by decide] at this
theorem mul1 (d : Nat) (a b : Int) (hb : -9223372036854775808 ≤ b) (hb' : b < 9223372036854775808) : ∀ (k i f : Nat), i + k = 64 → k < f →
    L37_0 (d + 3) b (.ptr 0 0 0) (.ptr 1 0 0) (.ptr 2 0 0) f (i : Nat) [some ⟨E59, [wd 0]⟩, some ⟨E59, [wd (a * 2 ^ i)]⟩, some ⟨E59, [wd (a * (b % 18446744073709551616 % 2 ^ i))]⟩] = some (wd (a * b)) := by
  intro k
  induction k with
  | zero =>
    intro i f hi hf
    obtain ⟨f, rfl⟩ : ∃ g, f = g + 1 := ⟨f - 1, by omega⟩
    obtain rfl : i = 64 := by omega
    have e2 : (2 : Int) ^ 64 = 18446744073709551616 := by decide
    rw [L37_0, decide_eq_false (by omega), cnd_f, X37_0_0, e2]
    by_cases h : b < 0
    · rw [decide_eq_true h, cnd_t]
      refine Eq.trans (hop_eq (by rfl)) ?_; refine Eq.trans (pl_agg (by rfl) (by rfl)) ?_; refine Eq.trans (pl_int (by rfl)) ?_; refine Eq.trans (pl_int (by rfl)) ?_; refine Eq.trans (hop_eq (by rfl)) ?_; refine Eq.trans (pl_agg (by rfl) (by rfl)) ?_; refine Eq.trans (pl_int (by rfl)) ?_; refine Eq.trans (pl_int (by rfl)) ?_
      refine Eq.trans (pl_agg (s42 d _) (by rfl)) ?_
      refine Eq.trans (pl_int (by rfl)) ?_; refine Eq.trans (pl_int (by rfl)) ?_
      refine Eq.trans (pl_agg (s41 (d + 1) _ _) (by rfl)) ?_
      refine Eq.trans (pl_int (by rfl)) ?_; refine Eq.trans (pl_int (by rfl)) ?_; refine Eq.trans (hop_eq (by rfl)) ?_; refine Eq.trans (hop_eq (by rfl)) ?_; refine Eq.trans (pl_agg (by rfl) (by rfl)) ?_; refine Eq.trans (pl_int (by rfl)) ?_; refine Eq.trans (pl_int (by rfl)) ?_; refine Eq.trans (hop_eq (by rfl)) ?_; refine Eq.trans (hop_eq (by rfl)) ?_
      have e3 : a * (b % 18446744073709551616 % 18446744073709551616) + -(a * 18446744073709551616) = a * b := by
        rw [show b % 18446744073709551616 % 18446744073709551616 = b + 18446744073709551616 by omega]; grind
      rw [← e3]; rfl
    · rw [decide_eq_false h, cnd_f]
      refine Eq.trans (hop_eq (by rfl)) ?_; refine Eq.trans (pl_agg (by rfl) (by rfl)) ?_; refine Eq.trans (pl_int (by rfl)) ?_; refine Eq.trans (pl_int (by rfl)) ?_; refine Eq.trans (hop_eq (by rfl)) ?_; refine Eq.trans (hop_eq (by rfl)) ?_
      have e3 : a * (b % 18446744073709551616 % 18446744073709551616) = a * b := by rw [show b % 18446744073709551616 % 18446744073709551616 = b by omega]
      rw [← e3]; rfl
  | succ k ih =>
    intro i f hi hf
    obtain ⟨f, rfl⟩ : ∃ g, f = g + 1 := ⟨f - 1, by omega⟩
    have IH := ih (i + 1) f (by omega) (by omega)
    rw [mod_succ] at IH
    have px : a * 2 ^ (i + 1) = a * 2 ^ i + a * 2 ^ i := by rw [Int.pow_succ]; grind
    rw [px] at IH
    rw [L37_0, decide_eq_true (by omega), cnd_t, decide_eq_false (by omega), cnd_f, u64w, and1 (by omega) (by omega) (by omega)]
    rcases (show b % 18446744073709551616 / 2 ^ i % 2 = 0 ∨ b % 18446744073709551616 / 2 ^ i % 2 = 1 by omega) with h | h
    · rw [h] at IH ⊢
      refine Eq.trans (pl_f (by rfl)) ?_
      refine Eq.trans (hop_eq (by rfl)) ?_; refine Eq.trans (pl_agg (by rfl) (by rfl)) ?_; refine Eq.trans (pl_int (by rfl)) ?_; refine Eq.trans (pl_int (by rfl)) ?_; refine Eq.trans (hop_eq (by rfl)) ?_; refine Eq.trans (pl_agg (by rfl) (by rfl)) ?_; refine Eq.trans (pl_int (by rfl)) ?_; refine Eq.trans (pl_int (by rfl)) ?_
      refine Eq.trans (pl_agg (s41 (d + 1) _ _) (by rfl)) ?_
      refine Eq.trans (pl_int (by rfl)) ?_; refine Eq.trans (pl_int (by rfl)) ?_; refine Eq.trans (hop_eq (by rfl)) ?_
      rw [wrap_succ i (by omega)]
      rw [Int.mul_zero, Int.add_zero] at IH
      exact IH
    · rw [h] at IH ⊢
      refine Eq.trans (pl_len (by rfl)) ?_; refine Eq.trans (hop_eq (by rfl)) ?_; refine Eq.trans (pl_agg (by rfl) (by rfl)) ?_; refine Eq.trans (pl_int (by rfl)) ?_; refine Eq.trans (pl_int (by rfl)) ?_; refine Eq.trans (hop_eq (by rfl)) ?_; refine Eq.trans (pl_agg (by rfl) (by rfl)) ?_; refine Eq.trans (pl_int (by rfl)) ?_; refine Eq.trans (pl_int (by rfl)) ?_
      refine Eq.trans (pl_agg (s41 (d + 1) _ _) (by rfl)) ?_
      refine Eq.trans (pl_int (by rfl)) ?_; refine Eq.trans (pl_int (by rfl)) ?_; refine Eq.trans (hop_eq (by rfl)) ?_; refine Eq.trans (hop_eq (by rfl)) ?_; refine Eq.trans (pl_agg (by rfl) (by rfl)) ?_; refine Eq.trans (pl_int (by rfl)) ?_; refine Eq.trans (pl_int (by rfl)) ?_; refine Eq.trans (hop_eq (by rfl)) ?_; refine Eq.trans (pl_agg (by rfl) (by rfl)) ?_; refine Eq.trans (pl_int (by rfl)) ?_; refine Eq.trans (pl_int (by rfl)) ?_
      refine Eq.trans (pl_agg (s41 (d + 1) _ _) (by rfl)) ?_
      refine Eq.trans (pl_int (by rfl)) ?_; refine Eq.trans (pl_int (by rfl)) ?_; refine Eq.trans (hop_eq (by rfl)) ?_
      rw [wrap_succ i (by omega)]
      rw [Int.mul_one, Int.mul_add] at IH
      exact IH
theorem s37 (d : Nat) (a b : Int) (ha : -9223372036854775808 ≤ a) (ha' : a < 9223372036854775808) (hb : -9223372036854775808 ≤ b) (hb' : b < 9223372036854775808) :
    pcall M (d + 4) 37 [.int .i64 a, .int .i64 b] = some (wd (a * b)) := told (q37 (d + 3) _ _) (by
  refine Eq.trans (hop_eq (by rfl)) ?_
  refine Eq.trans (pl_agg (s25 (d + 2) a ha ha') (by rfl)) ?_
  refine Eq.trans (pl_int (by rfl)) ?_; refine Eq.trans (pl_int (by rfl)) ?_; refine Eq.trans (hop_eq (by rfl)) ?_; refine Eq.trans (hop_eq (by rfl)) ?_; refine Eq.trans (hop_eq (by rfl)) ?_; refine Eq.trans (hop_eq (by rfl)) ?_
  have := mul1 d a b hb hb' 64 0 1000000000000000000 (by omega) (by omega)
  have e : b % 18446744073709551616 % 2 ^ 0 = 0 := by rw [show (2 : Int) ^ 0 = 1 from rfl, Int.emod_one]
  rw [e, show a * 2 ^ 0 = a by rw [show (2 : Int) ^ 0 = 1 from rfl, Int.mul_one], Int.mul_zero] at this
  exact this)
theorem s36 (d : Nat) (a b : Int) (ha : -170141183460469231731687303715884105728 ≤ a) (ha' : a < 170141183460469231731687303715884105728) (hb : -170141183460469231731687303715884105728 ≤ b) (hb' : b < 170141183460469231731687303715884105728) :
    pcall M (d + 1) 36 [wd a, wd b] = some (.int .i64 (cmp a b)) := told (r36 C0 d _ _ _ _) (by
  have e1 : hiw a = a / 18446744073709551616 := by unfold hiw; rw [i64_small (by omega) (by omega)]
  have e2 : hiw b = b / 18446744073709551616 := by unfold hiw; rw [i64_small (by omega) (by omega)]
  rw [e1, e2]
  unfold low cmp
  by_cases c1 : a / 18446744073709551616 < b / 18446744073709551616
  · rw [decide_eq_true c1, cnd_t, if_pos (by omega)]
  · rw [decide_eq_false c1, cnd_f]
    by_cases c2 : a / 18446744073709551616 = b / 18446744073709551616
    · rw [show (a / 18446744073709551616 == b / 18446744073709551616) = true by simp [c2], cnd_t]
      by_cases c3 : a % 18446744073709551616 < b % 18446744073709551616
      · rw [decide_eq_true c3, cnd_t, if_pos (by omega)]
      · rw [decide_eq_false c3, cnd_f]
        by_cases c4 : a % 18446744073709551616 = b % 18446744073709551616
        · rw [show (a % 18446744073709551616 == b % 18446744073709551616) = true by simp [c4], if_neg (by omega), if_neg (by omega)]; rfl
        · rw [show (a % 18446744073709551616 == b % 18446744073709551616) = false by simp [c4], if_neg (by omega), if_pos (by omega)]; rfl
    · rw [show (a / 18446744073709551616 == b / 18446744073709551616) = false by simp [c2], cnd_f, if_neg (by omega), if_pos (by omega)]; rfl)
end Go.Proofs.Ytnldgacamgjpnaa.AE

namespace Go.Proofs.Ytnldgacamgjpnaa.AE
set_option linter.unusedVariables false
set_option linter.unusedSimpArgs false
set_option linter.constructorNameAsVariable false
open Go
set_option maxRecDepth 100000
/-- apogee/apogeeref17.Time -/
theorem r12 (C : Cb) (d : Nat) (a0 a1 a2 : Int) : xcall C M unr d 12 [(iz a0), (iz a1), (iz a2)] =
 cnd (decide (a0 < 0))
 (some (iz 0))
 (C.agg 2 (pcall M d 25 [(iz (IntKind.wrap .i64 ((IntKind.wrap .i64 (a1 * a1)) + (IntKind.wrap .i64 ((IntKind.wrap .i64 (2 * a2)) * a0)))))]) fun l0 =>
 C.int .i64 l0[0]? fun x1 =>
 C.int .u64 l0[1]? fun x2 =>
 C.int .i64 (pcall M d 24 [(.agg [(iz x1), (.int .u64 x2)])]) fun x3 =>
 cnd (decide (a2 = 0))
 (none)
 (some (iz (IntKind.wrap .i64 (Int.tdiv (IntKind.wrap .i64 (a1 + x3)) a2))))) := by kernel_rfl
def r24R0 (C : Cb) (d : Nat) (a0 a1 : Int) : St → (Ex → St → Ans) → Ans := fun s0 k1 =>
 cnd ((List.length s0.env) == 25)
 (C.same s0.env[0]? (.agg [(iz a0), (.int .u64 a1)]) <|
 C.same s0.env[1]? (.ptr 0 0 0) <|
 C.same s0.env[2]? (iz 0) <|
 C.int .i64 s0.env[3]? fun x3 =>
 C.int .i64 s0.env[4]? fun x4 =>
 C.any s0.env[5]? fun v5 =>
 C.any s0.env[6]? fun v6 =>
 C.any s0.env[7]? fun v7 =>
 C.any s0.env[8]? fun v8 =>
 C.any s0.env[9]? fun v9 =>
 C.any s0.env[10]? fun v10 =>
 C.any s0.env[11]? fun v11 =>
 C.any s0.env[12]? fun v12 =>
 C.any s0.env[13]? fun v13 =>
 C.any s0.env[14]? fun v14 =>
 C.any s0.env[15]? fun v15 =>
 C.any s0.env[16]? fun v16 =>
 C.any s0.env[17]? fun v17 =>
 C.any s0.env[18]? fun v18 =>
 C.any s0.env[19]? fun v19 =>
 C.any s0.env[20]? fun v20 =>
 C.any s0.env[21]? fun v21 =>
 C.any s0.env[22]? fun v22 =>
 C.any s0.env[23]? fun v23 =>
 C.same s0.env[24]? tz <|
 C.sameH (St.H s0) [some ⟨E59, [(.agg [(iz a0), (.int .u64 a1)])]⟩] <|
 cnd (decide ((IntKind.wrap .i64 (x4 - x3)) > 1))
 (C.agg 2 (pcall M d 37 [(iz (IntKind.wrap .i64 (x3 + (IntKind.wrap .i64 (Int.tdiv (IntKind.wrap .i64 (x4 - x3)) 2))))), (iz (IntKind.wrap .i64 (x3 + (IntKind.wrap .i64 (Int.tdiv (IntKind.wrap .i64 (x4 - x3)) 2)))))]) fun l24 =>
 C.int .i64 l24[0]? fun x25 =>
 C.int .u64 l24[1]? fun x26 =>
 C.int .i64 (pcall M d 36 [(.agg [(iz x25), (.int .u64 x26)]), (.agg [(iz a0), (.int .u64 a1)])]) fun x27 =>
 cnd (decide (x27 ≤ 0))
 (k1 .normal ⟨[(.agg [(iz a0), (.int .u64 a1)]), (.ptr 0 0 0), (iz 0), (iz (IntKind.wrap .i64 (x3 + (IntKind.wrap .i64 (Int.tdiv (IntKind.wrap .i64 (x4 - x3)) 2))))), (iz x4), (iz (IntKind.wrap .i64 (x3 + (IntKind.wrap .i64 (Int.tdiv (IntKind.wrap .i64 (x4 - x3)) 2))))), (iz x4), (iz x3), (iz (IntKind.wrap .i64 (x4 - x3))), bt, (iz x3), (iz x4), (iz x3), (iz (IntKind.wrap .i64 (x4 - x3))), (iz (IntKind.wrap .i64 (Int.tdiv (IntKind.wrap .i64 (x4 - x3)) 2))), (iz (IntKind.wrap .i64 (x3 + (IntKind.wrap .i64 (Int.tdiv (IntKind.wrap .i64 (x4 - x3)) 2))))), (iz (IntKind.wrap .i64 (x3 + (IntKind.wrap .i64 (Int.tdiv (IntKind.wrap .i64 (x4 - x3)) 2))))), (iz (IntKind.wrap .i64 (x3 + (IntKind.wrap .i64 (Int.tdiv (IntKind.wrap .i64 (x4 - x3)) 2))))), (.agg [(iz x25), (.int .u64 x26)]), (.agg [(iz a0), (.int .u64 a1)]), (iz x27), bt, (iz (IntKind.wrap .i64 (x3 + (IntKind.wrap .i64 (Int.tdiv (IntKind.wrap .i64 (x4 - x3)) 2))))), v23, tz], [some ⟨E59, [(.agg [(iz a0), (.int .u64 a1)])]⟩]⟩)
 (k1 .normal ⟨[(.agg [(iz a0), (.int .u64 a1)]), (.ptr 0 0 0), (iz 0), (iz x3), (iz (IntKind.wrap .i64 (x3 + (IntKind.wrap .i64 (Int.tdiv (IntKind.wrap .i64 (x4 - x3)) 2))))), (iz (IntKind.wrap .i64 (x3 + (IntKind.wrap .i64 (Int.tdiv (IntKind.wrap .i64 (x4 - x3)) 2))))), (iz x4), (iz x3), (iz (IntKind.wrap .i64 (x4 - x3))), bt, (iz x3), (iz x4), (iz x3), (iz (IntKind.wrap .i64 (x4 - x3))), (iz (IntKind.wrap .i64 (Int.tdiv (IntKind.wrap .i64 (x4 - x3)) 2))), (iz (IntKind.wrap .i64 (x3 + (IntKind.wrap .i64 (Int.tdiv (IntKind.wrap .i64 (x4 - x3)) 2))))), (iz (IntKind.wrap .i64 (x3 + (IntKind.wrap .i64 (Int.tdiv (IntKind.wrap .i64 (x4 - x3)) 2))))), (iz (IntKind.wrap .i64 (x3 + (IntKind.wrap .i64 (Int.tdiv (IntKind.wrap .i64 (x4 - x3)) 2))))), (.agg [(iz x25), (.int .u64 x26)]), (.agg [(iz a0), (.int .u64 a1)]), (iz x27), bf, v22, (iz (IntKind.wrap .i64 (x3 + (IntKind.wrap .i64 (Int.tdiv (IntKind.wrap .i64 (x4 - x3)) 2))))), tz], [some ⟨E59, [(.agg [(iz a0), (.int .u64 a1)])]⟩]⟩))
 (k1 (.exit 0) ⟨[(.agg [(iz a0), (.int .u64 a1)]), (.ptr 0 0 0), (iz 0), (iz x3), (iz x4), v5, (iz x4), (iz x3), (iz (IntKind.wrap .i64 (x4 - x3))), bf, v10, v11, v12, v13, v14, v15, v16, v17, v18, v19, v20, v21, v22, v23, tz], [some ⟨E59, [(.agg [(iz a0), (.int .u64 a1)])]⟩]⟩))
 (none)
def r24X0_0 (C : Cb) (d : Nat) (a0 a1 : Int) : St → Ans := fun s28 =>
 cnd ((List.length s28.env) == 25)
 (C.same s28.env[0]? (.agg [(iz a0), (.int .u64 a1)]) <|
 C.same s28.env[1]? (.ptr 0 0 0) <|
 C.same s28.env[2]? (iz 0) <|
 C.int .i64 s28.env[3]? fun x29 =>
 C.int .i64 s28.env[4]? fun x30 =>
 C.any s28.env[5]? fun v31 =>
 C.int .i64 s28.env[6]? fun x32 =>
 C.int .i64 s28.env[7]? fun x33 =>
 C.int .i64 s28.env[8]? fun x34 =>
 C.bool s28.env[9]? fun b35 =>
 C.any s28.env[10]? fun v36 =>
 C.any s28.env[11]? fun v37 =>
 C.any s28.env[12]? fun v38 =>
 C.any s28.env[13]? fun v39 =>
 C.any s28.env[14]? fun v40 =>
 C.any s28.env[15]? fun v41 =>
 C.any s28.env[16]? fun v42 =>
 C.any s28.env[17]? fun v43 =>
 C.any s28.env[18]? fun v44 =>
 C.any s28.env[19]? fun v45 =>
 C.any s28.env[20]? fun v46 =>
 C.any s28.env[21]? fun v47 =>
 C.any s28.env[22]? fun v48 =>
 C.any s28.env[23]? fun v49 =>
 C.same s28.env[24]? tz <|
 C.sameH (St.H s28) [some ⟨E59, [(.agg [(iz a0), (.int .u64 a1)])]⟩] <|
 some (iz x29))
 (none)
def r24E0 (C : Cb) (d : Nat) (a0 a1 : Int) : St → Ans := fun s2 =>
 cnd ((List.length s2.env) == 25)
 (C.same s2.env[0]? (.agg [(iz a0), (.int .u64 a1)]) <|
 C.same s2.env[1]? (.ptr 0 0 0) <|
 C.same s2.env[2]? (iz 0) <|
 C.int .i64 s2.env[3]? fun x50 =>
 C.int .i64 s2.env[4]? fun x51 =>
 C.any s2.env[5]? fun v52 =>
 C.any s2.env[6]? fun v53 =>
 C.any s2.env[7]? fun v54 =>
 C.any s2.env[8]? fun v55 =>
 C.any s2.env[9]? fun v56 =>
 C.any s2.env[10]? fun v57 =>
 C.any s2.env[11]? fun v58 =>
 C.any s2.env[12]? fun v59 =>
 C.any s2.env[13]? fun v60 =>
 C.any s2.env[14]? fun v61 =>
 C.any s2.env[15]? fun v62 =>
 C.any s2.env[16]? fun v63 =>
 C.any s2.env[17]? fun v64 =>
 C.any s2.env[18]? fun v65 =>
 C.any s2.env[19]? fun v66 =>
 C.any s2.env[20]? fun v67 =>
 C.any s2.env[21]? fun v68 =>
 C.any s2.env[22]? fun v69 =>
 C.any s2.env[23]? fun v70 =>
 C.same s2.env[24]? tz <|
 C.sameH (St.H s2) [some ⟨E59, [(.agg [(iz a0), (.int .u64 a1)])]⟩] <|
 some (iz 0))
 (none)
/-- apogee/apogeeref02.Root -/
theorem r24 (C : Cb) (d : Nat) (a0 a1 : Int) : xcall C M unr d 24 [(.agg [(iz a0), (.int .u64 a1)])] =
 C.iter (r24R0 C d a0 a1) 1000000000000000000 ⟨[(.agg [(iz a0), (.int .u64 a1)]), (.ptr 0 0 0), (iz 0), (iz 0), (iz 4611686018427387904), tz, tz, tz, tz, tz, tz, tz, tz, tz, tz, tz, tz, tz, tz, tz, tz, tz, tz, tz, tz], [some ⟨E59, [(.agg [(iz a0), (.int .u64 a1)])]⟩]⟩ [0] [r24X0_0 C d a0 a1] (r24E0 C d a0 a1) := by kernel_rfl
end Go.Proofs.Ytnldgacamgjpnaa.AE

namespace Go.Proofs.Ytnldgacamgjpnaa.AE
set_option linter.unusedVariables false
set_option linter.unusedSimpArgs false
set_option linter.constructorNameAsVariable false
open Go
set_option maxRecDepth 100000
set_option maxHeartbeats 0
noncomputable def X24_0_0 (d : Nat) (a0 a1 x29 : Int) : Ans :=
  some (iz x29)
theorem X24_0_0_ok (d : Nat) (a0 a1 x29 x30 : Int) (v31 : AV) (x32 x33 x34 : Int) (b35 : Bool) (v36 v37 v38 v39 v40 v41 v42 v43 v44 v45 v46 v47 v48 v49 : AV) : r24X0_0 C0 d a0 a1 ⟨[(.agg [(iz a0), (.int .u64 a1)]), (.ptr 0 0 0), (iz 0), (iz x29), (iz x30), v31, (iz x32), (iz x33), (iz x34), (.bool b35), v36, v37, v38, v39, v40, v41, v42, v43, v44, v45, v46, v47, v48, v49, tz], [some ⟨E59, [(.agg [(iz a0), (.int .u64 a1)])]⟩]⟩ = X24_0_0 d a0 a1 x29 := by
  unfold r24X0_0; refine Eq.trans (pl_len (by rfl)) ?_; (iterate 3 (refine yt yS ?_)); (iterate 2 (refine yt yI ?_)); refine yt yA ?_; (iterate 3 (refine yt yI ?_)); refine yt yB ?_; (iterate 14 (refine yt yA ?_)); refine yt yS ?_; refine Eq.trans (pl_sameH) ?_
  rfl
noncomputable def E24_0 (d : Nat) (a0 a1 : Int)  : Ans :=
  some (iz 0)
theorem E24_0_ok (d : Nat) (a0 a1 x50 x51 : Int) (v52 v53 v54 v55 v56 v57 v58 v59 v60 v61 v62 v63 v64 v65 v66 v67 v68 v69 v70 : AV) : r24E0 C0 d a0 a1 ⟨[(.agg [(iz a0), (.int .u64 a1)]), (.ptr 0 0 0), (iz 0), (iz x50), (iz x51), v52, v53, v54, v55, v56, v57, v58, v59, v60, v61, v62, v63, v64, v65, v66, v67, v68, v69, v70, tz], [some ⟨E59, [(.agg [(iz a0), (.int .u64 a1)])]⟩]⟩ = E24_0 d a0 a1  := by
  unfold r24E0; refine Eq.trans (pl_len (by rfl)) ?_; (iterate 3 (refine yt yS ?_)); (iterate 2 (refine yt yI ?_)); (iterate 19 (refine yt yA ?_)); refine yt yS ?_; refine Eq.trans (pl_sameH) ?_
  rfl
noncomputable def L24_0 (d : Nat) (a0 a1 : Int) : Nat → Int → Int → Ans
  | 0, _, _ => none
  | n + 1, x3, x4 =>
  cnd (decide ((IntKind.wrap .i64 (x4 - x3)) > 1))
   (C0.agg 2 (pcall M d 37 [(iz (IntKind.wrap .i64 (x3 + (IntKind.wrap .i64 (Int.tdiv (IntKind.wrap .i64 (x4 - x3)) 2))))), (iz (IntKind.wrap .i64 (x3 + (IntKind.wrap .i64 (Int.tdiv (IntKind.wrap .i64 (x4 - x3)) 2)))))]) fun l24 =>
   C0.int .i64 l24[0]? fun x25 =>
   C0.int .u64 l24[1]? fun x26 =>
   C0.int .i64 (pcall M d 36 [(.agg [(iz x25), (.int .u64 x26)]), (.agg [(iz a0), (.int .u64 a1)])]) fun x27 =>
   cnd (decide (x27 ≤ 0))
   (L24_0 d a0 a1 n (IntKind.wrap .i64 (x3 + (IntKind.wrap .i64 (Int.tdiv (IntKind.wrap .i64 (x4 - x3)) 2)))) x4)
   (L24_0 d a0 a1 n x3 (IntKind.wrap .i64 (x3 + (IntKind.wrap .i64 (Int.tdiv (IntKind.wrap .i64 (x4 - x3)) 2))))))
   (X24_0_0 d a0 a1 x3)
theorem it24_0 (d : Nat) (a0 a1 : Int)   : ∀ (n : Nat) (x3 x4 : Int) (v5 v6 v7 v8 v9 v10 v11 v12 v13 v14 v15 v16 v17 v18 v19 v20 v21 v22 v23 : AV), C0.iter (r24R0 C0 d a0 a1) n ⟨[(.agg [(iz a0), (.int .u64 a1)]), (.ptr 0 0 0), (iz 0), (iz x3), (iz x4), v5, v6, v7, v8, v9, v10, v11, v12, v13, v14, v15, v16, v17, v18, v19, v20, v21, v22, v23, tz], [some ⟨E59, [(.agg [(iz a0), (.int .u64 a1)])]⟩]⟩ [0] [r24X0_0 C0 d a0 a1] (r24E0 C0 d a0 a1) = L24_0 d a0 a1 n x3 x4 := by
  generalize hR : r24R0 C0 d a0 a1 = R
  intro n
  induction n with
  | zero => intros; rfl
  | succ n ih =>
    intro x3 x4 v5 v6 v7 v8 v9 v10 v11 v12 v13 v14 v15 v16 v17 v18 v19 v20 v21 v22 v23
    simp only [it_ret] at ih
    rw [it_ret, xiter_s]
    refine Eq.trans (congrFun (congrFun hR.symm _) _) ?_
    unfold r24R0
    refine Eq.trans (pl_len (by rfl)) ?_; (iterate 3 (refine yt yS ?_)); (iterate 2 (refine yt yI ?_)); (iterate 19 (refine yt yA ?_)); refine yt yS ?_; refine Eq.trans (pl_sameH) ?_
    simp only [L24_0, kIter_n, kIter_x, kIter_r, kOut_x, kOut_r, xgo_hit, xgo_miss, ih, X24_0_0_ok d a0 a1  , E24_0_ok d a0 a1  ]
/-- apogee/apogeeref02.Root -/
theorem q24 (d : Nat) (a0 a1 : Int) : xcall C0 M unr d 24 [(.agg [(iz a0), (.int .u64 a1)])] =
  L24_0 d a0 a1 1000000000000000000 0 4611686018427387904 := (r24 C0 d a0 a1).trans (by simp only [it24_0])
end Go.Proofs.Ytnldgacamgjpnaa.AE

namespace Go.Proofs.Ytnldgacamgjpnaa.AE
set_option linter.unusedVariables false
set_option linter.unusedSimpArgs false
set_option linter.constructorNameAsVariable false
open Go
attribute [local irreducible] pcall C0
/-- The document's root, by halving. -/
theorem rroot0 (d : Nat) (n : Int) (h0 : 0 ≤ n) (h1 : n < 9223372036854775808) : ∀ (j f : Nat) (lo hi : Int), j < f → hi - lo = 2 ^ j → 0 ≤ lo → hi ≤ 4611686018427387904 → lo * lo ≤ n → n < hi * hi →
    ∃ r, L24_0 (d + 4) (hiw n) (low n) f lo hi = some (.int .i64 r) ∧ IsRoot n r := by
  intro j
  induction j with
  | zero =>
    intro f lo hi hf hj l0 l1 a b
    obtain ⟨f, rfl⟩ : ∃ g, f = g + 1 := ⟨f - 1, by omega⟩
    have hj : hi - lo = 1 := by simpa using hj
    refine ⟨lo, ?_, l0, root_top h1 l0 a, a, by rw [show lo + 1 = hi by omega]; exact b⟩
    rw [L24_0, decide_eq_false (by rw [i64w]; omega), cnd_f]; rfl
  | succ j ih =>
    intro f lo hi hf hj l0 l1 a b
    obtain ⟨f, rfl⟩ : ∃ g, f = g + 1 := ⟨f - 1, by omega⟩
    have p0 : (0 : Int) < 2 ^ j := Int.pow_pos (by decide)
    have e2 : (2 : Int) ^ (j + 1) = 2 ^ j + 2 ^ j := by rw [Int.pow_succ]; omega
    have em : IntKind.wrap .i64 (lo + IntKind.wrap .i64 (Int.tdiv (IntKind.wrap .i64 (hi - lo)) 2)) = lo + 2 ^ j := by
      rw [i64_small (n := hi - lo) (by omega) (by omega), hj, Int.tdiv_eq_ediv_of_nonneg (by omega), show ((2 : Int) ^ (j + 1)) / 2 = 2 ^ j by omega, i64_small (n := 2 ^ j) (by omega) (by omega), i64_small (by omega) (by omega)]
    rw [L24_0, em, decide_eq_true (by rw [i64_small (by omega) (by omega)]; omega), cnd_t]
    have mb := mul_bd63 (lo + 2 ^ j) (lo + 2 ^ j) (by omega) (by omega) (by omega) (by omega)
    have mul := s37 d (lo + 2 ^ j) (lo + 2 ^ j) (by omega) (by omega) (by omega) (by omega)
    have cp := s36 (d + 3) ((lo + 2 ^ j) * (lo + 2 ^ j)) n (by omega) (by omega) (by omega) (by omega)
    by_cases c : (lo + 2 ^ j) * (lo + 2 ^ j) ≤ n
    · obtain ⟨r, q1, q2⟩ := ih f (lo + 2 ^ j) hi (by omega) (by omega) (by omega) l1 c b
      refine ⟨r, ?_, q2⟩
      refine Eq.trans (pl_agg mul (by rfl)) ?_
      repeat with_reducible first | refine tt sh_ptr ?_ | refine tt sh_fptr ?_ | refine tt w2 ?_ | refine tt w3 ?_ | refine tt w8 ?_ | refine tt w9 ?_ | refine tt wf ?_ | refine tt wg ?_ | refine tt wh ?_ | refine tt wi ?_ | refine tt wj ?_ | refine tt wk ?_ | refine tt wl ?_ | refine tt wn ?_ | refine tt c_ort ?_ | refine tt c_nt ?_ | refine tt c_nf ?_ | refine tt (cnd_t _ _) ?_ | refine tt (cnd_f _ _) ?_ | refine tt w6 ?_ | refine tt w4 ?_ | refine tt w5 ?_ | refine tt w7 ?_ | refine tt wm ?_ | refine tt wo ?_ | refine tt wx ?_ | refine tt nil_ptr ?_ | refine tt len_lst ?_ | refine tt len_zsl ?_
      refine Eq.trans (pl_int cp) ?_
      rw [decide_eq_true (show cmp ((lo + 2 ^ j) * (lo + 2 ^ j)) n ≤ 0 by unfold cmp; split <;> (try split) <;> omega), cnd_t]; exact q1
    · obtain ⟨r, q1, q2⟩ := ih f lo (lo + 2 ^ j) (by omega) (by omega) l0 (by omega) a (by omega)
      refine ⟨r, ?_, q2⟩
      refine Eq.trans (pl_agg mul (by rfl)) ?_
      repeat with_reducible first | refine tt sh_ptr ?_ | refine tt sh_fptr ?_ | refine tt w2 ?_ | refine tt w3 ?_ | refine tt w8 ?_ | refine tt w9 ?_ | refine tt wf ?_ | refine tt wg ?_ | refine tt wh ?_ | refine tt wi ?_ | refine tt wj ?_ | refine tt wk ?_ | refine tt wl ?_ | refine tt wn ?_ | refine tt c_ort ?_ | refine tt c_nt ?_ | refine tt c_nf ?_ | refine tt (cnd_t _ _) ?_ | refine tt (cnd_f _ _) ?_ | refine tt w6 ?_ | refine tt w4 ?_ | refine tt w5 ?_ | refine tt w7 ?_ | refine tt wm ?_ | refine tt wo ?_ | refine tt wx ?_ | refine tt nil_ptr ?_ | refine tt len_lst ?_ | refine tt len_zsl ?_
      refine Eq.trans (pl_int cp) ?_
      rw [decide_eq_false (show ¬ cmp ((lo + 2 ^ j) * (lo + 2 ^ j)) n ≤ 0 by unfold cmp; split <;> (try split) <;> omega), cnd_f]; exact q1
theorem rroot (d : Nat) (n : Int) (h0 : 0 ≤ n) (h1 : n < 9223372036854775808) : ∃ r, pcall M (d + 5) 24 [wd n] = some (.int .i64 r) ∧ IsRoot n r := by
  obtain ⟨r, q1, q2⟩ := rroot0 d n h0 h1 62 1000000000000000000 0 4611686018427387904 (by omega) (by decide) (by omega) (by omega) (by omega) (by omega)
  exact ⟨r, told (q24 (d + 4) _ _) q1, q2⟩
end Go.Proofs.Ytnldgacamgjpnaa.AE

namespace Go.Proofs.Ytnldgacamgjpnaa.Geo
/-- A cycle later: the time is one less. -/
theorem A_next (z v g h s : Int) (hg : g = 2 * h) : A (z + v - h) (v - g) g s = A z v g (s + 1) := by subst hg; unfold A; grind
theorem falls_next {z v g h t t' : Int} (hg : g = 2 * h) (hz : 0 ≤ z) (hm : 0 ≤ z + v - h) (f : Falls z v g t) (f' : Falls (z + v - h) (v - g) g t') : t = t' + 1 := by
  have a := f.2.2.2 hz
  have b := f'.2.2.2 hm
  have t0 := f.1
  have t1 := f'.1
  have c1 := (b t' t1).2 (Int.le_refl _)
  rw [A_next z v g h t' hg] at c1
  have c2 := (a (t' + 1) (by omega)).1 c1
  have c3 := (a t t0).2 (Int.le_refl _)
  have c4 : t - 1 ≤ t' := by
    by_cases h0 : t = 0
    · omega
    · refine (b (t - 1) (by omega)).1 ?_
      rw [A_next z v g h (t - 1) hg, show t - 1 + 1 = t by omega]; exact c3
  omega
end Go.Proofs.Ytnldgacamgjpnaa.Geo

namespace Go.Proofs.Ytnldgacamgjpnaa.AE
set_option linter.unusedVariables false
set_option linter.unusedSimpArgs false
set_option linter.constructorNameAsVariable false
open Go Go.Proofs.Ytnldgacamgjpnaa.Geo
attribute [local irreducible] pcall C0
theorem rtime (d : Nat) (z v g : Int) (hs : Small z v g) : ∃ t, pcall M (d + 6) 12 [.int .i64 z, .int .i64 v, .int .i64 g] = some (.int .i64 t) ∧ Falls z v g t := by
  by_cases hz : z < 0
  · exact ⟨0, told (r12 C0 (d + 5) _ _ _) (by rw [decide_eq_true hz]; rfl), falls_neg hz⟩
  · have bd := rad_bd hs (by omega)
    obtain ⟨r, e, r0, r1, r2, r3⟩ := rroot d (v * v + 2 * g * z) (by omega) (by omega)
    obtain ⟨f1, f2, f3⟩ := falls_of_root hs (by omega) r0 r2 r3
    have hs' := hs
    unfold Small at hs'
    refine ⟨(v + r) / g, told (r12 C0 (d + 5) _ _ _) ?_, f1⟩
    rw [decide_eq_false hz, cnd_f, rad_code hs (by omega)]
    refine Eq.trans (pl_agg (s25 (d + 4) _ (by omega) (by omega)) (by rfl)) ?_
    repeat with_reducible first | refine tt sh_ptr ?_ | refine tt sh_fptr ?_ | refine tt w2 ?_ | refine tt w3 ?_ | refine tt w8 ?_ | refine tt w9 ?_ | refine tt wf ?_ | refine tt wg ?_ | refine tt wh ?_ | refine tt wi ?_ | refine tt wj ?_ | refine tt wk ?_ | refine tt wl ?_ | refine tt wn ?_ | refine tt c_ort ?_ | refine tt c_nt ?_ | refine tt c_nf ?_ | refine tt (cnd_t _ _) ?_ | refine tt (cnd_f _ _) ?_ | refine tt w6 ?_ | refine tt w4 ?_ | refine tt w5 ?_ | refine tt w7 ?_ | refine tt wm ?_ | refine tt wo ?_ | refine tt wx ?_ | refine tt nil_ptr ?_ | refine tt len_lst ?_ | refine tt len_zsl ?_
    refine Eq.trans (pl_int e) ?_
    rw [decide_eq_false (by omega), cnd_f, quo_code (by omega) f2 (by omega)]
end Go.Proofs.Ytnldgacamgjpnaa.AE

namespace Go.Proofs.Ytnldgacamgjpnaa.AE
set_option linter.unusedVariables false
set_option linter.unusedSimpArgs false
set_option linter.constructorNameAsVariable false
open Go
set_option maxRecDepth 100000
/-- apogee/apogeeref18.Way -/
theorem r15 (C : Cb) (d : Nat) (a0 a1 a2 a3 a4 a5 a6 a7 a8 : Int) : xcall C M unr d 15 [(.agg [(iz a0), (iz a1), (iz a2), (iz a3), (iz a4), (iz a5), (iz a6), (iz a7)]), (iz a8)] =
 some (.agg [(iz (IntKind.wrap .i64 (a2 + (IntKind.wrap .i64 (a5 * a8))))), (iz (IntKind.wrap .i64 (a3 + (IntKind.wrap .i64 (a6 * a8)))))]) := by kernel_rfl
end Go.Proofs.Ytnldgacamgjpnaa.AE

namespace Go.Proofs.Ytnldgacamgjpnaa.AE
set_option linter.unusedVariables false
set_option linter.unusedSimpArgs false
set_option linter.constructorNameAsVariable false
open Go Go.Proofs.Ytnldgacamgjpnaa.Geo
attribute [local irreducible] pcall C0
theorem s15 (d : Nat) (n : Nav) (t : Int) (hn : MayN n) (h0 : 0 ≤ t) (h1 : t ≤ 16777220) : pcall M (d + 1) 15 [nv n, .int .i64 t] = some (pt (wayN n t)) := told (r15 C0 d _ _ _ _ _ _ _ _ _) (by
  obtain ⟨e1, e2⟩ := way_code hn h0 h1
  rw [e1, e2]; rfl)
end Go.Proofs.Ytnldgacamgjpnaa.AE

namespace Go.Proofs.Ytnldgacamgjpnaa.AE
set_option linter.unusedVariables false
set_option linter.unusedSimpArgs false
set_option linter.constructorNameAsVariable false
open Go
set_option maxRecDepth 100000
/-- apogee/apogeelaw18.ImpactGoes -/
theorem r6 (C : Cb) (d : Nat) (a0 a1 a2 a3 a4 a5 a6 a7 a8 : Int) : xcall C M unr d 6 [(.agg [(iz a0), (iz a1), (iz a2), (iz a3), (iz a4), (iz a5), (iz a6), (iz a7)]), (iz a8)] =
 C.agg 8 (pcall M d 8 [(.agg [(iz a0), (iz a1), (iz a2), (iz a3), (iz a4), (iz a5), (iz a6), (iz a7)])]) fun l0 =>
 C.int .i64 l0[0]? fun x1 =>
 C.int .i64 l0[1]? fun x2 =>
 C.int .i64 l0[2]? fun x3 =>
 C.int .i64 l0[3]? fun x4 =>
 C.int .i64 l0[4]? fun x5 =>
 C.int .i64 l0[5]? fun x6 =>
 C.int .i64 l0[6]? fun x7 =>
 C.int .i64 l0[7]? fun x8 =>
 C.tup 2 (pcall M d 9 [(.agg [(iz x1), (iz x2), (iz x3), (iz x4), (iz x5), (iz x6), (iz x7), (iz x8)]), (iz (IntKind.wrap .i64 ((IntKind.wrap .i64 (1 + (IntKind.wrap .i64 (Int.tmod (IntKind.wrap .u64 a8) 50)))) * 2))), (iz 0)]) fun l9 =>
 C.agg 4 l9[0]? fun l10 =>
 C.int .i64 l10[0]? fun x11 =>
 C.int .i64 l10[1]? fun x12 =>
 C.int .i64 l10[2]? fun x13 =>
 C.int .i64 l10[3]? fun x14 =>
 C.bool l9[1]? fun b15 =>
 C.bool (pcall M d 10 []) fun b16 =>
 cnd (!b16)
 (some bf)
 (cnd (!b15)
 (some bf)
 (cnd (decide ((IntKind.wrap .i64 ((IntKind.wrap .i64 (x5 + x8)) - (IntKind.wrap .i64 (Int.tdiv (IntKind.wrap .i64 ((IntKind.wrap .i64 (1 + (IntKind.wrap .i64 (Int.tmod (IntKind.wrap .u64 a8) 50)))) * 2)) 2)))) < 0))
 (some bt)
 (C.tup 2 (pcall M d 9 [(.agg [(iz x1), (iz x2), (iz (IntKind.wrap .i64 (x3 + x6))), (iz (IntKind.wrap .i64 (x4 + x7))), (iz (IntKind.wrap .i64 ((IntKind.wrap .i64 (x5 + x8)) - (IntKind.wrap .i64 (Int.tdiv (IntKind.wrap .i64 ((IntKind.wrap .i64 (1 + (IntKind.wrap .i64 (Int.tmod (IntKind.wrap .u64 a8) 50)))) * 2)) 2))))), (iz x6), (iz x7), (iz (IntKind.wrap .i64 (x8 - (IntKind.wrap .i64 ((IntKind.wrap .i64 (1 + (IntKind.wrap .i64 (Int.tmod (IntKind.wrap .u64 a8) 50)))) * 2)))))]), (iz (IntKind.wrap .i64 ((IntKind.wrap .i64 (1 + (IntKind.wrap .i64 (Int.tmod (IntKind.wrap .u64 a8) 50)))) * 2))), (iz 0)]) fun l17 =>
 C.agg 4 l17[0]? fun l18 =>
 C.int .i64 l18[0]? fun x19 =>
 C.int .i64 l18[1]? fun x20 =>
 C.int .i64 l18[2]? fun x21 =>
 C.int .i64 l18[3]? fun x22 =>
 C.bool l17[1]? fun b23 =>
 cnd (!b23)
 (some bf)
 (C.int .i64 (pcall M d 12 [(iz (IntKind.wrap .i64 ((IntKind.wrap .i64 (x5 + x8)) - (IntKind.wrap .i64 (Int.tdiv (IntKind.wrap .i64 ((IntKind.wrap .i64 (1 + (IntKind.wrap .i64 (Int.tmod (IntKind.wrap .u64 a8) 50)))) * 2)) 2))))), (iz (IntKind.wrap .i64 (x8 - (IntKind.wrap .i64 ((IntKind.wrap .i64 (1 + (IntKind.wrap .i64 (Int.tmod (IntKind.wrap .u64 a8) 50)))) * 2))))), (iz (IntKind.wrap .i64 ((IntKind.wrap .i64 (1 + (IntKind.wrap .i64 (Int.tmod (IntKind.wrap .u64 a8) 50)))) * 2)))]) fun x24 =>
 C.int .i64 (pcall M d 12 [(iz x5), (iz x8), (iz (IntKind.wrap .i64 ((IntKind.wrap .i64 (1 + (IntKind.wrap .i64 (Int.tmod (IntKind.wrap .u64 a8) 50)))) * 2)))]) fun x25 =>
 cnd ((IntKind.wrap .i64 (x24 + 1)) == x25)
 (some (.bool (xor false ((x19 == x11) && ((x20 == x12) && ((x21 == x13) && ((x22 == x14) && true)))))))
 (some bf))))) := by kernel_rfl
end Go.Proofs.Ytnldgacamgjpnaa.AE

namespace Go.Proofs.Ytnldgacamgjpnaa.AE
set_option linter.unusedVariables false
set_option linter.unusedSimpArgs false
set_option linter.constructorNameAsVariable false
open Go Go.Proofs.Ytnldgacamgjpnaa.Geo
attribute [local irreducible] pcall C0
set_option maxRecDepth 100000
theorem eq4 {a b c d a' b' c' d' : Int} (h1 : a = a') (h2 : b = b') (h3 : c = c') (h4 : d = d') : (xor false ((a == a') && ((b == b') && ((c == c') && ((d == d') && true))))) = true := by
  subst h1 h2 h3 h4; simp
theorem go_side {x v lo hi : Int} : loS (x + v) v 0 lo hi = loS x v 0 (lo + 1) (hi + 1) ∧ hiS (x + v) v 0 lo hi = hiS x v 0 (lo + 1) (hi + 1) := by
  unfold loS hiS
  simp only [Int.sub_zero, Int.add_zero, Int.mul_add, Int.mul_one]
  omega
theorem goes_core (n : Nav) (g : Int) : pcall M 41 6 [nv n, .int .i64 g] = some (.bool true) := told (r6 C0 40 _ _ _ _ _ _ _ _ _) (by
  obtain ⟨n, q, hn⟩ := heldI 39 n
  refine Eq.trans (pl_agg q (by rfl)) ?_
  repeat with_reducible first | refine tt sh_ptr ?_ | refine tt sh_fptr ?_ | refine tt w2 ?_ | refine tt w3 ?_ | refine tt w8 ?_ | refine tt w9 ?_ | refine tt wf ?_ | refine tt wg ?_ | refine tt wh ?_ | refine tt wi ?_ | refine tt wj ?_ | refine tt wk ?_ | refine tt wl ?_ | refine tt wn ?_ | refine tt c_ort ?_ | refine tt c_nt ?_ | refine tt c_nf ?_ | refine tt (cnd_t _ _) ?_ | refine tt (cnd_f _ _) ?_ | refine tt w6 ?_ | refine tt w4 ?_ | refine tt w5 ?_ | refine tt w7 ?_ | refine tt wm ?_ | refine tt wo ?_ | refine tt wx ?_ | refine tt nil_ptr ?_ | refine tt len_lst ?_ | refine tt len_zsl ?_
  obtain ⟨h, eg, h0, h1⟩ := grav_bd g 50 (by omega) (by omega)
  have hn' := hn
  unfold HeldN at hn'
  rw [eg, i64_small (n := h * 2) (by omega) (by omega), show Int.tdiv (h * 2) 2 = h from Int.mul_tdiv_cancel h (by omega), i64_small (n := h) (by omega) (by omega), i64_small (n := n.z + n.vz) (by omega) (by omega), i64_small (n := n.z + n.vz - h) (by omega) (by omega), i64_small (n := n.x + n.vx) (by omega) (by omega), i64_small (n := n.y + n.vy) (by omega) (by omega), i64_small (n := n.vz - h * 2) (by omega) (by omega)]
  have hb := held_mayB (g := h * 2) (e := 0) hn (by omega) (by omega) (by omega) (by omega)
  obtain ⟨lo, hi, q1, f1, f2⟩ := boxI 32 n (h * 2) 0 hb
  have r1 := box_right hb f1 f2
  rw [r1] at q1
  refine Eq.trans (pl_tup q1 (by rfl)) ?_
  repeat with_reducible first | refine tt sh_ptr ?_ | refine tt sh_fptr ?_ | refine tt w2 ?_ | refine tt w3 ?_ | refine tt w8 ?_ | refine tt w9 ?_ | refine tt wf ?_ | refine tt wg ?_ | refine tt wh ?_ | refine tt wi ?_ | refine tt wj ?_ | refine tt wk ?_ | refine tt wl ?_ | refine tt wn ?_ | refine tt c_ort ?_ | refine tt c_nt ?_ | refine tt c_nf ?_ | refine tt (cnd_t _ _) ?_ | refine tt (cnd_f _ _) ?_ | refine tt w6 ?_ | refine tt w4 ?_ | refine tt w5 ?_ | refine tt w7 ?_ | refine tt wm ?_ | refine tt wo ?_ | refine tt wx ?_ | refine tt nil_ptr ?_ | refine tt len_lst ?_ | refine tt len_zsl ?_
  refine Eq.trans (pl_bool awake) ?_
  repeat with_reducible first | refine tt sh_ptr ?_ | refine tt sh_fptr ?_ | refine tt w2 ?_ | refine tt w3 ?_ | refine tt w8 ?_ | refine tt w9 ?_ | refine tt wf ?_ | refine tt wg ?_ | refine tt wh ?_ | refine tt wi ?_ | refine tt wj ?_ | refine tt wk ?_ | refine tt wl ?_ | refine tt wn ?_ | refine tt c_ort ?_ | refine tt c_nt ?_ | refine tt c_nf ?_ | refine tt (cnd_t _ _) ?_ | refine tt (cnd_f _ _) ?_ | refine tt w6 ?_ | refine tt w4 ?_ | refine tt w5 ?_ | refine tt w7 ?_ | refine tt wm ?_ | refine tt wo ?_ | refine tt wx ?_ | refine tt nil_ptr ?_ | refine tt len_lst ?_ | refine tt len_zsl ?_
  by_cases hz : n.z + n.vz - h < 0
  · rw [decide_eq_true hz, cnd_t]
  rw [decide_eq_false hz, cnd_f]
  have hm : MayB ⟨n.c, n.fl, n.x + n.vx, n.y + n.vy, n.z + n.vz - h, n.vx, n.vy, n.vz - h * 2⟩ (h * 2) 0 := ⟨by unfold May; simp only; omega, by omega, by unfold MayN; simp only; omega⟩
  obtain ⟨lo', hi', q2, f3, f4⟩ := boxI 32 _ (h * 2) 0 hm
  have r2 := box_right hm f3 f4
  rw [r2] at q2
  refine Eq.trans (pl_tup q2 (by rfl)) ?_
  repeat with_reducible first | refine tt sh_ptr ?_ | refine tt sh_fptr ?_ | refine tt w2 ?_ | refine tt w3 ?_ | refine tt w8 ?_ | refine tt w9 ?_ | refine tt wf ?_ | refine tt wg ?_ | refine tt wh ?_ | refine tt wi ?_ | refine tt wj ?_ | refine tt wk ?_ | refine tt wl ?_ | refine tt wn ?_ | refine tt c_ort ?_ | refine tt c_nt ?_ | refine tt c_nf ?_ | refine tt (cnd_t _ _) ?_ | refine tt (cnd_f _ _) ?_ | refine tt w6 ?_ | refine tt w4 ?_ | refine tt w5 ?_ | refine tt w7 ?_ | refine tt wm ?_ | refine tt wo ?_ | refine tt wx ?_ | refine tt nil_ptr ?_ | refine tt len_lst ?_ | refine tt len_zsl ?_
  obtain ⟨t, q3, f5⟩ := rtime 34 (n.z + n.vz - h) (n.vz - h * 2) (h * 2) (may_small hm.1)
  obtain ⟨s, q4, f6⟩ := rtime 34 n.z n.vz (h * 2) (may_small hb.1)
  refine Eq.trans (pl_int q3) ?_
  refine Eq.trans (pl_int q4) ?_
  simp only [Int.sub_zero, Int.add_zero] at f1 f2 f3 f4
  have k := falls_next (by omega) (by omega) (by omega) f6 f5
  have l1 := falls_one f1 f6; have l2 := falls_one f2 f6; have l3 := falls_one f3 f5; have l4 := falls_one f4 f5
  subst l1 l2 l3 l4 k
  have t0 := f5.1; have t1 := f5.2.1
  rw [i64_small (n := hi' + 1) (by omega) (by omega), show ((hi' + 1 == hi' + 1) = true) from beq_self_eq_true _, cnd_t]
  have e : boxN ⟨n.c, n.fl, n.x + n.vx, n.y + n.vy, n.z + n.vz - h, n.vx, n.vy, n.vz - h * 2⟩ 0 hi' (hi' + 2) = boxN n 0 (hi' + 1) (hi' + 1 + 2) := by
    unfold boxN; simp only [go_side.1, go_side.2]; rw [show hi' + 2 + 1 = hi' + 1 + 2 by omega]
  rw [e, eq4 rfl rfl rfl rfl])
theorem law_ImpactGoes (a0_0 : Int) (a0_1 : Int) (a0_2 : Int) (a0_3 : Int) (a0_4 : Int) (a0_5 : Int) (a0_6 : Int) (a0_7 : Int) (a1 : Int) (w0_0 : (Lit.int .i64 a0_0).wf = true) (w0_1 : (Lit.int .i64 a0_1).wf = true) (w0_2 : (Lit.int .i64 a0_2).wf = true) (w0_3 : (Lit.int .i64 a0_3).wf = true) (w0_4 : (Lit.int .i64 a0_4).wf = true) (w0_5 : (Lit.int .i64 a0_5).wf = true) (w0_6 : (Lit.int .i64 a0_6).wf = true) (w0_7 : (Lit.int .i64 a0_7).wf = true) (w1 : (Lit.int .i64 a1).wf = true) :
    pcall M 41 6 [.agg [.int .i64 a0_0, .int .i64 a0_1, .int .i64 a0_2, .int .i64 a0_3, .int .i64 a0_4, .int .i64 a0_5, .int .i64 a0_6, .int .i64 a0_7], .int .i64 a1] = some (.bool true) := goes_core ⟨a0_0, a0_1, a0_2, a0_3, a0_4, a0_5, a0_6, a0_7⟩ a1
end Go.Proofs.Ytnldgacamgjpnaa.AE
