/- The texts that the law BoxStays needs, part 0. No conditions. -/
import Derived.Test.YtjblhppbjebagaaMc3
namespace Go.Proofs.Ytjblhppbjebagaa.AE
set_option linter.unusedVariables false
set_option linter.unusedSimpArgs false
set_option linter.constructorNameAsVariable false
open Go
set_option maxRecDepth 100000
/-- apogee/apogeelaw12.BoxStays$1 -/
theorem r30 (C : Cb) (d : Nat) (a0 a1 a2 a3 a4 a5 : Int) : xcall C M unr d 30 [(.agg [(.int .i64 a0), (.int .i64 a1)]), (.fptr (.agg [(.int .i64 a2), (.int .i64 a3), (.int .i64 a4), (.int .i64 a5)]) 0)] =
  some (.agg [(.int .i64 (if (a4 < (if (a2 > a0) then a2 else a0)) then a4 else (if (a2 > a0) then a2 else a0))), (.int .i64 (if (a5 < (if (a3 > a1) then a3 else a1)) then a5 else (if (a3 > a1) then a3 else a1)))]) := by kernel_rfl
/-- apogee/apogeeref10.Meet -/
theorem r42 (C : Cb) (d : Nat) (a0 a1 a2 a3 a4 a5 a6 a7 : Int) : xcall C M unr d 42 [(.agg [(.int .i64 a0), (.int .i64 a1)]), (.agg [(.int .i64 a2), (.int .i64 a3)]), (.agg [(.int .i64 a4), (.int .i64 a5)]), (.agg [(.int .i64 a6), (.int .i64 a7)])] =
  C.bool (pcall M d 26 [(.agg [(.int .i64 a0), (.int .i64 a1)])]) fun b0 =>
  cnd (!b0)
   (some (.bool false))
   (C.bool (pcall M d 26 [(.agg [(.int .i64 a2), (.int .i64 a3)])]) fun b1 =>
   cnd (!b1)
   (some (.bool false))
   (C.bool (pcall M d 26 [(.agg [(.int .i64 a4), (.int .i64 a5)])]) fun b2 =>
   cnd (!b2)
   (some (.bool false))
   (C.bool (pcall M d 26 [(.agg [(.int .i64 a6), (.int .i64 a7)])]) fun b3 =>
   cnd (!b3)
   (some (.bool false))
   (C.bool (pcall M d 54 [(.agg [(.int .i64 a0), (.int .i64 a1)]), (.agg [(.int .i64 a4), (.int .i64 a5)]), (.agg [(.int .i64 a6), (.int .i64 a7)])]) fun b4 =>
   cnd b4
   (some (.bool true))
   (C.bool (pcall M d 54 [(.agg [(.int .i64 a2), (.int .i64 a3)]), (.agg [(.int .i64 a4), (.int .i64 a5)]), (.agg [(.int .i64 a6), (.int .i64 a7)])]) fun b5 =>
   cnd b5
   (some (.bool true))
   (C.bool (pcall M d 54 [(.agg [(.int .i64 a4), (.int .i64 a5)]), (.agg [(.int .i64 a0), (.int .i64 a1)]), (.agg [(.int .i64 a2), (.int .i64 a3)])]) fun b6 =>
   cnd b6
   (some (.bool true))
   (C.bool (pcall M d 54 [(.agg [(.int .i64 a6), (.int .i64 a7)]), (.agg [(.int .i64 a0), (.int .i64 a1)]), (.agg [(.int .i64 a2), (.int .i64 a3)])]) fun b7 =>
   cnd b7
   (some (.bool true))
   (C.int .i64 (pcall M d 55 [(.agg [(.int .i64 a0), (.int .i64 a1)]), (.agg [(.int .i64 a2), (.int .i64 a3)]), (.agg [(.int .i64 a4), (.int .i64 a5)])]) fun x8 =>
   C.int .i64 (pcall M d 55 [(.agg [(.int .i64 a0), (.int .i64 a1)]), (.agg [(.int .i64 a2), (.int .i64 a3)]), (.agg [(.int .i64 a6), (.int .i64 a7)])]) fun x9 =>
   cnd (decide ((IntKind.wrap .i64 (x8 * x9)) < 0))
   (C.int .i64 (pcall M d 55 [(.agg [(.int .i64 a4), (.int .i64 a5)]), (.agg [(.int .i64 a6), (.int .i64 a7)]), (.agg [(.int .i64 a0), (.int .i64 a1)])]) fun x10 =>
   C.int .i64 (pcall M d 55 [(.agg [(.int .i64 a4), (.int .i64 a5)]), (.agg [(.int .i64 a6), (.int .i64 a7)]), (.agg [(.int .i64 a2), (.int .i64 a3)])]) fun x11 =>
   some (.bool (decide ((IntKind.wrap .i64 (x10 * x11)) < 0))))
   (some (.bool false)))))))))) := by kernel_rfl
/-- apogee/apogeeref10.On -/
theorem r54 (C : Cb) (d : Nat) (a0 a1 a2 a3 a4 a5 : Int) : xcall C M unr d 54 [(.agg [(.int .i64 a0), (.int .i64 a1)]), (.agg [(.int .i64 a2), (.int .i64 a3)]), (.agg [(.int .i64 a4), (.int .i64 a5)])] =
  C.bool (pcall M d 26 [(.agg [(.int .i64 a2), (.int .i64 a3)])]) fun b0 =>
  cnd (!b0)
   (some (.bool false))
   (C.bool (pcall M d 26 [(.agg [(.int .i64 a4), (.int .i64 a5)])]) fun b1 =>
   cnd (!b1)
   (some (.bool false))
   (C.bool (pcall M d 26 [(.agg [(.int .i64 a0), (.int .i64 a1)])]) fun b2 =>
   cnd (!b2)
   (some (.bool false))
   (C.int .i64 (pcall M d 55 [(.agg [(.int .i64 a2), (.int .i64 a3)]), (.agg [(.int .i64 a4), (.int .i64 a5)]), (.agg [(.int .i64 a0), (.int .i64 a1)])]) fun x3 =>
   cnd (x3 != 0)
   (some (.bool false))
   (cnd (decide (a0 ≥ (if (a4 < a2) then a4 else a2)))
   (cnd (decide (a0 ≤ (if (a4 > a2) then a4 else a2)))
   (cnd (decide (a1 ≥ (if (a5 < a3) then a5 else a3)))
   (some (.bool (decide (a1 ≤ (if (a5 > a3) then a5 else a3)))))
   (some (.bool false)))
   (some (.bool false)))
   (some (.bool false)))))) := by kernel_rfl
/-- apogee/apogeeref10.Turn -/
theorem r55 (C : Cb) (d : Nat) (a0 a1 a2 a3 a4 a5 : Int) : xcall C M unr d 55 [(.agg [(.int .i64 a0), (.int .i64 a1)]), (.agg [(.int .i64 a2), (.int .i64 a3)]), (.agg [(.int .i64 a4), (.int .i64 a5)])] =
  C.bool (pcall M d 26 [(.agg [(.int .i64 a0), (.int .i64 a1)])]) fun b0 =>
  cnd (!b0)
   (some (.int .i64 0))
   (C.bool (pcall M d 26 [(.agg [(.int .i64 a2), (.int .i64 a3)])]) fun b1 =>
   cnd (!b1)
   (some (.int .i64 0))
   (C.bool (pcall M d 26 [(.agg [(.int .i64 a4), (.int .i64 a5)])]) fun b2 =>
   cnd (!b2)
   (some (.int .i64 0))
   (C.agg 2 (pcall M d 69 [(.int .i64 (IntKind.wrap .i64 (a2 - a0))), (.int .i64 (IntKind.wrap .i64 (a5 - a1)))]) fun l3 =>
   C.int .i64 l3[0]? fun x4 =>
   C.int .u64 l3[1]? fun x5 =>
   C.agg 2 (pcall M d 69 [(.int .i64 (IntKind.wrap .i64 (a3 - a1))), (.int .i64 (IntKind.wrap .i64 (a4 - a0)))]) fun l6 =>
   C.int .i64 l6[0]? fun x7 =>
   C.int .u64 l6[1]? fun x8 =>
   C.int .i64 (pcall M d 68 [(.agg [(.int .i64 x4), (.int .u64 x5)]), (.agg [(.int .i64 x7), (.int .u64 x8)])]) fun x9 =>
   some (.int .i64 x9)))) := by kernel_rfl
/-- apogee/apogeeref01.Cmp -/
theorem r68 (C : Cb) (d : Nat) (a0 a1 a2 a3 : Int) : xcall C M unr d 68 [(.agg [(.int .i64 a0), (.int .u64 a1)]), (.agg [(.int .i64 a2), (.int .u64 a3)])] =
  cnd (decide (a0 < a2))
   (some (.int .i64 (-1)))
   (cnd (a0 == a2)
   (cnd (decide (a1 < a3))
   (some (.int .i64 (-1)))
   (cnd (xor false ((a0 == a2) && ((a1 == a3) && true)))
   (some (.int .i64 0))
   (some (.int .i64 1))))
   (cnd (xor false ((a0 == a2) && ((a1 == a3) && true)))
   (some (.int .i64 0))
   (some (.int .i64 1)))) := by kernel_rfl
def r69R0 (C : Cb) (d : Nat) (a0 a1 : Int) (v0 : AV) (x3 x4 : Int) (v5 v9 : AV) : St → (Ex → St → Ans) → Ans := fun s13 k14 =>
  cnd ((List.length (St.env s13)) == 36)
   (C.same (St.env s13)[0]? (.int .i64 a0) <|
   C.same (St.env s13)[1]? (.int .i64 a1) <|
   C.same (St.env s13)[2]? (.tup []) <|
   C.same (St.env s13)[3]? (.tup []) <|
   C.same (St.env s13)[4]? v0 <|
   C.same (St.env s13)[5]? v5 <|
   C.same (St.env s13)[6]? v9 <|
   C.same (St.env s13)[7]? (.int .u64 (IntKind.wrap .u64 a1)) <|
   C.int .i64 (St.env s13)[8]? fun x16 =>
   C.same (St.env s13)[9]? (.int .i64 a0) <|
   C.same (St.env s13)[10]? (.agg [(.int .i64 x3), (.int .u64 x4)]) <|
   C.same (St.env s13)[11]? (.agg [(.int .i64 0), (.int .u64 0)]) <|
   C.same (St.env s13)[12]? (.int .i64 a1) <|
   C.same (St.env s13)[13]? (.int .u64 (IntKind.wrap .u64 a1)) <|
   C.any (St.env s13)[14]? fun v17 =>
   C.any (St.env s13)[15]? fun v18 =>
   C.any (St.env s13)[16]? fun v19 =>
   C.any (St.env s13)[17]? fun v20 =>
   C.any (St.env s13)[18]? fun v21 =>
   C.any (St.env s13)[19]? fun v22 =>
   C.any (St.env s13)[20]? fun v23 =>
   C.any (St.env s13)[21]? fun v24 =>
   C.any (St.env s13)[22]? fun v25 =>
   C.any (St.env s13)[23]? fun v26 =>
   C.any (St.env s13)[24]? fun v27 =>
   C.any (St.env s13)[25]? fun v28 =>
   C.any (St.env s13)[26]? fun v29 =>
   C.any (St.env s13)[27]? fun v30 =>
   C.any (St.env s13)[28]? fun v31 =>
   C.same (St.env s13)[29]? (.tup []) <|
   C.same (St.env s13)[30]? (.tup []) <|
   C.same (St.env s13)[31]? (.tup []) <|
   C.same (St.env s13)[32]? (.tup []) <|
   C.same (St.env s13)[33]? (.tup []) <|
   C.same (St.env s13)[34]? (.tup []) <|
   C.same (St.env s13)[35]? (.tup []) <|
   cnd (decide (x16 < 64))
   (cnd (decide (x16 < 0))
   (none)
   (cnd ((bits .and .u64 (Int.fdiv (IntKind.wrap .u64 a1) (2 ^ (min (Int.toNat x16) 64))) 1) == 1)
   (C.hop (St.H s13) (.load true 2 (.v v9)) fun v32 h33 =>
   C.agg 2 (some v32) fun l34 =>
   C.int .i64 l34[0]? fun x35 =>
   C.int .u64 l34[1]? fun x36 =>
   C.hop h33 (.load true 2 (.v v5)) fun v37 h38 =>
   C.agg 2 (some v37) fun l39 =>
   C.int .i64 l39[0]? fun x40 =>
   C.int .u64 l39[1]? fun x41 =>
   C.agg 2 (pcall M d 77 [(.agg [(.int .i64 x35), (.int .u64 x36)]), (.agg [(.int .i64 x40), (.int .u64 x41)])]) fun l42 =>
   C.int .i64 l42[0]? fun x43 =>
   C.int .u64 l42[1]? fun x44 =>
   C.hop h38 (.store 2 (.v v9) (.v (.agg [(.int .i64 x43), (.int .u64 x44)]))) fun v45 h46 =>
   C.hop h46 (.load true 2 (.v v5)) fun v47 h48 =>
   C.agg 2 (some v47) fun l49 =>
   C.int .i64 l49[0]? fun x50 =>
   C.int .u64 l49[1]? fun x51 =>
   C.hop h48 (.load true 2 (.v v5)) fun v52 h53 =>
   C.agg 2 (some v52) fun l54 =>
   C.int .i64 l54[0]? fun x55 =>
   C.int .u64 l54[1]? fun x56 =>
   C.agg 2 (pcall M d 77 [(.agg [(.int .i64 x50), (.int .u64 x51)]), (.agg [(.int .i64 x55), (.int .u64 x56)])]) fun l57 =>
   C.int .i64 l57[0]? fun x58 =>
   C.int .u64 l57[1]? fun x59 =>
   C.hop h53 (.store 2 (.v v5) (.v (.agg [(.int .i64 x58), (.int .u64 x59)]))) fun v60 h61 =>
   k14 .normal ⟨[(.int .i64 a0), (.int .i64 a1), (.tup []), (.tup []), v0, v5, v9, (.int .u64 (IntKind.wrap .u64 a1)), (.int .i64 (IntKind.wrap .i64 (x16 + 1))), (.int .i64 a0), (.agg [(.int .i64 x3), (.int .u64 x4)]), (.agg [(.int .i64 0), (.int .u64 0)]), (.int .i64 a1), (.int .u64 (IntKind.wrap .u64 a1)), (.int .i64 x16), (.bool true), (.int .i64 x16), (.int .i64 (IntKind.wrap .i64 (x16 + 1))), (.int .u64 (IntKind.wrap .u64 a1)), (.int .i64 x16), (.int .u64 (Int.fdiv (IntKind.wrap .u64 a1) (2 ^ (min (Int.toNat x16) 64)))), (.int .u64 (bits .and .u64 (Int.fdiv (IntKind.wrap .u64 a1) (2 ^ (min (Int.toNat x16) 64))) 1)), (.bool true), (.agg [(.int .i64 x35), (.int .u64 x36)]), (.agg [(.int .i64 x40), (.int .u64 x41)]), (.agg [(.int .i64 x43), (.int .u64 x44)]), (.agg [(.int .i64 x50), (.int .u64 x51)]), (.agg [(.int .i64 x55), (.int .u64 x56)]), (.agg [(.int .i64 x58), (.int .u64 x59)]), (.tup []), (.tup []), (.tup []), (.tup []), (.tup []), (.tup []), (.tup [])], h61⟩)
   (C.hop (St.H s13) (.load true 2 (.v v5)) fun v62 h63 =>
   C.agg 2 (some v62) fun l64 =>
   C.int .i64 l64[0]? fun x65 =>
   C.int .u64 l64[1]? fun x66 =>
   C.hop h63 (.load true 2 (.v v5)) fun v67 h68 =>
   C.agg 2 (some v67) fun l69 =>
   C.int .i64 l69[0]? fun x70 =>
   C.int .u64 l69[1]? fun x71 =>
   C.agg 2 (pcall M d 77 [(.agg [(.int .i64 x65), (.int .u64 x66)]), (.agg [(.int .i64 x70), (.int .u64 x71)])]) fun l72 =>
   C.int .i64 l72[0]? fun x73 =>
   C.int .u64 l72[1]? fun x74 =>
   C.hop h68 (.store 2 (.v v5) (.v (.agg [(.int .i64 x73), (.int .u64 x74)]))) fun v75 h76 =>
   k14 .normal ⟨[(.int .i64 a0), (.int .i64 a1), (.tup []), (.tup []), v0, v5, v9, (.int .u64 (IntKind.wrap .u64 a1)), (.int .i64 (IntKind.wrap .i64 (x16 + 1))), (.int .i64 a0), (.agg [(.int .i64 x3), (.int .u64 x4)]), (.agg [(.int .i64 0), (.int .u64 0)]), (.int .i64 a1), (.int .u64 (IntKind.wrap .u64 a1)), (.int .i64 x16), (.bool true), (.int .i64 x16), (.int .i64 (IntKind.wrap .i64 (x16 + 1))), (.int .u64 (IntKind.wrap .u64 a1)), (.int .i64 x16), (.int .u64 (Int.fdiv (IntKind.wrap .u64 a1) (2 ^ (min (Int.toNat x16) 64)))), (.int .u64 (bits .and .u64 (Int.fdiv (IntKind.wrap .u64 a1) (2 ^ (min (Int.toNat x16) 64))) 1)), (.bool false), v26, v27, v28, (.agg [(.int .i64 x65), (.int .u64 x66)]), (.agg [(.int .i64 x70), (.int .u64 x71)]), (.agg [(.int .i64 x73), (.int .u64 x74)]), (.tup []), (.tup []), (.tup []), (.tup []), (.tup []), (.tup []), (.tup [])], h76⟩)))
   (k14 (.exit 0) ⟨[(.int .i64 a0), (.int .i64 a1), (.tup []), (.tup []), v0, v5, v9, (.int .u64 (IntKind.wrap .u64 a1)), (.int .i64 x16), (.int .i64 a0), (.agg [(.int .i64 x3), (.int .u64 x4)]), (.agg [(.int .i64 0), (.int .u64 0)]), (.int .i64 a1), (.int .u64 (IntKind.wrap .u64 a1)), (.int .i64 x16), (.bool false), v19, v20, v21, v22, v23, v24, v25, v26, v27, v28, v29, v30, v31, (.tup []), (.tup []), (.tup []), (.tup []), (.tup []), (.tup []), (.tup [])], (St.H s13)⟩))
   (none)
def r69X0_0 (C : Cb) (d : Nat) (a0 a1 : Int) (v0 : AV) (x3 x4 : Int) (v5 v9 : AV) : St → Ans := fun s77 =>
  cnd ((List.length (St.env s77)) == 36)
   (C.same (St.env s77)[0]? (.int .i64 a0) <|
   C.same (St.env s77)[1]? (.int .i64 a1) <|
   C.same (St.env s77)[2]? (.tup []) <|
   C.same (St.env s77)[3]? (.tup []) <|
   C.same (St.env s77)[4]? v0 <|
   C.same (St.env s77)[5]? v5 <|
   C.same (St.env s77)[6]? v9 <|
   C.same (St.env s77)[7]? (.int .u64 (IntKind.wrap .u64 a1)) <|
   C.int .i64 (St.env s77)[8]? fun x78 =>
   C.same (St.env s77)[9]? (.int .i64 a0) <|
   C.same (St.env s77)[10]? (.agg [(.int .i64 x3), (.int .u64 x4)]) <|
   C.same (St.env s77)[11]? (.agg [(.int .i64 0), (.int .u64 0)]) <|
   C.same (St.env s77)[12]? (.int .i64 a1) <|
   C.same (St.env s77)[13]? (.int .u64 (IntKind.wrap .u64 a1)) <|
   C.int .i64 (St.env s77)[14]? fun x79 =>
   C.bool (St.env s77)[15]? fun b80 =>
   C.any (St.env s77)[16]? fun v81 =>
   C.any (St.env s77)[17]? fun v82 =>
   C.any (St.env s77)[18]? fun v83 =>
   C.any (St.env s77)[19]? fun v84 =>
   C.any (St.env s77)[20]? fun v85 =>
   C.any (St.env s77)[21]? fun v86 =>
   C.any (St.env s77)[22]? fun v87 =>
   C.any (St.env s77)[23]? fun v88 =>
   C.any (St.env s77)[24]? fun v89 =>
   C.any (St.env s77)[25]? fun v90 =>
   C.any (St.env s77)[26]? fun v91 =>
   C.any (St.env s77)[27]? fun v92 =>
   C.any (St.env s77)[28]? fun v93 =>
   C.same (St.env s77)[29]? (.tup []) <|
   C.same (St.env s77)[30]? (.tup []) <|
   C.same (St.env s77)[31]? (.tup []) <|
   C.same (St.env s77)[32]? (.tup []) <|
   C.same (St.env s77)[33]? (.tup []) <|
   C.same (St.env s77)[34]? (.tup []) <|
   C.same (St.env s77)[35]? (.tup []) <|
   cnd (decide (a1 < 0))
   (C.hop (St.H s77) (.load true 2 (.v v9)) fun v94 h95 =>
   C.agg 2 (some v94) fun l96 =>
   C.int .i64 l96[0]? fun x97 =>
   C.int .u64 l96[1]? fun x98 =>
   C.hop h95 (.load true 2 (.v v5)) fun v99 h100 =>
   C.agg 2 (some v99) fun l101 =>
   C.int .i64 l101[0]? fun x102 =>
   C.int .u64 l101[1]? fun x103 =>
   C.agg 2 (pcall M d 78 [(.agg [(.int .i64 x102), (.int .u64 x103)])]) fun l104 =>
   C.int .i64 l104[0]? fun x105 =>
   C.int .u64 l104[1]? fun x106 =>
   C.agg 2 (pcall M d 77 [(.agg [(.int .i64 x97), (.int .u64 x98)]), (.agg [(.int .i64 x105), (.int .u64 x106)])]) fun l107 =>
   C.int .i64 l107[0]? fun x108 =>
   C.int .u64 l107[1]? fun x109 =>
   C.hop h100 (.store 2 (.v v9) (.v (.agg [(.int .i64 x108), (.int .u64 x109)]))) fun v110 h111 =>
   C.hop h111 (.load true 2 (.v v9)) fun v112 h113 =>
   C.agg 2 (some v112) fun l114 =>
   C.int .i64 l114[0]? fun x115 =>
   C.int .u64 l114[1]? fun x116 =>
   C.hop h113 (.store 2 (.v v0) (.v (.agg [(.int .i64 x115), (.int .u64 x116)]))) fun v117 h118 =>
   C.hop h118 (.load true 2 (.v v0)) fun v119 h120 =>
   C.fin h118 v119)
   (C.hop (St.H s77) (.load true 2 (.v v9)) fun v121 h122 =>
   C.agg 2 (some v121) fun l123 =>
   C.int .i64 l123[0]? fun x124 =>
   C.int .u64 l123[1]? fun x125 =>
   C.hop h122 (.store 2 (.v v0) (.v (.agg [(.int .i64 x124), (.int .u64 x125)]))) fun v126 h127 =>
   C.hop h127 (.load true 2 (.v v0)) fun v128 h129 =>
   C.fin h127 v128))
   (none)
def r69E0 (C : Cb) (d : Nat) (a0 a1 : Int) (v0 : AV) (x3 x4 : Int) (v5 v9 : AV) : St → Ans := fun s15 =>
  cnd ((List.length (St.env s15)) == 36)
   (C.same (St.env s15)[0]? (.int .i64 a0) <|
   C.same (St.env s15)[1]? (.int .i64 a1) <|
   C.same (St.env s15)[2]? (.tup []) <|
   C.same (St.env s15)[3]? (.tup []) <|
   C.same (St.env s15)[4]? v0 <|
   C.same (St.env s15)[5]? v5 <|
   C.same (St.env s15)[6]? v9 <|
   C.same (St.env s15)[7]? (.int .u64 (IntKind.wrap .u64 a1)) <|
   C.int .i64 (St.env s15)[8]? fun x130 =>
   C.same (St.env s15)[9]? (.int .i64 a0) <|
   C.same (St.env s15)[10]? (.agg [(.int .i64 x3), (.int .u64 x4)]) <|
   C.same (St.env s15)[11]? (.agg [(.int .i64 0), (.int .u64 0)]) <|
   C.same (St.env s15)[12]? (.int .i64 a1) <|
   C.same (St.env s15)[13]? (.int .u64 (IntKind.wrap .u64 a1)) <|
   C.any (St.env s15)[14]? fun v131 =>
   C.any (St.env s15)[15]? fun v132 =>
   C.any (St.env s15)[16]? fun v133 =>
   C.any (St.env s15)[17]? fun v134 =>
   C.any (St.env s15)[18]? fun v135 =>
   C.any (St.env s15)[19]? fun v136 =>
   C.any (St.env s15)[20]? fun v137 =>
   C.any (St.env s15)[21]? fun v138 =>
   C.any (St.env s15)[22]? fun v139 =>
   C.any (St.env s15)[23]? fun v140 =>
   C.any (St.env s15)[24]? fun v141 =>
   C.any (St.env s15)[25]? fun v142 =>
   C.any (St.env s15)[26]? fun v143 =>
   C.any (St.env s15)[27]? fun v144 =>
   C.any (St.env s15)[28]? fun v145 =>
   C.same (St.env s15)[29]? (.tup []) <|
   C.same (St.env s15)[30]? (.tup []) <|
   C.same (St.env s15)[31]? (.tup []) <|
   C.same (St.env s15)[32]? (.tup []) <|
   C.same (St.env s15)[33]? (.tup []) <|
   C.same (St.env s15)[34]? (.tup []) <|
   C.same (St.env s15)[35]? (.tup []) <|
   C.hop (St.H s15) (.load true 2 (.v v0)) fun v146 h147 =>
   C.fin (St.H s15) v146)
   (none)
/-- apogee/apogeeref01.Mul -/
theorem r69 (C : Cb) (d : Nat) (a0 a1 : Int) : xcall C M unr d 69 [(.int .i64 a0), (.int .i64 a1)] =
  C.hop [] (.alloc E82) fun v0 h1 =>
  C.agg 2 (pcall M d 76 [(.int .i64 a0)]) fun l2 =>
  C.int .i64 l2[0]? fun x3 =>
  C.int .u64 l2[1]? fun x4 =>
  C.hop h1 (.alloc E82) fun v5 h6 =>
  C.hop h6 (.store 2 (.v v5) (.v (.agg [(.int .i64 x3), (.int .u64 x4)]))) fun v7 h8 =>
  C.hop h8 (.alloc E82) fun v9 h10 =>
  C.hop h10 (.store 2 (.v v9) (.v (.agg [(.int .i64 0), (.int .u64 0)]))) fun v11 h12 =>
  C.iter (r69R0 C d a0 a1 v0 x3 x4 v5 v9) 1000000000000000000 ⟨[(.int .i64 a0), (.int .i64 a1), (.tup []), (.tup []), v0, v5, v9, (.int .u64 (IntKind.wrap .u64 a1)), (.int .i64 0), (.int .i64 a0), (.agg [(.int .i64 x3), (.int .u64 x4)]), (.agg [(.int .i64 0), (.int .u64 0)]), (.int .i64 a1), (.int .u64 (IntKind.wrap .u64 a1)), (.tup []), (.tup []), (.tup []), (.tup []), (.tup []), (.tup []), (.tup []), (.tup []), (.tup []), (.tup []), (.tup []), (.tup []), (.tup []), (.tup []), (.tup []), (.tup []), (.tup []), (.tup []), (.tup []), (.tup []), (.tup []), (.tup [])], h12⟩ [0] [r69X0_0 C d a0 a1 v0 x3 x4 v5 v9] (r69E0 C d a0 a1 v0 x3 x4 v5 v9) := by kernel_rfl
/-- apogee/apogeeref01.Of -/
theorem r76 (C : Cb) (d : Nat) (a0 : Int) : xcall C M unr d 76 [(.int .i64 a0)] =
  cnd (decide (a0 < 0))
   (some (.agg [(.int .i64 (-1)), (.int .u64 (IntKind.wrap .u64 a0))]))
   (some (.agg [(.int .i64 0), (.int .u64 (IntKind.wrap .u64 a0))])) := by kernel_rfl
def r77R0 (C : Cb) (d : Nat) (a0 a1 a2 a3 : Int) (v0 v2 v4 : AV) (x9 x10 : Int) (v11 : AV) (x15 x16 : Int) (v17 : AV) : St → (Ex → St → Ans) → Ans := fun s18 k19 =>
  cnd ((List.length (St.env s18)) == 39)
   (C.same (St.env s18)[0]? (.agg [(.int .i64 a0), (.int .u64 a1)]) <|
   C.same (St.env s18)[1]? (.agg [(.int .i64 a2), (.int .u64 a3)]) <|
   C.same (St.env s18)[2]? v0 <|
   C.same (St.env s18)[3]? v2 <|
   C.same (St.env s18)[4]? v4 <|
   C.same (St.env s18)[5]? v11 <|
   C.same (St.env s18)[6]? v17 <|
   C.any (St.env s18)[7]? fun v21 =>
   C.int .i64 (St.env s18)[8]? fun x22 =>
   C.int .i64 (St.env s18)[9]? fun x23 =>
   C.any (St.env s18)[10]? fun v24 =>
   C.same (St.env s18)[11]? (.agg [(.int .i64 x9), (.int .u64 x10)]) <|
   C.same (St.env s18)[12]? v11 <|
   C.same (St.env s18)[13]? (.agg [(.int .i64 x15), (.int .u64 x16)]) <|
   C.same (St.env s18)[14]? v17 <|
   C.any (St.env s18)[15]? fun v25 =>
   C.any (St.env s18)[16]? fun v26 =>
   C.any (St.env s18)[17]? fun v27 =>
   C.any (St.env s18)[18]? fun v28 =>
   C.any (St.env s18)[19]? fun v29 =>
   C.any (St.env s18)[20]? fun v30 =>
   C.any (St.env s18)[21]? fun v31 =>
   C.any (St.env s18)[22]? fun v32 =>
   C.any (St.env s18)[23]? fun v33 =>
   C.any (St.env s18)[24]? fun v34 =>
   C.any (St.env s18)[25]? fun v35 =>
   C.any (St.env s18)[26]? fun v36 =>
   C.any (St.env s18)[27]? fun v37 =>
   C.any (St.env s18)[28]? fun v38 =>
   C.any (St.env s18)[29]? fun v39 =>
   C.any (St.env s18)[30]? fun v40 =>
   C.any (St.env s18)[31]? fun v41 =>
   C.any (St.env s18)[32]? fun v42 =>
   C.any (St.env s18)[33]? fun v43 =>
   C.any (St.env s18)[34]? fun v44 =>
   C.any (St.env s18)[35]? fun v45 =>
   C.any (St.env s18)[36]? fun v46 =>
   C.same (St.env s18)[37]? (.tup []) <|
   C.same (St.env s18)[38]? (.tup []) <|
   cnd (decide (x23 < 128))
   (C.hop (St.H s18) (.ixAS .any 1 (.v v11) (.v (.int .i64 x23))) fun v47 h48 =>
   C.hop h48 (.load false 1 (.v v47)) fun v49 h50 =>
   C.int .i64 (some v49) fun x51 =>
   C.hop h50 (.ixAS .any 1 (.v v17) (.v (.int .i64 x23))) fun v52 h53 =>
   C.hop h53 (.load false 1 (.v v52)) fun v54 h55 =>
   C.int .i64 (some v54) fun x56 =>
   C.hop h55 (.mkrow E3 1 [(0, (.v (.int .i64 (Int.tmod (IntKind.wrap .i64 ((IntKind.wrap .i64 (x51 + x56)) + x22)) 2))))]) fun v57 h58 =>
   C.hop h58 (.app E3 (.v v21) (.v v57)) fun v59 h60 =>
   k19 .normal ⟨[(.agg [(.int .i64 a0), (.int .u64 a1)]), (.agg [(.int .i64 a2), (.int .u64 a3)]), v0, v2, v4, v11, v17, v59, (.int .i64 (IntKind.wrap .i64 (Int.tdiv (IntKind.wrap .i64 ((IntKind.wrap .i64 (x51 + x56)) + x22)) 2))), (.int .i64 (IntKind.wrap .i64 (x23 + 1))), (.int .i64 (IntKind.wrap .i64 ((IntKind.wrap .i64 (x51 + x56)) + x22))), (.agg [(.int .i64 x9), (.int .u64 x10)]), v11, (.agg [(.int .i64 x15), (.int .u64 x16)]), v17, (.int .i64 x23), (.bool true), (.int .i64 x23), (.int .i64 (IntKind.wrap .i64 (x23 + 1))), v11, (.int .i64 x23), v47, (.int .i64 x51), v17, (.int .i64 x23), v52, (.int .i64 x56), (.int .i64 (IntKind.wrap .i64 (x51 + x56))), (.int .i64 x22), (.int .i64 (IntKind.wrap .i64 ((IntKind.wrap .i64 (x51 + x56)) + x22))), v21, (.int .i64 (IntKind.wrap .i64 ((IntKind.wrap .i64 (x51 + x56)) + x22))), (.int .i64 (Int.tmod (IntKind.wrap .i64 ((IntKind.wrap .i64 (x51 + x56)) + x22)) 2)), v57, v59, (.int .i64 (IntKind.wrap .i64 ((IntKind.wrap .i64 (x51 + x56)) + x22))), (.int .i64 (IntKind.wrap .i64 (Int.tdiv (IntKind.wrap .i64 ((IntKind.wrap .i64 (x51 + x56)) + x22)) 2))), (.tup []), (.tup [])], h60⟩)
   (k19 (.exit 0) ⟨[(.agg [(.int .i64 a0), (.int .u64 a1)]), (.agg [(.int .i64 a2), (.int .u64 a3)]), v0, v2, v4, v11, v17, v21, (.int .i64 x22), (.int .i64 x23), v24, (.agg [(.int .i64 x9), (.int .u64 x10)]), v11, (.agg [(.int .i64 x15), (.int .u64 x16)]), v17, (.int .i64 x23), (.bool false), v27, v28, v29, v30, v31, v32, v33, v34, v35, v36, v37, v38, v39, v40, v41, v42, v43, v44, v45, v46, (.tup []), (.tup [])], (St.H s18)⟩))
   (none)
def r77X0_0 (C : Cb) (d : Nat) (a0 a1 a2 a3 : Int) (v0 v2 v4 : AV) (x9 x10 : Int) (v11 : AV) (x15 x16 : Int) (v17 : AV) : St → Ans := fun s61 =>
  cnd ((List.length (St.env s61)) == 39)
   (C.same (St.env s61)[0]? (.agg [(.int .i64 a0), (.int .u64 a1)]) <|
   C.same (St.env s61)[1]? (.agg [(.int .i64 a2), (.int .u64 a3)]) <|
   C.same (St.env s61)[2]? v0 <|
   C.same (St.env s61)[3]? v2 <|
   C.same (St.env s61)[4]? v4 <|
   C.same (St.env s61)[5]? v11 <|
   C.same (St.env s61)[6]? v17 <|
   C.any (St.env s61)[7]? fun v62 =>
   C.int .i64 (St.env s61)[8]? fun x63 =>
   C.int .i64 (St.env s61)[9]? fun x64 =>
   C.any (St.env s61)[10]? fun v65 =>
   C.same (St.env s61)[11]? (.agg [(.int .i64 x9), (.int .u64 x10)]) <|
   C.same (St.env s61)[12]? v11 <|
   C.same (St.env s61)[13]? (.agg [(.int .i64 x15), (.int .u64 x16)]) <|
   C.same (St.env s61)[14]? v17 <|
   C.int .i64 (St.env s61)[15]? fun x66 =>
   C.bool (St.env s61)[16]? fun b67 =>
   C.any (St.env s61)[17]? fun v68 =>
   C.any (St.env s61)[18]? fun v69 =>
   C.any (St.env s61)[19]? fun v70 =>
   C.any (St.env s61)[20]? fun v71 =>
   C.any (St.env s61)[21]? fun v72 =>
   C.any (St.env s61)[22]? fun v73 =>
   C.any (St.env s61)[23]? fun v74 =>
   C.any (St.env s61)[24]? fun v75 =>
   C.any (St.env s61)[25]? fun v76 =>
   C.any (St.env s61)[26]? fun v77 =>
   C.any (St.env s61)[27]? fun v78 =>
   C.any (St.env s61)[28]? fun v79 =>
   C.any (St.env s61)[29]? fun v80 =>
   C.any (St.env s61)[30]? fun v81 =>
   C.any (St.env s61)[31]? fun v82 =>
   C.any (St.env s61)[32]? fun v83 =>
   C.any (St.env s61)[33]? fun v84 =>
   C.any (St.env s61)[34]? fun v85 =>
   C.any (St.env s61)[35]? fun v86 =>
   C.any (St.env s61)[36]? fun v87 =>
   C.same (St.env s61)[37]? (.tup []) <|
   C.same (St.env s61)[38]? (.tup []) <|
   C.snp (St.H s61) [v62] fun l88 b89 =>
   C.agg 2 (pcall M d 81 l88) fun l90 =>
   C.int .i64 l90[0]? fun x91 =>
   C.int .u64 l90[1]? fun x92 =>
   cnd (b89 || true)
   (C.hop (St.H s61) (.store 2 (.v v4) (.v (.agg [(.int .i64 x91), (.int .u64 x92)]))) fun v93 h94 =>
   C.hop h94 (.load true 2 (.v v4)) fun v95 h96 =>
   C.fin h94 v95)
   (none))
   (none)
def r77E0 (C : Cb) (d : Nat) (a0 a1 a2 a3 : Int) (v0 v2 v4 : AV) (x9 x10 : Int) (v11 : AV) (x15 x16 : Int) (v17 : AV) : St → Ans := fun s20 =>
  cnd ((List.length (St.env s20)) == 39)
   (C.same (St.env s20)[0]? (.agg [(.int .i64 a0), (.int .u64 a1)]) <|
   C.same (St.env s20)[1]? (.agg [(.int .i64 a2), (.int .u64 a3)]) <|
   C.same (St.env s20)[2]? v0 <|
   C.same (St.env s20)[3]? v2 <|
   C.same (St.env s20)[4]? v4 <|
   C.same (St.env s20)[5]? v11 <|
   C.same (St.env s20)[6]? v17 <|
   C.any (St.env s20)[7]? fun v97 =>
   C.int .i64 (St.env s20)[8]? fun x98 =>
   C.int .i64 (St.env s20)[9]? fun x99 =>
   C.any (St.env s20)[10]? fun v100 =>
   C.same (St.env s20)[11]? (.agg [(.int .i64 x9), (.int .u64 x10)]) <|
   C.same (St.env s20)[12]? v11 <|
   C.same (St.env s20)[13]? (.agg [(.int .i64 x15), (.int .u64 x16)]) <|
   C.same (St.env s20)[14]? v17 <|
   C.any (St.env s20)[15]? fun v101 =>
   C.any (St.env s20)[16]? fun v102 =>
   C.any (St.env s20)[17]? fun v103 =>
   C.any (St.env s20)[18]? fun v104 =>
   C.any (St.env s20)[19]? fun v105 =>
   C.any (St.env s20)[20]? fun v106 =>
   C.any (St.env s20)[21]? fun v107 =>
   C.any (St.env s20)[22]? fun v108 =>
   C.any (St.env s20)[23]? fun v109 =>
   C.any (St.env s20)[24]? fun v110 =>
   C.any (St.env s20)[25]? fun v111 =>
   C.any (St.env s20)[26]? fun v112 =>
   C.any (St.env s20)[27]? fun v113 =>
   C.any (St.env s20)[28]? fun v114 =>
   C.any (St.env s20)[29]? fun v115 =>
   C.any (St.env s20)[30]? fun v116 =>
   C.any (St.env s20)[31]? fun v117 =>
   C.any (St.env s20)[32]? fun v118 =>
   C.any (St.env s20)[33]? fun v119 =>
   C.any (St.env s20)[34]? fun v120 =>
   C.any (St.env s20)[35]? fun v121 =>
   C.any (St.env s20)[36]? fun v122 =>
   C.same (St.env s20)[37]? (.tup []) <|
   C.same (St.env s20)[38]? (.tup []) <|
   C.hop (St.H s20) (.load true 2 (.v v4)) fun v123 h124 =>
   C.fin (St.H s20) v123)
   (none)
/-- apogee/apogeeref01.plus -/
theorem r77 (C : Cb) (d : Nat) (a0 a1 a2 a3 : Int) : xcall C M unr d 77 [(.agg [(.int .i64 a0), (.int .u64 a1)]), (.agg [(.int .i64 a2), (.int .u64 a3)])] =
  C.hop [] (.box E82 (.v (.agg [(.int .i64 a0), (.int .u64 a1)]))) fun v0 h1 =>
  C.hop h1 (.box E82 (.v (.agg [(.int .i64 a2), (.int .u64 a3)]))) fun v2 h3 =>
  C.hop h3 (.alloc E82) fun v4 h5 =>
  C.hop h5 (.load true 2 (.v v0)) fun v6 h7 =>
  C.agg 2 (some v6) fun l8 =>
  C.int .i64 l8[0]? fun x9 =>
  C.int .u64 l8[1]? fun x10 =>
  C.any (pcall M d 80 [(.agg [(.int .i64 x9), (.int .u64 x10)])]) fun v11 =>
  C.hop h7 (.load true 2 (.v v2)) fun v12 h13 =>
  C.agg 2 (some v12) fun l14 =>
  C.int .i64 l14[0]? fun x15 =>
  C.int .u64 l14[1]? fun x16 =>
  C.any (pcall M d 80 [(.agg [(.int .i64 x15), (.int .u64 x16)])]) fun v17 =>
  C.iter (r77R0 C d a0 a1 a2 a3 v0 v2 v4 x9 x10 v11 x15 x16 v17) 1000000000000000000 ⟨[(.agg [(.int .i64 a0), (.int .u64 a1)]), (.agg [(.int .i64 a2), (.int .u64 a3)]), v0, v2, v4, v11, v17, (.zsl true), (.int .i64 0), (.int .i64 0), (.tup []), (.agg [(.int .i64 x9), (.int .u64 x10)]), v11, (.agg [(.int .i64 x15), (.int .u64 x16)]), v17, (.tup []), (.tup []), (.tup []), (.tup []), (.tup []), (.tup []), (.tup []), (.tup []), (.tup []), (.tup []), (.tup []), (.tup []), (.tup []), (.tup []), (.tup []), (.tup []), (.tup []), (.tup []), (.tup []), (.tup []), (.tup []), (.tup []), (.tup []), (.tup [])], h13⟩ [0] [r77X0_0 C d a0 a1 a2 a3 v0 v2 v4 x9 x10 v11 x15 x16 v17] (r77E0 C d a0 a1 a2 a3 v0 v2 v4 x9 x10 v11 x15 x16 v17) := by kernel_rfl
/-- apogee/apogeeref01.Flip -/
theorem r78 (C : Cb) (d : Nat) (a0 a1 : Int) : xcall C M unr d 78 [(.agg [(.int .i64 a0), (.int .u64 a1)])] =
  C.agg 2 (pcall M d 77 [(.agg [(.int .i64 (bits .xor .i64 (if (true = true) then (-1) else (IntKind.max .i64)) a0)), (.int .u64 (bits .xor .u64 (if (false = true) then (-1) else (IntKind.max .u64)) a1))]), (.agg [(.int .i64 0), (.int .u64 1)])]) fun l0 =>
  C.int .i64 l0[0]? fun x1 =>
  C.int .u64 l0[1]? fun x2 =>
  some (.agg [(.int .i64 x1), (.int .u64 x2)]) := by kernel_rfl
def r80R1 (C : Cb) (d : Nat) (a0 a1 : Int) (v0 : AV) (x31 x32 : Int) (b33 : Bool) (v34 v35 v36 v37 v38 v39 v40 v41 v42 v43 v44 : AV) : St → (Ex → St → Ans) → Ans := fun s45 k46 =>
  cnd ((List.length (St.env s45)) == 34)
   (C.same (St.env s45)[0]? (.agg [(.int .i64 a0), (.int .u64 a1)]) <|
   C.same (St.env s45)[1]? v0 <|
   C.same (St.env s45)[2]? (.zsl true) <|
   C.any (St.env s45)[3]? fun v48 =>
   C.same (St.env s45)[4]? (.int .i64 x31) <|
   C.int .i64 (St.env s45)[5]? fun x49 =>
   C.same (St.env s45)[6]? (.int .i64 x32) <|
   C.same (St.env s45)[7]? (.bool b33) <|
   C.same (St.env s45)[8]? v34 <|
   C.same (St.env s45)[9]? v35 <|
   C.same (St.env s45)[10]? v36 <|
   C.same (St.env s45)[11]? v37 <|
   C.same (St.env s45)[12]? v38 <|
   C.same (St.env s45)[13]? v39 <|
   C.same (St.env s45)[14]? v40 <|
   C.same (St.env s45)[15]? v41 <|
   C.same (St.env s45)[16]? v42 <|
   C.same (St.env s45)[17]? v43 <|
   C.same (St.env s45)[18]? v44 <|
   C.any (St.env s45)[19]? fun v50 =>
   C.any (St.env s45)[20]? fun v51 =>
   C.any (St.env s45)[21]? fun v52 =>
   C.any (St.env s45)[22]? fun v53 =>
   C.any (St.env s45)[23]? fun v54 =>
   C.any (St.env s45)[24]? fun v55 =>
   C.any (St.env s45)[25]? fun v56 =>
   C.any (St.env s45)[26]? fun v57 =>
   C.any (St.env s45)[27]? fun v58 =>
   C.any (St.env s45)[28]? fun v59 =>
   C.any (St.env s45)[29]? fun v60 =>
   C.any (St.env s45)[30]? fun v61 =>
   C.any (St.env s45)[31]? fun v62 =>
   C.any (St.env s45)[32]? fun v63 =>
   C.same (St.env s45)[33]? (.tup []) <|
   cnd (decide (x49 < 64))
   (C.hop (St.H s45) (.fldA 0 (.v v0)) fun v64 h65 =>
   C.hop h65 (.load false 1 (.v v64)) fun v66 h67 =>
   C.int .i64 (some v66) fun x68 =>
   cnd (decide (x49 < 0))
   (none)
   (C.hop h67 (.mkrow E3 1 [(0, (.v (.int .i64 (IntKind.wrap .i64 (bits .and .u64 (Int.fdiv (IntKind.wrap .u64 x68) (2 ^ (min (Int.toNat x49) 64))) 1)))))]) fun v69 h70 =>
   C.hop h70 (.app E3 (.v v48) (.v v69)) fun v71 h72 =>
   k46 .normal ⟨[(.agg [(.int .i64 a0), (.int .u64 a1)]), v0, (.zsl true), v71, (.int .i64 x31), (.int .i64 (IntKind.wrap .i64 (x49 + 1))), (.int .i64 x32), (.bool b33), v34, v35, v36, v37, v38, v39, v40, v41, v42, v43, v44, (.int .i64 x49), (.bool true), (.int .i64 x49), (.int .i64 (IntKind.wrap .i64 (x49 + 1))), v48, v64, (.int .i64 x68), (.int .u64 (IntKind.wrap .u64 x68)), (.int .i64 x49), (.int .u64 (Int.fdiv (IntKind.wrap .u64 x68) (2 ^ (min (Int.toNat x49) 64)))), (.int .u64 (bits .and .u64 (Int.fdiv (IntKind.wrap .u64 x68) (2 ^ (min (Int.toNat x49) 64))) 1)), (.int .i64 (IntKind.wrap .i64 (bits .and .u64 (Int.fdiv (IntKind.wrap .u64 x68) (2 ^ (min (Int.toNat x49) 64))) 1))), v69, v71, (.tup [])], h72⟩))
   (k46 (.exit 2) ⟨[(.agg [(.int .i64 a0), (.int .u64 a1)]), v0, (.zsl true), v48, (.int .i64 x31), (.int .i64 x49), (.int .i64 x32), (.bool b33), v34, v35, v36, v37, v38, v39, v40, v41, v42, v43, v44, (.int .i64 x49), (.bool false), v52, v53, v54, v55, v56, v57, v58, v59, v60, v61, v62, v63, (.tup [])], (St.H s45)⟩))
   (none)
def r80X1_0 (C : Cb) (d : Nat) (a0 a1 : Int) (v0 : AV) (x31 x32 : Int) (b33 : Bool) (v34 v35 v36 v37 v38 v39 v40 v41 v42 v43 v44 : AV) : St → Ans := fun s73 =>
  cnd ((List.length (St.env s73)) == 34)
   (C.same (St.env s73)[0]? (.agg [(.int .i64 a0), (.int .u64 a1)]) <|
   C.same (St.env s73)[1]? v0 <|
   C.same (St.env s73)[2]? (.zsl true) <|
   C.any (St.env s73)[3]? fun v74 =>
   C.same (St.env s73)[4]? (.int .i64 x31) <|
   C.int .i64 (St.env s73)[5]? fun x75 =>
   C.same (St.env s73)[6]? (.int .i64 x32) <|
   C.same (St.env s73)[7]? (.bool b33) <|
   C.same (St.env s73)[8]? v34 <|
   C.same (St.env s73)[9]? v35 <|
   C.same (St.env s73)[10]? v36 <|
   C.same (St.env s73)[11]? v37 <|
   C.same (St.env s73)[12]? v38 <|
   C.same (St.env s73)[13]? v39 <|
   C.same (St.env s73)[14]? v40 <|
   C.same (St.env s73)[15]? v41 <|
   C.same (St.env s73)[16]? v42 <|
   C.same (St.env s73)[17]? v43 <|
   C.same (St.env s73)[18]? v44 <|
   C.int .i64 (St.env s73)[19]? fun x76 =>
   C.bool (St.env s73)[20]? fun b77 =>
   C.any (St.env s73)[21]? fun v78 =>
   C.any (St.env s73)[22]? fun v79 =>
   C.any (St.env s73)[23]? fun v80 =>
   C.any (St.env s73)[24]? fun v81 =>
   C.any (St.env s73)[25]? fun v82 =>
   C.any (St.env s73)[26]? fun v83 =>
   C.any (St.env s73)[27]? fun v84 =>
   C.any (St.env s73)[28]? fun v85 =>
   C.any (St.env s73)[29]? fun v86 =>
   C.any (St.env s73)[30]? fun v87 =>
   C.any (St.env s73)[31]? fun v88 =>
   C.any (St.env s73)[32]? fun v89 =>
   C.same (St.env s73)[33]? (.tup []) <|
   C.fin (St.H s73) v74)
   (none)
def r80E1 (C : Cb) (d : Nat) (a0 a1 : Int) (v0 : AV) (x31 x32 : Int) (b33 : Bool) (v34 v35 v36 v37 v38 v39 v40 v41 v42 v43 v44 : AV) : St → Ans := fun s47 =>
  cnd ((List.length (St.env s47)) == 34)
   (C.same (St.env s47)[0]? (.agg [(.int .i64 a0), (.int .u64 a1)]) <|
   C.same (St.env s47)[1]? v0 <|
   C.same (St.env s47)[2]? (.zsl true) <|
   C.any (St.env s47)[3]? fun v90 =>
   C.same (St.env s47)[4]? (.int .i64 x31) <|
   C.int .i64 (St.env s47)[5]? fun x91 =>
   C.same (St.env s47)[6]? (.int .i64 x32) <|
   C.same (St.env s47)[7]? (.bool b33) <|
   C.same (St.env s47)[8]? v34 <|
   C.same (St.env s47)[9]? v35 <|
   C.same (St.env s47)[10]? v36 <|
   C.same (St.env s47)[11]? v37 <|
   C.same (St.env s47)[12]? v38 <|
   C.same (St.env s47)[13]? v39 <|
   C.same (St.env s47)[14]? v40 <|
   C.same (St.env s47)[15]? v41 <|
   C.same (St.env s47)[16]? v42 <|
   C.same (St.env s47)[17]? v43 <|
   C.same (St.env s47)[18]? v44 <|
   C.any (St.env s47)[19]? fun v92 =>
   C.any (St.env s47)[20]? fun v93 =>
   C.any (St.env s47)[21]? fun v94 =>
   C.any (St.env s47)[22]? fun v95 =>
   C.any (St.env s47)[23]? fun v96 =>
   C.any (St.env s47)[24]? fun v97 =>
   C.any (St.env s47)[25]? fun v98 =>
   C.any (St.env s47)[26]? fun v99 =>
   C.any (St.env s47)[27]? fun v100 =>
   C.any (St.env s47)[28]? fun v101 =>
   C.any (St.env s47)[29]? fun v102 =>
   C.any (St.env s47)[30]? fun v103 =>
   C.any (St.env s47)[31]? fun v104 =>
   C.any (St.env s47)[32]? fun v105 =>
   C.same (St.env s47)[33]? (.tup []) <|
   C.fin (St.H s47) (.zsl true))
   (none)
def r80R0 (C : Cb) (d : Nat) (a0 a1 : Int) (v0 : AV) : St → (Ex → St → Ans) → Ans := fun s2 k3 =>
  cnd ((List.length (St.env s2)) == 34)
   (C.same (St.env s2)[0]? (.agg [(.int .i64 a0), (.int .u64 a1)]) <|
   C.same (St.env s2)[1]? v0 <|
   C.same (St.env s2)[2]? (.zsl true) <|
   C.any (St.env s2)[3]? fun v5 =>
   C.int .i64 (St.env s2)[4]? fun x6 =>
   C.same (St.env s2)[5]? (.tup []) <|
   C.any (St.env s2)[6]? fun v7 =>
   C.any (St.env s2)[7]? fun v8 =>
   C.any (St.env s2)[8]? fun v9 =>
   C.any (St.env s2)[9]? fun v10 =>
   C.any (St.env s2)[10]? fun v11 =>
   C.any (St.env s2)[11]? fun v12 =>
   C.any (St.env s2)[12]? fun v13 =>
   C.any (St.env s2)[13]? fun v14 =>
   C.any (St.env s2)[14]? fun v15 =>
   C.any (St.env s2)[15]? fun v16 =>
   C.any (St.env s2)[16]? fun v17 =>
   C.any (St.env s2)[17]? fun v18 =>
   C.any (St.env s2)[18]? fun v19 =>
   C.same (St.env s2)[19]? (.tup []) <|
   C.same (St.env s2)[20]? (.tup []) <|
   C.same (St.env s2)[21]? (.tup []) <|
   C.same (St.env s2)[22]? (.tup []) <|
   C.same (St.env s2)[23]? (.tup []) <|
   C.same (St.env s2)[24]? (.tup []) <|
   C.same (St.env s2)[25]? (.tup []) <|
   C.same (St.env s2)[26]? (.tup []) <|
   C.same (St.env s2)[27]? (.tup []) <|
   C.same (St.env s2)[28]? (.tup []) <|
   C.same (St.env s2)[29]? (.tup []) <|
   C.same (St.env s2)[30]? (.tup []) <|
   C.same (St.env s2)[31]? (.tup []) <|
   C.same (St.env s2)[32]? (.tup []) <|
   C.same (St.env s2)[33]? (.tup []) <|
   cnd (decide (x6 < 64))
   (C.hop (St.H s2) (.fldA 1 (.v v0)) fun v20 h21 =>
   C.hop h21 (.load false 1 (.v v20)) fun v22 h23 =>
   C.int .u64 (some v22) fun x24 =>
   cnd (decide (x6 < 0))
   (none)
   (C.hop h23 (.mkrow E3 1 [(0, (.v (.int .i64 (IntKind.wrap .i64 (bits .and .u64 (Int.fdiv x24 (2 ^ (min (Int.toNat x6) 64))) 1)))))]) fun v25 h26 =>
   C.hop h26 (.app E3 (.v v5) (.v v25)) fun v27 h28 =>
   k3 .normal ⟨[(.agg [(.int .i64 a0), (.int .u64 a1)]), v0, (.zsl true), v27, (.int .i64 (IntKind.wrap .i64 (x6 + 1))), (.tup []), (.int .i64 x6), (.bool true), (.int .i64 x6), (.int .i64 (IntKind.wrap .i64 (x6 + 1))), v5, v20, (.int .u64 x24), (.int .i64 x6), (.int .u64 (Int.fdiv x24 (2 ^ (min (Int.toNat x6) 64)))), (.int .u64 (bits .and .u64 (Int.fdiv x24 (2 ^ (min (Int.toNat x6) 64))) 1)), (.int .i64 (IntKind.wrap .i64 (bits .and .u64 (Int.fdiv x24 (2 ^ (min (Int.toNat x6) 64))) 1))), v25, v27, (.tup []), (.tup []), (.tup []), (.tup []), (.tup []), (.tup []), (.tup []), (.tup []), (.tup []), (.tup []), (.tup []), (.tup []), (.tup []), (.tup []), (.tup [])], h28⟩))
   (k3 (.exit 0) ⟨[(.agg [(.int .i64 a0), (.int .u64 a1)]), v0, (.zsl true), v5, (.int .i64 x6), (.tup []), (.int .i64 x6), (.bool false), v9, v10, v11, v12, v13, v14, v15, v16, v17, v18, v19, (.tup []), (.tup []), (.tup []), (.tup []), (.tup []), (.tup []), (.tup []), (.tup []), (.tup []), (.tup []), (.tup []), (.tup []), (.tup []), (.tup []), (.tup [])], (St.H s2)⟩))
   (none)
def r80X0_0 (C : Cb) (d : Nat) (a0 a1 : Int) (v0 : AV) : St → Ans := fun s29 =>
  cnd ((List.length (St.env s29)) == 34)
   (C.same (St.env s29)[0]? (.agg [(.int .i64 a0), (.int .u64 a1)]) <|
   C.same (St.env s29)[1]? v0 <|
   C.same (St.env s29)[2]? (.zsl true) <|
   C.any (St.env s29)[3]? fun v30 =>
   C.int .i64 (St.env s29)[4]? fun x31 =>
   C.same (St.env s29)[5]? (.tup []) <|
   C.int .i64 (St.env s29)[6]? fun x32 =>
   C.bool (St.env s29)[7]? fun b33 =>
   C.any (St.env s29)[8]? fun v34 =>
   C.any (St.env s29)[9]? fun v35 =>
   C.any (St.env s29)[10]? fun v36 =>
   C.any (St.env s29)[11]? fun v37 =>
   C.any (St.env s29)[12]? fun v38 =>
   C.any (St.env s29)[13]? fun v39 =>
   C.any (St.env s29)[14]? fun v40 =>
   C.any (St.env s29)[15]? fun v41 =>
   C.any (St.env s29)[16]? fun v42 =>
   C.any (St.env s29)[17]? fun v43 =>
   C.any (St.env s29)[18]? fun v44 =>
   C.same (St.env s29)[19]? (.tup []) <|
   C.same (St.env s29)[20]? (.tup []) <|
   C.same (St.env s29)[21]? (.tup []) <|
   C.same (St.env s29)[22]? (.tup []) <|
   C.same (St.env s29)[23]? (.tup []) <|
   C.same (St.env s29)[24]? (.tup []) <|
   C.same (St.env s29)[25]? (.tup []) <|
   C.same (St.env s29)[26]? (.tup []) <|
   C.same (St.env s29)[27]? (.tup []) <|
   C.same (St.env s29)[28]? (.tup []) <|
   C.same (St.env s29)[29]? (.tup []) <|
   C.same (St.env s29)[30]? (.tup []) <|
   C.same (St.env s29)[31]? (.tup []) <|
   C.same (St.env s29)[32]? (.tup []) <|
   C.same (St.env s29)[33]? (.tup []) <|
   C.iter (r80R1 C d a0 a1 v0 x31 x32 b33 v34 v35 v36 v37 v38 v39 v40 v41 v42 v43 v44) 1000000000000000000 ⟨[(.agg [(.int .i64 a0), (.int .u64 a1)]), v0, (.zsl true), v30, (.int .i64 x31), (.int .i64 0), (.int .i64 x32), (.bool b33), v34, v35, v36, v37, v38, v39, v40, v41, v42, v43, v44, (.tup []), (.tup []), (.tup []), (.tup []), (.tup []), (.tup []), (.tup []), (.tup []), (.tup []), (.tup []), (.tup []), (.tup []), (.tup []), (.tup []), (.tup [])], (St.H s29)⟩ [2] [r80X1_0 C d a0 a1 v0 x31 x32 b33 v34 v35 v36 v37 v38 v39 v40 v41 v42 v43 v44] (r80E1 C d a0 a1 v0 x31 x32 b33 v34 v35 v36 v37 v38 v39 v40 v41 v42 v43 v44))
   (none)
def r80E0 (C : Cb) (d : Nat) (a0 a1 : Int) (v0 : AV) : St → Ans := fun s4 =>
  cnd ((List.length (St.env s4)) == 34)
   (C.same (St.env s4)[0]? (.agg [(.int .i64 a0), (.int .u64 a1)]) <|
   C.same (St.env s4)[1]? v0 <|
   C.same (St.env s4)[2]? (.zsl true) <|
   C.any (St.env s4)[3]? fun v106 =>
   C.int .i64 (St.env s4)[4]? fun x107 =>
   C.same (St.env s4)[5]? (.tup []) <|
   C.any (St.env s4)[6]? fun v108 =>
   C.any (St.env s4)[7]? fun v109 =>
   C.any (St.env s4)[8]? fun v110 =>
   C.any (St.env s4)[9]? fun v111 =>
   C.any (St.env s4)[10]? fun v112 =>
   C.any (St.env s4)[11]? fun v113 =>
   C.any (St.env s4)[12]? fun v114 =>
   C.any (St.env s4)[13]? fun v115 =>
   C.any (St.env s4)[14]? fun v116 =>
   C.any (St.env s4)[15]? fun v117 =>
   C.any (St.env s4)[16]? fun v118 =>
   C.any (St.env s4)[17]? fun v119 =>
   C.any (St.env s4)[18]? fun v120 =>
   C.same (St.env s4)[19]? (.tup []) <|
   C.same (St.env s4)[20]? (.tup []) <|
   C.same (St.env s4)[21]? (.tup []) <|
   C.same (St.env s4)[22]? (.tup []) <|
   C.same (St.env s4)[23]? (.tup []) <|
   C.same (St.env s4)[24]? (.tup []) <|
   C.same (St.env s4)[25]? (.tup []) <|
   C.same (St.env s4)[26]? (.tup []) <|
   C.same (St.env s4)[27]? (.tup []) <|
   C.same (St.env s4)[28]? (.tup []) <|
   C.same (St.env s4)[29]? (.tup []) <|
   C.same (St.env s4)[30]? (.tup []) <|
   C.same (St.env s4)[31]? (.tup []) <|
   C.same (St.env s4)[32]? (.tup []) <|
   C.same (St.env s4)[33]? (.tup []) <|
   C.fin (St.H s4) (.zsl true))
   (none)
/-- apogee/apogeeref01.bits -/
theorem r80 (C : Cb) (d : Nat) (a0 a1 : Int) : xcall C M unr d 80 [(.agg [(.int .i64 a0), (.int .u64 a1)])] =
  C.hop [] (.box E82 (.v (.agg [(.int .i64 a0), (.int .u64 a1)]))) fun v0 h1 =>
  C.iter (r80R0 C d a0 a1 v0) 1000000000000000000 ⟨[(.agg [(.int .i64 a0), (.int .u64 a1)]), v0, (.zsl true), (.zsl true), (.int .i64 0), (.tup []), (.tup []), (.tup []), (.tup []), (.tup []), (.tup []), (.tup []), (.tup []), (.tup []), (.tup []), (.tup []), (.tup []), (.tup []), (.tup []), (.tup []), (.tup []), (.tup []), (.tup []), (.tup []), (.tup []), (.tup []), (.tup []), (.tup []), (.tup []), (.tup []), (.tup []), (.tup []), (.tup []), (.tup [])], h1⟩ [0] [r80X0_0 C d a0 a1 v0] (r80E0 C d a0 a1 v0) := by kernel_rfl
def r81R0 (C : Cb) (d : Nat) (a0 : List AV) (v0 v2 : AV) : St → (Ex → St → Ans) → Ans := fun s6 k7 =>
  cnd ((List.length (St.env s6)) == 36)
   (C.same (St.env s6)[0]? (.lst a0) <|
   C.same (St.env s6)[1]? (.tup []) <|
   C.same (St.env s6)[2]? v0 <|
   C.same (St.env s6)[3]? v2 <|
   C.int .u64 (St.env s6)[4]? fun x9 =>
   C.int .i64 (St.env s6)[5]? fun x10 =>
   C.same (St.env s6)[6]? (.agg [(.int .i64 0), (.int .u64 0)]) <|
   C.any (St.env s6)[7]? fun v11 =>
   C.any (St.env s6)[8]? fun v12 =>
   C.any (St.env s6)[9]? fun v13 =>
   C.any (St.env s6)[10]? fun v14 =>
   C.any (St.env s6)[11]? fun v15 =>
   C.any (St.env s6)[12]? fun v16 =>
   C.any (St.env s6)[13]? fun v17 =>
   C.any (St.env s6)[14]? fun v18 =>
   C.any (St.env s6)[15]? fun v19 =>
   C.any (St.env s6)[16]? fun v20 =>
   C.any (St.env s6)[17]? fun v21 =>
   C.any (St.env s6)[18]? fun v22 =>
   C.any (St.env s6)[19]? fun v23 =>
   C.any (St.env s6)[20]? fun v24 =>
   C.any (St.env s6)[21]? fun v25 =>
   C.any (St.env s6)[22]? fun v26 =>
   C.any (St.env s6)[23]? fun v27 =>
   C.any (St.env s6)[24]? fun v28 =>
   C.any (St.env s6)[25]? fun v29 =>
   C.any (St.env s6)[26]? fun v30 =>
   C.any (St.env s6)[27]? fun v31 =>
   C.any (St.env s6)[28]? fun v32 =>
   C.any (St.env s6)[29]? fun v33 =>
   C.any (St.env s6)[30]? fun v34 =>
   C.any (St.env s6)[31]? fun v35 =>
   C.same (St.env s6)[32]? (.tup []) <|
   C.same (St.env s6)[33]? (.tup []) <|
   C.same (St.env s6)[34]? (.tup []) <|
   C.same (St.env s6)[35]? (.tup []) <|
   cnd (decide (x10 < 64))
   (C.hop (St.H s6) (.ixAS .any 1 (.v (.lst a0)) (.v (.int .i64 x10))) fun v36 h37 =>
   C.hop h37 (.load false 1 (.v v36)) fun v38 h39 =>
   C.int .i64 (some v38) fun x40 =>
   cnd (x40 == 1)
   (C.hop h39 (.fldA 1 (.v v2)) fun v41 h42 =>
   C.hop h42 (.load false 1 (.v v41)) fun v43 h44 =>
   C.int .u64 (some v43) fun x45 =>
   cnd (decide (x10 < 0))
   (none)
   (C.hop h44 (.fldA 1 (.v v2)) fun v46 h47 =>
   C.hop h47 (.store 1 (.v v46) (.v (.int .u64 (bits .or .u64 x45 (IntKind.wrap .u64 (1 * (2 ^ (min (Int.toNat x10) 64)))))))) fun v48 h49 =>
   C.hop h49 (.ixAS .any 1 (.v (.lst a0)) (.v (.int .i64 (IntKind.wrap .i64 (64 + x10))))) fun v50 h51 =>
   C.hop h51 (.load false 1 (.v v50)) fun v52 h53 =>
   C.int .i64 (some v52) fun x54 =>
   cnd (x54 == 1)
   (cnd (decide (x10 < 0))
   (none)
   (k7 .normal ⟨[(.lst a0), (.tup []), v0, v2, (.int .u64 (bits .or .u64 x9 (IntKind.wrap .u64 (1 * (2 ^ (min (Int.toNat x10) 64)))))), (.int .i64 (IntKind.wrap .i64 (x10 + 1))), (.agg [(.int .i64 0), (.int .u64 0)]), (.int .i64 x10), (.bool true), (.int .i64 x10), (.int .i64 (IntKind.wrap .i64 (x10 + 1))), (.lst a0), (.int .i64 x10), v36, (.int .i64 x40), (.bool true), v41, (.int .u64 x45), (.int .i64 x10), (.int .u64 (IntKind.wrap .u64 (1 * (2 ^ (min (Int.toNat x10) 64))))), (.int .u64 (bits .or .u64 x45 (IntKind.wrap .u64 (1 * (2 ^ (min (Int.toNat x10) 64)))))), v46, (.lst a0), (.int .i64 x10), (.int .i64 (IntKind.wrap .i64 (64 + x10))), v50, (.int .i64 x54), (.bool true), (.int .u64 x9), (.int .i64 x10), (.int .u64 (IntKind.wrap .u64 (1 * (2 ^ (min (Int.toNat x10) 64))))), (.int .u64 (bits .or .u64 x9 (IntKind.wrap .u64 (1 * (2 ^ (min (Int.toNat x10) 64)))))), (.tup []), (.tup []), (.tup []), (.tup [])], h53⟩))
   (k7 .normal ⟨[(.lst a0), (.tup []), v0, v2, (.int .u64 x9), (.int .i64 (IntKind.wrap .i64 (x10 + 1))), (.agg [(.int .i64 0), (.int .u64 0)]), (.int .i64 x10), (.bool true), (.int .i64 x10), (.int .i64 (IntKind.wrap .i64 (x10 + 1))), (.lst a0), (.int .i64 x10), v36, (.int .i64 x40), (.bool true), v41, (.int .u64 x45), (.int .i64 x10), (.int .u64 (IntKind.wrap .u64 (1 * (2 ^ (min (Int.toNat x10) 64))))), (.int .u64 (bits .or .u64 x45 (IntKind.wrap .u64 (1 * (2 ^ (min (Int.toNat x10) 64)))))), v46, (.lst a0), (.int .i64 x10), (.int .i64 (IntKind.wrap .i64 (64 + x10))), v50, (.int .i64 x54), (.bool false), v32, v33, v34, v35, (.tup []), (.tup []), (.tup []), (.tup [])], h53⟩)))
   (C.hop h39 (.ixAS .any 1 (.v (.lst a0)) (.v (.int .i64 (IntKind.wrap .i64 (64 + x10))))) fun v55 h56 =>
   C.hop h56 (.load false 1 (.v v55)) fun v57 h58 =>
   C.int .i64 (some v57) fun x59 =>
   cnd (x59 == 1)
   (cnd (decide (x10 < 0))
   (none)
   (k7 .normal ⟨[(.lst a0), (.tup []), v0, v2, (.int .u64 (bits .or .u64 x9 (IntKind.wrap .u64 (1 * (2 ^ (min (Int.toNat x10) 64)))))), (.int .i64 (IntKind.wrap .i64 (x10 + 1))), (.agg [(.int .i64 0), (.int .u64 0)]), (.int .i64 x10), (.bool true), (.int .i64 x10), (.int .i64 (IntKind.wrap .i64 (x10 + 1))), (.lst a0), (.int .i64 x10), v36, (.int .i64 x40), (.bool false), v20, v21, v22, v23, v24, v25, (.lst a0), (.int .i64 x10), (.int .i64 (IntKind.wrap .i64 (64 + x10))), v55, (.int .i64 x59), (.bool true), (.int .u64 x9), (.int .i64 x10), (.int .u64 (IntKind.wrap .u64 (1 * (2 ^ (min (Int.toNat x10) 64))))), (.int .u64 (bits .or .u64 x9 (IntKind.wrap .u64 (1 * (2 ^ (min (Int.toNat x10) 64)))))), (.tup []), (.tup []), (.tup []), (.tup [])], h58⟩))
   (k7 .normal ⟨[(.lst a0), (.tup []), v0, v2, (.int .u64 x9), (.int .i64 (IntKind.wrap .i64 (x10 + 1))), (.agg [(.int .i64 0), (.int .u64 0)]), (.int .i64 x10), (.bool true), (.int .i64 x10), (.int .i64 (IntKind.wrap .i64 (x10 + 1))), (.lst a0), (.int .i64 x10), v36, (.int .i64 x40), (.bool false), v20, v21, v22, v23, v24, v25, (.lst a0), (.int .i64 x10), (.int .i64 (IntKind.wrap .i64 (64 + x10))), v55, (.int .i64 x59), (.bool false), v32, v33, v34, v35, (.tup []), (.tup []), (.tup []), (.tup [])], h58⟩)))
   (k7 (.exit 0) ⟨[(.lst a0), (.tup []), v0, v2, (.int .u64 x9), (.int .i64 x10), (.agg [(.int .i64 0), (.int .u64 0)]), (.int .i64 x10), (.bool false), v13, v14, v15, v16, v17, v18, v19, v20, v21, v22, v23, v24, v25, v26, v27, v28, v29, v30, v31, v32, v33, v34, v35, (.tup []), (.tup []), (.tup []), (.tup [])], (St.H s6)⟩))
   (none)
def r81X0_0 (C : Cb) (d : Nat) (a0 : List AV) (v0 v2 : AV) : St → Ans := fun s60 =>
  cnd ((List.length (St.env s60)) == 36)
   (C.same (St.env s60)[0]? (.lst a0) <|
   C.same (St.env s60)[1]? (.tup []) <|
   C.same (St.env s60)[2]? v0 <|
   C.same (St.env s60)[3]? v2 <|
   C.int .u64 (St.env s60)[4]? fun x61 =>
   C.int .i64 (St.env s60)[5]? fun x62 =>
   C.same (St.env s60)[6]? (.agg [(.int .i64 0), (.int .u64 0)]) <|
   C.int .i64 (St.env s60)[7]? fun x63 =>
   C.bool (St.env s60)[8]? fun b64 =>
   C.any (St.env s60)[9]? fun v65 =>
   C.any (St.env s60)[10]? fun v66 =>
   C.any (St.env s60)[11]? fun v67 =>
   C.any (St.env s60)[12]? fun v68 =>
   C.any (St.env s60)[13]? fun v69 =>
   C.any (St.env s60)[14]? fun v70 =>
   C.any (St.env s60)[15]? fun v71 =>
   C.any (St.env s60)[16]? fun v72 =>
   C.any (St.env s60)[17]? fun v73 =>
   C.any (St.env s60)[18]? fun v74 =>
   C.any (St.env s60)[19]? fun v75 =>
   C.any (St.env s60)[20]? fun v76 =>
   C.any (St.env s60)[21]? fun v77 =>
   C.any (St.env s60)[22]? fun v78 =>
   C.any (St.env s60)[23]? fun v79 =>
   C.any (St.env s60)[24]? fun v80 =>
   C.any (St.env s60)[25]? fun v81 =>
   C.any (St.env s60)[26]? fun v82 =>
   C.any (St.env s60)[27]? fun v83 =>
   C.any (St.env s60)[28]? fun v84 =>
   C.any (St.env s60)[29]? fun v85 =>
   C.any (St.env s60)[30]? fun v86 =>
   C.any (St.env s60)[31]? fun v87 =>
   C.same (St.env s60)[32]? (.tup []) <|
   C.same (St.env s60)[33]? (.tup []) <|
   C.same (St.env s60)[34]? (.tup []) <|
   C.same (St.env s60)[35]? (.tup []) <|
   C.hop (St.H s60) (.fldA 0 (.v v2)) fun v88 h89 =>
   C.hop h89 (.store 1 (.v v88) (.v (.int .i64 (IntKind.wrap .i64 x61)))) fun v90 h91 =>
   C.hop h91 (.load true 2 (.v v2)) fun v92 h93 =>
   C.agg 2 (some v92) fun l94 =>
   C.int .i64 l94[0]? fun x95 =>
   C.int .u64 l94[1]? fun x96 =>
   C.hop h93 (.store 2 (.v v0) (.v (.agg [(.int .i64 x95), (.int .u64 x96)]))) fun v97 h98 =>
   C.hop h98 (.load true 2 (.v v0)) fun v99 h100 =>
   C.fin h98 v99)
   (none)
def r81E0 (C : Cb) (d : Nat) (a0 : List AV) (v0 v2 : AV) : St → Ans := fun s8 =>
  cnd ((List.length (St.env s8)) == 36)
   (C.same (St.env s8)[0]? (.lst a0) <|
   C.same (St.env s8)[1]? (.tup []) <|
   C.same (St.env s8)[2]? v0 <|
   C.same (St.env s8)[3]? v2 <|
   C.int .u64 (St.env s8)[4]? fun x101 =>
   C.int .i64 (St.env s8)[5]? fun x102 =>
   C.same (St.env s8)[6]? (.agg [(.int .i64 0), (.int .u64 0)]) <|
   C.any (St.env s8)[7]? fun v103 =>
   C.any (St.env s8)[8]? fun v104 =>
   C.any (St.env s8)[9]? fun v105 =>
   C.any (St.env s8)[10]? fun v106 =>
   C.any (St.env s8)[11]? fun v107 =>
   C.any (St.env s8)[12]? fun v108 =>
   C.any (St.env s8)[13]? fun v109 =>
   C.any (St.env s8)[14]? fun v110 =>
   C.any (St.env s8)[15]? fun v111 =>
   C.any (St.env s8)[16]? fun v112 =>
   C.any (St.env s8)[17]? fun v113 =>
   C.any (St.env s8)[18]? fun v114 =>
   C.any (St.env s8)[19]? fun v115 =>
   C.any (St.env s8)[20]? fun v116 =>
   C.any (St.env s8)[21]? fun v117 =>
   C.any (St.env s8)[22]? fun v118 =>
   C.any (St.env s8)[23]? fun v119 =>
   C.any (St.env s8)[24]? fun v120 =>
   C.any (St.env s8)[25]? fun v121 =>
   C.any (St.env s8)[26]? fun v122 =>
   C.any (St.env s8)[27]? fun v123 =>
   C.any (St.env s8)[28]? fun v124 =>
   C.any (St.env s8)[29]? fun v125 =>
   C.any (St.env s8)[30]? fun v126 =>
   C.any (St.env s8)[31]? fun v127 =>
   C.same (St.env s8)[32]? (.tup []) <|
   C.same (St.env s8)[33]? (.tup []) <|
   C.same (St.env s8)[34]? (.tup []) <|
   C.same (St.env s8)[35]? (.tup []) <|
   C.hop (St.H s8) (.load true 2 (.v v0)) fun v128 h129 =>
   C.fin (St.H s8) v128)
   (none)
/-- apogee/apogeeref01.value -/
theorem r81 (C : Cb) (d : Nat) (a0 : List AV) : xcall C M unr d 81 [(.lst a0)] =
  C.hop [] (.alloc E82) fun v0 h1 =>
  C.hop h1 (.alloc E82) fun v2 h3 =>
  C.hop h3 (.store 2 (.v v2) (.v (.agg [(.int .i64 0), (.int .u64 0)]))) fun v4 h5 =>
  C.iter (r81R0 C d a0 v0 v2) 1000000000000000000 ⟨[(.lst a0), (.tup []), v0, v2, (.int .u64 0), (.int .i64 0), (.agg [(.int .i64 0), (.int .u64 0)]), (.tup []), (.tup []), (.tup []), (.tup []), (.tup []), (.tup []), (.tup []), (.tup []), (.tup []), (.tup []), (.tup []), (.tup []), (.tup []), (.tup []), (.tup []), (.tup []), (.tup []), (.tup []), (.tup []), (.tup []), (.tup []), (.tup []), (.tup []), (.tup []), (.tup []), (.tup []), (.tup []), (.tup []), (.tup [])], h5⟩ [0] [r81X0_0 C d a0 v0 v2] (r81E0 C d a0 v0 v2) := by kernel_rfl
end Go.Proofs.Ytjblhppbjebagaa.AE

namespace Go.Proofs.Ytjblhppbjebagaa.AE
set_option linter.unusedVariables false
set_option linter.unusedSimpArgs false
set_option linter.constructorNameAsVariable false
open Go
set_option maxRecDepth 100000
noncomputable def X69_0_0 (d : Nat) (a1 : Int) (v0 v5 v9 : AV) (H : Heap) : Ans :=
  cnd (decide (a1 < 0))
   (C0.hop H (.load true 2 (.v v9)) fun v94 h95 =>
   C0.agg 2 (some v94) fun l96 =>
   C0.int .i64 l96[0]? fun x97 =>
   C0.int .u64 l96[1]? fun x98 =>
   C0.hop h95 (.load true 2 (.v v5)) fun v99 h100 =>
   C0.agg 2 (some v99) fun l101 =>
   C0.int .i64 l101[0]? fun x102 =>
   C0.int .u64 l101[1]? fun x103 =>
   C0.agg 2 (pcall M d 78 [(.agg [(.int .i64 x102), (.int .u64 x103)])]) fun l104 =>
   C0.int .i64 l104[0]? fun x105 =>
   C0.int .u64 l104[1]? fun x106 =>
   C0.agg 2 (pcall M d 77 [(.agg [(.int .i64 x97), (.int .u64 x98)]), (.agg [(.int .i64 x105), (.int .u64 x106)])]) fun l107 =>
   C0.int .i64 l107[0]? fun x108 =>
   C0.int .u64 l107[1]? fun x109 =>
   C0.hop h100 (.store 2 (.v v9) (.v (.agg [(.int .i64 x108), (.int .u64 x109)]))) fun v110 h111 =>
   C0.hop h111 (.load true 2 (.v v9)) fun v112 h113 =>
   C0.agg 2 (some v112) fun l114 =>
   C0.int .i64 l114[0]? fun x115 =>
   C0.int .u64 l114[1]? fun x116 =>
   C0.hop h113 (.store 2 (.v v0) (.v (.agg [(.int .i64 x115), (.int .u64 x116)]))) fun v117 h118 =>
   C0.hop h118 (.load true 2 (.v v0)) fun v119 h120 =>
   C0.fin h118 v119)
   (C0.hop H (.load true 2 (.v v9)) fun v121 h122 =>
   C0.agg 2 (some v121) fun l123 =>
   C0.int .i64 l123[0]? fun x124 =>
   C0.int .u64 l123[1]? fun x125 =>
   C0.hop h122 (.store 2 (.v v0) (.v (.agg [(.int .i64 x124), (.int .u64 x125)]))) fun v126 h127 =>
   C0.hop h127 (.load true 2 (.v v0)) fun v128 h129 =>
   C0.fin h127 v128)
theorem X69_0_0_ok (d : Nat) (a0 a1 : Int) (v0 : AV) (x3 x4 : Int) (v5 v9 : AV) (x78 x79 : Int) (b80 : Bool) (v81 v82 v83 v84 v85 v86 v87 v88 v89 v90 v91 v92 v93 : AV) (H : Heap) : r69X0_0 C0 d a0 a1 v0 x3 x4 v5 v9 ⟨[(.int .i64 a0), (.int .i64 a1), (.tup []), (.tup []), v0, v5, v9, (.int .u64 (IntKind.wrap .u64 a1)), (.int .i64 x78), (.int .i64 a0), (.agg [(.int .i64 x3), (.int .u64 x4)]), (.agg [(.int .i64 0), (.int .u64 0)]), (.int .i64 a1), (.int .u64 (IntKind.wrap .u64 a1)), (.int .i64 x79), (.bool b80), v81, v82, v83, v84, v85, v86, v87, v88, v89, v90, v91, v92, v93, (.tup []), (.tup []), (.tup []), (.tup []), (.tup []), (.tup []), (.tup [])], H⟩ = X69_0_0 d a1 v0 v5 v9 H := by
  unfold r69X0_0; refine Eq.trans (pl_len (by rfl)) ?_; (iterate 8 (refine Eq.trans (pl_same (by rfl)) ?_)); refine Eq.trans (pl_int (by rfl)) ?_; (iterate 5 (refine Eq.trans (pl_same (by rfl)) ?_)); refine Eq.trans (pl_int (by rfl)) ?_; refine Eq.trans (pl_bool (by rfl)) ?_; (iterate 13 (refine Eq.trans (pl_any (by rfl)) ?_)); (iterate 7 (refine Eq.trans (pl_same (by rfl)) ?_))
  rfl
noncomputable def E69_0 (d : Nat) (a1 : Int) (v0 v5 v9 : AV) (H : Heap) : Ans :=
  C0.hop H (.load true 2 (.v v0)) fun v146 h147 =>
   C0.fin H v146
theorem E69_0_ok (d : Nat) (a0 a1 : Int) (v0 : AV) (x3 x4 : Int) (v5 v9 : AV) (x130 : Int) (v131 v132 v133 v134 v135 v136 v137 v138 v139 v140 v141 v142 v143 v144 v145 : AV) (H : Heap) : r69E0 C0 d a0 a1 v0 x3 x4 v5 v9 ⟨[(.int .i64 a0), (.int .i64 a1), (.tup []), (.tup []), v0, v5, v9, (.int .u64 (IntKind.wrap .u64 a1)), (.int .i64 x130), (.int .i64 a0), (.agg [(.int .i64 x3), (.int .u64 x4)]), (.agg [(.int .i64 0), (.int .u64 0)]), (.int .i64 a1), (.int .u64 (IntKind.wrap .u64 a1)), v131, v132, v133, v134, v135, v136, v137, v138, v139, v140, v141, v142, v143, v144, v145, (.tup []), (.tup []), (.tup []), (.tup []), (.tup []), (.tup []), (.tup [])], H⟩ = E69_0 d a1 v0 v5 v9 H := by
  unfold r69E0; refine Eq.trans (pl_len (by rfl)) ?_; (iterate 8 (refine Eq.trans (pl_same (by rfl)) ?_)); refine Eq.trans (pl_int (by rfl)) ?_; (iterate 5 (refine Eq.trans (pl_same (by rfl)) ?_)); (iterate 15 (refine Eq.trans (pl_any (by rfl)) ?_)); (iterate 7 (refine Eq.trans (pl_same (by rfl)) ?_))
  rfl
noncomputable def L69_0 (d : Nat) (a1 : Int) (v0 v5 v9 : AV) : Nat → Int → Heap → Ans
  | 0, _, _ => none
  | n + 1, x16, H =>
  cnd (decide (x16 < 64))
   (cnd (decide (x16 < 0))
   (none)
   (cnd ((bits .and .u64 (Int.fdiv (IntKind.wrap .u64 a1) (2 ^ (min (Int.toNat x16) 64))) 1) == 1)
   (C0.hop H (.load true 2 (.v v9)) fun v32 h33 =>
   C0.agg 2 (some v32) fun l34 =>
   C0.int .i64 l34[0]? fun x35 =>
   C0.int .u64 l34[1]? fun x36 =>
   C0.hop h33 (.load true 2 (.v v5)) fun v37 h38 =>
   C0.agg 2 (some v37) fun l39 =>
   C0.int .i64 l39[0]? fun x40 =>
   C0.int .u64 l39[1]? fun x41 =>
   C0.agg 2 (pcall M d 77 [(.agg [(.int .i64 x35), (.int .u64 x36)]), (.agg [(.int .i64 x40), (.int .u64 x41)])]) fun l42 =>
   C0.int .i64 l42[0]? fun x43 =>
   C0.int .u64 l42[1]? fun x44 =>
   C0.hop h38 (.store 2 (.v v9) (.v (.agg [(.int .i64 x43), (.int .u64 x44)]))) fun v45 h46 =>
   C0.hop h46 (.load true 2 (.v v5)) fun v47 h48 =>
   C0.agg 2 (some v47) fun l49 =>
   C0.int .i64 l49[0]? fun x50 =>
   C0.int .u64 l49[1]? fun x51 =>
   C0.hop h48 (.load true 2 (.v v5)) fun v52 h53 =>
   C0.agg 2 (some v52) fun l54 =>
   C0.int .i64 l54[0]? fun x55 =>
   C0.int .u64 l54[1]? fun x56 =>
   C0.agg 2 (pcall M d 77 [(.agg [(.int .i64 x50), (.int .u64 x51)]), (.agg [(.int .i64 x55), (.int .u64 x56)])]) fun l57 =>
   C0.int .i64 l57[0]? fun x58 =>
   C0.int .u64 l57[1]? fun x59 =>
   C0.hop h53 (.store 2 (.v v5) (.v (.agg [(.int .i64 x58), (.int .u64 x59)]))) fun v60 h61 =>
   L69_0 d a1 v0 v5 v9 n (IntKind.wrap .i64 (x16 + 1)) h61)
   (C0.hop H (.load true 2 (.v v5)) fun v62 h63 =>
   C0.agg 2 (some v62) fun l64 =>
   C0.int .i64 l64[0]? fun x65 =>
   C0.int .u64 l64[1]? fun x66 =>
   C0.hop h63 (.load true 2 (.v v5)) fun v67 h68 =>
   C0.agg 2 (some v67) fun l69 =>
   C0.int .i64 l69[0]? fun x70 =>
   C0.int .u64 l69[1]? fun x71 =>
   C0.agg 2 (pcall M d 77 [(.agg [(.int .i64 x65), (.int .u64 x66)]), (.agg [(.int .i64 x70), (.int .u64 x71)])]) fun l72 =>
   C0.int .i64 l72[0]? fun x73 =>
   C0.int .u64 l72[1]? fun x74 =>
   C0.hop h68 (.store 2 (.v v5) (.v (.agg [(.int .i64 x73), (.int .u64 x74)]))) fun v75 h76 =>
   L69_0 d a1 v0 v5 v9 n (IntKind.wrap .i64 (x16 + 1)) h76)))
   (X69_0_0 d a1 v0 v5 v9 H)
theorem it69_0 (d : Nat) (a0 a1 : Int) (v0 : AV) (x3 x4 : Int) (v5 v9 : AV)   : ∀ (n : Nat) (x16 : Int) (v17 v18 v19 v20 v21 v22 v23 v24 v25 v26 v27 v28 v29 v30 v31 : AV) (H : Heap), C0.iter (r69R0 C0 d a0 a1 v0 x3 x4 v5 v9) n ⟨[(.int .i64 a0), (.int .i64 a1), (.tup []), (.tup []), v0, v5, v9, (.int .u64 (IntKind.wrap .u64 a1)), (.int .i64 x16), (.int .i64 a0), (.agg [(.int .i64 x3), (.int .u64 x4)]), (.agg [(.int .i64 0), (.int .u64 0)]), (.int .i64 a1), (.int .u64 (IntKind.wrap .u64 a1)), v17, v18, v19, v20, v21, v22, v23, v24, v25, v26, v27, v28, v29, v30, v31, (.tup []), (.tup []), (.tup []), (.tup []), (.tup []), (.tup []), (.tup [])], H⟩ [0] [r69X0_0 C0 d a0 a1 v0 x3 x4 v5 v9] (r69E0 C0 d a0 a1 v0 x3 x4 v5 v9) = L69_0 d a1 v0 v5 v9 n x16 H := by
  generalize hR : r69R0 C0 d a0 a1 v0 x3 x4 v5 v9 = R
  intro n
  induction n with
  | zero => intros; rfl
  | succ n ih =>
    intro x16 v17 v18 v19 v20 v21 v22 v23 v24 v25 v26 v27 v28 v29 v30 v31 H
    simp only [it_ret] at ih
    rw [it_ret, xiter_s]
    refine Eq.trans (congrFun (congrFun hR.symm _) _) ?_
    unfold r69R0
    refine Eq.trans (pl_len (by rfl)) ?_; (iterate 8 (refine Eq.trans (pl_same (by rfl)) ?_)); refine Eq.trans (pl_int (by rfl)) ?_; (iterate 5 (refine Eq.trans (pl_same (by rfl)) ?_)); (iterate 15 (refine Eq.trans (pl_any (by rfl)) ?_)); (iterate 7 (refine Eq.trans (pl_same (by rfl)) ?_))
    simp only [L69_0, kIter_n, kIter_x, kIter_r, kOut_x, kOut_r, xgo_hit, xgo_miss, ih, X69_0_0_ok d a0 a1 v0 x3 x4 v5 v9  , E69_0_ok d a0 a1 v0 x3 x4 v5 v9  ]
/-- apogee/apogeeref01.Mul -/
theorem q69 (d : Nat) (a0 a1 : Int) : xcall C0 M unr d 69 [(.int .i64 a0), (.int .i64 a1)] =
  C0.hop [] (.alloc E82) fun v0 h1 =>
  C0.agg 2 (pcall M d 76 [(.int .i64 a0)]) fun l2 =>
  C0.int .i64 l2[0]? fun x3 =>
  C0.int .u64 l2[1]? fun x4 =>
  C0.hop h1 (.alloc E82) fun v5 h6 =>
  C0.hop h6 (.store 2 (.v v5) (.v (.agg [(.int .i64 x3), (.int .u64 x4)]))) fun v7 h8 =>
  C0.hop h8 (.alloc E82) fun v9 h10 =>
  C0.hop h10 (.store 2 (.v v9) (.v (.agg [(.int .i64 0), (.int .u64 0)]))) fun v11 h12 =>
  L69_0 d a1 v0 v5 v9 1000000000000000000 0 h12 := (r69 C0 d a0 a1).trans (by simp only [it69_0])
noncomputable def X77_0_0 (d : Nat) (v4 v11 v17 v62 : AV) (H : Heap) : Ans :=
  C0.snp H [v62] fun l88 b89 =>
   C0.agg 2 (pcall M d 81 l88) fun l90 =>
   C0.int .i64 l90[0]? fun x91 =>
   C0.int .u64 l90[1]? fun x92 =>
   cnd (b89 || true)
   (C0.hop H (.store 2 (.v v4) (.v (.agg [(.int .i64 x91), (.int .u64 x92)]))) fun v93 h94 =>
   C0.hop h94 (.load true 2 (.v v4)) fun v95 h96 =>
   C0.fin h94 v95)
   (none)
theorem X77_0_0_ok (d : Nat) (a0 a1 a2 a3 : Int) (v0 v2 v4 : AV) (x9 x10 : Int) (v11 : AV) (x15 x16 : Int) (v17 v62 : AV) (x63 x64 : Int) (v65 : AV) (x66 : Int) (b67 : Bool) (v68 v69 v70 v71 v72 v73 v74 v75 v76 v77 v78 v79 v80 v81 v82 v83 v84 v85 v86 v87 : AV) (H : Heap) : r77X0_0 C0 d a0 a1 a2 a3 v0 v2 v4 x9 x10 v11 x15 x16 v17 ⟨[(.agg [(.int .i64 a0), (.int .u64 a1)]), (.agg [(.int .i64 a2), (.int .u64 a3)]), v0, v2, v4, v11, v17, v62, (.int .i64 x63), (.int .i64 x64), v65, (.agg [(.int .i64 x9), (.int .u64 x10)]), v11, (.agg [(.int .i64 x15), (.int .u64 x16)]), v17, (.int .i64 x66), (.bool b67), v68, v69, v70, v71, v72, v73, v74, v75, v76, v77, v78, v79, v80, v81, v82, v83, v84, v85, v86, v87, (.tup []), (.tup [])], H⟩ = X77_0_0 d v4 v11 v17 v62 H := by
  unfold r77X0_0; refine Eq.trans (pl_len (by rfl)) ?_; (iterate 7 (refine Eq.trans (pl_same (by rfl)) ?_)); refine Eq.trans (pl_any (by rfl)) ?_; (iterate 2 (refine Eq.trans (pl_int (by rfl)) ?_)); refine Eq.trans (pl_any (by rfl)) ?_; (iterate 4 (refine Eq.trans (pl_same (by rfl)) ?_)); refine Eq.trans (pl_int (by rfl)) ?_; refine Eq.trans (pl_bool (by rfl)) ?_; (iterate 20 (refine Eq.trans (pl_any (by rfl)) ?_)); (iterate 2 (refine Eq.trans (pl_same (by rfl)) ?_))
  rfl
noncomputable def E77_0 (d : Nat) (v4 v11 v17 : AV) (H : Heap) : Ans :=
  C0.hop H (.load true 2 (.v v4)) fun v123 h124 =>
   C0.fin H v123
theorem E77_0_ok (d : Nat) (a0 a1 a2 a3 : Int) (v0 v2 v4 : AV) (x9 x10 : Int) (v11 : AV) (x15 x16 : Int) (v17 v97 : AV) (x98 x99 : Int) (v100 v101 v102 v103 v104 v105 v106 v107 v108 v109 v110 v111 v112 v113 v114 v115 v116 v117 v118 v119 v120 v121 v122 : AV) (H : Heap) : r77E0 C0 d a0 a1 a2 a3 v0 v2 v4 x9 x10 v11 x15 x16 v17 ⟨[(.agg [(.int .i64 a0), (.int .u64 a1)]), (.agg [(.int .i64 a2), (.int .u64 a3)]), v0, v2, v4, v11, v17, v97, (.int .i64 x98), (.int .i64 x99), v100, (.agg [(.int .i64 x9), (.int .u64 x10)]), v11, (.agg [(.int .i64 x15), (.int .u64 x16)]), v17, v101, v102, v103, v104, v105, v106, v107, v108, v109, v110, v111, v112, v113, v114, v115, v116, v117, v118, v119, v120, v121, v122, (.tup []), (.tup [])], H⟩ = E77_0 d v4 v11 v17 H := by
  unfold r77E0; refine Eq.trans (pl_len (by rfl)) ?_; (iterate 7 (refine Eq.trans (pl_same (by rfl)) ?_)); refine Eq.trans (pl_any (by rfl)) ?_; (iterate 2 (refine Eq.trans (pl_int (by rfl)) ?_)); refine Eq.trans (pl_any (by rfl)) ?_; (iterate 4 (refine Eq.trans (pl_same (by rfl)) ?_)); (iterate 22 (refine Eq.trans (pl_any (by rfl)) ?_)); (iterate 2 (refine Eq.trans (pl_same (by rfl)) ?_))
  rfl
noncomputable def L77_0 (d : Nat) (v4 v11 v17 : AV) : Nat → AV → Int → Int → Heap → Ans
  | 0, _, _, _, _ => none
  | n + 1, v21, x22, x23, H =>
  cnd (decide (x23 < 128))
   (C0.hop H (.ixAS .any 1 (.v v11) (.v (.int .i64 x23))) fun v47 h48 =>
   C0.hop h48 (.load false 1 (.v v47)) fun v49 h50 =>
   C0.int .i64 (some v49) fun x51 =>
   C0.hop h50 (.ixAS .any 1 (.v v17) (.v (.int .i64 x23))) fun v52 h53 =>
   C0.hop h53 (.load false 1 (.v v52)) fun v54 h55 =>
   C0.int .i64 (some v54) fun x56 =>
   C0.hop h55 (.mkrow E3 1 [(0, (.v (.int .i64 (Int.tmod (IntKind.wrap .i64 ((IntKind.wrap .i64 (x51 + x56)) + x22)) 2))))]) fun v57 h58 =>
   C0.hop h58 (.app E3 (.v v21) (.v v57)) fun v59 h60 =>
   L77_0 d v4 v11 v17 n v59 (IntKind.wrap .i64 (Int.tdiv (IntKind.wrap .i64 ((IntKind.wrap .i64 (x51 + x56)) + x22)) 2)) (IntKind.wrap .i64 (x23 + 1)) h60)
   (X77_0_0 d v4 v11 v17 v21 H)
theorem it77_0 (d : Nat) (a0 a1 a2 a3 : Int) (v0 v2 v4 : AV) (x9 x10 : Int) (v11 : AV) (x15 x16 : Int) (v17 : AV)   : ∀ (n : Nat) (v21 : AV) (x22 x23 : Int) (v24 v25 v26 v27 v28 v29 v30 v31 v32 v33 v34 v35 v36 v37 v38 v39 v40 v41 v42 v43 v44 v45 v46 : AV) (H : Heap), C0.iter (r77R0 C0 d a0 a1 a2 a3 v0 v2 v4 x9 x10 v11 x15 x16 v17) n ⟨[(.agg [(.int .i64 a0), (.int .u64 a1)]), (.agg [(.int .i64 a2), (.int .u64 a3)]), v0, v2, v4, v11, v17, v21, (.int .i64 x22), (.int .i64 x23), v24, (.agg [(.int .i64 x9), (.int .u64 x10)]), v11, (.agg [(.int .i64 x15), (.int .u64 x16)]), v17, v25, v26, v27, v28, v29, v30, v31, v32, v33, v34, v35, v36, v37, v38, v39, v40, v41, v42, v43, v44, v45, v46, (.tup []), (.tup [])], H⟩ [0] [r77X0_0 C0 d a0 a1 a2 a3 v0 v2 v4 x9 x10 v11 x15 x16 v17] (r77E0 C0 d a0 a1 a2 a3 v0 v2 v4 x9 x10 v11 x15 x16 v17) = L77_0 d v4 v11 v17 n v21 x22 x23 H := by
  generalize hR : r77R0 C0 d a0 a1 a2 a3 v0 v2 v4 x9 x10 v11 x15 x16 v17 = R
  intro n
  induction n with
  | zero => intros; rfl
  | succ n ih =>
    intro v21 x22 x23 v24 v25 v26 v27 v28 v29 v30 v31 v32 v33 v34 v35 v36 v37 v38 v39 v40 v41 v42 v43 v44 v45 v46 H
    simp only [it_ret] at ih
    rw [it_ret, xiter_s]
    refine Eq.trans (congrFun (congrFun hR.symm _) _) ?_
    unfold r77R0
    refine Eq.trans (pl_len (by rfl)) ?_; (iterate 7 (refine Eq.trans (pl_same (by rfl)) ?_)); refine Eq.trans (pl_any (by rfl)) ?_; (iterate 2 (refine Eq.trans (pl_int (by rfl)) ?_)); refine Eq.trans (pl_any (by rfl)) ?_; (iterate 4 (refine Eq.trans (pl_same (by rfl)) ?_)); (iterate 22 (refine Eq.trans (pl_any (by rfl)) ?_)); (iterate 2 (refine Eq.trans (pl_same (by rfl)) ?_))
    simp only [L77_0, kIter_n, kIter_x, kIter_r, kOut_x, kOut_r, xgo_hit, xgo_miss, ih, X77_0_0_ok d a0 a1 a2 a3 v0 v2 v4 x9 x10 v11 x15 x16 v17  , E77_0_ok d a0 a1 a2 a3 v0 v2 v4 x9 x10 v11 x15 x16 v17  ]
/-- apogee/apogeeref01.plus -/
theorem q77 (d : Nat) (a0 a1 a2 a3 : Int) : xcall C0 M unr d 77 [(.agg [(.int .i64 a0), (.int .u64 a1)]), (.agg [(.int .i64 a2), (.int .u64 a3)])] =
  C0.hop [] (.box E82 (.v (.agg [(.int .i64 a0), (.int .u64 a1)]))) fun v0 h1 =>
  C0.hop h1 (.box E82 (.v (.agg [(.int .i64 a2), (.int .u64 a3)]))) fun v2 h3 =>
  C0.hop h3 (.alloc E82) fun v4 h5 =>
  C0.hop h5 (.load true 2 (.v v0)) fun v6 h7 =>
  C0.agg 2 (some v6) fun l8 =>
  C0.int .i64 l8[0]? fun x9 =>
  C0.int .u64 l8[1]? fun x10 =>
  C0.any (pcall M d 80 [(.agg [(.int .i64 x9), (.int .u64 x10)])]) fun v11 =>
  C0.hop h7 (.load true 2 (.v v2)) fun v12 h13 =>
  C0.agg 2 (some v12) fun l14 =>
  C0.int .i64 l14[0]? fun x15 =>
  C0.int .u64 l14[1]? fun x16 =>
  C0.any (pcall M d 80 [(.agg [(.int .i64 x15), (.int .u64 x16)])]) fun v17 =>
  L77_0 d v4 v11 v17 1000000000000000000 (.zsl true) 0 0 h13 := (r77 C0 d a0 a1 a2 a3).trans (by simp only [it77_0])
noncomputable def X80_1_0 (d : Nat) (v0 v74 : AV) (H : Heap) : Ans :=
  C0.fin H v74
theorem X80_1_0_ok (d : Nat) (a0 a1 : Int) (v0 : AV) (x31 x32 : Int) (b33 : Bool) (v34 v35 v36 v37 v38 v39 v40 v41 v42 v43 v44 v74 : AV) (x75 x76 : Int) (b77 : Bool) (v78 v79 v80 v81 v82 v83 v84 v85 v86 v87 v88 v89 : AV) (H : Heap) : r80X1_0 C0 d a0 a1 v0 x31 x32 b33 v34 v35 v36 v37 v38 v39 v40 v41 v42 v43 v44 ⟨[(.agg [(.int .i64 a0), (.int .u64 a1)]), v0, (.zsl true), v74, (.int .i64 x31), (.int .i64 x75), (.int .i64 x32), (.bool b33), v34, v35, v36, v37, v38, v39, v40, v41, v42, v43, v44, (.int .i64 x76), (.bool b77), v78, v79, v80, v81, v82, v83, v84, v85, v86, v87, v88, v89, (.tup [])], H⟩ = X80_1_0 d v0 v74 H := by
  unfold r80X1_0; refine Eq.trans (pl_len (by rfl)) ?_; (iterate 3 (refine Eq.trans (pl_same (by rfl)) ?_)); refine Eq.trans (pl_any (by rfl)) ?_; refine Eq.trans (pl_same (by rfl)) ?_; refine Eq.trans (pl_int (by rfl)) ?_; (iterate 13 (refine Eq.trans (pl_same (by rfl)) ?_)); refine Eq.trans (pl_int (by rfl)) ?_; refine Eq.trans (pl_bool (by rfl)) ?_; (iterate 12 (refine Eq.trans (pl_any (by rfl)) ?_)); refine Eq.trans (pl_same (by rfl)) ?_
  rfl
noncomputable def E80_1 (d : Nat) (v0 : AV) (H : Heap) : Ans :=
  C0.fin H (.zsl true)
theorem E80_1_ok (d : Nat) (a0 a1 : Int) (v0 : AV) (x31 x32 : Int) (b33 : Bool) (v34 v35 v36 v37 v38 v39 v40 v41 v42 v43 v44 v90 : AV) (x91 : Int) (v92 v93 v94 v95 v96 v97 v98 v99 v100 v101 v102 v103 v104 v105 : AV) (H : Heap) : r80E1 C0 d a0 a1 v0 x31 x32 b33 v34 v35 v36 v37 v38 v39 v40 v41 v42 v43 v44 ⟨[(.agg [(.int .i64 a0), (.int .u64 a1)]), v0, (.zsl true), v90, (.int .i64 x31), (.int .i64 x91), (.int .i64 x32), (.bool b33), v34, v35, v36, v37, v38, v39, v40, v41, v42, v43, v44, v92, v93, v94, v95, v96, v97, v98, v99, v100, v101, v102, v103, v104, v105, (.tup [])], H⟩ = E80_1 d v0 H := by
  unfold r80E1; refine Eq.trans (pl_len (by rfl)) ?_; (iterate 3 (refine Eq.trans (pl_same (by rfl)) ?_)); refine Eq.trans (pl_any (by rfl)) ?_; refine Eq.trans (pl_same (by rfl)) ?_; refine Eq.trans (pl_int (by rfl)) ?_; (iterate 13 (refine Eq.trans (pl_same (by rfl)) ?_)); (iterate 14 (refine Eq.trans (pl_any (by rfl)) ?_)); refine Eq.trans (pl_same (by rfl)) ?_
  rfl
noncomputable def L80_1 (d : Nat) (v0 : AV) : Nat → AV → Int → Heap → Ans
  | 0, _, _, _ => none
  | n + 1, v48, x49, H =>
  cnd (decide (x49 < 64))
   (C0.hop H (.fldA 0 (.v v0)) fun v64 h65 =>
   C0.hop h65 (.load false 1 (.v v64)) fun v66 h67 =>
   C0.int .i64 (some v66) fun x68 =>
   cnd (decide (x49 < 0))
   (none)
   (C0.hop h67 (.mkrow E3 1 [(0, (.v (.int .i64 (IntKind.wrap .i64 (bits .and .u64 (Int.fdiv (IntKind.wrap .u64 x68) (2 ^ (min (Int.toNat x49) 64))) 1)))))]) fun v69 h70 =>
   C0.hop h70 (.app E3 (.v v48) (.v v69)) fun v71 h72 =>
   L80_1 d v0 n v71 (IntKind.wrap .i64 (x49 + 1)) h72))
   (X80_1_0 d v0 v48 H)
theorem it80_1 (d : Nat) (a0 a1 : Int) (v0 : AV) (x31 x32 : Int) (b33 : Bool) (v34 v35 v36 v37 v38 v39 v40 v41 v42 v43 v44 : AV)   : ∀ (n : Nat) (v48 : AV) (x49 : Int) (v50 v51 v52 v53 v54 v55 v56 v57 v58 v59 v60 v61 v62 v63 : AV) (H : Heap), C0.iter (r80R1 C0 d a0 a1 v0 x31 x32 b33 v34 v35 v36 v37 v38 v39 v40 v41 v42 v43 v44) n ⟨[(.agg [(.int .i64 a0), (.int .u64 a1)]), v0, (.zsl true), v48, (.int .i64 x31), (.int .i64 x49), (.int .i64 x32), (.bool b33), v34, v35, v36, v37, v38, v39, v40, v41, v42, v43, v44, v50, v51, v52, v53, v54, v55, v56, v57, v58, v59, v60, v61, v62, v63, (.tup [])], H⟩ [2] [r80X1_0 C0 d a0 a1 v0 x31 x32 b33 v34 v35 v36 v37 v38 v39 v40 v41 v42 v43 v44] (r80E1 C0 d a0 a1 v0 x31 x32 b33 v34 v35 v36 v37 v38 v39 v40 v41 v42 v43 v44) = L80_1 d v0 n v48 x49 H := by
  generalize hR : r80R1 C0 d a0 a1 v0 x31 x32 b33 v34 v35 v36 v37 v38 v39 v40 v41 v42 v43 v44 = R
  intro n
  induction n with
  | zero => intros; rfl
  | succ n ih =>
    intro v48 x49 v50 v51 v52 v53 v54 v55 v56 v57 v58 v59 v60 v61 v62 v63 H
    simp only [it_ret] at ih
    rw [it_ret, xiter_s]
    refine Eq.trans (congrFun (congrFun hR.symm _) _) ?_
    unfold r80R1
    refine Eq.trans (pl_len (by rfl)) ?_; (iterate 3 (refine Eq.trans (pl_same (by rfl)) ?_)); refine Eq.trans (pl_any (by rfl)) ?_; refine Eq.trans (pl_same (by rfl)) ?_; refine Eq.trans (pl_int (by rfl)) ?_; (iterate 13 (refine Eq.trans (pl_same (by rfl)) ?_)); (iterate 14 (refine Eq.trans (pl_any (by rfl)) ?_)); refine Eq.trans (pl_same (by rfl)) ?_
    simp only [L80_1, kIter_n, kIter_x, kIter_r, kOut_x, kOut_r, xgo_hit, xgo_miss, ih, X80_1_0_ok d a0 a1 v0 x31 x32 b33 v34 v35 v36 v37 v38 v39 v40 v41 v42 v43 v44  , E80_1_ok d a0 a1 v0 x31 x32 b33 v34 v35 v36 v37 v38 v39 v40 v41 v42 v43 v44  ]
noncomputable def X80_0_0 (d : Nat) (v0 v30 : AV) (H : Heap) : Ans :=
  L80_1 d v0 1000000000000000000 v30 0 H
theorem X80_0_0_ok (d : Nat) (a0 a1 : Int) (v0 v30 : AV) (x31 x32 : Int) (b33 : Bool) (v34 v35 v36 v37 v38 v39 v40 v41 v42 v43 v44 : AV) (H : Heap) : r80X0_0 C0 d a0 a1 v0 ⟨[(.agg [(.int .i64 a0), (.int .u64 a1)]), v0, (.zsl true), v30, (.int .i64 x31), (.tup []), (.int .i64 x32), (.bool b33), v34, v35, v36, v37, v38, v39, v40, v41, v42, v43, v44, (.tup []), (.tup []), (.tup []), (.tup []), (.tup []), (.tup []), (.tup []), (.tup []), (.tup []), (.tup []), (.tup []), (.tup []), (.tup []), (.tup []), (.tup [])], H⟩ = X80_0_0 d v0 v30 H := by
  unfold r80X0_0; refine Eq.trans (pl_len (by rfl)) ?_; (iterate 3 (refine Eq.trans (pl_same (by rfl)) ?_)); refine Eq.trans (pl_any (by rfl)) ?_; refine Eq.trans (pl_int (by rfl)) ?_; refine Eq.trans (pl_same (by rfl)) ?_; refine Eq.trans (pl_int (by rfl)) ?_; refine Eq.trans (pl_bool (by rfl)) ?_; (iterate 11 (refine Eq.trans (pl_any (by rfl)) ?_)); (iterate 15 (refine Eq.trans (pl_same (by rfl)) ?_))
  first | rfl | (simp only [it80_1] <;> rfl)
noncomputable def E80_0 (d : Nat) (v0 : AV) (H : Heap) : Ans :=
  C0.fin H (.zsl true)
theorem E80_0_ok (d : Nat) (a0 a1 : Int) (v0 v106 : AV) (x107 : Int) (v108 v109 v110 v111 v112 v113 v114 v115 v116 v117 v118 v119 v120 : AV) (H : Heap) : r80E0 C0 d a0 a1 v0 ⟨[(.agg [(.int .i64 a0), (.int .u64 a1)]), v0, (.zsl true), v106, (.int .i64 x107), (.tup []), v108, v109, v110, v111, v112, v113, v114, v115, v116, v117, v118, v119, v120, (.tup []), (.tup []), (.tup []), (.tup []), (.tup []), (.tup []), (.tup []), (.tup []), (.tup []), (.tup []), (.tup []), (.tup []), (.tup []), (.tup []), (.tup [])], H⟩ = E80_0 d v0 H := by
  unfold r80E0; refine Eq.trans (pl_len (by rfl)) ?_; (iterate 3 (refine Eq.trans (pl_same (by rfl)) ?_)); refine Eq.trans (pl_any (by rfl)) ?_; refine Eq.trans (pl_int (by rfl)) ?_; refine Eq.trans (pl_same (by rfl)) ?_; (iterate 13 (refine Eq.trans (pl_any (by rfl)) ?_)); (iterate 15 (refine Eq.trans (pl_same (by rfl)) ?_))
  rfl
noncomputable def L80_0 (d : Nat) (v0 : AV) : Nat → AV → Int → Heap → Ans
  | 0, _, _, _ => none
  | n + 1, v5, x6, H =>
  cnd (decide (x6 < 64))
   (C0.hop H (.fldA 1 (.v v0)) fun v20 h21 =>
   C0.hop h21 (.load false 1 (.v v20)) fun v22 h23 =>
   C0.int .u64 (some v22) fun x24 =>
   cnd (decide (x6 < 0))
   (none)
   (C0.hop h23 (.mkrow E3 1 [(0, (.v (.int .i64 (IntKind.wrap .i64 (bits .and .u64 (Int.fdiv x24 (2 ^ (min (Int.toNat x6) 64))) 1)))))]) fun v25 h26 =>
   C0.hop h26 (.app E3 (.v v5) (.v v25)) fun v27 h28 =>
   L80_0 d v0 n v27 (IntKind.wrap .i64 (x6 + 1)) h28))
   (X80_0_0 d v0 v5 H)
theorem it80_0 (d : Nat) (a0 a1 : Int) (v0 : AV)   : ∀ (n : Nat) (v5 : AV) (x6 : Int) (v7 v8 v9 v10 v11 v12 v13 v14 v15 v16 v17 v18 v19 : AV) (H : Heap), C0.iter (r80R0 C0 d a0 a1 v0) n ⟨[(.agg [(.int .i64 a0), (.int .u64 a1)]), v0, (.zsl true), v5, (.int .i64 x6), (.tup []), v7, v8, v9, v10, v11, v12, v13, v14, v15, v16, v17, v18, v19, (.tup []), (.tup []), (.tup []), (.tup []), (.tup []), (.tup []), (.tup []), (.tup []), (.tup []), (.tup []), (.tup []), (.tup []), (.tup []), (.tup []), (.tup [])], H⟩ [0] [r80X0_0 C0 d a0 a1 v0] (r80E0 C0 d a0 a1 v0) = L80_0 d v0 n v5 x6 H := by
  generalize hR : r80R0 C0 d a0 a1 v0 = R
  intro n
  induction n with
  | zero => intros; rfl
  | succ n ih =>
    intro v5 x6 v7 v8 v9 v10 v11 v12 v13 v14 v15 v16 v17 v18 v19 H
    simp only [it_ret] at ih
    rw [it_ret, xiter_s]
    refine Eq.trans (congrFun (congrFun hR.symm _) _) ?_
    unfold r80R0
    refine Eq.trans (pl_len (by rfl)) ?_; (iterate 3 (refine Eq.trans (pl_same (by rfl)) ?_)); refine Eq.trans (pl_any (by rfl)) ?_; refine Eq.trans (pl_int (by rfl)) ?_; refine Eq.trans (pl_same (by rfl)) ?_; (iterate 13 (refine Eq.trans (pl_any (by rfl)) ?_)); (iterate 15 (refine Eq.trans (pl_same (by rfl)) ?_))
    simp only [L80_0, kIter_n, kIter_x, kIter_r, kOut_x, kOut_r, xgo_hit, xgo_miss, ih, X80_0_0_ok d a0 a1 v0  , E80_0_ok d a0 a1 v0  ]
/-- apogee/apogeeref01.bits -/
theorem q80 (d : Nat) (a0 a1 : Int) : xcall C0 M unr d 80 [(.agg [(.int .i64 a0), (.int .u64 a1)])] =
  C0.hop [] (.box E82 (.v (.agg [(.int .i64 a0), (.int .u64 a1)]))) fun v0 h1 =>
  L80_0 d v0 1000000000000000000 (.zsl true) 0 h1 := (r80 C0 d a0 a1).trans (by simp only [it80_0])
noncomputable def X81_0_0 (d : Nat) (a0 : List AV) (v0 v2 : AV) (x61 : Int) (H : Heap) : Ans :=
  C0.hop H (.fldA 0 (.v v2)) fun v88 h89 =>
   C0.hop h89 (.store 1 (.v v88) (.v (.int .i64 (IntKind.wrap .i64 x61)))) fun v90 h91 =>
   C0.hop h91 (.load true 2 (.v v2)) fun v92 h93 =>
   C0.agg 2 (some v92) fun l94 =>
   C0.int .i64 l94[0]? fun x95 =>
   C0.int .u64 l94[1]? fun x96 =>
   C0.hop h93 (.store 2 (.v v0) (.v (.agg [(.int .i64 x95), (.int .u64 x96)]))) fun v97 h98 =>
   C0.hop h98 (.load true 2 (.v v0)) fun v99 h100 =>
   C0.fin h98 v99
theorem X81_0_0_ok (d : Nat) (a0 : List AV) (v0 v2 : AV) (x61 x62 x63 : Int) (b64 : Bool) (v65 v66 v67 v68 v69 v70 v71 v72 v73 v74 v75 v76 v77 v78 v79 v80 v81 v82 v83 v84 v85 v86 v87 : AV) (H : Heap) : r81X0_0 C0 d a0 v0 v2 ⟨[(.lst a0), (.tup []), v0, v2, (.int .u64 x61), (.int .i64 x62), (.agg [(.int .i64 0), (.int .u64 0)]), (.int .i64 x63), (.bool b64), v65, v66, v67, v68, v69, v70, v71, v72, v73, v74, v75, v76, v77, v78, v79, v80, v81, v82, v83, v84, v85, v86, v87, (.tup []), (.tup []), (.tup []), (.tup [])], H⟩ = X81_0_0 d a0 v0 v2 x61 H := by
  unfold r81X0_0; refine Eq.trans (pl_len (by rfl)) ?_; (iterate 4 (refine Eq.trans (pl_same (by rfl)) ?_)); (iterate 2 (refine Eq.trans (pl_int (by rfl)) ?_)); refine Eq.trans (pl_same (by rfl)) ?_; refine Eq.trans (pl_int (by rfl)) ?_; refine Eq.trans (pl_bool (by rfl)) ?_; (iterate 23 (refine Eq.trans (pl_any (by rfl)) ?_)); (iterate 4 (refine Eq.trans (pl_same (by rfl)) ?_))
  rfl
noncomputable def E81_0 (d : Nat) (a0 : List AV) (v0 v2 : AV) (H : Heap) : Ans :=
  C0.hop H (.load true 2 (.v v0)) fun v128 h129 =>
   C0.fin H v128
theorem E81_0_ok (d : Nat) (a0 : List AV) (v0 v2 : AV) (x101 x102 : Int) (v103 v104 v105 v106 v107 v108 v109 v110 v111 v112 v113 v114 v115 v116 v117 v118 v119 v120 v121 v122 v123 v124 v125 v126 v127 : AV) (H : Heap) : r81E0 C0 d a0 v0 v2 ⟨[(.lst a0), (.tup []), v0, v2, (.int .u64 x101), (.int .i64 x102), (.agg [(.int .i64 0), (.int .u64 0)]), v103, v104, v105, v106, v107, v108, v109, v110, v111, v112, v113, v114, v115, v116, v117, v118, v119, v120, v121, v122, v123, v124, v125, v126, v127, (.tup []), (.tup []), (.tup []), (.tup [])], H⟩ = E81_0 d a0 v0 v2 H := by
  unfold r81E0; refine Eq.trans (pl_len (by rfl)) ?_; (iterate 4 (refine Eq.trans (pl_same (by rfl)) ?_)); (iterate 2 (refine Eq.trans (pl_int (by rfl)) ?_)); refine Eq.trans (pl_same (by rfl)) ?_; (iterate 25 (refine Eq.trans (pl_any (by rfl)) ?_)); (iterate 4 (refine Eq.trans (pl_same (by rfl)) ?_))
  rfl
noncomputable def L81_0 (d : Nat) (a0 : List AV) (v0 v2 : AV) : Nat → Int → Int → Heap → Ans
  | 0, _, _, _ => none
  | n + 1, x9, x10, H =>
  cnd (decide (x10 < 64))
   (C0.hop H (.ixAS .any 1 (.v (.lst a0)) (.v (.int .i64 x10))) fun v36 h37 =>
   C0.hop h37 (.load false 1 (.v v36)) fun v38 h39 =>
   C0.int .i64 (some v38) fun x40 =>
   cnd (x40 == 1)
   (C0.hop h39 (.fldA 1 (.v v2)) fun v41 h42 =>
   C0.hop h42 (.load false 1 (.v v41)) fun v43 h44 =>
   C0.int .u64 (some v43) fun x45 =>
   cnd (decide (x10 < 0))
   (none)
   (C0.hop h44 (.fldA 1 (.v v2)) fun v46 h47 =>
   C0.hop h47 (.store 1 (.v v46) (.v (.int .u64 (bits .or .u64 x45 (IntKind.wrap .u64 (1 * (2 ^ (min (Int.toNat x10) 64)))))))) fun v48 h49 =>
   C0.hop h49 (.ixAS .any 1 (.v (.lst a0)) (.v (.int .i64 (IntKind.wrap .i64 (64 + x10))))) fun v50 h51 =>
   C0.hop h51 (.load false 1 (.v v50)) fun v52 h53 =>
   C0.int .i64 (some v52) fun x54 =>
   cnd (x54 == 1)
   (cnd (decide (x10 < 0))
   (none)
   (L81_0 d a0 v0 v2 n (bits .or .u64 x9 (IntKind.wrap .u64 (1 * (2 ^ (min (Int.toNat x10) 64))))) (IntKind.wrap .i64 (x10 + 1)) h53))
   (L81_0 d a0 v0 v2 n x9 (IntKind.wrap .i64 (x10 + 1)) h53)))
   (C0.hop h39 (.ixAS .any 1 (.v (.lst a0)) (.v (.int .i64 (IntKind.wrap .i64 (64 + x10))))) fun v55 h56 =>
   C0.hop h56 (.load false 1 (.v v55)) fun v57 h58 =>
   C0.int .i64 (some v57) fun x59 =>
   cnd (x59 == 1)
   (cnd (decide (x10 < 0))
   (none)
   (L81_0 d a0 v0 v2 n (bits .or .u64 x9 (IntKind.wrap .u64 (1 * (2 ^ (min (Int.toNat x10) 64))))) (IntKind.wrap .i64 (x10 + 1)) h58))
   (L81_0 d a0 v0 v2 n x9 (IntKind.wrap .i64 (x10 + 1)) h58)))
   (X81_0_0 d a0 v0 v2 x9 H)
theorem it81_0 (d : Nat) (a0 : List AV) (v0 v2 : AV)   : ∀ (n : Nat) (x9 x10 : Int) (v11 v12 v13 v14 v15 v16 v17 v18 v19 v20 v21 v22 v23 v24 v25 v26 v27 v28 v29 v30 v31 v32 v33 v34 v35 : AV) (H : Heap), C0.iter (r81R0 C0 d a0 v0 v2) n ⟨[(.lst a0), (.tup []), v0, v2, (.int .u64 x9), (.int .i64 x10), (.agg [(.int .i64 0), (.int .u64 0)]), v11, v12, v13, v14, v15, v16, v17, v18, v19, v20, v21, v22, v23, v24, v25, v26, v27, v28, v29, v30, v31, v32, v33, v34, v35, (.tup []), (.tup []), (.tup []), (.tup [])], H⟩ [0] [r81X0_0 C0 d a0 v0 v2] (r81E0 C0 d a0 v0 v2) = L81_0 d a0 v0 v2 n x9 x10 H := by
  generalize hR : r81R0 C0 d a0 v0 v2 = R
  intro n
  induction n with
  | zero => intros; rfl
  | succ n ih =>
    intro x9 x10 v11 v12 v13 v14 v15 v16 v17 v18 v19 v20 v21 v22 v23 v24 v25 v26 v27 v28 v29 v30 v31 v32 v33 v34 v35 H
    simp only [it_ret] at ih
    rw [it_ret, xiter_s]
    refine Eq.trans (congrFun (congrFun hR.symm _) _) ?_
    unfold r81R0
    refine Eq.trans (pl_len (by rfl)) ?_; (iterate 4 (refine Eq.trans (pl_same (by rfl)) ?_)); (iterate 2 (refine Eq.trans (pl_int (by rfl)) ?_)); refine Eq.trans (pl_same (by rfl)) ?_; (iterate 25 (refine Eq.trans (pl_any (by rfl)) ?_)); (iterate 4 (refine Eq.trans (pl_same (by rfl)) ?_))
    simp only [L81_0, kIter_n, kIter_x, kIter_r, kOut_x, kOut_r, xgo_hit, xgo_miss, ih, X81_0_0_ok d a0 v0 v2  , E81_0_ok d a0 v0 v2  ]
/-- apogee/apogeeref01.value -/
theorem q81 (d : Nat) (a0 : List AV) : xcall C0 M unr d 81 [(.lst a0)] =
  C0.hop [] (.alloc E82) fun v0 h1 =>
  C0.hop h1 (.alloc E82) fun v2 h3 =>
  C0.hop h3 (.store 2 (.v v2) (.v (.agg [(.int .i64 0), (.int .u64 0)]))) fun v4 h5 =>
  L81_0 d a0 v0 v2 1000000000000000000 0 0 h5 := (r81 C0 d a0).trans (by simp only [it81_0])
end Go.Proofs.Ytjblhppbjebagaa.AE

namespace Go.Proofs.Ytjblhppbjebagaa.AE
set_option linter.unusedVariables false
set_option linter.unusedSimpArgs false
set_option linter.constructorNameAsVariable false
open Go
theorem hget_new {H : Heap} {b : Blk} : hget (H ++ [some b]) H.length = some b := by unfold hget; simp
theorem hget_set {H : Heap} {id : Nat} {b : Blk} (h : id < H.length) : hget (H.set id (some b)) id = some b := by unfold hget; simp [h]
theorem hget_set_ne {H : Heap} {id id' : Nat} {x : Option Blk} (h : id ≠ id') : hget (H.set id x) id' = hget H id' := by unfold hget; rw [List.getElem?_set_ne h]
/-- A slice that may grow: all of a block of its own, or none. -/
def Own (H : Heap) (e : ETy) (v : AV) (l : List AV) : Prop := (l = [] ∧ ∃ b, v = .zsl b) ∨ ∃ id, v = .slc id 0 l.length ∧ hget H id = some ⟨e, l⟩
/-- It names that memory. -/
def names (v : AV) (id : Nat) : Prop := ∃ o n, v = .slc id o n
theorem own_keep {H H' : Heap} {e : ETy} {v : AV} {l : List AV} (h : Own H e v l) (hk : ∀ id b, names v id → hget H id = some b → hget H' id = some b) : Own H' e v l := by
  rcases h with ⟨rfl, b, rfl⟩ | ⟨id, rfl, h⟩
  · exact .inl ⟨rfl, b, rfl⟩
  · exact .inr ⟨id, rfl, hk _ _ ⟨_, _, rfl⟩ h⟩
/-- Onto a slice of one's own. -/
theorem app_own {H : Heap} {e : ETy} {v : AV} {l xs : List AV} {r : AV} (ho : Own H e v l) (hr : elsOf H r = some xs) (hx : xs.all (elOk e) = true) (hs : (l.length + xs.length) * e.bytes ≤ 140737488355328) (hs2 : l.length + xs.length ≤ 9223372036854775807) :
    ∃ v' H', aop noCall (evO []) H (.app e (.v v) (.v r)) = some (v', H') ∧ Own H' e v' (l ++ xs) ∧ v' = .slc H.length 0 (l.length + xs.length) ∧ H'.length = H.length + 1 ∧ ∀ id b, ¬ names v id → hget H id = some b → hget H' id = some b := by
  rcases ho with ⟨rfl, b, rfl⟩ | ⟨id, rfl, h⟩
  · refine ⟨.slc H.length 0 xs.length, H ++ [some ⟨e, xs⟩], ?_, .inr ⟨H.length, by simp, by simp [hget_new]⟩, by simp, by simp, fun id b _ h => hget_app h⟩
    simp only [aop, evO, hr, aApp]
    rw [if_pos ⟨by simpa using hs, by simpa using hs2, hx⟩]
  · have hid := hg_lt h
    have hl : (H.set id none).length = H.length := by simp
    refine ⟨.slc H.length 0 (l.length + xs.length), H.set id none ++ [some ⟨e, l ++ xs⟩], ?_, .inr ⟨H.length, by simp, ?_⟩, rfl, by simp, fun id' b hn h' => ?_⟩
    · simp only [aop, evO, hr, aApp, h]
      rw [if_pos ⟨trivial, hs, hs2, trivial, trivial, hx⟩]
    · rw [← hl]; exact hget_new
    · refine hget_app ?_
      rw [hget_set_ne]; exact h'
      rintro rfl; exact hn ⟨_, _, rfl⟩
/-- One more. -/
theorem app_one {H : Heap} {e : ETy} {v x : AV} {l : List AV} (ho : Own H e v l) (hx : elOk e x = true) (hs : (l.length + 1) * e.bytes ≤ 140737488355328) (hs2 : l.length + 1 ≤ 9223372036854775807) :
    ∃ v' H', (∀ K : AV → Heap → Ans, (C0.hop H (.mkrow e 1 [(0, .v x)]) fun r H1 => C0.hop H1 (.app e (.v v) (.v r)) K) = K v' H') ∧ Own H' e v' (l ++ [x]) ∧ (∀ id, names v' id → H.length < id) ∧ H.length ≤ H'.length ∧ ∀ id b, ¬ names v id → hget H id = some b → hget H' id = some b := by
  have e1 : aop noCall (evO []) H (.mkrow e 1 [(0, .v x)]) = some (.slc H.length 0 1, H ++ [some ⟨e, [x]⟩]) := by
    simp [aop, evO, fillR, hx]
  have ho' : Own (H ++ [some ⟨e, [x]⟩]) e v l := own_keep ho fun id b _ h => hget_app h
  obtain ⟨v', H', h1, h2, h5, h3, h4⟩ := app_own (xs := [x]) (r := .slc H.length 0 1) ho' (by simp [elsOf, hget_new]) (by simp [hx]) (by simpa using hs) (by simpa using hs2)
  refine ⟨v', H', ?_, h2, ?_, by rw [h3]; simp; omega, fun id b hn h => h4 id b hn (hget_app h)⟩
  · intro K; rw [hop_eq e1, hop_eq h1]
  · rintro id ⟨o, n, rfl⟩
    injection h5 with h6
    rw [h6]; simp
theorem snap_own {H : Heap} {e : ETy} {v : AV} {l : List AV} {k : Nat} (ho : Own H e v l) (hf : ∀ x ∈ l, snap (k + 1) H x = x) : snap (k + 2) H v = .lst l := by
  rcases ho with ⟨rfl, b, rfl⟩ | ⟨id, rfl, h⟩
  · rfl
  · simp only [snap, h]
    rw [if_neg (by omega), if_pos (by simp)]
    congr 1
    simp only [List.drop_zero, List.take_length]
    exact (List.map_congr_left hf).trans (List.map_id _)
def iv (l : List Int) : List AV := l.map fun x => .int .i64 x
theorem iv_len (l : List Int) : (iv l).length = l.length := by simp [iv]
theorem iv_app (l m : List Int) : iv (l ++ m) = iv l ++ iv m := by simp [iv]
theorem iv_at (l : List Int) (i : Nat) : (iv l)[i]? = l[i]?.map fun x => .int .i64 x := by simp [iv]
theorem snap_iv {H : Heap} {e : ETy} {v : AV} {l : List Int} (ho : Own H e v (iv l)) : snap 12 H v = .lst (iv l) :=
  snap_own (k := 10) ho fun x hx => by
    unfold iv at hx
    obtain ⟨n, _, rfl⟩ := List.mem_map.mp hx
    rfl
theorem snp_own {H : Heap} {e : ETy} {v : AV} {l : List Int} {K : List AV → Bool → Ans} (ho : Own H e v (iv l)) (hne : l ≠ []) : C0.snp H [v] K = K [.lst (iv l)] false := by
  have hs := snap_iv ho
  rcases ho with ⟨h, _⟩ | ⟨id, rfl, h⟩
  · exact absurd (by simpa [iv] using h) hne
  · rw [snp_id (by rfl)]
    simp only [List.map_cons, List.map_nil]
    rw [show DEPTH = 12 from rfl, hs]
end Go.Proofs.Ytjblhppbjebagaa.AE

namespace Go.Proofs.Ytjblhppbjebagaa.AE
set_option linter.unusedVariables false
set_option linter.unusedSimpArgs false
open Go
def bitl (n : Int) : Nat → List Int
  | 0 => []
  | k + 1 => n % 2 :: bitl (n / 2) k
theorem bin_app (l m : List Int) : bin (l ++ m) = bin l + 2 ^ l.length * bin m := by
  induction l with
  | nil => simp [bin]
  | cons x l ih => simp only [List.cons_append, bin, ih, List.length_cons, Int.pow_succ]; grind
theorem bitl_len (n : Int) (k : Nat) : (bitl n k).length = k := by
  induction k generalizing n with
  | zero => rfl
  | succ k ih => simp [bitl, ih]
theorem bitl_snoc (n : Int) (k : Nat) : bitl n (k + 1) = bitl n k ++ [n / 2 ^ k % 2] := by
  induction k generalizing n with
  | zero => simp [bitl]
  | succ k ih =>
    rw [bitl, ih (n / 2), bitl]
    simp only [List.cons_append]
    rw [Int.ediv_ediv_of_nonneg (by decide), Int.pow_succ, Int.mul_comm (2 ^ k) 2]
theorem bin_bitl (n : Int) (k : Nat) : bin (bitl n k) = n % 2 ^ k := by
  induction k generalizing n with
  | zero => simp [bitl, bin]
  | succ k ih =>
    simp only [bitl, bin, ih]
    have hp : (0 : Int) < 2 ^ k := Int.pow_pos (by decide)
    have e1 := Int.mul_ediv_add_emod (n / 2) (2 ^ k)
    have e2 := Int.emod_nonneg (n / 2) (show (2 : Int) ^ k ≠ 0 by omega)
    have e3 := Int.emod_lt_of_pos (n / 2) hp
    rw [Int.pow_succ]
    symm
    have e0 : n = n % 2 + 2 * (n / 2 % 2 ^ k) + (2 ^ k * 2) * (n / 2 / 2 ^ k) := by
      rw [Int.mul_assoc (2 ^ k) 2, Int.mul_left_comm (2 ^ k) 2]; omega
    rw [e0]
    rw [Int.add_mul_emod_self_left]
    have h2 : (n % 2 + 2 * (n / 2 % 2 ^ k) + 2 ^ k * 2 * (n / 2 / 2 ^ k)) = n := e0.symm
    rw [h2]
    exact Int.emod_eq_of_lt (by omega) (by omega)
def Bits (l : List Int) : Prop := ∀ x ∈ l, x = 0 ∨ x = 1
theorem bin_nonneg {l : List Int} (h : Bits l) : 0 ≤ bin l ∧ bin l < 2 ^ l.length := by
  induction l with
  | nil => simp [bin]
  | cons x l ih =>
    have := ih fun y hy => h y (List.mem_cons_of_mem _ hy)
    have hx := h x (List.mem_cons_self ..)
    simp only [bin, List.length_cons, Int.pow_succ]
    omega
theorem bitl_bits (n : Int) (k : Nat) : Bits (bitl n k) := by
  induction k generalizing n with
  | zero => intro x hx; cases hx
  | succ k ih =>
    intro x hx
    rcases List.mem_cons.mp hx with rfl | hx
    · omega
    · exact ih _ x hx
theorem bits_app {l m : List Int} : Bits (l ++ m) ↔ Bits l ∧ Bits m := by
  unfold Bits; simp only [List.mem_append]
  exact ⟨fun h => ⟨fun x hx => h x (.inl hx), fun x hx => h x (.inr hx)⟩, fun h x hx => hx.elim (h.1 x) (h.2 x)⟩
theorem u64_or_pow {x : Int} {i : Nat} (hi : i < 64) (h : 0 ≤ x) (h' : x < 2 ^ i) : Go.bits .or .u64 x (2 ^ i) = x + 2 ^ i := by
  obtain ⟨n, rfl⟩ := Int.eq_ofNat_of_zero_le h
  have hn : n < 2 ^ i := by exact_mod_cast h'
  have hp : (2 : Nat) ^ i < 2 ^ 64 := Nat.pow_lt_pow_right (by decide) hi
  have hp2 : (2 : Nat) ^ i + 2 ^ i ≤ 2 ^ 64 := by
    have := Nat.pow_le_pow_right (n := 2) (by decide) (show i + 1 ≤ 64 by omega)
    rw [Nat.pow_succ] at this; omega
  show IntKind.u64.wrap ((BitVec.ofInt 64 (n : Int) ||| BitVec.ofInt 64 ((2 : Int) ^ i)).toNat : Int) = _
  rw [show ((2 : Int) ^ i) = ((2 ^ i : Nat) : Int) by simp, BitVec.toNat_or, BitVec.ofInt_natCast, BitVec.ofInt_natCast, BitVec.toNat_ofNat, BitVec.toNat_ofNat, Nat.mod_eq_of_lt (by omega), Nat.mod_eq_of_lt hp]
  have := Nat.two_pow_add_eq_or_of_lt (i := i) hn 1
  rw [Nat.mul_one] at this
  rw [Nat.or_comm, ← this, u64_small (by omega) (by omega)]
  simp; omega
theorem pow64 (i : Nat) (hi : i < 64) : (0 : Int) < 2 ^ i ∧ (2 : Int) ^ i < 18446744073709551616 := by
  constructor
  · exact Int.pow_pos (by decide)
  · have : (2 : Nat) ^ i < 2 ^ 64 := Nat.pow_lt_pow_right (by decide) hi
    have h2 : ((2 ^ i : Nat) : Int) < ((2 ^ 64 : Nat) : Int) := by exact_mod_cast this
    simpa using h2
end Go.Proofs.Ytjblhppbjebagaa.AE

namespace Go.Proofs.Ytjblhppbjebagaa.AE
set_option linter.unusedVariables false
set_option linter.unusedSimpArgs false
set_option linter.constructorNameAsVariable false
open Go
/-- A number of 128 bits, as a value. -/
abbrev wd (n : Int) : AV := .agg [.int .i64 (hiw n), .int .u64 (low n)]
theorem low_rng (n : Int) : 0 ≤ low n ∧ low n < 18446744073709551616 := by unfold low; omega
theorem u_hiw (n : Int) : IntKind.wrap .u64 (hiw n) = n / 18446744073709551616 % 18446744073709551616 := by unfold hiw; rw [i64w, u64w]; omega
theorem shr1 {x : Int} {i : Nat} (hi : i < 64) (h : 0 ≤ x) (h' : x < 18446744073709551616) : IntKind.wrap .i64 (bits .and .u64 (Int.fdiv x (2 ^ (min (Int.toNat (i : Int)) 64))) 1) = x / 2 ^ i % 2 := by
  rw [show min (Int.toNat (i : Int)) 64 = i by omega, Int.fdiv_eq_ediv_of_nonneg _ (Int.le_of_lt (pow64 i hi).1)]
  have hp := pow64 i hi
  have h1 : 0 ≤ x / 2 ^ i := Int.ediv_nonneg h (by omega)
  have h2 : x / 2 ^ i < 18446744073709551616 := Int.lt_of_le_of_lt (Int.ediv_le_self _ h) h'
  have := u64_mask 1 (by decide) h1 h2
  rw [show ((2 : Int) ^ 1 - 1) = 1 by decide, show ((2 : Int) ^ 1) = 2 by decide] at this
  rw [this, i64w]; omega
theorem wrap_succ (i : Nat) (h : i < 1000000000000000000) : IntKind.wrap .i64 ((i : Int) + 1) = ((i + 1 : Nat) : Int) := by rw [i64w]; omega
theorem bits1 (d : Nat) (n : Int) : ∀ (k i f : Nat) (H : Heap) (v : AV) (l : List Int), i + k = 64 → k < f → l.length = 64 + i → hget H 0 = some ⟨E82, [wd n]⟩ → Own H E3 v (iv l) → ¬ names v 0 →
    L80_1 d (.ptr 0 0 0) f v (i : Nat) H = some (.lst (iv (l ++ ((List.range k).map fun j => n / 18446744073709551616 % 18446744073709551616 / 2 ^ (i + j) % 2)))) := by
  intro k
  induction k with
  | zero =>
    intro i f H v l hi hf hl h0 ho hn
    obtain ⟨f, rfl⟩ : ∃ g, f = g + 1 := ⟨f - 1, by omega⟩
    rw [L80_1, decide_eq_false (by omega), cnd_f, X80_1_0, C0_fin, snap_iv ho]; simp
  | succ k ih =>
    intro i f H v l hi hf hl h0 ho hn
    obtain ⟨f, rfl⟩ : ∃ g, f = g + 1 := ⟨f - 1, by omega⟩
    rw [L80_1, decide_eq_true (by omega), cnd_t, sh_ptr, ld_ptr h0 (by rfl) (by rfl), C0_int, decide_eq_false (by omega), cnd_f, u_hiw, shr1 (by omega) (by omega) (by omega)]
    obtain ⟨v', H', e, ho', hn', _, hk⟩ := app_one (x := .int .i64 (n / 18446744073709551616 % 18446744073709551616 / 2 ^ i % 2)) ho (by rfl) (by rw [iv_len, hl]; change (64 + i + 1) * 8 ≤ _; omega) (by rw [iv_len]; omega)
    rw [e, wrap_succ i (by omega), ih (i + 1) f H' v' (l ++ [n / 18446744073709551616 % 18446744073709551616 / 2 ^ i % 2]) (by omega) (by omega) (by simp; omega) (hk 0 _ hn h0) (by rw [iv_app]; exact ho') (fun hc => by have := hn' 0 hc; omega)]
    rw [List.append_assoc, List.range_succ_eq_map]
    simp [Nat.add_assoc, Nat.add_comm 1, List.map_map, Function.comp_def]
end Go.Proofs.Ytjblhppbjebagaa.AE

namespace Go.Proofs.Ytjblhppbjebagaa.AE
set_option linter.unusedVariables false
set_option linter.unusedSimpArgs false
set_option linter.constructorNameAsVariable false
open Go
theorem bitl_range (m : Int) (k : Nat) : bitl m k = (List.range k).map fun j => m / 2 ^ j % 2 := by
  induction k with
  | zero => rfl
  | succ k ih => rw [bitl_snoc, ih, List.range_succ, List.map_append]; rfl
def wbits (n : Int) : List Int := bitl (low n) 64 ++ bitl (n / 18446744073709551616 % 18446744073709551616) 64
theorem wbits_len (n : Int) : (wbits n).length = 128 := by simp [wbits, bitl_len]
theorem wbits_bits (n : Int) : Bits (wbits n) := bits_app.mpr ⟨bitl_bits _ _, bitl_bits _ _⟩
theorem bin_wbits (n : Int) : bin (wbits n) = n % 340282366920938463463374607431768211456 := by
  unfold wbits; rw [bin_app, bin_bitl, bin_bitl, bitl_len]
  have e : (2 : Int) ^ 64 = 18446744073709551616 := by decide
  rw [e]; unfold low; omega
theorem bits0 (d : Nat) (n : Int) : ∀ (k i f : Nat) (H : Heap) (v : AV), i + k = 64 → k < f → hget H 0 = some ⟨E82, [wd n]⟩ → Own H E3 v (iv (bitl (low n) i)) → ¬ names v 0 →
    L80_0 d (.ptr 0 0 0) f v (i : Nat) H = some (.lst (iv (wbits n))) := by
  intro k
  induction k with
  | zero =>
    intro i f H v hi hf h0 ho hn
    obtain ⟨f, rfl⟩ : ∃ g, f = g + 1 := ⟨f - 1, by omega⟩
    obtain rfl : i = 64 := by omega
    rw [L80_0, decide_eq_false (by omega), cnd_f, X80_0_0]
    have := bits1 d n 64 0 1000000000000000000 H v _ (by omega) (by omega) (by simp [bitl_len]) h0 ho hn
    simp only [Nat.zero_add, ← bitl_range] at this
    exact this
  | succ k ih =>
    intro i f H v hi hf h0 ho hn
    obtain ⟨f, rfl⟩ : ∃ g, f = g + 1 := ⟨f - 1, by omega⟩
    have l0 := low_rng n
    rw [L80_0, decide_eq_true (by omega), cnd_t, sh_ptr, ld_ptr h0 (by rfl) (by rfl), C0_int, decide_eq_false (by omega), cnd_f, shr1 (by omega) l0.1 l0.2]
    obtain ⟨v', H', e, ho', hn', _, hk⟩ := app_one (x := .int .i64 (low n / 2 ^ i % 2)) ho (by rfl) (by rw [iv_len, bitl_len]; change (i + 1) * 8 ≤ _; omega) (by rw [iv_len, bitl_len]; omega)
    rw [e, wrap_succ i (by omega), ih (i + 1) f H' v' (by omega) (by omega) (hk 0 _ hn h0) (by rw [bitl_snoc, iv_app]; exact ho') (fun hc => by have := hn' 0 hc; omega)]
theorem s80 (d : Nat) (n : Int) : pcall M (d + 1) 80 [wd n] = some (.lst (iv (wbits n))) := told (q80 d _ _) (by
  refine Eq.trans (hop_eq (by rfl)) ?_
  exact bits0 d n 64 0 1000000000000000000 _ _ (by omega) (by omega) rfl (.inl ⟨rfl, _, rfl⟩) (by rintro ⟨o, m, h⟩; cases h))
theorem bin_take {l : List Int} {i : Nat} (h : i < l.length) : bin (l.take (i + 1)) = bin (l.take i) + 2 ^ i * l[i] := by
  rw [List.take_succ_eq_append_getElem h, bin_app]
  simp [bin, List.length_take, Nat.min_eq_left (Nat.le_of_lt h)]
theorem wd_congr {a b : Int} (h : a % 340282366920938463463374607431768211456 = b % 340282366920938463463374607431768211456) : wd a = wd b := by
  have e1 : hiw a = hiw b := by unfold hiw; rw [i64w, i64w]; omega
  have e2 : low a = low b := by unfold low; omega
  rw [wd, wd, e1, e2]
theorem take_bits {l : List Int} (h : Bits l) (i : Nat) : Bits (l.take i) := fun x hx => h x (List.mem_of_mem_take hx)
theorem drop_bits {l : List Int} (h : Bits l) (i : Nat) : Bits (l.drop i) := fun x hx => h x (List.mem_of_mem_drop hx)
theorem bin_lt {l : List Int} (h : Bits l) {i : Nat} (hi : i ≤ l.length) : 0 ≤ bin (l.take i) ∧ bin (l.take i) < 2 ^ i := by
  have := bin_nonneg (take_bits h i)
  rwa [List.length_take, Nat.min_eq_left hi] at this
theorem shl1 {i : Nat} (hi : i < 64) : IntKind.wrap .u64 (1 * (2 ^ (min (Int.toNat (i : Int)) 64))) = 2 ^ i := by
  rw [show min (Int.toNat (i : Int)) 64 = i by omega, Int.one_mul]
  exact u64_small (Int.le_of_lt (pow64 i hi).1) (pow64 i hi).2
theorem value1 (d : Nat) (l : List Int) (hb : Bits l) (hl : l.length = 128) : ∀ (k i f : Nat), i + k = 64 → k < f →
    L81_0 d (iv l) (.ptr 0 0 0) (.ptr 1 0 0) f (bin ((l.drop 64).take i)) (i : Nat) [some ⟨E82, [wd 0]⟩, some ⟨E82, [.agg [.int .i64 0, .int .u64 (bin (l.take i))]]⟩] = some (wd (bin l)) := by
  intro k
  induction k with
  | zero =>
    intro i f hi hf
    obtain ⟨f, rfl⟩ : ∃ g, f = g + 1 := ⟨f - 1, by omega⟩
    obtain rfl : i = 64 := by omega
    rw [L81_0, decide_eq_false (by omega), cnd_f, X81_0_0]
    have b1 := bin_lt hb (i := 64) (by omega)
    have e0 : (l.drop 64).take 64 = l.drop 64 := List.take_of_length_le (by simp; omega)
    have e1 : bin l = bin (l.take 64) + 2 ^ 64 * bin (l.drop 64) := by
      have := bin_app (l.take 64) (l.drop 64)
      rw [List.take_append_drop, List.length_take, Nat.min_eq_left (by omega)] at this
      exact this
    have e2 : (2 : Int) ^ 64 = 18446744073709551616 := by decide
    rw [e2] at b1 e1
    have h1 : hiw (bin l) = IntKind.wrap .i64 (bin (l.drop 64)) := by unfold hiw; rw [e1]; congr 1; omega
    have h2 : low (bin l) = bin (l.take 64) := by unfold low; omega
    have hwd : wd (bin l) = .agg [.int .i64 (IntKind.wrap .i64 (bin (l.drop 64))), .int .u64 (bin (l.take 64))] := by rw [wd, h1, h2]
    rw [hwd, e0]
    refine Eq.trans (hop_eq (by rfl)) ?_; refine Eq.trans (hop_eq (by rfl)) ?_; refine Eq.trans (hop_eq (by rfl)) ?_; refine Eq.trans (pl_agg (by rfl) (by rfl)) ?_; refine Eq.trans (pl_int (by rfl)) ?_; refine Eq.trans (pl_int (by rfl)) ?_; refine Eq.trans (hop_eq (by rfl)) ?_; refine Eq.trans (hop_eq (by rfl)) ?_
    rfl
  | succ k ih =>
    intro i f hi hf
    obtain ⟨f, rfl⟩ : ∃ g, f = g + 1 := ⟨f - 1, by omega⟩
    have i1 : i < l.length := by omega
    have i2 : i < (l.drop 64).length := by simp; omega
    have g1 : (iv l)[((i : Nat) : Int).toNat]? = some (.int .i64 l[i]) := by rw [iv_at]; simp [i1]
    have g2 : (iv l)[(IntKind.wrap .i64 (64 + (i : Int))).toNat]? = some (.int .i64 (l.drop 64)[i]) := by
      have : (IntKind.wrap .i64 (64 + (i : Int))).toNat = 64 + i := by rw [i64w]; omega
      rw [this, iv_at]; simp [List.getElem?_eq_getElem (show 64 + i < l.length by omega)]
    have w0 : 0 ≤ IntKind.wrap .i64 (64 + (i : Int)) := by rw [i64w]; omega
    have b1 := bin_lt hb (i := i) (by omega)
    have b2 := bin_lt (drop_bits hb 64) (i := i) (by simp; omega)
    have IH := ih (i + 1) f (by omega) (by omega)
    rw [bin_take i1, bin_take i2] at IH
    rw [L81_0, decide_eq_true (by omega), cnd_t]
    refine Eq.trans (ix_lst (by omega) g1 (by rfl)) ?_
    refine Eq.trans (hop_eq (by rfl)) ?_; refine Eq.trans (pl_int (by rfl)) ?_
    have c0 : ∀ i : Nat, decide ((i : Int) < 0) = false := fun i => decide_eq_false (by omega)
    rcases hb l[i] (List.getElem_mem _) with x0 | x0 <;> rcases drop_bits hb 64 (l.drop 64)[i] (List.getElem_mem _) with y0 | y0
    all_goals rw [x0] ; rw [y0] at g2
    · rw [x0, y0] at IH
      refine Eq.trans (pl_f (by rfl)) ?_
      refine Eq.trans (ix_lst w0 g2 (by rfl)) ?_
      refine Eq.trans (hop_eq (by rfl)) ?_; refine Eq.trans (pl_int (by rfl)) ?_
      refine Eq.trans (pl_f (by rfl)) ?_
      rw [wrap_succ i (by omega)]
      simpa using IH
    · rw [x0, y0] at IH
      refine Eq.trans (pl_f (by rfl)) ?_
      refine Eq.trans (ix_lst w0 g2 (by rfl)) ?_
      refine Eq.trans (hop_eq (by rfl)) ?_; refine Eq.trans (pl_int (by rfl)) ?_; refine Eq.trans (pl_len (by rfl)) ?_
      rw [c0, cnd_f, wrap_succ i (by omega), shl1 (by omega), u64_or_pow (by omega) b2.1 b2.2]
      simpa using IH
    · rw [x0, y0] at IH
      refine Eq.trans (pl_len (by rfl)) ?_; refine Eq.trans (hop_eq (by rfl)) ?_; refine Eq.trans (hop_eq (by rfl)) ?_; refine Eq.trans (pl_int (by rfl)) ?_
      rw [c0, cnd_f, shl1 (by omega), u64_or_pow (by omega) b1.1 b1.2]
      refine Eq.trans (hop_eq (by rfl)) ?_; refine Eq.trans (hop_eq (by rfl)) ?_
      refine Eq.trans (ix_lst w0 g2 (by rfl)) ?_
      refine Eq.trans (hop_eq (by rfl)) ?_; refine Eq.trans (pl_int (by rfl)) ?_
      refine Eq.trans (pl_f (by rfl)) ?_
      rw [wrap_succ i (by omega)]
      simp only [Int.mul_one, Int.mul_zero, Int.add_zero] at IH
      exact IH
    · rw [x0, y0] at IH
      refine Eq.trans (pl_len (by rfl)) ?_; refine Eq.trans (hop_eq (by rfl)) ?_; refine Eq.trans (hop_eq (by rfl)) ?_; refine Eq.trans (pl_int (by rfl)) ?_
      rw [c0, cnd_f, shl1 (by omega), u64_or_pow (by omega) b1.1 b1.2]
      refine Eq.trans (hop_eq (by rfl)) ?_; refine Eq.trans (hop_eq (by rfl)) ?_
      refine Eq.trans (ix_lst w0 g2 (by rfl)) ?_
      refine Eq.trans (hop_eq (by rfl)) ?_; refine Eq.trans (pl_int (by rfl)) ?_; refine Eq.trans (pl_len (by rfl)) ?_
      rw [cnd_f, wrap_succ i (by omega), u64_or_pow (by omega) b2.1 b2.2]
      simp only [Int.mul_one] at IH
      exact IH
theorem s81 (d : Nat) (l : List Int) (hb : Bits l) (hl : l.length = 128) : pcall M (d + 1) 81 [.lst (iv l)] = some (wd (bin l)) := told (q81 d _) (by
  refine Eq.trans (hop_eq (by rfl)) ?_; refine Eq.trans (hop_eq (by rfl)) ?_; refine Eq.trans (hop_eq (by rfl)) ?_
  have := value1 d l hb hl 64 0 1000000000000000000 (by omega) (by omega)
  simp only [List.take_zero, bin] at this
  exact this)
end Go.Proofs.Ytjblhppbjebagaa.AE

namespace Go.Proofs.Ytjblhppbjebagaa.AE
set_option linter.unusedVariables false
set_option linter.unusedSimpArgs false
set_option linter.constructorNameAsVariable false
open Go
theorem plus1 (d : Nat) (x y : List Int) (hx : Bits x) (hy : Bits y) (lx : x.length = 128) (ly : y.length = 128) : ∀ (k i f : Nat) (H : Heap) (v : AV) (out : List Int) (c : Int), i + k = 128 → k < f → out.length = i → Bits out → (c = 0 ∨ c = 1) →
    bin out + 2 ^ i * c = bin (x.take i) + bin (y.take i) → hget H 2 = some ⟨E82, [wd 0]⟩ → Own H E3 v (iv out) → ¬ names v 2 → 2 < H.length →
    L77_0 (d + 1) (.ptr 2 0 0) (.lst (iv x)) (.lst (iv y)) f v c (i : Nat) H = some (wd (bin x + bin y)) := by
  intro k
  induction k with
  | zero =>
    intro i f H v out c hi hf lo ob hc hs h2 ho hn hl
    obtain ⟨f, rfl⟩ : ∃ g, f = g + 1 := ⟨f - 1, by omega⟩
    obtain rfl : i = 128 := by omega
    rw [L77_0, decide_eq_false (by omega), cnd_f, X77_0_0, snp_own ho (by intro h; rw [h] at lo; simp at lo), s81 d out ob lo]
    refine Eq.trans (pl_agg (by rfl) (by rfl)) ?_; refine Eq.trans (pl_int (by rfl)) ?_; refine Eq.trans (pl_int (by rfl)) ?_; refine Eq.trans (pl_len (by rfl)) ?_
    rw [st_ptr h2 (by rfl) (by rfl)]
    refine Eq.trans (ld_ptr (hget_set hl) (by rfl) (by rfl)) ?_
    rw [List.take_of_length_le (by omega), List.take_of_length_le (by omega)] at hs
    have e2 : (2 : Int) ^ 128 = 340282366920938463463374607431768211456 := by decide
    rw [e2] at hs
    rw [wd_congr (a := bin x + bin y) (b := bin out) (by rw [← hs]; omega)]
    rfl
  | succ k ih =>
    intro i f H v out c hi hf lo ob hc hs h2 ho hn hl
    obtain ⟨f, rfl⟩ : ∃ g, f = g + 1 := ⟨f - 1, by omega⟩
    have i1 : i < x.length := by omega
    have i2 : i < y.length := by omega
    have g1 : (iv x)[((i : Nat) : Int).toNat]? = some (.int .i64 x[i]) := by rw [iv_at]; simp [i1]
    have g2 : (iv y)[((i : Nat) : Int).toNat]? = some (.int .i64 y[i]) := by rw [iv_at]; simp [i2]
    have bx := hx x[i] (List.getElem_mem _)
    have by' := hy y[i] (List.getElem_mem _)
    rw [L77_0, decide_eq_true (by omega), cnd_t]
    refine Eq.trans (ix_lst (by omega) g1 (by rfl)) ?_
    refine Eq.trans (hop_eq (by rfl)) ?_; refine Eq.trans (pl_int (by rfl)) ?_
    refine Eq.trans (ix_lst (by omega) g2 (by rfl)) ?_
    refine Eq.trans (hop_eq (by rfl)) ?_; refine Eq.trans (pl_int (by rfl)) ?_
    obtain ⟨t, ht⟩ : ∃ t, t = x[i] + y[i] + c := ⟨_, rfl⟩
    have ew : IntKind.wrap .i64 ((IntKind.wrap .i64 (x[i] + y[i])) + c) = t := by rw [i64w, i64w]; omega
    have e1 : Int.tmod t 2 = t % 2 := Int.tmod_eq_emod_of_nonneg (by omega)
    have e2 : Int.tdiv t 2 = t / 2 := Int.tdiv_eq_ediv_of_nonneg (by omega)
    have e3 : IntKind.wrap .i64 (t / 2) = t / 2 := i64_small (by omega) (by omega)
    rw [ew, e1, e2, e3]
    obtain ⟨v', H', e, ho', hn', hl', hk⟩ := app_one (x := .int .i64 (t % 2)) ho (by rfl) (by rw [iv_len, lo]; change (i + 1) * 8 ≤ _; omega) (by rw [iv_len, lo]; omega)
    rw [e, wrap_succ i (by omega)]
    refine ih (i + 1) f H' v' (out ++ [t % 2]) (t / 2) (by omega) (by omega) (by simp [lo]) (bits_app.mpr ⟨ob, by intro z hz; simp at hz; omega⟩) (by omega) ?_ (hk 2 _ hn h2) (by rw [iv_app]; exact ho') (fun hc => by have := hn' 2 hc; omega) (by omega)
    rw [bin_app, lo, bin_take i1, bin_take i2, Int.pow_succ]
    simp only [bin]
    have e4 : t = t % 2 + 2 * (t / 2) := by omega
    have : bin out + 2 ^ i * (t % 2 + 2 * 0) + 2 ^ i * 2 * (t / 2) = bin out + 2 ^ i * (t % 2 + 2 * (t / 2)) := by grind
    rw [this, ← e4, ht]
    grind
theorem s77 (d : Nat) (a b : Int) : pcall M (d + 2) 77 [wd a, wd b] = some (wd (a + b)) := told (q77 (d + 1) _ _ _ _) (by
  refine Eq.trans (hop_eq (by rfl)) ?_; refine Eq.trans (hop_eq (by rfl)) ?_; refine Eq.trans (hop_eq (by rfl)) ?_; refine Eq.trans (hop_eq (by rfl)) ?_; refine Eq.trans (pl_agg (by rfl) (by rfl)) ?_; refine Eq.trans (pl_int (by rfl)) ?_; refine Eq.trans (pl_int (by rfl)) ?_
  refine Eq.trans (pl_any (s80 d a)) ?_
  refine Eq.trans (hop_eq (by rfl)) ?_; refine Eq.trans (pl_agg (by rfl) (by rfl)) ?_; refine Eq.trans (pl_int (by rfl)) ?_; refine Eq.trans (pl_int (by rfl)) ?_
  refine Eq.trans (pl_any (s80 d b)) ?_
  have := plus1 d (wbits a) (wbits b) (wbits_bits a) (wbits_bits b) (wbits_len a) (wbits_len b) 128 0 1000000000000000000
    [some ⟨E82, [wd a]⟩, some ⟨E82, [wd b]⟩, some ⟨E82, [wd 0]⟩] (.zsl true) [] 0 (by omega) (by omega) rfl (by intro z hz; cases hz) (.inl rfl) (by simp [bin]) rfl (.inl ⟨rfl, _, rfl⟩) (by rintro ⟨o, m, h⟩; cases h) (by simp)
  refine this.trans ?_
  rw [bin_wbits, bin_wbits, wd_congr (a := a + b) (b := a % 340282366920938463463374607431768211456 + b % 340282366920938463463374607431768211456) (by omega)])
theorem s76 (d : Nat) (x : Int) (h : -9223372036854775808 ≤ x) (h' : x < 9223372036854775808) : pcall M (d + 1) 76 [.int .i64 x] = some (wd x) := told (r76 C0 d x) (by
  have e2 : IntKind.wrap .u64 x = low x := by unfold low; rw [u64w]
  rw [e2]
  by_cases hx : x < 0
  · rw [decide_eq_true hx, cnd_t, wd, show hiw x = -1 by unfold hiw; rw [i64w]; omega]
  · rw [decide_eq_false hx, cnd_f, wd, show hiw x = 0 by unfold hiw; rw [i64w]; omega])
theorem bits_not_i64 (x : Int) (h : -9223372036854775808 ≤ x) (h' : x < 9223372036854775808) : Go.bits .xor .i64 (-1) x = -1 - x := by
  show IntKind.i64.wrap ((BitVec.ofInt 64 (-1) ^^^ BitVec.ofInt 64 x).toNat : Int) = _
  rw [show BitVec.ofInt 64 (-1) = BitVec.allOnes 64 by decide, BitVec.allOnes_xor, BitVec.toNat_not, i64w, BitVec.toNat_ofInt]
  have : ((2 ^ 64 : Nat) : Int) = 18446744073709551616 := by decide
  rw [this]
  omega
theorem bits_not_u64 (x : Int) (h : 0 ≤ x) (h' : x < 18446744073709551616) : Go.bits .xor .u64 18446744073709551615 x = 18446744073709551615 - x := by
  show IntKind.u64.wrap ((BitVec.ofInt 64 18446744073709551615 ^^^ BitVec.ofInt 64 x).toNat : Int) = _
  rw [show BitVec.ofInt 64 18446744073709551615 = BitVec.allOnes 64 by decide, BitVec.allOnes_xor, BitVec.toNat_not, u64w, BitVec.toNat_ofInt]
  have : ((2 ^ 64 : Nat) : Int) = 18446744073709551616 := by decide
  rw [this]
  omega
theorem hiw_rng (n : Int) : -9223372036854775808 ≤ hiw n ∧ hiw n < 9223372036854775808 := by unfold hiw; rw [i64w]; omega
theorem s78 (d : Nat) (n : Int) : pcall M (d + 3) 78 [wd n] = some (wd (-n)) := told (r78 C0 (d + 2) _ _) (by
  have r1 := hiw_rng n
  have r2 := low_rng n
  rw [if_pos rfl, if_neg (by decide), bits_not_i64 _ r1.1 r1.2, show IntKind.max .u64 = 18446744073709551615 by decide, bits_not_u64 _ r2.1 r2.2]
  have e : (.agg [.int .i64 (-1 - hiw n), .int .u64 (18446744073709551615 - low n)] : AV) = wd (-1 - n) := by
    rw [wd, show -1 - hiw n = hiw (-1 - n) by unfold hiw; rw [i64w, i64w]; omega, show 18446744073709551615 - low n = low (-1 - n) by unfold low; omega]
  have e1 : (.agg [.int .i64 0, .int .u64 1] : AV) = wd 1 := by rfl
  rw [e, e1, s77]
  refine Eq.trans (pl_agg (by rfl) (by rfl)) ?_; refine Eq.trans (pl_int (by rfl)) ?_; refine Eq.trans (pl_int (by rfl)) ?_
  rw [show -1 - n + 1 = -n by omega])
theorem mod_succ (n : Int) (i : Nat) : n % 2 ^ (i + 1) = n % 2 ^ i + 2 ^ i * (n / 2 ^ i % 2) := by
  have := congrArg bin (bitl_snoc n i)
  rw [bin_app, bin_bitl, bin_bitl, bitl_len] at this
  simpa [bin] using this
theorem and1 {x : Int} {i : Nat} (hi : i < 64) (h : 0 ≤ x) (h' : x < 18446744073709551616) : bits .and .u64 (Int.fdiv x (2 ^ (min (Int.toNat (i : Int)) 64))) 1 = x / 2 ^ i % 2 := by
  rw [show min (Int.toNat (i : Int)) 64 = i by omega, Int.fdiv_eq_ediv_of_nonneg _ (Int.le_of_lt (pow64 i hi).1)]
  have hp := pow64 i hi
  have h1 : 0 ≤ x / 2 ^ i := Int.ediv_nonneg h (by omega)
  have h2 : x / 2 ^ i < 18446744073709551616 := Int.lt_of_le_of_lt (Int.ediv_le_self _ h) h'
  have := u64_mask 1 (by decide) h1 h2
  rwa [show ((2 : Int) ^ 1 - 1) = 1 by decide, show ((2 : Int) ^ 1) = 2 by decide] at this
theorem mul1 (d : Nat) (a b : Int) (hb : -9223372036854775808 ≤ b) (hb' : b < 9223372036854775808) : ∀ (k i f : Nat), i + k = 64 → k < f →
    L69_0 (d + 3) b (.ptr 0 0 0) (.ptr 1 0 0) (.ptr 2 0 0) f (i : Nat) [some ⟨E82, [wd 0]⟩, some ⟨E82, [wd (a * 2 ^ i)]⟩, some ⟨E82, [wd (a * (b % 18446744073709551616 % 2 ^ i))]⟩] = some (wd (a * b)) := by
  intro k
  induction k with
  | zero =>
    intro i f hi hf
    obtain ⟨f, rfl⟩ : ∃ g, f = g + 1 := ⟨f - 1, by omega⟩
    obtain rfl : i = 64 := by omega
    have e2 : (2 : Int) ^ 64 = 18446744073709551616 := by decide
    rw [L69_0, decide_eq_false (by omega), cnd_f, X69_0_0, e2]
    by_cases h : b < 0
    · rw [decide_eq_true h, cnd_t]
      refine Eq.trans (hop_eq (by rfl)) ?_; refine Eq.trans (pl_agg (by rfl) (by rfl)) ?_; refine Eq.trans (pl_int (by rfl)) ?_; refine Eq.trans (pl_int (by rfl)) ?_; refine Eq.trans (hop_eq (by rfl)) ?_; refine Eq.trans (pl_agg (by rfl) (by rfl)) ?_; refine Eq.trans (pl_int (by rfl)) ?_; refine Eq.trans (pl_int (by rfl)) ?_
      refine Eq.trans (pl_agg (s78 d _) (by rfl)) ?_
      refine Eq.trans (pl_int (by rfl)) ?_; refine Eq.trans (pl_int (by rfl)) ?_
      refine Eq.trans (pl_agg (s77 (d + 1) _ _) (by rfl)) ?_
      refine Eq.trans (pl_int (by rfl)) ?_; refine Eq.trans (pl_int (by rfl)) ?_; refine Eq.trans (hop_eq (by rfl)) ?_; refine Eq.trans (hop_eq (by rfl)) ?_; refine Eq.trans (pl_agg (by rfl) (by rfl)) ?_; refine Eq.trans (pl_int (by rfl)) ?_; refine Eq.trans (pl_int (by rfl)) ?_; refine Eq.trans (hop_eq (by rfl)) ?_; refine Eq.trans (hop_eq (by rfl)) ?_
      have e3 : a * (b % 18446744073709551616 % 18446744073709551616) + -(a * 18446744073709551616) = a * b := by
        rw [show b % 18446744073709551616 % 18446744073709551616 = b + 18446744073709551616 by omega]; grind
      rw [← e3]; rfl
    · rw [decide_eq_false h, cnd_f]
      refine Eq.trans (hop_eq (by rfl)) ?_; refine Eq.trans (pl_agg (by rfl) (by rfl)) ?_; refine Eq.trans (pl_int (by rfl)) ?_; refine Eq.trans (pl_int (by rfl)) ?_; refine Eq.trans (hop_eq (by rfl)) ?_; refine Eq.trans (hop_eq (by rfl)) ?_
      have e3 : a * (b % 18446744073709551616 % 18446744073709551616) = a * b := by rw [show b % 18446744073709551616 % 18446744073709551616 = b by omega]
      rw [← e3]; rfl
  | succ k ih =>
    intro i f hi hf
    obtain ⟨f, rfl⟩ : ∃ g, f = g + 1 := ⟨f - 1, by omega⟩
    have IH := ih (i + 1) f (by omega) (by omega)
    rw [mod_succ] at IH
    have px : a * 2 ^ (i + 1) = a * 2 ^ i + a * 2 ^ i := by rw [Int.pow_succ]; grind
    rw [px] at IH
    rw [L69_0, decide_eq_true (by omega), cnd_t, decide_eq_false (by omega), cnd_f, u64w, and1 (by omega) (by omega) (by omega)]
    rcases (show b % 18446744073709551616 / 2 ^ i % 2 = 0 ∨ b % 18446744073709551616 / 2 ^ i % 2 = 1 by omega) with h | h
    · rw [h] at IH ⊢
      refine Eq.trans (pl_f (by rfl)) ?_
      refine Eq.trans (hop_eq (by rfl)) ?_; refine Eq.trans (pl_agg (by rfl) (by rfl)) ?_; refine Eq.trans (pl_int (by rfl)) ?_; refine Eq.trans (pl_int (by rfl)) ?_; refine Eq.trans (hop_eq (by rfl)) ?_; refine Eq.trans (pl_agg (by rfl) (by rfl)) ?_; refine Eq.trans (pl_int (by rfl)) ?_; refine Eq.trans (pl_int (by rfl)) ?_
      refine Eq.trans (pl_agg (s77 (d + 1) _ _) (by rfl)) ?_
      refine Eq.trans (pl_int (by rfl)) ?_; refine Eq.trans (pl_int (by rfl)) ?_; refine Eq.trans (hop_eq (by rfl)) ?_
      rw [wrap_succ i (by omega)]
      rw [Int.mul_zero, Int.add_zero] at IH
      exact IH
    · rw [h] at IH ⊢
      refine Eq.trans (pl_len (by rfl)) ?_; refine Eq.trans (hop_eq (by rfl)) ?_; refine Eq.trans (pl_agg (by rfl) (by rfl)) ?_; refine Eq.trans (pl_int (by rfl)) ?_; refine Eq.trans (pl_int (by rfl)) ?_; refine Eq.trans (hop_eq (by rfl)) ?_; refine Eq.trans (pl_agg (by rfl) (by rfl)) ?_; refine Eq.trans (pl_int (by rfl)) ?_; refine Eq.trans (pl_int (by rfl)) ?_
      refine Eq.trans (pl_agg (s77 (d + 1) _ _) (by rfl)) ?_
      refine Eq.trans (pl_int (by rfl)) ?_; refine Eq.trans (pl_int (by rfl)) ?_; refine Eq.trans (hop_eq (by rfl)) ?_; refine Eq.trans (hop_eq (by rfl)) ?_; refine Eq.trans (pl_agg (by rfl) (by rfl)) ?_; refine Eq.trans (pl_int (by rfl)) ?_; refine Eq.trans (pl_int (by rfl)) ?_; refine Eq.trans (hop_eq (by rfl)) ?_; refine Eq.trans (pl_agg (by rfl) (by rfl)) ?_; refine Eq.trans (pl_int (by rfl)) ?_; refine Eq.trans (pl_int (by rfl)) ?_
      refine Eq.trans (pl_agg (s77 (d + 1) _ _) (by rfl)) ?_
      refine Eq.trans (pl_int (by rfl)) ?_; refine Eq.trans (pl_int (by rfl)) ?_; refine Eq.trans (hop_eq (by rfl)) ?_
      rw [wrap_succ i (by omega)]
      rw [Int.mul_one, Int.mul_add] at IH
      exact IH
theorem s69 (d : Nat) (a b : Int) (ha : -9223372036854775808 ≤ a) (ha' : a < 9223372036854775808) (hb : -9223372036854775808 ≤ b) (hb' : b < 9223372036854775808) :
    pcall M (d + 4) 69 [.int .i64 a, .int .i64 b] = some (wd (a * b)) := told (q69 (d + 3) _ _) (by
  refine Eq.trans (hop_eq (by rfl)) ?_
  refine Eq.trans (pl_agg (s76 (d + 2) a ha ha') (by rfl)) ?_
  refine Eq.trans (pl_int (by rfl)) ?_; refine Eq.trans (pl_int (by rfl)) ?_; refine Eq.trans (hop_eq (by rfl)) ?_; refine Eq.trans (hop_eq (by rfl)) ?_; refine Eq.trans (hop_eq (by rfl)) ?_; refine Eq.trans (hop_eq (by rfl)) ?_
  have := mul1 d a b hb hb' 64 0 1000000000000000000 (by omega) (by omega)
  have e : b % 18446744073709551616 % 2 ^ 0 = 0 := by rw [show (2 : Int) ^ 0 = 1 from rfl, Int.emod_one]
  rw [e, show a * 2 ^ 0 = a by rw [show (2 : Int) ^ 0 = 1 from rfl, Int.mul_one], Int.mul_zero] at this
  exact this)
theorem s68 (d : Nat) (a b : Int) (ha : -170141183460469231731687303715884105728 ≤ a) (ha' : a < 170141183460469231731687303715884105728) (hb : -170141183460469231731687303715884105728 ≤ b) (hb' : b < 170141183460469231731687303715884105728) :
    pcall M (d + 1) 68 [wd a, wd b] = some (.int .i64 (cmp a b)) := told (r68 C0 d _ _ _ _) (by
  have e1 : hiw a = a / 18446744073709551616 := by unfold hiw; rw [i64_small (by omega) (by omega)]
  have e2 : hiw b = b / 18446744073709551616 := by unfold hiw; rw [i64_small (by omega) (by omega)]
  rw [e1, e2]
  unfold low cmp
  by_cases c1 : a / 18446744073709551616 < b / 18446744073709551616
  · rw [decide_eq_true c1, cnd_t, if_pos (by omega)]
  · rw [decide_eq_false c1, cnd_f]
    by_cases c2 : a / 18446744073709551616 = b / 18446744073709551616
    · rw [show (a / 18446744073709551616 == b / 18446744073709551616) = true by simp [c2], cnd_t]
      by_cases c3 : a % 18446744073709551616 < b % 18446744073709551616
      · rw [decide_eq_true c3, cnd_t, if_pos (by omega)]
      · rw [decide_eq_false c3, cnd_f]
        by_cases c4 : a % 18446744073709551616 = b % 18446744073709551616
        · rw [show (a % 18446744073709551616 == b % 18446744073709551616) = true by simp [c4], if_neg (by omega), if_neg (by omega)]; rfl
        · rw [show (a % 18446744073709551616 == b % 18446744073709551616) = false by simp [c4], if_neg (by omega), if_pos (by omega)]; rfl
    · rw [show (a / 18446744073709551616 == b / 18446744073709551616) = false by simp [c2], cnd_f, if_neg (by omega), if_pos (by omega)]; rfl)
end Go.Proofs.Ytjblhppbjebagaa.AE

namespace Go.Proofs.Ytjblhppbjebagaa.AE
set_option linter.unusedVariables false
set_option linter.unusedSimpArgs false
set_option linter.constructorNameAsVariable false
open Go Go.Proofs.Ytjblhppbjebagaa.Geo
theorem s55 (d : Nat) (a b c : Pt) : pcall M (d + 5) 55 [pt a, pt b, pt c] = some (.int .i64 (tn3 a b c)) := told (r55 C0 (d + 4) _ _ _ _ _ _) (by
  have R := fun p => s26 (d + 3) p
  simp only [pt] at R
  rw [R a, R b, R c]
  simp only [C0_bool]
  unfold tn3
  by_cases ha : OkP a
  · by_cases hb : OkP b
    · by_cases hc : OkP c
      · rw [if_pos ⟨ha, hb, hc⟩, decide_eq_true ha, decide_eq_true hb, decide_eq_true hc]
        obtain ⟨⟨ha, ha'⟩, hb1, hb1'⟩ := ha
        obtain ⟨⟨hc1, hc1'⟩, hd, hd'⟩ := hb
        obtain ⟨⟨he, he'⟩, hf, hf'⟩ := hc
        rw [i64_small (n := b.1 - a.1) (by omega) (by omega), i64_small (n := c.2 - a.2) (by omega) (by omega), i64_small (n := b.2 - a.2) (by omega) (by omega), i64_small (n := c.1 - a.1) (by omega) (by omega)]
        rw [s69 d _ _ (by omega) (by omega) (by omega) (by omega), s69 d _ _ (by omega) (by omega) (by omega) (by omega)]
        have p1 := prod_bd41 (x := b.1 - a.1) (y := c.2 - a.2) (by omega) (by omega) (by omega) (by omega)
        have p2 := prod_bd41 (x := b.2 - a.2) (y := c.1 - a.1) (by omega) (by omega) (by omega) (by omega)
        simp only [Bool.not_true, cnd_f, C0_agg2, at0, at1, C0_int]
        rw [s68 (d + 3) _ _ (by omega) (by omega) (by omega) (by omega), C0_int, cmp_sg]
        rfl
      · rw [if_neg fun h => hc h.2.2, decide_eq_true ha, decide_eq_true hb, decide_eq_false hc]; rfl
    · rw [if_neg fun h => hb h.2.1, decide_eq_true ha, decide_eq_false hb]; rfl
  · rw [if_neg fun h => ha h.1, decide_eq_false ha]; rfl)
theorem s54 (d : Nat) (p a b : Pt) : pcall M (d + 6) 54 [pt p, pt a, pt b] = some (.bool (onB p a b)) := told (r54 C0 (d + 5) _ _ _ _ _ _) (by
  have R := fun p => s26 (d + 4) p
  have t := s55 d a b p
  simp only [pt] at R t
  rw [R a, R b, R p, t]
  simp only [C0_bool, C0_int]
  have e1 : ∀ x y : Int, (if y < x then y else x) = min x y := fun x y => by omega
  have e2 : ∀ x y : Int, (if y > x then y else x) = max x y := fun x y => by omega
  rw [e1, e1, e2, e2]
  by_cases ha : OkP a
  · by_cases hb : OkP b
    · by_cases hp : OkP p
      · rw [decide_eq_true ha, decide_eq_true hb, decide_eq_true hp, tn3_sg ⟨ha, hb, hp⟩]
        simp only [Bool.not_true, cnd_f]
        by_cases ht : TN a b p = 0
        · rw [show (sg (TN a b p) != 0) = false by simp [sg_zero, ht], cnd_f]
          have key : onB p a b = (decide (p.1 ≥ min a.1 b.1) && (decide (p.1 ≤ max a.1 b.1) && (decide (p.2 ≥ min a.2 b.2) && decide (p.2 ≤ max a.2 b.2)))) := by
            rw [Bool.eq_iff_iff]
            simp only [Bool.and_eq_true, onB_t, decide_eq_true_eq]
            unfold On Btw
            constructor
            · rintro ⟨_, _, h⟩; omega
            · intro h; exact ⟨⟨hp, ha, hb⟩, ht, by omega⟩
          rw [key]
          cases decide (p.1 ≥ min a.1 b.1) <;> cases decide (p.1 ≤ max a.1 b.1) <;> cases decide (p.2 ≥ min a.2 b.2) <;> rfl
        · rw [show (sg (TN a b p) != 0) = true by simp [sg_zero, ht], cnd_t]
          have : onB p a b = false := by rw [← Bool.not_eq_true]; intro h; exact ht (onB_t.mp h).2.1
          rw [this]
      · have : onB p a b = false := by rw [← Bool.not_eq_true]; intro h; exact hp (onB_t.mp h).1.1
        rw [decide_eq_true ha, decide_eq_true hb, decide_eq_false hp, this]; rfl
    · have : onB p a b = false := by rw [← Bool.not_eq_true]; intro h; exact hb (onB_t.mp h).1.2.2
      rw [decide_eq_true ha, decide_eq_false hb, this]; rfl
  · have : onB p a b = false := by rw [← Bool.not_eq_true]; intro h; exact ha (onB_t.mp h).1.2.1
    rw [decide_eq_false ha, this]; rfl)
theorem s42 (d : Nat) (a b c e : Pt) : pcall M (d + 7) 42 [pt a, pt b, pt c, pt e] = some (.bool (meetB a b c e)) := told (r42 C0 (d + 6) _ _ _ _ _ _ _ _) (by
  have R := fun p => s26 (d + 5) p
  have o := fun p q r => s54 d p q r
  have t := fun p q r => s55 (d + 1) p q r
  simp only [pt] at o t R
  rw [R a, R b, R c, R e, o a c e, o b c e, o c a b, o e a b, t a b c, t a b e, t c e a, t c e b]
  simp only [C0_bool, C0_int]
  change cnd (!okb a) (some (.bool false)) (cnd (!okb b) (some (.bool false)) (cnd (!okb c) (some (.bool false)) (cnd (!okb e) (some (.bool false)) (cnd (onB a c e) (some (.bool true)) (cnd (onB b c e) (some (.bool true)) (cnd (onB c a b) (some (.bool true)) (cnd (onB e a b) (some (.bool true))
    (cnd (negB (IntKind.wrap .i64 (tn3 a b c * tn3 a b e))) (some (.bool (negB (IntKind.wrap .i64 (tn3 c e a * tn3 c e b))))) (some (.bool false)))))))))) = _
  have key : meetB a b c e = (okb a && (okb b && (okb c && (okb e && (onB a c e || (onB b c e || (onB c a b || (onB e a b || (negB (IntKind.wrap .i64 (tn3 a b c * tn3 a b e)) && negB (IntKind.wrap .i64 (tn3 c e a * tn3 c e b))))))))))) := by
    rw [Bool.eq_iff_iff]
    simp only [Bool.and_eq_true, Bool.or_eq_true, onB_t, okb_t, negB_t, meetB_t]
    have fin : ok4 a b c e → (Meet a b c e ↔ (ok3 a c e ∧ On a c e ∨ ok3 b c e ∧ On b c e ∨ ok3 c a b ∧ On c a b ∨ ok3 e a b ∧ On e a b ∨ IntKind.wrap .i64 (tn3 a b c * tn3 a b e) < 0 ∧ IntKind.wrap .i64 (tn3 c e a * tn3 c e b) < 0)) := by
      rintro ⟨ha, hb, hc, he⟩
      rw [tn3_sg ⟨ha, hb, hc⟩, tn3_sg ⟨ha, hb, he⟩, tn3_sg ⟨hc, he, ha⟩, tn3_sg ⟨hc, he, hb⟩, sg_small, sg_small]
      simp only [ok3, ha, hb, hc, he, true_and, and_true]
      exact Iff.rfl
    constructor
    · rintro ⟨h, hm⟩; exact ⟨h.1, h.2.1, h.2.2.1, h.2.2.2, (fin h).mp hm⟩
    · rintro ⟨h1, h2, h3, h4, hm⟩; exact ⟨⟨h1, h2, h3, h4⟩, (fin ⟨h1, h2, h3, h4⟩).mpr hm⟩
  rw [key]
  cases okb a <;> cases okb b <;> cases okb c <;> cases okb e <;> cases onB a c e <;> cases onB b c e <;> cases onB c a b <;> cases onB e a b <;> cases negB (IntKind.wrap .i64 (tn3 a b c * tn3 a b e)) <;> rfl)
end Go.Proofs.Ytjblhppbjebagaa.AE

namespace Go.Proofs.Ytjblhppbjebagaa.AE
set_option linter.unusedVariables false
set_option linter.unusedSimpArgs false
set_option linter.constructorNameAsVariable false
open Go
set_option maxRecDepth 100000
def r29R0 (C : Cb) (d : Nat) (a0 : List AV) : St → (Ex → St → Ans) → Ans := fun s0 k1 =>
  cnd ((List.length (St.env s0)) == 47)
   (C.same (St.env s0)[0]? (.lst a0) <|
   C.same (St.env s0)[1]? (.tup []) <|
   C.bool (St.env s0)[2]? fun b3 =>
   C.int .i64 (St.env s0)[3]? fun x4 =>
   C.any (St.env s0)[4]? fun v5 =>
   C.any (St.env s0)[5]? fun v6 =>
   C.any (St.env s0)[6]? fun v7 =>
   C.any (St.env s0)[7]? fun v8 =>
   C.any (St.env s0)[8]? fun v9 =>
   C.any (St.env s0)[9]? fun v10 =>
   C.any (St.env s0)[10]? fun v11 =>
   C.any (St.env s0)[11]? fun v12 =>
   C.any (St.env s0)[12]? fun v13 =>
   C.any (St.env s0)[13]? fun v14 =>
   C.any (St.env s0)[14]? fun v15 =>
   C.any (St.env s0)[15]? fun v16 =>
   C.any (St.env s0)[16]? fun v17 =>
   C.any (St.env s0)[17]? fun v18 =>
   C.any (St.env s0)[18]? fun v19 =>
   C.any (St.env s0)[19]? fun v20 =>
   C.any (St.env s0)[20]? fun v21 =>
   C.any (St.env s0)[21]? fun v22 =>
   C.any (St.env s0)[22]? fun v23 =>
   C.any (St.env s0)[23]? fun v24 =>
   C.any (St.env s0)[24]? fun v25 =>
   C.any (St.env s0)[25]? fun v26 =>
   C.any (St.env s0)[26]? fun v27 =>
   C.any (St.env s0)[27]? fun v28 =>
   C.any (St.env s0)[28]? fun v29 =>
   C.any (St.env s0)[29]? fun v30 =>
   C.any (St.env s0)[30]? fun v31 =>
   C.any (St.env s0)[31]? fun v32 =>
   C.any (St.env s0)[32]? fun v33 =>
   C.any (St.env s0)[33]? fun v34 =>
   C.any (St.env s0)[34]? fun v35 =>
   C.any (St.env s0)[35]? fun v36 =>
   C.any (St.env s0)[36]? fun v37 =>
   C.any (St.env s0)[37]? fun v38 =>
   C.any (St.env s0)[38]? fun v39 =>
   C.any (St.env s0)[39]? fun v40 =>
   C.any (St.env s0)[40]? fun v41 =>
   C.any (St.env s0)[41]? fun v42 =>
   C.any (St.env s0)[42]? fun v43 =>
   C.any (St.env s0)[43]? fun v44 =>
   C.any (St.env s0)[44]? fun v45 =>
   C.same (St.env s0)[45]? (.tup []) <|
   C.same (St.env s0)[46]? (.tup []) <|
   C.sameH (St.H s0) [] <|
   cnd (decide (x4 < (((List.length a0) : Nat) : Int)))
   (cnd (decide ((((List.length a0) : Nat) : Int) ≤ 8))
   (cnd (decide (0 ≤ x4))
   (C.agg 2 a0[(Int.toNat x4)]? fun l46 =>
   C.int .i64 l46[0]? fun x47 =>
   C.int .i64 l46[1]? fun x48 =>
   cnd (decide (x47 < (-1073741824)))
   (k1 .ret ⟨[(.lst a0), (.tup []), (.bool false), (.int .i64 x4), (.int .i64 x4), (.lst a0), (.int .i64 (((List.length a0) : Nat) : Int)), (.bool (decide (x4 < (((List.length a0) : Nat) : Int)))), (.bool true), (.lst a0), (.int .i64 (((List.length a0) : Nat) : Int)), (.bool (decide ((((List.length a0) : Nat) : Int) ≤ 8))), (.bool true), v14, v15, (.lst a0), (.int .i64 x4), (.fptr (.agg [(.int .i64 x47), (.int .i64 x48)]) 0), (.fptr (.agg [(.int .i64 x47), (.int .i64 x48)]) 0), (.int .i64 x47), (.bool (decide (x47 < (-1073741824)))), (.bool true), (.tup []), (.tup []), (.tup []), (.tup []), (.tup []), (.tup []), (.bool true), (.bool true), (.tup []), (.tup []), (.tup []), (.tup []), (.tup []), (.tup []), (.bool true), (.bool true), (.tup []), (.tup []), (.tup []), (.tup []), (.tup []), (.tup []), (.bool true), (.tup []), (.tup [])], []⟩)
   (cnd (decide (0 ≤ x4))
   (C.agg 2 a0[(Int.toNat x4)]? fun l49 =>
   C.int .i64 l49[0]? fun x50 =>
   C.int .i64 l49[1]? fun x51 =>
   cnd (decide (x50 > 1073741824))
   (k1 .ret ⟨[(.lst a0), (.tup []), (.bool false), (.int .i64 x4), (.int .i64 x4), (.lst a0), (.int .i64 (((List.length a0) : Nat) : Int)), (.bool (decide (x4 < (((List.length a0) : Nat) : Int)))), (.bool true), (.lst a0), (.int .i64 (((List.length a0) : Nat) : Int)), (.bool (decide ((((List.length a0) : Nat) : Int) ≤ 8))), (.bool true), v14, v15, (.lst a0), (.int .i64 x4), (.fptr (.agg [(.int .i64 x47), (.int .i64 x48)]) 0), (.fptr (.agg [(.int .i64 x47), (.int .i64 x48)]) 0), (.int .i64 x47), (.bool (decide (x47 < (-1073741824)))), (.bool false), (.lst a0), (.int .i64 x4), (.fptr (.agg [(.int .i64 x50), (.int .i64 x51)]) 0), (.fptr (.agg [(.int .i64 x50), (.int .i64 x51)]) 0), (.int .i64 x50), (.bool (decide (x50 > 1073741824))), (.bool (decide (x50 > 1073741824))), (.bool true), (.tup []), (.tup []), (.tup []), (.tup []), (.tup []), (.tup []), (.bool true), (.bool true), (.tup []), (.tup []), (.tup []), (.tup []), (.tup []), (.tup []), (.bool true), (.tup []), (.tup [])], []⟩)
   (cnd (decide (0 ≤ x4))
   (C.agg 2 a0[(Int.toNat x4)]? fun l52 =>
   C.int .i64 l52[0]? fun x53 =>
   C.int .i64 l52[1]? fun x54 =>
   cnd (decide (x54 < (-1073741824)))
   (k1 .ret ⟨[(.lst a0), (.tup []), (.bool false), (.int .i64 x4), (.int .i64 x4), (.lst a0), (.int .i64 (((List.length a0) : Nat) : Int)), (.bool (decide (x4 < (((List.length a0) : Nat) : Int)))), (.bool true), (.lst a0), (.int .i64 (((List.length a0) : Nat) : Int)), (.bool (decide ((((List.length a0) : Nat) : Int) ≤ 8))), (.bool true), v14, v15, (.lst a0), (.int .i64 x4), (.fptr (.agg [(.int .i64 x47), (.int .i64 x48)]) 0), (.fptr (.agg [(.int .i64 x47), (.int .i64 x48)]) 0), (.int .i64 x47), (.bool (decide (x47 < (-1073741824)))), (.bool false), (.lst a0), (.int .i64 x4), (.fptr (.agg [(.int .i64 x50), (.int .i64 x51)]) 0), (.fptr (.agg [(.int .i64 x50), (.int .i64 x51)]) 0), (.int .i64 x50), (.bool (decide (x50 > 1073741824))), (.bool (decide (x50 > 1073741824))), (.bool false), (.lst a0), (.int .i64 x4), (.fptr (.agg [(.int .i64 x53), (.int .i64 x54)]) 0), (.fptr (.agg [(.int .i64 x53), (.int .i64 x54)]) 1), (.int .i64 x54), (.bool (decide (x54 < (-1073741824)))), (.bool (decide (x54 < (-1073741824)))), (.bool true), (.tup []), (.tup []), (.tup []), (.tup []), (.tup []), (.tup []), (.bool true), (.tup []), (.tup [])], []⟩)
   (cnd (decide (0 ≤ x4))
   (C.agg 2 a0[(Int.toNat x4)]? fun l55 =>
   C.int .i64 l55[0]? fun x56 =>
   C.int .i64 l55[1]? fun x57 =>
   cnd (decide (x57 > 1073741824))
   (k1 .ret ⟨[(.lst a0), (.tup []), (.bool false), (.int .i64 x4), (.int .i64 x4), (.lst a0), (.int .i64 (((List.length a0) : Nat) : Int)), (.bool (decide (x4 < (((List.length a0) : Nat) : Int)))), (.bool true), (.lst a0), (.int .i64 (((List.length a0) : Nat) : Int)), (.bool (decide ((((List.length a0) : Nat) : Int) ≤ 8))), (.bool true), v14, v15, (.lst a0), (.int .i64 x4), (.fptr (.agg [(.int .i64 x47), (.int .i64 x48)]) 0), (.fptr (.agg [(.int .i64 x47), (.int .i64 x48)]) 0), (.int .i64 x47), (.bool (decide (x47 < (-1073741824)))), (.bool false), (.lst a0), (.int .i64 x4), (.fptr (.agg [(.int .i64 x50), (.int .i64 x51)]) 0), (.fptr (.agg [(.int .i64 x50), (.int .i64 x51)]) 0), (.int .i64 x50), (.bool (decide (x50 > 1073741824))), (.bool (decide (x50 > 1073741824))), (.bool false), (.lst a0), (.int .i64 x4), (.fptr (.agg [(.int .i64 x53), (.int .i64 x54)]) 0), (.fptr (.agg [(.int .i64 x53), (.int .i64 x54)]) 1), (.int .i64 x54), (.bool (decide (x54 < (-1073741824)))), (.bool (decide (x54 < (-1073741824)))), (.bool false), (.lst a0), (.int .i64 x4), (.fptr (.agg [(.int .i64 x56), (.int .i64 x57)]) 0), (.fptr (.agg [(.int .i64 x56), (.int .i64 x57)]) 1), (.int .i64 x57), (.bool (decide (x57 > 1073741824))), (.bool true), (.tup []), (.tup [])], []⟩)
   (k1 .normal ⟨[(.lst a0), (.tup []), (.bool b3), (.int .i64 (IntKind.wrap .i64 (x4 + 1))), (.int .i64 x4), (.lst a0), (.int .i64 (((List.length a0) : Nat) : Int)), (.bool (decide (x4 < (((List.length a0) : Nat) : Int)))), (.bool true), (.lst a0), (.int .i64 (((List.length a0) : Nat) : Int)), (.bool (decide ((((List.length a0) : Nat) : Int) ≤ 8))), (.bool true), (.int .i64 x4), (.int .i64 (IntKind.wrap .i64 (x4 + 1))), (.lst a0), (.int .i64 x4), (.fptr (.agg [(.int .i64 x47), (.int .i64 x48)]) 0), (.fptr (.agg [(.int .i64 x47), (.int .i64 x48)]) 0), (.int .i64 x47), (.bool (decide (x47 < (-1073741824)))), (.bool false), (.lst a0), (.int .i64 x4), (.fptr (.agg [(.int .i64 x50), (.int .i64 x51)]) 0), (.fptr (.agg [(.int .i64 x50), (.int .i64 x51)]) 0), (.int .i64 x50), (.bool (decide (x50 > 1073741824))), (.bool (decide (x50 > 1073741824))), (.bool false), (.lst a0), (.int .i64 x4), (.fptr (.agg [(.int .i64 x53), (.int .i64 x54)]) 0), (.fptr (.agg [(.int .i64 x53), (.int .i64 x54)]) 1), (.int .i64 x54), (.bool (decide (x54 < (-1073741824)))), (.bool (decide (x54 < (-1073741824)))), (.bool false), (.lst a0), (.int .i64 x4), (.fptr (.agg [(.int .i64 x56), (.int .i64 x57)]) 0), (.fptr (.agg [(.int .i64 x56), (.int .i64 x57)]) 1), (.int .i64 x57), (.bool (decide (x57 > 1073741824))), (.bool false), (.tup []), (.tup [])], []⟩))
   (none)))
   (none)))
   (none)))
   (none))
   (k1 (.exit 0) ⟨[(.lst a0), (.tup []), (.bool b3), (.int .i64 x4), (.int .i64 x4), (.lst a0), (.int .i64 (((List.length a0) : Nat) : Int)), (.bool (decide (x4 < (((List.length a0) : Nat) : Int)))), (.bool true), (.lst a0), (.int .i64 (((List.length a0) : Nat) : Int)), (.bool (decide ((((List.length a0) : Nat) : Int) ≤ 8))), (.bool false), v14, v15, v16, v17, v18, v19, v20, v21, v22, v23, v24, v25, v26, v27, v28, v29, v30, v31, v32, v33, v34, v35, v36, v37, v38, v39, v40, v41, v42, v43, v44, v45, (.tup []), (.tup [])], []⟩))
   (k1 (.exit 0) ⟨[(.lst a0), (.tup []), (.bool b3), (.int .i64 x4), (.int .i64 x4), (.lst a0), (.int .i64 (((List.length a0) : Nat) : Int)), (.bool (decide (x4 < (((List.length a0) : Nat) : Int)))), (.bool false), (.tup []), (.tup []), (.tup []), (.bool false), v14, v15, v16, v17, v18, v19, v20, v21, v22, v23, v24, v25, v26, v27, v28, v29, v30, v31, v32, v33, v34, v35, v36, v37, v38, v39, v40, v41, v42, v43, v44, v45, (.tup []), (.tup [])], []⟩))
   (none)
def r29X0_0 (C : Cb) (d : Nat) (a0 : List AV) : St → Ans := fun s58 =>
  cnd ((List.length (St.env s58)) == 47)
   (C.same (St.env s58)[0]? (.lst a0) <|
   C.same (St.env s58)[1]? (.tup []) <|
   C.bool (St.env s58)[2]? fun b59 =>
   C.int .i64 (St.env s58)[3]? fun x60 =>
   C.int .i64 (St.env s58)[4]? fun x61 =>
   C.any (St.env s58)[5]? fun v62 =>
   C.int .i64 (St.env s58)[6]? fun x63 =>
   C.bool (St.env s58)[7]? fun b64 =>
   C.bool (St.env s58)[8]? fun b65 =>
   C.any (St.env s58)[9]? fun v66 =>
   C.any (St.env s58)[10]? fun v67 =>
   C.any (St.env s58)[11]? fun v68 =>
   C.bool (St.env s58)[12]? fun b69 =>
   C.any (St.env s58)[13]? fun v70 =>
   C.any (St.env s58)[14]? fun v71 =>
   C.any (St.env s58)[15]? fun v72 =>
   C.any (St.env s58)[16]? fun v73 =>
   C.any (St.env s58)[17]? fun v74 =>
   C.any (St.env s58)[18]? fun v75 =>
   C.any (St.env s58)[19]? fun v76 =>
   C.any (St.env s58)[20]? fun v77 =>
   C.any (St.env s58)[21]? fun v78 =>
   C.any (St.env s58)[22]? fun v79 =>
   C.any (St.env s58)[23]? fun v80 =>
   C.any (St.env s58)[24]? fun v81 =>
   C.any (St.env s58)[25]? fun v82 =>
   C.any (St.env s58)[26]? fun v83 =>
   C.any (St.env s58)[27]? fun v84 =>
   C.any (St.env s58)[28]? fun v85 =>
   C.any (St.env s58)[29]? fun v86 =>
   C.any (St.env s58)[30]? fun v87 =>
   C.any (St.env s58)[31]? fun v88 =>
   C.any (St.env s58)[32]? fun v89 =>
   C.any (St.env s58)[33]? fun v90 =>
   C.any (St.env s58)[34]? fun v91 =>
   C.any (St.env s58)[35]? fun v92 =>
   C.any (St.env s58)[36]? fun v93 =>
   C.any (St.env s58)[37]? fun v94 =>
   C.any (St.env s58)[38]? fun v95 =>
   C.any (St.env s58)[39]? fun v96 =>
   C.any (St.env s58)[40]? fun v97 =>
   C.any (St.env s58)[41]? fun v98 =>
   C.any (St.env s58)[42]? fun v99 =>
   C.any (St.env s58)[43]? fun v100 =>
   C.any (St.env s58)[44]? fun v101 =>
   C.same (St.env s58)[45]? (.tup []) <|
   C.same (St.env s58)[46]? (.tup []) <|
   C.sameH (St.H s58) [] <|
   C.bool (pcall M d 45 [(.lst a0)]) fun b102 =>
   some (.bool b102))
   (none)
def r29E0 (C : Cb) (d : Nat) (a0 : List AV) : St → Ans := fun s2 =>
  cnd ((List.length (St.env s2)) == 47)
   (C.same (St.env s2)[0]? (.lst a0) <|
   C.same (St.env s2)[1]? (.tup []) <|
   C.bool (St.env s2)[2]? fun b103 =>
   C.int .i64 (St.env s2)[3]? fun x104 =>
   C.int .i64 (St.env s2)[4]? fun x105 =>
   C.any (St.env s2)[5]? fun v106 =>
   C.int .i64 (St.env s2)[6]? fun x107 =>
   C.bool (St.env s2)[7]? fun b108 =>
   C.bool (St.env s2)[8]? fun b109 =>
   C.any (St.env s2)[9]? fun v110 =>
   C.any (St.env s2)[10]? fun v111 =>
   C.any (St.env s2)[11]? fun v112 =>
   C.bool (St.env s2)[12]? fun b113 =>
   C.any (St.env s2)[13]? fun v114 =>
   C.any (St.env s2)[14]? fun v115 =>
   C.any (St.env s2)[15]? fun v116 =>
   C.int .i64 (St.env s2)[16]? fun x117 =>
   C.any (St.env s2)[17]? fun v118 =>
   C.any (St.env s2)[18]? fun v119 =>
   C.int .i64 (St.env s2)[19]? fun x120 =>
   C.bool (St.env s2)[20]? fun b121 =>
   C.bool (St.env s2)[21]? fun b122 =>
   C.any (St.env s2)[22]? fun v123 =>
   C.any (St.env s2)[23]? fun v124 =>
   C.any (St.env s2)[24]? fun v125 =>
   C.any (St.env s2)[25]? fun v126 =>
   C.any (St.env s2)[26]? fun v127 =>
   C.any (St.env s2)[27]? fun v128 =>
   C.bool (St.env s2)[28]? fun b129 =>
   C.bool (St.env s2)[29]? fun b130 =>
   C.any (St.env s2)[30]? fun v131 =>
   C.any (St.env s2)[31]? fun v132 =>
   C.any (St.env s2)[32]? fun v133 =>
   C.any (St.env s2)[33]? fun v134 =>
   C.any (St.env s2)[34]? fun v135 =>
   C.any (St.env s2)[35]? fun v136 =>
   C.bool (St.env s2)[36]? fun b137 =>
   C.bool (St.env s2)[37]? fun b138 =>
   C.any (St.env s2)[38]? fun v139 =>
   C.any (St.env s2)[39]? fun v140 =>
   C.any (St.env s2)[40]? fun v141 =>
   C.any (St.env s2)[41]? fun v142 =>
   C.any (St.env s2)[42]? fun v143 =>
   C.any (St.env s2)[43]? fun v144 =>
   C.bool (St.env s2)[44]? fun b145 =>
   C.same (St.env s2)[45]? (.tup []) <|
   C.same (St.env s2)[46]? (.tup []) <|
   C.sameH (St.H s2) [] <|
   some (.bool b103))
   (none)
/-- apogee/apogeeref11.Right -/
theorem r29 (C : Cb) (d : Nat) (a0 : List AV) : xcall C M unr d 29 [(.lst a0)] =
  C.iter (r29R0 C d a0) 1000000000000000000 ⟨[(.lst a0), (.tup []), (.bool false), (.int .i64 0), (.tup []), (.tup []), (.tup []), (.tup []), (.tup []), (.tup []), (.tup []), (.tup []), (.tup []), (.tup []), (.tup []), (.tup []), (.tup []), (.tup []), (.tup []), (.tup []), (.tup []), (.tup []), (.tup []), (.tup []), (.tup []), (.tup []), (.tup []), (.tup []), (.tup []), (.tup []), (.tup []), (.tup []), (.tup []), (.tup []), (.tup []), (.tup []), (.tup []), (.tup []), (.tup []), (.tup []), (.tup []), (.tup []), (.tup []), (.tup []), (.tup []), (.tup []), (.tup [])], []⟩ [0] [r29X0_0 C d a0] (r29E0 C d a0) := by kernel_rfl
def r45R2 (C : Cb) (d : Nat) (a0 : List AV) (x2 x29 x30 x31 : Int) (b32 : Bool) (v33 v34 v35 v36 v37 v38 v39 v40 : AV) (k42 : Ex → St → Ans) (x45 : Int) (v54 v55 : AV) : St → (Ex → St → Ans) → Ans := fun s121 k122 =>
  cnd ((List.length (St.env s121)) == 100)
   (C.same (St.env s121)[0]? (.lst a0) <|
   C.same (St.env s121)[1]? (.tup []) <|
   C.bool (St.env s121)[2]? fun b124 =>
   C.same (St.env s121)[3]? (.int .i64 x2) <|
   C.same (St.env s121)[4]? (.int .i64 x29) <|
   C.same (St.env s121)[5]? (.int .i64 x45) <|
   C.int .i64 (St.env s121)[6]? fun x125 =>
   C.any (St.env s121)[7]? fun v126 =>
   C.any (St.env s121)[8]? fun v127 =>
   C.any (St.env s121)[9]? fun v128 =>
   C.any (St.env s121)[10]? fun v129 =>
   C.same (St.env s121)[11]? (.lst a0) <|
   C.same (St.env s121)[12]? (.int .i64 x2) <|
   C.same (St.env s121)[13]? (.int .i64 x2) <|
   C.same (St.env s121)[14]? (.bool (decide (x2 < 3))) <|
   C.same (St.env s121)[15]? (.bool false) <|
   C.same (St.env s121)[16]? (.int .i64 x2) <|
   C.same (St.env s121)[17]? (.bool (decide (x2 > 8))) <|
   C.same (St.env s121)[18]? (.bool false) <|
   C.same (St.env s121)[19]? (.int .i64 x30) <|
   C.same (St.env s121)[20]? (.int .i64 x31) <|
   C.same (St.env s121)[21]? (.bool b32) <|
   C.same (St.env s121)[22]? v33 <|
   C.same (St.env s121)[23]? v34 <|
   C.same (St.env s121)[24]? v35 <|
   C.same (St.env s121)[25]? v36 <|
   C.same (St.env s121)[26]? v37 <|
   C.same (St.env s121)[27]? v38 <|
   C.same (St.env s121)[28]? v39 <|
   C.same (St.env s121)[29]? v40 <|
   C.same (St.env s121)[30]? (.int .i64 x45) <|
   C.same (St.env s121)[31]? (.int .i64 x2) <|
   C.same (St.env s121)[32]? (.bool true) <|
   C.same (St.env s121)[33]? v54 <|
   C.same (St.env s121)[34]? v55 <|
   C.same (St.env s121)[35]? (.int .i64 x45) <|
   C.same (St.env s121)[36]? (.int .i64 (IntKind.wrap .i64 (x45 + 1))) <|
   C.any (St.env s121)[37]? fun v130 =>
   C.any (St.env s121)[38]? fun v131 =>
   C.any (St.env s121)[39]? fun v132 =>
   C.any (St.env s121)[40]? fun v133 =>
   C.any (St.env s121)[41]? fun v134 =>
   C.any (St.env s121)[42]? fun v135 =>
   C.any (St.env s121)[43]? fun v136 =>
   C.any (St.env s121)[44]? fun v137 =>
   C.any (St.env s121)[45]? fun v138 =>
   C.any (St.env s121)[46]? fun v139 =>
   C.any (St.env s121)[47]? fun v140 =>
   C.any (St.env s121)[48]? fun v141 =>
   C.any (St.env s121)[49]? fun v142 =>
   C.any (St.env s121)[50]? fun v143 =>
   C.any (St.env s121)[51]? fun v144 =>
   C.any (St.env s121)[52]? fun v145 =>
   C.any (St.env s121)[53]? fun v146 =>
   C.any (St.env s121)[54]? fun v147 =>
   C.any (St.env s121)[55]? fun v148 =>
   C.any (St.env s121)[56]? fun v149 =>
   C.any (St.env s121)[57]? fun v150 =>
   C.any (St.env s121)[58]? fun v151 =>
   C.any (St.env s121)[59]? fun v152 =>
   C.any (St.env s121)[60]? fun v153 =>
   C.any (St.env s121)[61]? fun v154 =>
   C.any (St.env s121)[62]? fun v155 =>
   C.any (St.env s121)[63]? fun v156 =>
   C.any (St.env s121)[64]? fun v157 =>
   C.any (St.env s121)[65]? fun v158 =>
   C.any (St.env s121)[66]? fun v159 =>
   C.any (St.env s121)[67]? fun v160 =>
   C.any (St.env s121)[68]? fun v161 =>
   C.any (St.env s121)[69]? fun v162 =>
   C.any (St.env s121)[70]? fun v163 =>
   C.any (St.env s121)[71]? fun v164 =>
   C.any (St.env s121)[72]? fun v165 =>
   C.any (St.env s121)[73]? fun v166 =>
   C.any (St.env s121)[74]? fun v167 =>
   C.any (St.env s121)[75]? fun v168 =>
   C.any (St.env s121)[76]? fun v169 =>
   C.any (St.env s121)[77]? fun v170 =>
   C.any (St.env s121)[78]? fun v171 =>
   C.any (St.env s121)[79]? fun v172 =>
   C.any (St.env s121)[80]? fun v173 =>
   C.any (St.env s121)[81]? fun v174 =>
   C.any (St.env s121)[82]? fun v175 =>
   C.any (St.env s121)[83]? fun v176 =>
   C.any (St.env s121)[84]? fun v177 =>
   C.any (St.env s121)[85]? fun v178 =>
   C.any (St.env s121)[86]? fun v179 =>
   C.any (St.env s121)[87]? fun v180 =>
   C.any (St.env s121)[88]? fun v181 =>
   C.any (St.env s121)[89]? fun v182 =>
   C.any (St.env s121)[90]? fun v183 =>
   C.any (St.env s121)[91]? fun v184 =>
   C.any (St.env s121)[92]? fun v185 =>
   C.any (St.env s121)[93]? fun v186 =>
   C.any (St.env s121)[94]? fun v187 =>
   C.any (St.env s121)[95]? fun v188 =>
   C.any (St.env s121)[96]? fun v189 =>
   C.any (St.env s121)[97]? fun v190 =>
   C.any (St.env s121)[98]? fun v191 =>
   C.any (St.env s121)[99]? fun v192 =>
   cnd (decide (x125 < x2))
   (C.hop (St.H s121) (.ixAS .any 2 (.v (.lst a0)) (.v (.int .i64 x45))) fun v193 h194 =>
   C.hop h194 (.load true 2 (.v v193)) fun v195 h196 =>
   C.agg 2 (some v195) fun l197 =>
   C.int .i64 l197[0]? fun x198 =>
   C.int .i64 l197[1]? fun x199 =>
   C.snp h196 [(.lst a0), (.int .i64 x45)] fun l200 b201 =>
   C.agg 2 (pcall M d 58 l200) fun l202 =>
   C.int .i64 l202[0]? fun x203 =>
   C.int .i64 l202[1]? fun x204 =>
   cnd (b201 || true)
   (C.hop h196 (.ixAS .any 2 (.v (.lst a0)) (.v (.int .i64 x125))) fun v205 h206 =>
   C.hop h206 (.load true 2 (.v v205)) fun v207 h208 =>
   C.agg 2 (some v207) fun l209 =>
   C.int .i64 l209[0]? fun x210 =>
   C.int .i64 l209[1]? fun x211 =>
   C.snp h208 [(.lst a0), (.int .i64 x125)] fun l212 b213 =>
   C.agg 2 (pcall M d 58 l212) fun l214 =>
   C.int .i64 l214[0]? fun x215 =>
   C.int .i64 l214[1]? fun x216 =>
   cnd (b213 || true)
   (C.hop h208 (.alloc E23) fun v217 h218 =>
   C.hop h218 (.alloc E23) fun v219 h220 =>
   C.hop h220 (.alloc E23) fun v221 h222 =>
   C.hop h222 (.alloc E23) fun v223 h224 =>
   C.disj (.addr v205) (.addr v217) <|
   C.hop h224 (.store 2 (.v v217) (.v (.agg [(.int .i64 x198), (.int .i64 x199)]))) fun v225 h226 =>
   C.disj (.addr v205) (.addr v219) <|
   C.hop h226 (.store 2 (.v v219) (.v (.agg [(.int .i64 x203), (.int .i64 x204)]))) fun v227 h228 =>
   C.hop h228 (.store 2 (.v v221) (.v (.agg [(.int .i64 x210), (.int .i64 x211)]))) fun v229 h230 =>
   C.hop h230 (.store 2 (.v v223) (.v (.agg [(.int .i64 x215), (.int .i64 x216)]))) fun v231 h232 =>
   C.hop h232 (.load true 2 (.v v217)) fun v233 h234 =>
   C.agg 2 (some v233) fun l235 =>
   C.int .i64 l235[0]? fun x236 =>
   C.int .i64 l235[1]? fun x237 =>
   C.hop h234 (.load true 2 (.v v221)) fun v238 h239 =>
   C.agg 2 (some v238) fun l240 =>
   C.int .i64 l240[0]? fun x241 =>
   C.int .i64 l240[1]? fun x242 =>
   cnd (xor false ((x236 == x241) && ((x237 == x242) && true)))
   (k122 .ret ⟨[(.lst a0), (.tup []), (.bool false), (.int .i64 x2), (.int .i64 x29), (.int .i64 x45), (.int .i64 x125), v217, v219, v221, v223, (.lst a0), (.int .i64 x2), (.int .i64 x2), (.bool (decide (x2 < 3))), (.bool false), (.int .i64 x2), (.bool (decide (x2 > 8))), (.bool false), (.int .i64 x30), (.int .i64 x31), (.bool b32), v33, v34, v35, v36, v37, v38, v39, v40, (.int .i64 x45), (.int .i64 x2), (.bool true), v54, v55, (.int .i64 x45), (.int .i64 (IntKind.wrap .i64 (x45 + 1))), (.int .i64 x125), (.int .i64 x2), (.bool true), v133, v134, (.lst a0), (.int .i64 x45), v193, (.agg [(.int .i64 x198), (.int .i64 x199)]), (.lst a0), (.int .i64 x45), (.agg [(.int .i64 x203), (.int .i64 x204)]), (.lst a0), (.int .i64 x125), v205, (.agg [(.int .i64 x210), (.int .i64 x211)]), (.lst a0), (.int .i64 x125), (.agg [(.int .i64 x215), (.int .i64 x216)]), (.bool true), (.agg [(.int .i64 x236), (.int .i64 x237)]), (.agg [(.int .i64 x241), (.int .i64 x242)]), (.bool (xor false ((x236 == x241) && ((x237 == x242) && true)))), v153, v154, v155, v156, v157, v158, v159, v160, v161, v162, v163, v164, v165, v166, v167, v168, v169, v170, v171, v172, v173, v174, v175, v176, v177, v178, v179, v180, v181, v182, v183, v184, v185, v186, v187, v188, v189, v190, v191, v192], h239⟩)
   (cnd (x125 == (IntKind.wrap .i64 (x45 + 1)))
   (C.hop h239 (.load true 2 (.v v223)) fun v243 h244 =>
   C.agg 2 (some v243) fun l245 =>
   C.int .i64 l245[0]? fun x246 =>
   C.int .i64 l245[1]? fun x247 =>
   C.hop h244 (.load true 2 (.v v217)) fun v248 h249 =>
   C.agg 2 (some v248) fun l250 =>
   C.int .i64 l250[0]? fun x251 =>
   C.int .i64 l250[1]? fun x252 =>
   C.hop h249 (.load true 2 (.v v219)) fun v253 h254 =>
   C.agg 2 (some v253) fun l255 =>
   C.int .i64 l255[0]? fun x256 =>
   C.int .i64 l255[1]? fun x257 =>
   C.bool (pcall M d 54 [(.agg [(.int .i64 x246), (.int .i64 x247)]), (.agg [(.int .i64 x251), (.int .i64 x252)]), (.agg [(.int .i64 x256), (.int .i64 x257)])]) fun b258 =>
   cnd b258
   (k122 .ret ⟨[(.lst a0), (.tup []), (.bool false), (.int .i64 x2), (.int .i64 x29), (.int .i64 x45), (.int .i64 x125), v217, v219, v221, v223, (.lst a0), (.int .i64 x2), (.int .i64 x2), (.bool (decide (x2 < 3))), (.bool false), (.int .i64 x2), (.bool (decide (x2 > 8))), (.bool false), (.int .i64 x30), (.int .i64 x31), (.bool b32), v33, v34, v35, v36, v37, v38, v39, v40, (.int .i64 x45), (.int .i64 x2), (.bool true), v54, v55, (.int .i64 x45), (.int .i64 (IntKind.wrap .i64 (x45 + 1))), (.int .i64 x125), (.int .i64 x2), (.bool true), v133, v134, (.lst a0), (.int .i64 x45), v193, (.agg [(.int .i64 x198), (.int .i64 x199)]), (.lst a0), (.int .i64 x45), (.agg [(.int .i64 x203), (.int .i64 x204)]), (.lst a0), (.int .i64 x125), v205, (.agg [(.int .i64 x210), (.int .i64 x211)]), (.lst a0), (.int .i64 x125), (.agg [(.int .i64 x215), (.int .i64 x216)]), (.bool false), (.agg [(.int .i64 x236), (.int .i64 x237)]), (.agg [(.int .i64 x241), (.int .i64 x242)]), (.bool (xor false ((x236 == x241) && ((x237 == x242) && true)))), (.bool true), (.int .i64 x125), (.int .i64 x45), (.int .i64 (IntKind.wrap .i64 (x45 + 1))), (.bool (x125 == (IntKind.wrap .i64 (x45 + 1)))), (.agg [(.int .i64 x246), (.int .i64 x247)]), (.agg [(.int .i64 x251), (.int .i64 x252)]), (.agg [(.int .i64 x256), (.int .i64 x257)]), (.bool b258), (.bool true), (.tup []), (.tup []), (.tup []), (.tup []), (.bool true), v168, v169, v170, v171, v172, v173, v174, v175, v176, v177, v178, v179, v180, v181, v182, v183, v184, v185, v186, v187, v188, v189, v190, v191, v192], h254⟩)
   (C.hop h254 (.load true 2 (.v v217)) fun v259 h260 =>
   C.agg 2 (some v259) fun l261 =>
   C.int .i64 l261[0]? fun x262 =>
   C.int .i64 l261[1]? fun x263 =>
   C.hop h260 (.load true 2 (.v v221)) fun v264 h265 =>
   C.agg 2 (some v264) fun l266 =>
   C.int .i64 l266[0]? fun x267 =>
   C.int .i64 l266[1]? fun x268 =>
   C.hop h265 (.load true 2 (.v v223)) fun v269 h270 =>
   C.agg 2 (some v269) fun l271 =>
   C.int .i64 l271[0]? fun x272 =>
   C.int .i64 l271[1]? fun x273 =>
   C.bool (pcall M d 54 [(.agg [(.int .i64 x262), (.int .i64 x263)]), (.agg [(.int .i64 x267), (.int .i64 x268)]), (.agg [(.int .i64 x272), (.int .i64 x273)])]) fun b274 =>
   cnd b274
   (k122 .ret ⟨[(.lst a0), (.tup []), (.bool false), (.int .i64 x2), (.int .i64 x29), (.int .i64 x45), (.int .i64 x125), v217, v219, v221, v223, (.lst a0), (.int .i64 x2), (.int .i64 x2), (.bool (decide (x2 < 3))), (.bool false), (.int .i64 x2), (.bool (decide (x2 > 8))), (.bool false), (.int .i64 x30), (.int .i64 x31), (.bool b32), v33, v34, v35, v36, v37, v38, v39, v40, (.int .i64 x45), (.int .i64 x2), (.bool true), v54, v55, (.int .i64 x45), (.int .i64 (IntKind.wrap .i64 (x45 + 1))), (.int .i64 x125), (.int .i64 x2), (.bool true), v133, v134, (.lst a0), (.int .i64 x45), v193, (.agg [(.int .i64 x198), (.int .i64 x199)]), (.lst a0), (.int .i64 x45), (.agg [(.int .i64 x203), (.int .i64 x204)]), (.lst a0), (.int .i64 x125), v205, (.agg [(.int .i64 x210), (.int .i64 x211)]), (.lst a0), (.int .i64 x125), (.agg [(.int .i64 x215), (.int .i64 x216)]), (.bool false), (.agg [(.int .i64 x236), (.int .i64 x237)]), (.agg [(.int .i64 x241), (.int .i64 x242)]), (.bool (xor false ((x236 == x241) && ((x237 == x242) && true)))), (.bool true), (.int .i64 x125), (.int .i64 x45), (.int .i64 (IntKind.wrap .i64 (x45 + 1))), (.bool (x125 == (IntKind.wrap .i64 (x45 + 1)))), (.agg [(.int .i64 x246), (.int .i64 x247)]), (.agg [(.int .i64 x251), (.int .i64 x252)]), (.agg [(.int .i64 x256), (.int .i64 x257)]), (.bool b258), (.bool false), (.agg [(.int .i64 x262), (.int .i64 x263)]), (.agg [(.int .i64 x267), (.int .i64 x268)]), (.agg [(.int .i64 x272), (.int .i64 x273)]), (.bool b274), (.bool true), v168, v169, v170, v171, v172, v173, v174, v175, v176, v177, v178, v179, v180, v181, v182, v183, v184, v185, v186, v187, v188, v189, v190, v191, v192], h270⟩)
   (k122 .normal ⟨[(.lst a0), (.tup []), (.bool b124), (.int .i64 x2), (.int .i64 x29), (.int .i64 x45), (.int .i64 (IntKind.wrap .i64 (x125 + 1))), v217, v219, v221, v223, (.lst a0), (.int .i64 x2), (.int .i64 x2), (.bool (decide (x2 < 3))), (.bool false), (.int .i64 x2), (.bool (decide (x2 > 8))), (.bool false), (.int .i64 x30), (.int .i64 x31), (.bool b32), v33, v34, v35, v36, v37, v38, v39, v40, (.int .i64 x45), (.int .i64 x2), (.bool true), v54, v55, (.int .i64 x45), (.int .i64 (IntKind.wrap .i64 (x45 + 1))), (.int .i64 x125), (.int .i64 x2), (.bool true), (.int .i64 x125), (.int .i64 (IntKind.wrap .i64 (x125 + 1))), (.lst a0), (.int .i64 x45), v193, (.agg [(.int .i64 x198), (.int .i64 x199)]), (.lst a0), (.int .i64 x45), (.agg [(.int .i64 x203), (.int .i64 x204)]), (.lst a0), (.int .i64 x125), v205, (.agg [(.int .i64 x210), (.int .i64 x211)]), (.lst a0), (.int .i64 x125), (.agg [(.int .i64 x215), (.int .i64 x216)]), (.bool false), (.agg [(.int .i64 x236), (.int .i64 x237)]), (.agg [(.int .i64 x241), (.int .i64 x242)]), (.bool (xor false ((x236 == x241) && ((x237 == x242) && true)))), (.bool true), (.int .i64 x125), (.int .i64 x45), (.int .i64 (IntKind.wrap .i64 (x45 + 1))), (.bool (x125 == (IntKind.wrap .i64 (x45 + 1)))), (.agg [(.int .i64 x246), (.int .i64 x247)]), (.agg [(.int .i64 x251), (.int .i64 x252)]), (.agg [(.int .i64 x256), (.int .i64 x257)]), (.bool b258), (.bool false), (.agg [(.int .i64 x262), (.int .i64 x263)]), (.agg [(.int .i64 x267), (.int .i64 x268)]), (.agg [(.int .i64 x272), (.int .i64 x273)]), (.bool b274), (.bool false), v168, v169, v170, v171, v172, v173, v174, v175, v176, v177, v178, v179, v180, v181, v182, v183, v184, v185, v186, v187, v188, v189, v190, v191, v192], h270⟩)))
   (cnd (x45 == 0)
   (cnd (x125 == (IntKind.wrap .i64 (x2 - 1)))
   (C.hop h239 (.load true 2 (.v v221)) fun v275 h276 =>
   C.agg 2 (some v275) fun l277 =>
   C.int .i64 l277[0]? fun x278 =>
   C.int .i64 l277[1]? fun x279 =>
   C.hop h276 (.load true 2 (.v v217)) fun v280 h281 =>
   C.agg 2 (some v280) fun l282 =>
   C.int .i64 l282[0]? fun x283 =>
   C.int .i64 l282[1]? fun x284 =>
   C.hop h281 (.load true 2 (.v v219)) fun v285 h286 =>
   C.agg 2 (some v285) fun l287 =>
   C.int .i64 l287[0]? fun x288 =>
   C.int .i64 l287[1]? fun x289 =>
   C.bool (pcall M d 54 [(.agg [(.int .i64 x278), (.int .i64 x279)]), (.agg [(.int .i64 x283), (.int .i64 x284)]), (.agg [(.int .i64 x288), (.int .i64 x289)])]) fun b290 =>
   cnd b290
   (k122 .ret ⟨[(.lst a0), (.tup []), (.bool false), (.int .i64 x2), (.int .i64 x29), (.int .i64 x45), (.int .i64 x125), v217, v219, v221, v223, (.lst a0), (.int .i64 x2), (.int .i64 x2), (.bool (decide (x2 < 3))), (.bool false), (.int .i64 x2), (.bool (decide (x2 > 8))), (.bool false), (.int .i64 x30), (.int .i64 x31), (.bool b32), v33, v34, v35, v36, v37, v38, v39, v40, (.int .i64 x45), (.int .i64 x2), (.bool true), v54, v55, (.int .i64 x45), (.int .i64 (IntKind.wrap .i64 (x45 + 1))), (.int .i64 x125), (.int .i64 x2), (.bool true), v133, v134, (.lst a0), (.int .i64 x45), v193, (.agg [(.int .i64 x198), (.int .i64 x199)]), (.lst a0), (.int .i64 x45), (.agg [(.int .i64 x203), (.int .i64 x204)]), (.lst a0), (.int .i64 x125), v205, (.agg [(.int .i64 x210), (.int .i64 x211)]), (.lst a0), (.int .i64 x125), (.agg [(.int .i64 x215), (.int .i64 x216)]), (.bool false), (.agg [(.int .i64 x236), (.int .i64 x237)]), (.agg [(.int .i64 x241), (.int .i64 x242)]), (.bool (xor false ((x236 == x241) && ((x237 == x242) && true)))), (.bool false), (.int .i64 x125), (.int .i64 x45), (.int .i64 (IntKind.wrap .i64 (x45 + 1))), (.bool (x125 == (IntKind.wrap .i64 (x45 + 1)))), v158, v159, v160, v161, v162, v163, v164, v165, v166, v167, (.bool true), (.int .i64 x45), (.bool (x45 == 0)), (.bool true), (.int .i64 x125), (.int .i64 x2), (.int .i64 (IntKind.wrap .i64 (x2 - 1))), (.bool (x125 == (IntKind.wrap .i64 (x2 - 1)))), (.bool (x125 == (IntKind.wrap .i64 (x2 - 1)))), (.agg [(.int .i64 x278), (.int .i64 x279)]), (.agg [(.int .i64 x283), (.int .i64 x284)]), (.agg [(.int .i64 x288), (.int .i64 x289)]), (.bool b290), (.bool true), (.tup []), (.tup []), (.tup []), (.tup []), (.bool true), v187, v188, v189, v190, v191, v192], h286⟩)
   (C.hop h286 (.load true 2 (.v v219)) fun v291 h292 =>
   C.agg 2 (some v291) fun l293 =>
   C.int .i64 l293[0]? fun x294 =>
   C.int .i64 l293[1]? fun x295 =>
   C.hop h292 (.load true 2 (.v v221)) fun v296 h297 =>
   C.agg 2 (some v296) fun l298 =>
   C.int .i64 l298[0]? fun x299 =>
   C.int .i64 l298[1]? fun x300 =>
   C.hop h297 (.load true 2 (.v v223)) fun v301 h302 =>
   C.agg 2 (some v301) fun l303 =>
   C.int .i64 l303[0]? fun x304 =>
   C.int .i64 l303[1]? fun x305 =>
   C.bool (pcall M d 54 [(.agg [(.int .i64 x294), (.int .i64 x295)]), (.agg [(.int .i64 x299), (.int .i64 x300)]), (.agg [(.int .i64 x304), (.int .i64 x305)])]) fun b306 =>
   cnd b306
   (k122 .ret ⟨[(.lst a0), (.tup []), (.bool false), (.int .i64 x2), (.int .i64 x29), (.int .i64 x45), (.int .i64 x125), v217, v219, v221, v223, (.lst a0), (.int .i64 x2), (.int .i64 x2), (.bool (decide (x2 < 3))), (.bool false), (.int .i64 x2), (.bool (decide (x2 > 8))), (.bool false), (.int .i64 x30), (.int .i64 x31), (.bool b32), v33, v34, v35, v36, v37, v38, v39, v40, (.int .i64 x45), (.int .i64 x2), (.bool true), v54, v55, (.int .i64 x45), (.int .i64 (IntKind.wrap .i64 (x45 + 1))), (.int .i64 x125), (.int .i64 x2), (.bool true), v133, v134, (.lst a0), (.int .i64 x45), v193, (.agg [(.int .i64 x198), (.int .i64 x199)]), (.lst a0), (.int .i64 x45), (.agg [(.int .i64 x203), (.int .i64 x204)]), (.lst a0), (.int .i64 x125), v205, (.agg [(.int .i64 x210), (.int .i64 x211)]), (.lst a0), (.int .i64 x125), (.agg [(.int .i64 x215), (.int .i64 x216)]), (.bool false), (.agg [(.int .i64 x236), (.int .i64 x237)]), (.agg [(.int .i64 x241), (.int .i64 x242)]), (.bool (xor false ((x236 == x241) && ((x237 == x242) && true)))), (.bool false), (.int .i64 x125), (.int .i64 x45), (.int .i64 (IntKind.wrap .i64 (x45 + 1))), (.bool (x125 == (IntKind.wrap .i64 (x45 + 1)))), v158, v159, v160, v161, v162, v163, v164, v165, v166, v167, (.bool true), (.int .i64 x45), (.bool (x45 == 0)), (.bool true), (.int .i64 x125), (.int .i64 x2), (.int .i64 (IntKind.wrap .i64 (x2 - 1))), (.bool (x125 == (IntKind.wrap .i64 (x2 - 1)))), (.bool (x125 == (IntKind.wrap .i64 (x2 - 1)))), (.agg [(.int .i64 x278), (.int .i64 x279)]), (.agg [(.int .i64 x283), (.int .i64 x284)]), (.agg [(.int .i64 x288), (.int .i64 x289)]), (.bool b290), (.bool false), (.agg [(.int .i64 x294), (.int .i64 x295)]), (.agg [(.int .i64 x299), (.int .i64 x300)]), (.agg [(.int .i64 x304), (.int .i64 x305)]), (.bool b306), (.bool true), v187, v188, v189, v190, v191, v192], h302⟩)
   (k122 .normal ⟨[(.lst a0), (.tup []), (.bool b124), (.int .i64 x2), (.int .i64 x29), (.int .i64 x45), (.int .i64 (IntKind.wrap .i64 (x125 + 1))), v217, v219, v221, v223, (.lst a0), (.int .i64 x2), (.int .i64 x2), (.bool (decide (x2 < 3))), (.bool false), (.int .i64 x2), (.bool (decide (x2 > 8))), (.bool false), (.int .i64 x30), (.int .i64 x31), (.bool b32), v33, v34, v35, v36, v37, v38, v39, v40, (.int .i64 x45), (.int .i64 x2), (.bool true), v54, v55, (.int .i64 x45), (.int .i64 (IntKind.wrap .i64 (x45 + 1))), (.int .i64 x125), (.int .i64 x2), (.bool true), (.int .i64 x125), (.int .i64 (IntKind.wrap .i64 (x125 + 1))), (.lst a0), (.int .i64 x45), v193, (.agg [(.int .i64 x198), (.int .i64 x199)]), (.lst a0), (.int .i64 x45), (.agg [(.int .i64 x203), (.int .i64 x204)]), (.lst a0), (.int .i64 x125), v205, (.agg [(.int .i64 x210), (.int .i64 x211)]), (.lst a0), (.int .i64 x125), (.agg [(.int .i64 x215), (.int .i64 x216)]), (.bool false), (.agg [(.int .i64 x236), (.int .i64 x237)]), (.agg [(.int .i64 x241), (.int .i64 x242)]), (.bool (xor false ((x236 == x241) && ((x237 == x242) && true)))), (.bool false), (.int .i64 x125), (.int .i64 x45), (.int .i64 (IntKind.wrap .i64 (x45 + 1))), (.bool (x125 == (IntKind.wrap .i64 (x45 + 1)))), v158, v159, v160, v161, v162, v163, v164, v165, v166, v167, (.bool true), (.int .i64 x45), (.bool (x45 == 0)), (.bool true), (.int .i64 x125), (.int .i64 x2), (.int .i64 (IntKind.wrap .i64 (x2 - 1))), (.bool (x125 == (IntKind.wrap .i64 (x2 - 1)))), (.bool (x125 == (IntKind.wrap .i64 (x2 - 1)))), (.agg [(.int .i64 x278), (.int .i64 x279)]), (.agg [(.int .i64 x283), (.int .i64 x284)]), (.agg [(.int .i64 x288), (.int .i64 x289)]), (.bool b290), (.bool false), (.agg [(.int .i64 x294), (.int .i64 x295)]), (.agg [(.int .i64 x299), (.int .i64 x300)]), (.agg [(.int .i64 x304), (.int .i64 x305)]), (.bool b306), (.bool false), v187, v188, v189, v190, v191, v192], h302⟩)))
   (C.hop h239 (.load true 2 (.v v217)) fun v307 h308 =>
   C.agg 2 (some v307) fun l309 =>
   C.int .i64 l309[0]? fun x310 =>
   C.int .i64 l309[1]? fun x311 =>
   C.hop h308 (.load true 2 (.v v219)) fun v312 h313 =>
   C.agg 2 (some v312) fun l314 =>
   C.int .i64 l314[0]? fun x315 =>
   C.int .i64 l314[1]? fun x316 =>
   C.hop h313 (.load true 2 (.v v221)) fun v317 h318 =>
   C.agg 2 (some v317) fun l319 =>
   C.int .i64 l319[0]? fun x320 =>
   C.int .i64 l319[1]? fun x321 =>
   C.hop h318 (.load true 2 (.v v223)) fun v322 h323 =>
   C.agg 2 (some v322) fun l324 =>
   C.int .i64 l324[0]? fun x325 =>
   C.int .i64 l324[1]? fun x326 =>
   C.bool (pcall M d 42 [(.agg [(.int .i64 x310), (.int .i64 x311)]), (.agg [(.int .i64 x315), (.int .i64 x316)]), (.agg [(.int .i64 x320), (.int .i64 x321)]), (.agg [(.int .i64 x325), (.int .i64 x326)])]) fun b327 =>
   cnd b327
   (k122 .ret ⟨[(.lst a0), (.tup []), (.bool false), (.int .i64 x2), (.int .i64 x29), (.int .i64 x45), (.int .i64 x125), v217, v219, v221, v223, (.lst a0), (.int .i64 x2), (.int .i64 x2), (.bool (decide (x2 < 3))), (.bool false), (.int .i64 x2), (.bool (decide (x2 > 8))), (.bool false), (.int .i64 x30), (.int .i64 x31), (.bool b32), v33, v34, v35, v36, v37, v38, v39, v40, (.int .i64 x45), (.int .i64 x2), (.bool true), v54, v55, (.int .i64 x45), (.int .i64 (IntKind.wrap .i64 (x45 + 1))), (.int .i64 x125), (.int .i64 x2), (.bool true), v133, v134, (.lst a0), (.int .i64 x45), v193, (.agg [(.int .i64 x198), (.int .i64 x199)]), (.lst a0), (.int .i64 x45), (.agg [(.int .i64 x203), (.int .i64 x204)]), (.lst a0), (.int .i64 x125), v205, (.agg [(.int .i64 x210), (.int .i64 x211)]), (.lst a0), (.int .i64 x125), (.agg [(.int .i64 x215), (.int .i64 x216)]), (.bool false), (.agg [(.int .i64 x236), (.int .i64 x237)]), (.agg [(.int .i64 x241), (.int .i64 x242)]), (.bool (xor false ((x236 == x241) && ((x237 == x242) && true)))), (.bool false), (.int .i64 x125), (.int .i64 x45), (.int .i64 (IntKind.wrap .i64 (x45 + 1))), (.bool (x125 == (IntKind.wrap .i64 (x45 + 1)))), v158, v159, v160, v161, v162, v163, v164, v165, v166, v167, (.bool false), (.int .i64 x45), (.bool (x45 == 0)), (.bool true), (.int .i64 x125), (.int .i64 x2), (.int .i64 (IntKind.wrap .i64 (x2 - 1))), (.bool (x125 == (IntKind.wrap .i64 (x2 - 1)))), (.bool (x125 == (IntKind.wrap .i64 (x2 - 1)))), v177, v178, v179, v180, v181, v182, v183, v184, v185, v186, (.bool true), (.agg [(.int .i64 x310), (.int .i64 x311)]), (.agg [(.int .i64 x315), (.int .i64 x316)]), (.agg [(.int .i64 x320), (.int .i64 x321)]), (.agg [(.int .i64 x325), (.int .i64 x326)]), (.bool b327)], h323⟩)
   (k122 .normal ⟨[(.lst a0), (.tup []), (.bool b124), (.int .i64 x2), (.int .i64 x29), (.int .i64 x45), (.int .i64 (IntKind.wrap .i64 (x125 + 1))), v217, v219, v221, v223, (.lst a0), (.int .i64 x2), (.int .i64 x2), (.bool (decide (x2 < 3))), (.bool false), (.int .i64 x2), (.bool (decide (x2 > 8))), (.bool false), (.int .i64 x30), (.int .i64 x31), (.bool b32), v33, v34, v35, v36, v37, v38, v39, v40, (.int .i64 x45), (.int .i64 x2), (.bool true), v54, v55, (.int .i64 x45), (.int .i64 (IntKind.wrap .i64 (x45 + 1))), (.int .i64 x125), (.int .i64 x2), (.bool true), (.int .i64 x125), (.int .i64 (IntKind.wrap .i64 (x125 + 1))), (.lst a0), (.int .i64 x45), v193, (.agg [(.int .i64 x198), (.int .i64 x199)]), (.lst a0), (.int .i64 x45), (.agg [(.int .i64 x203), (.int .i64 x204)]), (.lst a0), (.int .i64 x125), v205, (.agg [(.int .i64 x210), (.int .i64 x211)]), (.lst a0), (.int .i64 x125), (.agg [(.int .i64 x215), (.int .i64 x216)]), (.bool false), (.agg [(.int .i64 x236), (.int .i64 x237)]), (.agg [(.int .i64 x241), (.int .i64 x242)]), (.bool (xor false ((x236 == x241) && ((x237 == x242) && true)))), (.bool false), (.int .i64 x125), (.int .i64 x45), (.int .i64 (IntKind.wrap .i64 (x45 + 1))), (.bool (x125 == (IntKind.wrap .i64 (x45 + 1)))), v158, v159, v160, v161, v162, v163, v164, v165, v166, v167, (.bool false), (.int .i64 x45), (.bool (x45 == 0)), (.bool true), (.int .i64 x125), (.int .i64 x2), (.int .i64 (IntKind.wrap .i64 (x2 - 1))), (.bool (x125 == (IntKind.wrap .i64 (x2 - 1)))), (.bool (x125 == (IntKind.wrap .i64 (x2 - 1)))), v177, v178, v179, v180, v181, v182, v183, v184, v185, v186, (.bool false), (.agg [(.int .i64 x310), (.int .i64 x311)]), (.agg [(.int .i64 x315), (.int .i64 x316)]), (.agg [(.int .i64 x320), (.int .i64 x321)]), (.agg [(.int .i64 x325), (.int .i64 x326)]), (.bool b327)], h323⟩)))
   (C.hop h239 (.load true 2 (.v v217)) fun v328 h329 =>
   C.agg 2 (some v328) fun l330 =>
   C.int .i64 l330[0]? fun x331 =>
   C.int .i64 l330[1]? fun x332 =>
   C.hop h329 (.load true 2 (.v v219)) fun v333 h334 =>
   C.agg 2 (some v333) fun l335 =>
   C.int .i64 l335[0]? fun x336 =>
   C.int .i64 l335[1]? fun x337 =>
   C.hop h334 (.load true 2 (.v v221)) fun v338 h339 =>
   C.agg 2 (some v338) fun l340 =>
   C.int .i64 l340[0]? fun x341 =>
   C.int .i64 l340[1]? fun x342 =>
   C.hop h339 (.load true 2 (.v v223)) fun v343 h344 =>
   C.agg 2 (some v343) fun l345 =>
   C.int .i64 l345[0]? fun x346 =>
   C.int .i64 l345[1]? fun x347 =>
   C.bool (pcall M d 42 [(.agg [(.int .i64 x331), (.int .i64 x332)]), (.agg [(.int .i64 x336), (.int .i64 x337)]), (.agg [(.int .i64 x341), (.int .i64 x342)]), (.agg [(.int .i64 x346), (.int .i64 x347)])]) fun b348 =>
   cnd b348
   (k122 .ret ⟨[(.lst a0), (.tup []), (.bool false), (.int .i64 x2), (.int .i64 x29), (.int .i64 x45), (.int .i64 x125), v217, v219, v221, v223, (.lst a0), (.int .i64 x2), (.int .i64 x2), (.bool (decide (x2 < 3))), (.bool false), (.int .i64 x2), (.bool (decide (x2 > 8))), (.bool false), (.int .i64 x30), (.int .i64 x31), (.bool b32), v33, v34, v35, v36, v37, v38, v39, v40, (.int .i64 x45), (.int .i64 x2), (.bool true), v54, v55, (.int .i64 x45), (.int .i64 (IntKind.wrap .i64 (x45 + 1))), (.int .i64 x125), (.int .i64 x2), (.bool true), v133, v134, (.lst a0), (.int .i64 x45), v193, (.agg [(.int .i64 x198), (.int .i64 x199)]), (.lst a0), (.int .i64 x45), (.agg [(.int .i64 x203), (.int .i64 x204)]), (.lst a0), (.int .i64 x125), v205, (.agg [(.int .i64 x210), (.int .i64 x211)]), (.lst a0), (.int .i64 x125), (.agg [(.int .i64 x215), (.int .i64 x216)]), (.bool false), (.agg [(.int .i64 x236), (.int .i64 x237)]), (.agg [(.int .i64 x241), (.int .i64 x242)]), (.bool (xor false ((x236 == x241) && ((x237 == x242) && true)))), (.bool false), (.int .i64 x125), (.int .i64 x45), (.int .i64 (IntKind.wrap .i64 (x45 + 1))), (.bool (x125 == (IntKind.wrap .i64 (x45 + 1)))), v158, v159, v160, v161, v162, v163, v164, v165, v166, v167, (.bool false), (.int .i64 x45), (.bool (x45 == 0)), (.bool false), (.tup []), (.tup []), (.tup []), (.tup []), (.bool false), v177, v178, v179, v180, v181, v182, v183, v184, v185, v186, (.bool true), (.agg [(.int .i64 x331), (.int .i64 x332)]), (.agg [(.int .i64 x336), (.int .i64 x337)]), (.agg [(.int .i64 x341), (.int .i64 x342)]), (.agg [(.int .i64 x346), (.int .i64 x347)]), (.bool b348)], h344⟩)
   (k122 .normal ⟨[(.lst a0), (.tup []), (.bool b124), (.int .i64 x2), (.int .i64 x29), (.int .i64 x45), (.int .i64 (IntKind.wrap .i64 (x125 + 1))), v217, v219, v221, v223, (.lst a0), (.int .i64 x2), (.int .i64 x2), (.bool (decide (x2 < 3))), (.bool false), (.int .i64 x2), (.bool (decide (x2 > 8))), (.bool false), (.int .i64 x30), (.int .i64 x31), (.bool b32), v33, v34, v35, v36, v37, v38, v39, v40, (.int .i64 x45), (.int .i64 x2), (.bool true), v54, v55, (.int .i64 x45), (.int .i64 (IntKind.wrap .i64 (x45 + 1))), (.int .i64 x125), (.int .i64 x2), (.bool true), (.int .i64 x125), (.int .i64 (IntKind.wrap .i64 (x125 + 1))), (.lst a0), (.int .i64 x45), v193, (.agg [(.int .i64 x198), (.int .i64 x199)]), (.lst a0), (.int .i64 x45), (.agg [(.int .i64 x203), (.int .i64 x204)]), (.lst a0), (.int .i64 x125), v205, (.agg [(.int .i64 x210), (.int .i64 x211)]), (.lst a0), (.int .i64 x125), (.agg [(.int .i64 x215), (.int .i64 x216)]), (.bool false), (.agg [(.int .i64 x236), (.int .i64 x237)]), (.agg [(.int .i64 x241), (.int .i64 x242)]), (.bool (xor false ((x236 == x241) && ((x237 == x242) && true)))), (.bool false), (.int .i64 x125), (.int .i64 x45), (.int .i64 (IntKind.wrap .i64 (x45 + 1))), (.bool (x125 == (IntKind.wrap .i64 (x45 + 1)))), v158, v159, v160, v161, v162, v163, v164, v165, v166, v167, (.bool false), (.int .i64 x45), (.bool (x45 == 0)), (.bool false), (.tup []), (.tup []), (.tup []), (.tup []), (.bool false), v177, v178, v179, v180, v181, v182, v183, v184, v185, v186, (.bool false), (.agg [(.int .i64 x331), (.int .i64 x332)]), (.agg [(.int .i64 x336), (.int .i64 x337)]), (.agg [(.int .i64 x341), (.int .i64 x342)]), (.agg [(.int .i64 x346), (.int .i64 x347)]), (.bool b348)], h344⟩)))))
   (none))
   (none))
   (k122 (.exit 4) ⟨[(.lst a0), (.tup []), (.bool b124), (.int .i64 x2), (.int .i64 x29), (.int .i64 x45), (.int .i64 x125), v126, v127, v128, v129, (.lst a0), (.int .i64 x2), (.int .i64 x2), (.bool (decide (x2 < 3))), (.bool false), (.int .i64 x2), (.bool (decide (x2 > 8))), (.bool false), (.int .i64 x30), (.int .i64 x31), (.bool b32), v33, v34, v35, v36, v37, v38, v39, v40, (.int .i64 x45), (.int .i64 x2), (.bool true), v54, v55, (.int .i64 x45), (.int .i64 (IntKind.wrap .i64 (x45 + 1))), (.int .i64 x125), (.int .i64 x2), (.bool false), v133, v134, v135, v136, v137, v138, v139, v140, v141, v142, v143, v144, v145, v146, v147, v148, v149, v150, v151, v152, v153, v154, v155, v156, v157, v158, v159, v160, v161, v162, v163, v164, v165, v166, v167, v168, v169, v170, v171, v172, v173, v174, v175, v176, v177, v178, v179, v180, v181, v182, v183, v184, v185, v186, v187, v188, v189, v190, v191, v192], (St.H s121)⟩))
   (none)
def r45X2_0 (C : Cb) (d : Nat) (a0 : List AV) (x2 x29 x30 x31 : Int) (b32 : Bool) (v33 v34 v35 v36 v37 v38 v39 v40 : AV) (k42 : Ex → St → Ans) (x45 : Int) (v54 v55 : AV) : St → Ans := fun s349 =>
  cnd ((List.length (St.env s349)) == 100)
   (C.same (St.env s349)[0]? (.lst a0) <|
   C.same (St.env s349)[1]? (.tup []) <|
   C.bool (St.env s349)[2]? fun b350 =>
   C.same (St.env s349)[3]? (.int .i64 x2) <|
   C.same (St.env s349)[4]? (.int .i64 x29) <|
   C.same (St.env s349)[5]? (.int .i64 x45) <|
   C.int .i64 (St.env s349)[6]? fun x351 =>
   C.any (St.env s349)[7]? fun v352 =>
   C.any (St.env s349)[8]? fun v353 =>
   C.any (St.env s349)[9]? fun v354 =>
   C.any (St.env s349)[10]? fun v355 =>
   C.same (St.env s349)[11]? (.lst a0) <|
   C.same (St.env s349)[12]? (.int .i64 x2) <|
   C.same (St.env s349)[13]? (.int .i64 x2) <|
   C.same (St.env s349)[14]? (.bool (decide (x2 < 3))) <|
   C.same (St.env s349)[15]? (.bool false) <|
   C.same (St.env s349)[16]? (.int .i64 x2) <|
   C.same (St.env s349)[17]? (.bool (decide (x2 > 8))) <|
   C.same (St.env s349)[18]? (.bool false) <|
   C.same (St.env s349)[19]? (.int .i64 x30) <|
   C.same (St.env s349)[20]? (.int .i64 x31) <|
   C.same (St.env s349)[21]? (.bool b32) <|
   C.same (St.env s349)[22]? v33 <|
   C.same (St.env s349)[23]? v34 <|
   C.same (St.env s349)[24]? v35 <|
   C.same (St.env s349)[25]? v36 <|
   C.same (St.env s349)[26]? v37 <|
   C.same (St.env s349)[27]? v38 <|
   C.same (St.env s349)[28]? v39 <|
   C.same (St.env s349)[29]? v40 <|
   C.same (St.env s349)[30]? (.int .i64 x45) <|
   C.same (St.env s349)[31]? (.int .i64 x2) <|
   C.same (St.env s349)[32]? (.bool true) <|
   C.same (St.env s349)[33]? v54 <|
   C.same (St.env s349)[34]? v55 <|
   C.same (St.env s349)[35]? (.int .i64 x45) <|
   C.same (St.env s349)[36]? (.int .i64 (IntKind.wrap .i64 (x45 + 1))) <|
   C.int .i64 (St.env s349)[37]? fun x356 =>
   C.int .i64 (St.env s349)[38]? fun x357 =>
   C.bool (St.env s349)[39]? fun b358 =>
   C.any (St.env s349)[40]? fun v359 =>
   C.any (St.env s349)[41]? fun v360 =>
   C.any (St.env s349)[42]? fun v361 =>
   C.any (St.env s349)[43]? fun v362 =>
   C.any (St.env s349)[44]? fun v363 =>
   C.any (St.env s349)[45]? fun v364 =>
   C.any (St.env s349)[46]? fun v365 =>
   C.any (St.env s349)[47]? fun v366 =>
   C.any (St.env s349)[48]? fun v367 =>
   C.any (St.env s349)[49]? fun v368 =>
   C.any (St.env s349)[50]? fun v369 =>
   C.any (St.env s349)[51]? fun v370 =>
   C.any (St.env s349)[52]? fun v371 =>
   C.any (St.env s349)[53]? fun v372 =>
   C.any (St.env s349)[54]? fun v373 =>
   C.any (St.env s349)[55]? fun v374 =>
   C.any (St.env s349)[56]? fun v375 =>
   C.any (St.env s349)[57]? fun v376 =>
   C.any (St.env s349)[58]? fun v377 =>
   C.any (St.env s349)[59]? fun v378 =>
   C.any (St.env s349)[60]? fun v379 =>
   C.any (St.env s349)[61]? fun v380 =>
   C.any (St.env s349)[62]? fun v381 =>
   C.any (St.env s349)[63]? fun v382 =>
   C.any (St.env s349)[64]? fun v383 =>
   C.any (St.env s349)[65]? fun v384 =>
   C.any (St.env s349)[66]? fun v385 =>
   C.any (St.env s349)[67]? fun v386 =>
   C.any (St.env s349)[68]? fun v387 =>
   C.any (St.env s349)[69]? fun v388 =>
   C.any (St.env s349)[70]? fun v389 =>
   C.any (St.env s349)[71]? fun v390 =>
   C.any (St.env s349)[72]? fun v391 =>
   C.any (St.env s349)[73]? fun v392 =>
   C.any (St.env s349)[74]? fun v393 =>
   C.any (St.env s349)[75]? fun v394 =>
   C.any (St.env s349)[76]? fun v395 =>
   C.any (St.env s349)[77]? fun v396 =>
   C.any (St.env s349)[78]? fun v397 =>
   C.any (St.env s349)[79]? fun v398 =>
   C.any (St.env s349)[80]? fun v399 =>
   C.any (St.env s349)[81]? fun v400 =>
   C.any (St.env s349)[82]? fun v401 =>
   C.any (St.env s349)[83]? fun v402 =>
   C.any (St.env s349)[84]? fun v403 =>
   C.any (St.env s349)[85]? fun v404 =>
   C.any (St.env s349)[86]? fun v405 =>
   C.any (St.env s349)[87]? fun v406 =>
   C.any (St.env s349)[88]? fun v407 =>
   C.any (St.env s349)[89]? fun v408 =>
   C.any (St.env s349)[90]? fun v409 =>
   C.any (St.env s349)[91]? fun v410 =>
   C.any (St.env s349)[92]? fun v411 =>
   C.any (St.env s349)[93]? fun v412 =>
   C.any (St.env s349)[94]? fun v413 =>
   C.any (St.env s349)[95]? fun v414 =>
   C.any (St.env s349)[96]? fun v415 =>
   C.any (St.env s349)[97]? fun v416 =>
   C.any (St.env s349)[98]? fun v417 =>
   C.any (St.env s349)[99]? fun v418 =>
   k42 .normal ⟨[(.lst a0), (.tup []), (.bool b350), (.int .i64 x2), (.int .i64 x29), (.int .i64 (IntKind.wrap .i64 (x45 + 1))), (.int .i64 x351), v352, v353, v354, v355, (.lst a0), (.int .i64 x2), (.int .i64 x2), (.bool (decide (x2 < 3))), (.bool false), (.int .i64 x2), (.bool (decide (x2 > 8))), (.bool false), (.int .i64 x30), (.int .i64 x31), (.bool b32), v33, v34, v35, v36, v37, v38, v39, v40, (.int .i64 x45), (.int .i64 x2), (.bool true), (.int .i64 x45), (.int .i64 (IntKind.wrap .i64 (x45 + 1))), (.int .i64 x45), (.int .i64 (IntKind.wrap .i64 (x45 + 1))), (.int .i64 x356), (.int .i64 x357), (.bool b358), v359, v360, v361, v362, v363, v364, v365, v366, v367, v368, v369, v370, v371, v372, v373, v374, v375, v376, v377, v378, v379, v380, v381, v382, v383, v384, v385, v386, v387, v388, v389, v390, v391, v392, v393, v394, v395, v396, v397, v398, v399, v400, v401, v402, v403, v404, v405, v406, v407, v408, v409, v410, v411, v412, v413, v414, v415, v416, v417, v418], (St.H s349)⟩)
   (none)
def r45E2 (C : Cb) (d : Nat) (a0 : List AV) (x2 x29 x30 x31 : Int) (b32 : Bool) (v33 v34 v35 v36 v37 v38 v39 v40 : AV) (k42 : Ex → St → Ans) (x45 : Int) (v54 v55 : AV) : St → Ans := fun s123 =>
  cnd ((List.length (St.env s123)) == 100)
   (C.same (St.env s123)[0]? (.lst a0) <|
   C.same (St.env s123)[1]? (.tup []) <|
   C.bool (St.env s123)[2]? fun b419 =>
   C.same (St.env s123)[3]? (.int .i64 x2) <|
   C.same (St.env s123)[4]? (.int .i64 x29) <|
   C.same (St.env s123)[5]? (.int .i64 x45) <|
   C.int .i64 (St.env s123)[6]? fun x420 =>
   C.any (St.env s123)[7]? fun v421 =>
   C.any (St.env s123)[8]? fun v422 =>
   C.any (St.env s123)[9]? fun v423 =>
   C.any (St.env s123)[10]? fun v424 =>
   C.same (St.env s123)[11]? (.lst a0) <|
   C.same (St.env s123)[12]? (.int .i64 x2) <|
   C.same (St.env s123)[13]? (.int .i64 x2) <|
   C.same (St.env s123)[14]? (.bool (decide (x2 < 3))) <|
   C.same (St.env s123)[15]? (.bool false) <|
   C.same (St.env s123)[16]? (.int .i64 x2) <|
   C.same (St.env s123)[17]? (.bool (decide (x2 > 8))) <|
   C.same (St.env s123)[18]? (.bool false) <|
   C.same (St.env s123)[19]? (.int .i64 x30) <|
   C.same (St.env s123)[20]? (.int .i64 x31) <|
   C.same (St.env s123)[21]? (.bool b32) <|
   C.same (St.env s123)[22]? v33 <|
   C.same (St.env s123)[23]? v34 <|
   C.same (St.env s123)[24]? v35 <|
   C.same (St.env s123)[25]? v36 <|
   C.same (St.env s123)[26]? v37 <|
   C.same (St.env s123)[27]? v38 <|
   C.same (St.env s123)[28]? v39 <|
   C.same (St.env s123)[29]? v40 <|
   C.same (St.env s123)[30]? (.int .i64 x45) <|
   C.same (St.env s123)[31]? (.int .i64 x2) <|
   C.same (St.env s123)[32]? (.bool true) <|
   C.same (St.env s123)[33]? v54 <|
   C.same (St.env s123)[34]? v55 <|
   C.same (St.env s123)[35]? (.int .i64 x45) <|
   C.same (St.env s123)[36]? (.int .i64 (IntKind.wrap .i64 (x45 + 1))) <|
   C.int .i64 (St.env s123)[37]? fun x425 =>
   C.int .i64 (St.env s123)[38]? fun x426 =>
   C.bool (St.env s123)[39]? fun b427 =>
   C.any (St.env s123)[40]? fun v428 =>
   C.any (St.env s123)[41]? fun v429 =>
   C.any (St.env s123)[42]? fun v430 =>
   C.int .i64 (St.env s123)[43]? fun x431 =>
   C.any (St.env s123)[44]? fun v432 =>
   C.agg 2 (St.env s123)[45]? fun l433 =>
   C.int .i64 l433[0]? fun x434 =>
   C.int .i64 l433[1]? fun x435 =>
   C.any (St.env s123)[46]? fun v436 =>
   C.int .i64 (St.env s123)[47]? fun x437 =>
   C.agg 2 (St.env s123)[48]? fun l438 =>
   C.int .i64 l438[0]? fun x439 =>
   C.int .i64 l438[1]? fun x440 =>
   C.any (St.env s123)[49]? fun v441 =>
   C.int .i64 (St.env s123)[50]? fun x442 =>
   C.any (St.env s123)[51]? fun v443 =>
   C.agg 2 (St.env s123)[52]? fun l444 =>
   C.int .i64 l444[0]? fun x445 =>
   C.int .i64 l444[1]? fun x446 =>
   C.any (St.env s123)[53]? fun v447 =>
   C.int .i64 (St.env s123)[54]? fun x448 =>
   C.agg 2 (St.env s123)[55]? fun l449 =>
   C.int .i64 l449[0]? fun x450 =>
   C.int .i64 l449[1]? fun x451 =>
   C.bool (St.env s123)[56]? fun b452 =>
   C.agg 2 (St.env s123)[57]? fun l453 =>
   C.int .i64 l453[0]? fun x454 =>
   C.int .i64 l453[1]? fun x455 =>
   C.agg 2 (St.env s123)[58]? fun l456 =>
   C.int .i64 l456[0]? fun x457 =>
   C.int .i64 l456[1]? fun x458 =>
   C.bool (St.env s123)[59]? fun b459 =>
   C.any (St.env s123)[60]? fun v460 =>
   C.any (St.env s123)[61]? fun v461 =>
   C.any (St.env s123)[62]? fun v462 =>
   C.any (St.env s123)[63]? fun v463 =>
   C.any (St.env s123)[64]? fun v464 =>
   C.any (St.env s123)[65]? fun v465 =>
   C.any (St.env s123)[66]? fun v466 =>
   C.any (St.env s123)[67]? fun v467 =>
   C.any (St.env s123)[68]? fun v468 =>
   C.any (St.env s123)[69]? fun v469 =>
   C.any (St.env s123)[70]? fun v470 =>
   C.any (St.env s123)[71]? fun v471 =>
   C.any (St.env s123)[72]? fun v472 =>
   C.any (St.env s123)[73]? fun v473 =>
   C.any (St.env s123)[74]? fun v474 =>
   C.any (St.env s123)[75]? fun v475 =>
   C.any (St.env s123)[76]? fun v476 =>
   C.any (St.env s123)[77]? fun v477 =>
   C.any (St.env s123)[78]? fun v478 =>
   C.any (St.env s123)[79]? fun v479 =>
   C.any (St.env s123)[80]? fun v480 =>
   C.any (St.env s123)[81]? fun v481 =>
   C.any (St.env s123)[82]? fun v482 =>
   C.any (St.env s123)[83]? fun v483 =>
   C.any (St.env s123)[84]? fun v484 =>
   C.any (St.env s123)[85]? fun v485 =>
   C.any (St.env s123)[86]? fun v486 =>
   C.any (St.env s123)[87]? fun v487 =>
   C.any (St.env s123)[88]? fun v488 =>
   C.any (St.env s123)[89]? fun v489 =>
   C.any (St.env s123)[90]? fun v490 =>
   C.any (St.env s123)[91]? fun v491 =>
   C.any (St.env s123)[92]? fun v492 =>
   C.any (St.env s123)[93]? fun v493 =>
   C.any (St.env s123)[94]? fun v494 =>
   C.any (St.env s123)[95]? fun v495 =>
   C.any (St.env s123)[96]? fun v496 =>
   C.any (St.env s123)[97]? fun v497 =>
   C.any (St.env s123)[98]? fun v498 =>
   C.any (St.env s123)[99]? fun v499 =>
   k42 .ret ⟨[(.lst a0), (.tup []), (.bool b419), (.int .i64 x2), (.int .i64 x29), (.int .i64 x45), (.int .i64 x420), v421, v422, v423, v424, (.lst a0), (.int .i64 x2), (.int .i64 x2), (.bool (decide (x2 < 3))), (.bool false), (.int .i64 x2), (.bool (decide (x2 > 8))), (.bool false), (.int .i64 x30), (.int .i64 x31), (.bool b32), v33, v34, v35, v36, v37, v38, v39, v40, (.int .i64 x45), (.int .i64 x2), (.bool true), v54, v55, (.int .i64 x45), (.int .i64 (IntKind.wrap .i64 (x45 + 1))), (.int .i64 x425), (.int .i64 x426), (.bool b427), v428, v429, v430, (.int .i64 x431), v432, (.agg [(.int .i64 x434), (.int .i64 x435)]), v436, (.int .i64 x437), (.agg [(.int .i64 x439), (.int .i64 x440)]), v441, (.int .i64 x442), v443, (.agg [(.int .i64 x445), (.int .i64 x446)]), v447, (.int .i64 x448), (.agg [(.int .i64 x450), (.int .i64 x451)]), (.bool b452), (.agg [(.int .i64 x454), (.int .i64 x455)]), (.agg [(.int .i64 x457), (.int .i64 x458)]), (.bool b459), v460, v461, v462, v463, v464, v465, v466, v467, v468, v469, v470, v471, v472, v473, v474, v475, v476, v477, v478, v479, v480, v481, v482, v483, v484, v485, v486, v487, v488, v489, v490, v491, v492, v493, v494, v495, v496, v497, v498, v499], (St.H s123)⟩)
   (none)
def r45R1 (C : Cb) (d : Nat) (a0 : List AV) (x2 x29 x30 x31 : Int) (b32 : Bool) (v33 v34 v35 v36 v37 v38 v39 v40 : AV) : St → (Ex → St → Ans) → Ans := fun s41 k42 =>
  cnd ((List.length (St.env s41)) == 100)
   (C.same (St.env s41)[0]? (.lst a0) <|
   C.same (St.env s41)[1]? (.tup []) <|
   C.bool (St.env s41)[2]? fun b44 =>
   C.same (St.env s41)[3]? (.int .i64 x2) <|
   C.same (St.env s41)[4]? (.int .i64 x29) <|
   C.int .i64 (St.env s41)[5]? fun x45 =>
   C.any (St.env s41)[6]? fun v46 =>
   C.any (St.env s41)[7]? fun v47 =>
   C.any (St.env s41)[8]? fun v48 =>
   C.any (St.env s41)[9]? fun v49 =>
   C.any (St.env s41)[10]? fun v50 =>
   C.same (St.env s41)[11]? (.lst a0) <|
   C.same (St.env s41)[12]? (.int .i64 x2) <|
   C.same (St.env s41)[13]? (.int .i64 x2) <|
   C.same (St.env s41)[14]? (.bool (decide (x2 < 3))) <|
   C.same (St.env s41)[15]? (.bool false) <|
   C.same (St.env s41)[16]? (.int .i64 x2) <|
   C.same (St.env s41)[17]? (.bool (decide (x2 > 8))) <|
   C.same (St.env s41)[18]? (.bool false) <|
   C.same (St.env s41)[19]? (.int .i64 x30) <|
   C.same (St.env s41)[20]? (.int .i64 x31) <|
   C.same (St.env s41)[21]? (.bool b32) <|
   C.same (St.env s41)[22]? v33 <|
   C.same (St.env s41)[23]? v34 <|
   C.same (St.env s41)[24]? v35 <|
   C.same (St.env s41)[25]? v36 <|
   C.same (St.env s41)[26]? v37 <|
   C.same (St.env s41)[27]? v38 <|
   C.same (St.env s41)[28]? v39 <|
   C.same (St.env s41)[29]? v40 <|
   C.any (St.env s41)[30]? fun v51 =>
   C.any (St.env s41)[31]? fun v52 =>
   C.any (St.env s41)[32]? fun v53 =>
   C.any (St.env s41)[33]? fun v54 =>
   C.any (St.env s41)[34]? fun v55 =>
   C.any (St.env s41)[35]? fun v56 =>
   C.any (St.env s41)[36]? fun v57 =>
   C.any (St.env s41)[37]? fun v58 =>
   C.any (St.env s41)[38]? fun v59 =>
   C.any (St.env s41)[39]? fun v60 =>
   C.any (St.env s41)[40]? fun v61 =>
   C.any (St.env s41)[41]? fun v62 =>
   C.any (St.env s41)[42]? fun v63 =>
   C.any (St.env s41)[43]? fun v64 =>
   C.any (St.env s41)[44]? fun v65 =>
   C.any (St.env s41)[45]? fun v66 =>
   C.any (St.env s41)[46]? fun v67 =>
   C.any (St.env s41)[47]? fun v68 =>
   C.any (St.env s41)[48]? fun v69 =>
   C.any (St.env s41)[49]? fun v70 =>
   C.any (St.env s41)[50]? fun v71 =>
   C.any (St.env s41)[51]? fun v72 =>
   C.any (St.env s41)[52]? fun v73 =>
   C.any (St.env s41)[53]? fun v74 =>
   C.any (St.env s41)[54]? fun v75 =>
   C.any (St.env s41)[55]? fun v76 =>
   C.any (St.env s41)[56]? fun v77 =>
   C.any (St.env s41)[57]? fun v78 =>
   C.any (St.env s41)[58]? fun v79 =>
   C.any (St.env s41)[59]? fun v80 =>
   C.any (St.env s41)[60]? fun v81 =>
   C.any (St.env s41)[61]? fun v82 =>
   C.any (St.env s41)[62]? fun v83 =>
   C.any (St.env s41)[63]? fun v84 =>
   C.any (St.env s41)[64]? fun v85 =>
   C.any (St.env s41)[65]? fun v86 =>
   C.any (St.env s41)[66]? fun v87 =>
   C.any (St.env s41)[67]? fun v88 =>
   C.any (St.env s41)[68]? fun v89 =>
   C.any (St.env s41)[69]? fun v90 =>
   C.any (St.env s41)[70]? fun v91 =>
   C.any (St.env s41)[71]? fun v92 =>
   C.any (St.env s41)[72]? fun v93 =>
   C.any (St.env s41)[73]? fun v94 =>
   C.any (St.env s41)[74]? fun v95 =>
   C.any (St.env s41)[75]? fun v96 =>
   C.any (St.env s41)[76]? fun v97 =>
   C.any (St.env s41)[77]? fun v98 =>
   C.any (St.env s41)[78]? fun v99 =>
   C.any (St.env s41)[79]? fun v100 =>
   C.any (St.env s41)[80]? fun v101 =>
   C.any (St.env s41)[81]? fun v102 =>
   C.any (St.env s41)[82]? fun v103 =>
   C.any (St.env s41)[83]? fun v104 =>
   C.any (St.env s41)[84]? fun v105 =>
   C.any (St.env s41)[85]? fun v106 =>
   C.any (St.env s41)[86]? fun v107 =>
   C.any (St.env s41)[87]? fun v108 =>
   C.any (St.env s41)[88]? fun v109 =>
   C.any (St.env s41)[89]? fun v110 =>
   C.any (St.env s41)[90]? fun v111 =>
   C.any (St.env s41)[91]? fun v112 =>
   C.any (St.env s41)[92]? fun v113 =>
   C.any (St.env s41)[93]? fun v114 =>
   C.any (St.env s41)[94]? fun v115 =>
   C.any (St.env s41)[95]? fun v116 =>
   C.any (St.env s41)[96]? fun v117 =>
   C.any (St.env s41)[97]? fun v118 =>
   C.any (St.env s41)[98]? fun v119 =>
   C.any (St.env s41)[99]? fun v120 =>
   cnd (decide (x45 < x2))
   (C.iter (r45R2 C d a0 x2 x29 x30 x31 b32 v33 v34 v35 v36 v37 v38 v39 v40 k42 x45 v54 v55) 1000000000000000000 ⟨[(.lst a0), (.tup []), (.bool b44), (.int .i64 x2), (.int .i64 x29), (.int .i64 x45), (.int .i64 (IntKind.wrap .i64 (x45 + 1))), v47, v48, v49, v50, (.lst a0), (.int .i64 x2), (.int .i64 x2), (.bool (decide (x2 < 3))), (.bool false), (.int .i64 x2), (.bool (decide (x2 > 8))), (.bool false), (.int .i64 x30), (.int .i64 x31), (.bool b32), v33, v34, v35, v36, v37, v38, v39, v40, (.int .i64 x45), (.int .i64 x2), (.bool true), v54, v55, (.int .i64 x45), (.int .i64 (IntKind.wrap .i64 (x45 + 1))), v58, v59, v60, v61, v62, v63, v64, v65, v66, v67, v68, v69, v70, v71, v72, v73, v74, v75, v76, v77, v78, v79, v80, v81, v82, v83, v84, v85, v86, v87, v88, v89, v90, v91, v92, v93, v94, v95, v96, v97, v98, v99, v100, v101, v102, v103, v104, v105, v106, v107, v108, v109, v110, v111, v112, v113, v114, v115, v116, v117, v118, v119, v120], (St.H s41)⟩ [4] [r45X2_0 C d a0 x2 x29 x30 x31 b32 v33 v34 v35 v36 v37 v38 v39 v40 k42 x45 v54 v55] (r45E2 C d a0 x2 x29 x30 x31 b32 v33 v34 v35 v36 v37 v38 v39 v40 k42 x45 v54 v55))
   (k42 (.exit 2) ⟨[(.lst a0), (.tup []), (.bool b44), (.int .i64 x2), (.int .i64 x29), (.int .i64 x45), v46, v47, v48, v49, v50, (.lst a0), (.int .i64 x2), (.int .i64 x2), (.bool (decide (x2 < 3))), (.bool false), (.int .i64 x2), (.bool (decide (x2 > 8))), (.bool false), (.int .i64 x30), (.int .i64 x31), (.bool b32), v33, v34, v35, v36, v37, v38, v39, v40, (.int .i64 x45), (.int .i64 x2), (.bool false), v54, v55, v56, v57, v58, v59, v60, v61, v62, v63, v64, v65, v66, v67, v68, v69, v70, v71, v72, v73, v74, v75, v76, v77, v78, v79, v80, v81, v82, v83, v84, v85, v86, v87, v88, v89, v90, v91, v92, v93, v94, v95, v96, v97, v98, v99, v100, v101, v102, v103, v104, v105, v106, v107, v108, v109, v110, v111, v112, v113, v114, v115, v116, v117, v118, v119, v120], (St.H s41)⟩))
   (none)
def r45X1_0 (C : Cb) (d : Nat) (a0 : List AV) (x2 x29 x30 x31 : Int) (b32 : Bool) (v33 v34 v35 v36 v37 v38 v39 v40 : AV) : St → Ans := fun s500 =>
  cnd ((List.length (St.env s500)) == 100)
   (C.same (St.env s500)[0]? (.lst a0) <|
   C.same (St.env s500)[1]? (.tup []) <|
   C.bool (St.env s500)[2]? fun b501 =>
   C.same (St.env s500)[3]? (.int .i64 x2) <|
   C.same (St.env s500)[4]? (.int .i64 x29) <|
   C.int .i64 (St.env s500)[5]? fun x502 =>
   C.any (St.env s500)[6]? fun v503 =>
   C.any (St.env s500)[7]? fun v504 =>
   C.any (St.env s500)[8]? fun v505 =>
   C.any (St.env s500)[9]? fun v506 =>
   C.any (St.env s500)[10]? fun v507 =>
   C.same (St.env s500)[11]? (.lst a0) <|
   C.same (St.env s500)[12]? (.int .i64 x2) <|
   C.same (St.env s500)[13]? (.int .i64 x2) <|
   C.same (St.env s500)[14]? (.bool (decide (x2 < 3))) <|
   C.same (St.env s500)[15]? (.bool false) <|
   C.same (St.env s500)[16]? (.int .i64 x2) <|
   C.same (St.env s500)[17]? (.bool (decide (x2 > 8))) <|
   C.same (St.env s500)[18]? (.bool false) <|
   C.same (St.env s500)[19]? (.int .i64 x30) <|
   C.same (St.env s500)[20]? (.int .i64 x31) <|
   C.same (St.env s500)[21]? (.bool b32) <|
   C.same (St.env s500)[22]? v33 <|
   C.same (St.env s500)[23]? v34 <|
   C.same (St.env s500)[24]? v35 <|
   C.same (St.env s500)[25]? v36 <|
   C.same (St.env s500)[26]? v37 <|
   C.same (St.env s500)[27]? v38 <|
   C.same (St.env s500)[28]? v39 <|
   C.same (St.env s500)[29]? v40 <|
   C.int .i64 (St.env s500)[30]? fun x508 =>
   C.int .i64 (St.env s500)[31]? fun x509 =>
   C.bool (St.env s500)[32]? fun b510 =>
   C.any (St.env s500)[33]? fun v511 =>
   C.any (St.env s500)[34]? fun v512 =>
   C.any (St.env s500)[35]? fun v513 =>
   C.any (St.env s500)[36]? fun v514 =>
   C.any (St.env s500)[37]? fun v515 =>
   C.any (St.env s500)[38]? fun v516 =>
   C.any (St.env s500)[39]? fun v517 =>
   C.any (St.env s500)[40]? fun v518 =>
   C.any (St.env s500)[41]? fun v519 =>
   C.any (St.env s500)[42]? fun v520 =>
   C.any (St.env s500)[43]? fun v521 =>
   C.any (St.env s500)[44]? fun v522 =>
   C.any (St.env s500)[45]? fun v523 =>
   C.any (St.env s500)[46]? fun v524 =>
   C.any (St.env s500)[47]? fun v525 =>
   C.any (St.env s500)[48]? fun v526 =>
   C.any (St.env s500)[49]? fun v527 =>
   C.any (St.env s500)[50]? fun v528 =>
   C.any (St.env s500)[51]? fun v529 =>
   C.any (St.env s500)[52]? fun v530 =>
   C.any (St.env s500)[53]? fun v531 =>
   C.any (St.env s500)[54]? fun v532 =>
   C.any (St.env s500)[55]? fun v533 =>
   C.any (St.env s500)[56]? fun v534 =>
   C.any (St.env s500)[57]? fun v535 =>
   C.any (St.env s500)[58]? fun v536 =>
   C.any (St.env s500)[59]? fun v537 =>
   C.any (St.env s500)[60]? fun v538 =>
   C.any (St.env s500)[61]? fun v539 =>
   C.any (St.env s500)[62]? fun v540 =>
   C.any (St.env s500)[63]? fun v541 =>
   C.any (St.env s500)[64]? fun v542 =>
   C.any (St.env s500)[65]? fun v543 =>
   C.any (St.env s500)[66]? fun v544 =>
   C.any (St.env s500)[67]? fun v545 =>
   C.any (St.env s500)[68]? fun v546 =>
   C.any (St.env s500)[69]? fun v547 =>
   C.any (St.env s500)[70]? fun v548 =>
   C.any (St.env s500)[71]? fun v549 =>
   C.any (St.env s500)[72]? fun v550 =>
   C.any (St.env s500)[73]? fun v551 =>
   C.any (St.env s500)[74]? fun v552 =>
   C.any (St.env s500)[75]? fun v553 =>
   C.any (St.env s500)[76]? fun v554 =>
   C.any (St.env s500)[77]? fun v555 =>
   C.any (St.env s500)[78]? fun v556 =>
   C.any (St.env s500)[79]? fun v557 =>
   C.any (St.env s500)[80]? fun v558 =>
   C.any (St.env s500)[81]? fun v559 =>
   C.any (St.env s500)[82]? fun v560 =>
   C.any (St.env s500)[83]? fun v561 =>
   C.any (St.env s500)[84]? fun v562 =>
   C.any (St.env s500)[85]? fun v563 =>
   C.any (St.env s500)[86]? fun v564 =>
   C.any (St.env s500)[87]? fun v565 =>
   C.any (St.env s500)[88]? fun v566 =>
   C.any (St.env s500)[89]? fun v567 =>
   C.any (St.env s500)[90]? fun v568 =>
   C.any (St.env s500)[91]? fun v569 =>
   C.any (St.env s500)[92]? fun v570 =>
   C.any (St.env s500)[93]? fun v571 =>
   C.any (St.env s500)[94]? fun v572 =>
   C.any (St.env s500)[95]? fun v573 =>
   C.any (St.env s500)[96]? fun v574 =>
   C.any (St.env s500)[97]? fun v575 =>
   C.any (St.env s500)[98]? fun v576 =>
   C.any (St.env s500)[99]? fun v577 =>
   C.fin (St.H s500) (.bool true))
   (none)
def r45E1 (C : Cb) (d : Nat) (a0 : List AV) (x2 x29 x30 x31 : Int) (b32 : Bool) (v33 v34 v35 v36 v37 v38 v39 v40 : AV) : St → Ans := fun s43 =>
  cnd ((List.length (St.env s43)) == 100)
   (C.same (St.env s43)[0]? (.lst a0) <|
   C.same (St.env s43)[1]? (.tup []) <|
   C.bool (St.env s43)[2]? fun b578 =>
   C.same (St.env s43)[3]? (.int .i64 x2) <|
   C.same (St.env s43)[4]? (.int .i64 x29) <|
   C.int .i64 (St.env s43)[5]? fun x579 =>
   C.int .i64 (St.env s43)[6]? fun x580 =>
   C.any (St.env s43)[7]? fun v581 =>
   C.any (St.env s43)[8]? fun v582 =>
   C.any (St.env s43)[9]? fun v583 =>
   C.any (St.env s43)[10]? fun v584 =>
   C.same (St.env s43)[11]? (.lst a0) <|
   C.same (St.env s43)[12]? (.int .i64 x2) <|
   C.same (St.env s43)[13]? (.int .i64 x2) <|
   C.same (St.env s43)[14]? (.bool (decide (x2 < 3))) <|
   C.same (St.env s43)[15]? (.bool false) <|
   C.same (St.env s43)[16]? (.int .i64 x2) <|
   C.same (St.env s43)[17]? (.bool (decide (x2 > 8))) <|
   C.same (St.env s43)[18]? (.bool false) <|
   C.same (St.env s43)[19]? (.int .i64 x30) <|
   C.same (St.env s43)[20]? (.int .i64 x31) <|
   C.same (St.env s43)[21]? (.bool b32) <|
   C.same (St.env s43)[22]? v33 <|
   C.same (St.env s43)[23]? v34 <|
   C.same (St.env s43)[24]? v35 <|
   C.same (St.env s43)[25]? v36 <|
   C.same (St.env s43)[26]? v37 <|
   C.same (St.env s43)[27]? v38 <|
   C.same (St.env s43)[28]? v39 <|
   C.same (St.env s43)[29]? v40 <|
   C.int .i64 (St.env s43)[30]? fun x585 =>
   C.int .i64 (St.env s43)[31]? fun x586 =>
   C.bool (St.env s43)[32]? fun b587 =>
   C.any (St.env s43)[33]? fun v588 =>
   C.any (St.env s43)[34]? fun v589 =>
   C.int .i64 (St.env s43)[35]? fun x590 =>
   C.int .i64 (St.env s43)[36]? fun x591 =>
   C.int .i64 (St.env s43)[37]? fun x592 =>
   C.int .i64 (St.env s43)[38]? fun x593 =>
   C.bool (St.env s43)[39]? fun b594 =>
   C.any (St.env s43)[40]? fun v595 =>
   C.any (St.env s43)[41]? fun v596 =>
   C.any (St.env s43)[42]? fun v597 =>
   C.int .i64 (St.env s43)[43]? fun x598 =>
   C.any (St.env s43)[44]? fun v599 =>
   C.agg 2 (St.env s43)[45]? fun l600 =>
   C.int .i64 l600[0]? fun x601 =>
   C.int .i64 l600[1]? fun x602 =>
   C.any (St.env s43)[46]? fun v603 =>
   C.int .i64 (St.env s43)[47]? fun x604 =>
   C.agg 2 (St.env s43)[48]? fun l605 =>
   C.int .i64 l605[0]? fun x606 =>
   C.int .i64 l605[1]? fun x607 =>
   C.any (St.env s43)[49]? fun v608 =>
   C.int .i64 (St.env s43)[50]? fun x609 =>
   C.any (St.env s43)[51]? fun v610 =>
   C.agg 2 (St.env s43)[52]? fun l611 =>
   C.int .i64 l611[0]? fun x612 =>
   C.int .i64 l611[1]? fun x613 =>
   C.any (St.env s43)[53]? fun v614 =>
   C.int .i64 (St.env s43)[54]? fun x615 =>
   C.agg 2 (St.env s43)[55]? fun l616 =>
   C.int .i64 l616[0]? fun x617 =>
   C.int .i64 l616[1]? fun x618 =>
   C.bool (St.env s43)[56]? fun b619 =>
   C.agg 2 (St.env s43)[57]? fun l620 =>
   C.int .i64 l620[0]? fun x621 =>
   C.int .i64 l620[1]? fun x622 =>
   C.agg 2 (St.env s43)[58]? fun l623 =>
   C.int .i64 l623[0]? fun x624 =>
   C.int .i64 l623[1]? fun x625 =>
   C.bool (St.env s43)[59]? fun b626 =>
   C.any (St.env s43)[60]? fun v627 =>
   C.any (St.env s43)[61]? fun v628 =>
   C.any (St.env s43)[62]? fun v629 =>
   C.any (St.env s43)[63]? fun v630 =>
   C.any (St.env s43)[64]? fun v631 =>
   C.any (St.env s43)[65]? fun v632 =>
   C.any (St.env s43)[66]? fun v633 =>
   C.any (St.env s43)[67]? fun v634 =>
   C.any (St.env s43)[68]? fun v635 =>
   C.any (St.env s43)[69]? fun v636 =>
   C.any (St.env s43)[70]? fun v637 =>
   C.any (St.env s43)[71]? fun v638 =>
   C.any (St.env s43)[72]? fun v639 =>
   C.any (St.env s43)[73]? fun v640 =>
   C.any (St.env s43)[74]? fun v641 =>
   C.any (St.env s43)[75]? fun v642 =>
   C.any (St.env s43)[76]? fun v643 =>
   C.any (St.env s43)[77]? fun v644 =>
   C.any (St.env s43)[78]? fun v645 =>
   C.any (St.env s43)[79]? fun v646 =>
   C.any (St.env s43)[80]? fun v647 =>
   C.any (St.env s43)[81]? fun v648 =>
   C.any (St.env s43)[82]? fun v649 =>
   C.any (St.env s43)[83]? fun v650 =>
   C.any (St.env s43)[84]? fun v651 =>
   C.any (St.env s43)[85]? fun v652 =>
   C.any (St.env s43)[86]? fun v653 =>
   C.any (St.env s43)[87]? fun v654 =>
   C.any (St.env s43)[88]? fun v655 =>
   C.any (St.env s43)[89]? fun v656 =>
   C.any (St.env s43)[90]? fun v657 =>
   C.any (St.env s43)[91]? fun v658 =>
   C.any (St.env s43)[92]? fun v659 =>
   C.any (St.env s43)[93]? fun v660 =>
   C.any (St.env s43)[94]? fun v661 =>
   C.any (St.env s43)[95]? fun v662 =>
   C.any (St.env s43)[96]? fun v663 =>
   C.any (St.env s43)[97]? fun v664 =>
   C.any (St.env s43)[98]? fun v665 =>
   C.any (St.env s43)[99]? fun v666 =>
   C.fin (St.H s43) (.bool b578))
   (none)
def r45R0 (C : Cb) (d : Nat) (a0 : List AV) (x2 : Int) : St → (Ex → St → Ans) → Ans := fun s3 k4 =>
  cnd ((List.length (St.env s3)) == 100)
   (C.same (St.env s3)[0]? (.lst a0) <|
   C.same (St.env s3)[1]? (.tup []) <|
   C.bool (St.env s3)[2]? fun b6 =>
   C.same (St.env s3)[3]? (.int .i64 x2) <|
   C.int .i64 (St.env s3)[4]? fun x7 =>
   C.same (St.env s3)[5]? (.tup []) <|
   C.same (St.env s3)[6]? (.tup []) <|
   C.same (St.env s3)[7]? (.tup []) <|
   C.same (St.env s3)[8]? (.tup []) <|
   C.same (St.env s3)[9]? (.tup []) <|
   C.same (St.env s3)[10]? (.tup []) <|
   C.same (St.env s3)[11]? (.lst a0) <|
   C.same (St.env s3)[12]? (.int .i64 x2) <|
   C.same (St.env s3)[13]? (.int .i64 x2) <|
   C.same (St.env s3)[14]? (.bool (decide (x2 < 3))) <|
   C.same (St.env s3)[15]? (.bool false) <|
   C.same (St.env s3)[16]? (.int .i64 x2) <|
   C.same (St.env s3)[17]? (.bool (decide (x2 > 8))) <|
   C.same (St.env s3)[18]? (.bool false) <|
   C.any (St.env s3)[19]? fun v8 =>
   C.any (St.env s3)[20]? fun v9 =>
   C.any (St.env s3)[21]? fun v10 =>
   C.any (St.env s3)[22]? fun v11 =>
   C.any (St.env s3)[23]? fun v12 =>
   C.any (St.env s3)[24]? fun v13 =>
   C.any (St.env s3)[25]? fun v14 =>
   C.any (St.env s3)[26]? fun v15 =>
   C.any (St.env s3)[27]? fun v16 =>
   C.any (St.env s3)[28]? fun v17 =>
   C.any (St.env s3)[29]? fun v18 =>
   C.same (St.env s3)[30]? (.tup []) <|
   C.same (St.env s3)[31]? (.tup []) <|
   C.same (St.env s3)[32]? (.tup []) <|
   C.same (St.env s3)[33]? (.tup []) <|
   C.same (St.env s3)[34]? (.tup []) <|
   C.same (St.env s3)[35]? (.tup []) <|
   C.same (St.env s3)[36]? (.tup []) <|
   C.same (St.env s3)[37]? (.tup []) <|
   C.same (St.env s3)[38]? (.tup []) <|
   C.same (St.env s3)[39]? (.tup []) <|
   C.same (St.env s3)[40]? (.tup []) <|
   C.same (St.env s3)[41]? (.tup []) <|
   C.same (St.env s3)[42]? (.tup []) <|
   C.same (St.env s3)[43]? (.tup []) <|
   C.same (St.env s3)[44]? (.tup []) <|
   C.same (St.env s3)[45]? (.tup []) <|
   C.same (St.env s3)[46]? (.tup []) <|
   C.same (St.env s3)[47]? (.tup []) <|
   C.same (St.env s3)[48]? (.tup []) <|
   C.same (St.env s3)[49]? (.tup []) <|
   C.same (St.env s3)[50]? (.tup []) <|
   C.same (St.env s3)[51]? (.tup []) <|
   C.same (St.env s3)[52]? (.tup []) <|
   C.same (St.env s3)[53]? (.tup []) <|
   C.same (St.env s3)[54]? (.tup []) <|
   C.same (St.env s3)[55]? (.tup []) <|
   C.same (St.env s3)[56]? (.tup []) <|
   C.same (St.env s3)[57]? (.tup []) <|
   C.same (St.env s3)[58]? (.tup []) <|
   C.same (St.env s3)[59]? (.tup []) <|
   C.same (St.env s3)[60]? (.tup []) <|
   C.same (St.env s3)[61]? (.tup []) <|
   C.same (St.env s3)[62]? (.tup []) <|
   C.same (St.env s3)[63]? (.tup []) <|
   C.same (St.env s3)[64]? (.tup []) <|
   C.same (St.env s3)[65]? (.tup []) <|
   C.same (St.env s3)[66]? (.tup []) <|
   C.same (St.env s3)[67]? (.tup []) <|
   C.same (St.env s3)[68]? (.tup []) <|
   C.same (St.env s3)[69]? (.tup []) <|
   C.same (St.env s3)[70]? (.tup []) <|
   C.same (St.env s3)[71]? (.tup []) <|
   C.same (St.env s3)[72]? (.tup []) <|
   C.same (St.env s3)[73]? (.tup []) <|
   C.same (St.env s3)[74]? (.tup []) <|
   C.same (St.env s3)[75]? (.tup []) <|
   C.same (St.env s3)[76]? (.tup []) <|
   C.same (St.env s3)[77]? (.tup []) <|
   C.same (St.env s3)[78]? (.tup []) <|
   C.same (St.env s3)[79]? (.tup []) <|
   C.same (St.env s3)[80]? (.tup []) <|
   C.same (St.env s3)[81]? (.tup []) <|
   C.same (St.env s3)[82]? (.tup []) <|
   C.same (St.env s3)[83]? (.tup []) <|
   C.same (St.env s3)[84]? (.tup []) <|
   C.same (St.env s3)[85]? (.tup []) <|
   C.same (St.env s3)[86]? (.tup []) <|
   C.same (St.env s3)[87]? (.tup []) <|
   C.same (St.env s3)[88]? (.tup []) <|
   C.same (St.env s3)[89]? (.tup []) <|
   C.same (St.env s3)[90]? (.tup []) <|
   C.same (St.env s3)[91]? (.tup []) <|
   C.same (St.env s3)[92]? (.tup []) <|
   C.same (St.env s3)[93]? (.tup []) <|
   C.same (St.env s3)[94]? (.tup []) <|
   C.same (St.env s3)[95]? (.tup []) <|
   C.same (St.env s3)[96]? (.tup []) <|
   C.same (St.env s3)[97]? (.tup []) <|
   C.same (St.env s3)[98]? (.tup []) <|
   C.same (St.env s3)[99]? (.tup []) <|
   cnd (decide (x7 < x2))
   (C.hop (St.H s3) (.ixAS .any 2 (.v (.lst a0)) (.v (.int .i64 x7))) fun v19 h20 =>
   C.hop h20 (.load true 2 (.v v19)) fun v21 h22 =>
   C.agg 2 (some v21) fun l23 =>
   C.int .i64 l23[0]? fun x24 =>
   C.int .i64 l23[1]? fun x25 =>
   C.bool (pcall M d 26 [(.agg [(.int .i64 x24), (.int .i64 x25)])]) fun b26 =>
   cnd (!b26)
   (k4 .ret ⟨[(.lst a0), (.tup []), (.bool false), (.int .i64 x2), (.int .i64 x7), (.tup []), (.tup []), (.tup []), (.tup []), (.tup []), (.tup []), (.lst a0), (.int .i64 x2), (.int .i64 x2), (.bool (decide (x2 < 3))), (.bool false), (.int .i64 x2), (.bool (decide (x2 > 8))), (.bool false), (.int .i64 x7), (.int .i64 x2), (.bool true), v11, v12, (.lst a0), (.int .i64 x7), v19, (.agg [(.int .i64 x24), (.int .i64 x25)]), (.bool b26), (.bool true), (.tup []), (.tup []), (.tup []), (.tup []), (.tup []), (.tup []), (.tup []), (.tup []), (.tup []), (.tup []), (.tup []), (.tup []), (.tup []), (.tup []), (.tup []), (.tup []), (.tup []), (.tup []), (.tup []), (.tup []), (.tup []), (.tup []), (.tup []), (.tup []), (.tup []), (.tup []), (.tup []), (.tup []), (.tup []), (.tup []), (.tup []), (.tup []), (.tup []), (.tup []), (.tup []), (.tup []), (.tup []), (.tup []), (.tup []), (.tup []), (.tup []), (.tup []), (.tup []), (.tup []), (.tup []), (.tup []), (.tup []), (.tup []), (.tup []), (.tup []), (.tup []), (.tup []), (.tup []), (.tup []), (.tup []), (.tup []), (.tup []), (.tup []), (.tup []), (.tup []), (.tup []), (.tup []), (.tup []), (.tup []), (.tup []), (.tup []), (.tup []), (.tup []), (.tup []), (.tup [])], h22⟩)
   (k4 .normal ⟨[(.lst a0), (.tup []), (.bool b6), (.int .i64 x2), (.int .i64 (IntKind.wrap .i64 (x7 + 1))), (.tup []), (.tup []), (.tup []), (.tup []), (.tup []), (.tup []), (.lst a0), (.int .i64 x2), (.int .i64 x2), (.bool (decide (x2 < 3))), (.bool false), (.int .i64 x2), (.bool (decide (x2 > 8))), (.bool false), (.int .i64 x7), (.int .i64 x2), (.bool true), (.int .i64 x7), (.int .i64 (IntKind.wrap .i64 (x7 + 1))), (.lst a0), (.int .i64 x7), v19, (.agg [(.int .i64 x24), (.int .i64 x25)]), (.bool b26), (.bool false), (.tup []), (.tup []), (.tup []), (.tup []), (.tup []), (.tup []), (.tup []), (.tup []), (.tup []), (.tup []), (.tup []), (.tup []), (.tup []), (.tup []), (.tup []), (.tup []), (.tup []), (.tup []), (.tup []), (.tup []), (.tup []), (.tup []), (.tup []), (.tup []), (.tup []), (.tup []), (.tup []), (.tup []), (.tup []), (.tup []), (.tup []), (.tup []), (.tup []), (.tup []), (.tup []), (.tup []), (.tup []), (.tup []), (.tup []), (.tup []), (.tup []), (.tup []), (.tup []), (.tup []), (.tup []), (.tup []), (.tup []), (.tup []), (.tup []), (.tup []), (.tup []), (.tup []), (.tup []), (.tup []), (.tup []), (.tup []), (.tup []), (.tup []), (.tup []), (.tup []), (.tup []), (.tup []), (.tup []), (.tup []), (.tup []), (.tup []), (.tup []), (.tup []), (.tup []), (.tup [])], h22⟩))
   (k4 (.exit 0) ⟨[(.lst a0), (.tup []), (.bool b6), (.int .i64 x2), (.int .i64 x7), (.tup []), (.tup []), (.tup []), (.tup []), (.tup []), (.tup []), (.lst a0), (.int .i64 x2), (.int .i64 x2), (.bool (decide (x2 < 3))), (.bool false), (.int .i64 x2), (.bool (decide (x2 > 8))), (.bool false), (.int .i64 x7), (.int .i64 x2), (.bool false), v11, v12, v13, v14, v15, v16, v17, v18, (.tup []), (.tup []), (.tup []), (.tup []), (.tup []), (.tup []), (.tup []), (.tup []), (.tup []), (.tup []), (.tup []), (.tup []), (.tup []), (.tup []), (.tup []), (.tup []), (.tup []), (.tup []), (.tup []), (.tup []), (.tup []), (.tup []), (.tup []), (.tup []), (.tup []), (.tup []), (.tup []), (.tup []), (.tup []), (.tup []), (.tup []), (.tup []), (.tup []), (.tup []), (.tup []), (.tup []), (.tup []), (.tup []), (.tup []), (.tup []), (.tup []), (.tup []), (.tup []), (.tup []), (.tup []), (.tup []), (.tup []), (.tup []), (.tup []), (.tup []), (.tup []), (.tup []), (.tup []), (.tup []), (.tup []), (.tup []), (.tup []), (.tup []), (.tup []), (.tup []), (.tup []), (.tup []), (.tup []), (.tup []), (.tup []), (.tup []), (.tup []), (.tup []), (.tup []), (.tup [])], (St.H s3)⟩))
   (none)
def r45X0_0 (C : Cb) (d : Nat) (a0 : List AV) (x2 : Int) : St → Ans := fun s27 =>
  cnd ((List.length (St.env s27)) == 100)
   (C.same (St.env s27)[0]? (.lst a0) <|
   C.same (St.env s27)[1]? (.tup []) <|
   C.bool (St.env s27)[2]? fun b28 =>
   C.same (St.env s27)[3]? (.int .i64 x2) <|
   C.int .i64 (St.env s27)[4]? fun x29 =>
   C.same (St.env s27)[5]? (.tup []) <|
   C.same (St.env s27)[6]? (.tup []) <|
   C.same (St.env s27)[7]? (.tup []) <|
   C.same (St.env s27)[8]? (.tup []) <|
   C.same (St.env s27)[9]? (.tup []) <|
   C.same (St.env s27)[10]? (.tup []) <|
   C.same (St.env s27)[11]? (.lst a0) <|
   C.same (St.env s27)[12]? (.int .i64 x2) <|
   C.same (St.env s27)[13]? (.int .i64 x2) <|
   C.same (St.env s27)[14]? (.bool (decide (x2 < 3))) <|
   C.same (St.env s27)[15]? (.bool false) <|
   C.same (St.env s27)[16]? (.int .i64 x2) <|
   C.same (St.env s27)[17]? (.bool (decide (x2 > 8))) <|
   C.same (St.env s27)[18]? (.bool false) <|
   C.int .i64 (St.env s27)[19]? fun x30 =>
   C.int .i64 (St.env s27)[20]? fun x31 =>
   C.bool (St.env s27)[21]? fun b32 =>
   C.any (St.env s27)[22]? fun v33 =>
   C.any (St.env s27)[23]? fun v34 =>
   C.any (St.env s27)[24]? fun v35 =>
   C.any (St.env s27)[25]? fun v36 =>
   C.any (St.env s27)[26]? fun v37 =>
   C.any (St.env s27)[27]? fun v38 =>
   C.any (St.env s27)[28]? fun v39 =>
   C.any (St.env s27)[29]? fun v40 =>
   C.same (St.env s27)[30]? (.tup []) <|
   C.same (St.env s27)[31]? (.tup []) <|
   C.same (St.env s27)[32]? (.tup []) <|
   C.same (St.env s27)[33]? (.tup []) <|
   C.same (St.env s27)[34]? (.tup []) <|
   C.same (St.env s27)[35]? (.tup []) <|
   C.same (St.env s27)[36]? (.tup []) <|
   C.same (St.env s27)[37]? (.tup []) <|
   C.same (St.env s27)[38]? (.tup []) <|
   C.same (St.env s27)[39]? (.tup []) <|
   C.same (St.env s27)[40]? (.tup []) <|
   C.same (St.env s27)[41]? (.tup []) <|
   C.same (St.env s27)[42]? (.tup []) <|
   C.same (St.env s27)[43]? (.tup []) <|
   C.same (St.env s27)[44]? (.tup []) <|
   C.same (St.env s27)[45]? (.tup []) <|
   C.same (St.env s27)[46]? (.tup []) <|
   C.same (St.env s27)[47]? (.tup []) <|
   C.same (St.env s27)[48]? (.tup []) <|
   C.same (St.env s27)[49]? (.tup []) <|
   C.same (St.env s27)[50]? (.tup []) <|
   C.same (St.env s27)[51]? (.tup []) <|
   C.same (St.env s27)[52]? (.tup []) <|
   C.same (St.env s27)[53]? (.tup []) <|
   C.same (St.env s27)[54]? (.tup []) <|
   C.same (St.env s27)[55]? (.tup []) <|
   C.same (St.env s27)[56]? (.tup []) <|
   C.same (St.env s27)[57]? (.tup []) <|
   C.same (St.env s27)[58]? (.tup []) <|
   C.same (St.env s27)[59]? (.tup []) <|
   C.same (St.env s27)[60]? (.tup []) <|
   C.same (St.env s27)[61]? (.tup []) <|
   C.same (St.env s27)[62]? (.tup []) <|
   C.same (St.env s27)[63]? (.tup []) <|
   C.same (St.env s27)[64]? (.tup []) <|
   C.same (St.env s27)[65]? (.tup []) <|
   C.same (St.env s27)[66]? (.tup []) <|
   C.same (St.env s27)[67]? (.tup []) <|
   C.same (St.env s27)[68]? (.tup []) <|
   C.same (St.env s27)[69]? (.tup []) <|
   C.same (St.env s27)[70]? (.tup []) <|
   C.same (St.env s27)[71]? (.tup []) <|
   C.same (St.env s27)[72]? (.tup []) <|
   C.same (St.env s27)[73]? (.tup []) <|
   C.same (St.env s27)[74]? (.tup []) <|
   C.same (St.env s27)[75]? (.tup []) <|
   C.same (St.env s27)[76]? (.tup []) <|
   C.same (St.env s27)[77]? (.tup []) <|
   C.same (St.env s27)[78]? (.tup []) <|
   C.same (St.env s27)[79]? (.tup []) <|
   C.same (St.env s27)[80]? (.tup []) <|
   C.same (St.env s27)[81]? (.tup []) <|
   C.same (St.env s27)[82]? (.tup []) <|
   C.same (St.env s27)[83]? (.tup []) <|
   C.same (St.env s27)[84]? (.tup []) <|
   C.same (St.env s27)[85]? (.tup []) <|
   C.same (St.env s27)[86]? (.tup []) <|
   C.same (St.env s27)[87]? (.tup []) <|
   C.same (St.env s27)[88]? (.tup []) <|
   C.same (St.env s27)[89]? (.tup []) <|
   C.same (St.env s27)[90]? (.tup []) <|
   C.same (St.env s27)[91]? (.tup []) <|
   C.same (St.env s27)[92]? (.tup []) <|
   C.same (St.env s27)[93]? (.tup []) <|
   C.same (St.env s27)[94]? (.tup []) <|
   C.same (St.env s27)[95]? (.tup []) <|
   C.same (St.env s27)[96]? (.tup []) <|
   C.same (St.env s27)[97]? (.tup []) <|
   C.same (St.env s27)[98]? (.tup []) <|
   C.same (St.env s27)[99]? (.tup []) <|
   C.iter (r45R1 C d a0 x2 x29 x30 x31 b32 v33 v34 v35 v36 v37 v38 v39 v40) 1000000000000000000 ⟨[(.lst a0), (.tup []), (.bool b28), (.int .i64 x2), (.int .i64 x29), (.int .i64 0), (.tup []), (.tup []), (.tup []), (.tup []), (.tup []), (.lst a0), (.int .i64 x2), (.int .i64 x2), (.bool (decide (x2 < 3))), (.bool false), (.int .i64 x2), (.bool (decide (x2 > 8))), (.bool false), (.int .i64 x30), (.int .i64 x31), (.bool b32), v33, v34, v35, v36, v37, v38, v39, v40, (.tup []), (.tup []), (.tup []), (.tup []), (.tup []), (.tup []), (.tup []), (.tup []), (.tup []), (.tup []), (.tup []), (.tup []), (.tup []), (.tup []), (.tup []), (.tup []), (.tup []), (.tup []), (.tup []), (.tup []), (.tup []), (.tup []), (.tup []), (.tup []), (.tup []), (.tup []), (.tup []), (.tup []), (.tup []), (.tup []), (.tup []), (.tup []), (.tup []), (.tup []), (.tup []), (.tup []), (.tup []), (.tup []), (.tup []), (.tup []), (.tup []), (.tup []), (.tup []), (.tup []), (.tup []), (.tup []), (.tup []), (.tup []), (.tup []), (.tup []), (.tup []), (.tup []), (.tup []), (.tup []), (.tup []), (.tup []), (.tup []), (.tup []), (.tup []), (.tup []), (.tup []), (.tup []), (.tup []), (.tup []), (.tup []), (.tup []), (.tup []), (.tup []), (.tup []), (.tup [])], (St.H s27)⟩ [2] [r45X1_0 C d a0 x2 x29 x30 x31 b32 v33 v34 v35 v36 v37 v38 v39 v40] (r45E1 C d a0 x2 x29 x30 x31 b32 v33 v34 v35 v36 v37 v38 v39 v40))
   (none)
def r45E0 (C : Cb) (d : Nat) (a0 : List AV) (x2 : Int) : St → Ans := fun s5 =>
  cnd ((List.length (St.env s5)) == 100)
   (C.same (St.env s5)[0]? (.lst a0) <|
   C.same (St.env s5)[1]? (.tup []) <|
   C.bool (St.env s5)[2]? fun b667 =>
   C.same (St.env s5)[3]? (.int .i64 x2) <|
   C.int .i64 (St.env s5)[4]? fun x668 =>
   C.same (St.env s5)[5]? (.tup []) <|
   C.same (St.env s5)[6]? (.tup []) <|
   C.same (St.env s5)[7]? (.tup []) <|
   C.same (St.env s5)[8]? (.tup []) <|
   C.same (St.env s5)[9]? (.tup []) <|
   C.same (St.env s5)[10]? (.tup []) <|
   C.same (St.env s5)[11]? (.lst a0) <|
   C.same (St.env s5)[12]? (.int .i64 x2) <|
   C.same (St.env s5)[13]? (.int .i64 x2) <|
   C.same (St.env s5)[14]? (.bool (decide (x2 < 3))) <|
   C.same (St.env s5)[15]? (.bool false) <|
   C.same (St.env s5)[16]? (.int .i64 x2) <|
   C.same (St.env s5)[17]? (.bool (decide (x2 > 8))) <|
   C.same (St.env s5)[18]? (.bool false) <|
   C.int .i64 (St.env s5)[19]? fun x669 =>
   C.int .i64 (St.env s5)[20]? fun x670 =>
   C.bool (St.env s5)[21]? fun b671 =>
   C.any (St.env s5)[22]? fun v672 =>
   C.any (St.env s5)[23]? fun v673 =>
   C.any (St.env s5)[24]? fun v674 =>
   C.int .i64 (St.env s5)[25]? fun x675 =>
   C.any (St.env s5)[26]? fun v676 =>
   C.agg 2 (St.env s5)[27]? fun l677 =>
   C.int .i64 l677[0]? fun x678 =>
   C.int .i64 l677[1]? fun x679 =>
   C.bool (St.env s5)[28]? fun b680 =>
   C.bool (St.env s5)[29]? fun b681 =>
   C.same (St.env s5)[30]? (.tup []) <|
   C.same (St.env s5)[31]? (.tup []) <|
   C.same (St.env s5)[32]? (.tup []) <|
   C.same (St.env s5)[33]? (.tup []) <|
   C.same (St.env s5)[34]? (.tup []) <|
   C.same (St.env s5)[35]? (.tup []) <|
   C.same (St.env s5)[36]? (.tup []) <|
   C.same (St.env s5)[37]? (.tup []) <|
   C.same (St.env s5)[38]? (.tup []) <|
   C.same (St.env s5)[39]? (.tup []) <|
   C.same (St.env s5)[40]? (.tup []) <|
   C.same (St.env s5)[41]? (.tup []) <|
   C.same (St.env s5)[42]? (.tup []) <|
   C.same (St.env s5)[43]? (.tup []) <|
   C.same (St.env s5)[44]? (.tup []) <|
   C.same (St.env s5)[45]? (.tup []) <|
   C.same (St.env s5)[46]? (.tup []) <|
   C.same (St.env s5)[47]? (.tup []) <|
   C.same (St.env s5)[48]? (.tup []) <|
   C.same (St.env s5)[49]? (.tup []) <|
   C.same (St.env s5)[50]? (.tup []) <|
   C.same (St.env s5)[51]? (.tup []) <|
   C.same (St.env s5)[52]? (.tup []) <|
   C.same (St.env s5)[53]? (.tup []) <|
   C.same (St.env s5)[54]? (.tup []) <|
   C.same (St.env s5)[55]? (.tup []) <|
   C.same (St.env s5)[56]? (.tup []) <|
   C.same (St.env s5)[57]? (.tup []) <|
   C.same (St.env s5)[58]? (.tup []) <|
   C.same (St.env s5)[59]? (.tup []) <|
   C.same (St.env s5)[60]? (.tup []) <|
   C.same (St.env s5)[61]? (.tup []) <|
   C.same (St.env s5)[62]? (.tup []) <|
   C.same (St.env s5)[63]? (.tup []) <|
   C.same (St.env s5)[64]? (.tup []) <|
   C.same (St.env s5)[65]? (.tup []) <|
   C.same (St.env s5)[66]? (.tup []) <|
   C.same (St.env s5)[67]? (.tup []) <|
   C.same (St.env s5)[68]? (.tup []) <|
   C.same (St.env s5)[69]? (.tup []) <|
   C.same (St.env s5)[70]? (.tup []) <|
   C.same (St.env s5)[71]? (.tup []) <|
   C.same (St.env s5)[72]? (.tup []) <|
   C.same (St.env s5)[73]? (.tup []) <|
   C.same (St.env s5)[74]? (.tup []) <|
   C.same (St.env s5)[75]? (.tup []) <|
   C.same (St.env s5)[76]? (.tup []) <|
   C.same (St.env s5)[77]? (.tup []) <|
   C.same (St.env s5)[78]? (.tup []) <|
   C.same (St.env s5)[79]? (.tup []) <|
   C.same (St.env s5)[80]? (.tup []) <|
   C.same (St.env s5)[81]? (.tup []) <|
   C.same (St.env s5)[82]? (.tup []) <|
   C.same (St.env s5)[83]? (.tup []) <|
   C.same (St.env s5)[84]? (.tup []) <|
   C.same (St.env s5)[85]? (.tup []) <|
   C.same (St.env s5)[86]? (.tup []) <|
   C.same (St.env s5)[87]? (.tup []) <|
   C.same (St.env s5)[88]? (.tup []) <|
   C.same (St.env s5)[89]? (.tup []) <|
   C.same (St.env s5)[90]? (.tup []) <|
   C.same (St.env s5)[91]? (.tup []) <|
   C.same (St.env s5)[92]? (.tup []) <|
   C.same (St.env s5)[93]? (.tup []) <|
   C.same (St.env s5)[94]? (.tup []) <|
   C.same (St.env s5)[95]? (.tup []) <|
   C.same (St.env s5)[96]? (.tup []) <|
   C.same (St.env s5)[97]? (.tup []) <|
   C.same (St.env s5)[98]? (.tup []) <|
   C.same (St.env s5)[99]? (.tup []) <|
   C.fin (St.H s5) (.bool b667))
   (none)
/-- apogee/apogeeref11.Simple -/
theorem r45 (C : Cb) (d : Nat) (a0 : List AV) : xcall C M unr d 45 [(.lst a0)] =
  C.hop [] (.bk .lenV [(.v (.lst a0))]) fun v0 h1 =>
  C.int .i64 (some v0) fun x2 =>
  cnd (decide (x2 < 3))
   (C.fin h1 (.bool false))
   (cnd (decide (x2 > 8))
   (C.fin h1 (.bool false))
   (C.iter (r45R0 C d a0 x2) 1000000000000000000 ⟨[(.lst a0), (.tup []), (.bool false), (.int .i64 x2), (.int .i64 0), (.tup []), (.tup []), (.tup []), (.tup []), (.tup []), (.tup []), (.lst a0), (.int .i64 x2), (.int .i64 x2), (.bool (decide (x2 < 3))), (.bool false), (.int .i64 x2), (.bool (decide (x2 > 8))), (.bool false), (.tup []), (.tup []), (.tup []), (.tup []), (.tup []), (.tup []), (.tup []), (.tup []), (.tup []), (.tup []), (.tup []), (.tup []), (.tup []), (.tup []), (.tup []), (.tup []), (.tup []), (.tup []), (.tup []), (.tup []), (.tup []), (.tup []), (.tup []), (.tup []), (.tup []), (.tup []), (.tup []), (.tup []), (.tup []), (.tup []), (.tup []), (.tup []), (.tup []), (.tup []), (.tup []), (.tup []), (.tup []), (.tup []), (.tup []), (.tup []), (.tup []), (.tup []), (.tup []), (.tup []), (.tup []), (.tup []), (.tup []), (.tup []), (.tup []), (.tup []), (.tup []), (.tup []), (.tup []), (.tup []), (.tup []), (.tup []), (.tup []), (.tup []), (.tup []), (.tup []), (.tup []), (.tup []), (.tup []), (.tup []), (.tup []), (.tup []), (.tup []), (.tup []), (.tup []), (.tup []), (.tup []), (.tup []), (.tup []), (.tup []), (.tup []), (.tup []), (.tup []), (.tup []), (.tup []), (.tup []), (.tup [])], h1⟩ [0] [r45X0_0 C d a0 x2] (r45E0 C d a0 x2))) := by kernel_rfl
/-- apogee/apogeeref11.next -/
theorem r58 (C : Cb) (d : Nat) (a0 : List AV) (a1 : Int) : xcall C M unr d 58 [(.lst a0), (.int .i64 a1)] =
  cnd (decide ((((List.length a0) : Nat) : Int) = 0))
   (none)
   (cnd (decide (0 ≤ (Int.tmod (IntKind.wrap .i64 (a1 + 1)) (((List.length a0) : Nat) : Int))))
   (C.agg 2 a0[(Int.toNat (Int.tmod (IntKind.wrap .i64 (a1 + 1)) (((List.length a0) : Nat) : Int)))]? fun l0 =>
   C.int .i64 l0[0]? fun x1 =>
   C.int .i64 l0[1]? fun x2 =>
   some (.agg [(.int .i64 x1), (.int .i64 x2)]))
   (none)) := by kernel_rfl
end Go.Proofs.Ytjblhppbjebagaa.AE

namespace Go.Proofs.Ytjblhppbjebagaa.AE
set_option linter.unusedVariables false
set_option linter.unusedSimpArgs false
set_option linter.constructorNameAsVariable false
open Go
set_option maxRecDepth 100000
noncomputable def X29_0_0 (d : Nat) (a0 : List AV)  : Ans :=
  C0.bool (pcall M d 45 [(.lst a0)]) fun b102 =>
   some (.bool b102)
theorem X29_0_0_ok (d : Nat) (a0 : List AV) (b59 : Bool) (x60 x61 : Int) (v62 : AV) (x63 : Int) (b64 b65 : Bool) (v66 v67 v68 : AV) (b69 : Bool) (v70 v71 v72 v73 v74 v75 v76 v77 v78 v79 v80 v81 v82 v83 v84 v85 v86 v87 v88 v89 v90 v91 v92 v93 v94 v95 v96 v97 v98 v99 v100 v101 : AV) : r29X0_0 C0 d a0 ⟨[(.lst a0), (.tup []), (.bool b59), (.int .i64 x60), (.int .i64 x61), v62, (.int .i64 x63), (.bool b64), (.bool b65), v66, v67, v68, (.bool b69), v70, v71, v72, v73, v74, v75, v76, v77, v78, v79, v80, v81, v82, v83, v84, v85, v86, v87, v88, v89, v90, v91, v92, v93, v94, v95, v96, v97, v98, v99, v100, v101, (.tup []), (.tup [])], []⟩ = X29_0_0 d a0  := by
  unfold r29X0_0; refine Eq.trans (pl_len (by rfl)) ?_; (iterate 2 (refine Eq.trans (pl_same (by rfl)) ?_)); refine Eq.trans (pl_bool (by rfl)) ?_; (iterate 2 (refine Eq.trans (pl_int (by rfl)) ?_)); refine Eq.trans (pl_any (by rfl)) ?_; refine Eq.trans (pl_int (by rfl)) ?_; (iterate 2 (refine Eq.trans (pl_bool (by rfl)) ?_)); (iterate 3 (refine Eq.trans (pl_any (by rfl)) ?_)); refine Eq.trans (pl_bool (by rfl)) ?_; (iterate 32 (refine Eq.trans (pl_any (by rfl)) ?_)); (iterate 2 (refine Eq.trans (pl_same (by rfl)) ?_)); refine Eq.trans (pl_sameH) ?_
  rfl
noncomputable def E29_0 (d : Nat) (a0 : List AV) (b103 : Bool) : Ans :=
  some (.bool b103)
theorem E29_0_ok (d : Nat) (a0 : List AV) (b103 : Bool) (x104 x105 : Int) (v106 : AV) (x107 : Int) (b108 b109 : Bool) (v110 v111 v112 : AV) (b113 : Bool) (v114 v115 v116 : AV) (x117 : Int) (v118 v119 : AV) (x120 : Int) (b121 b122 : Bool) (v123 v124 v125 v126 v127 v128 : AV) (b129 b130 : Bool) (v131 v132 v133 v134 v135 v136 : AV) (b137 b138 : Bool) (v139 v140 v141 v142 v143 v144 : AV) (b145 : Bool) : r29E0 C0 d a0 ⟨[(.lst a0), (.tup []), (.bool b103), (.int .i64 x104), (.int .i64 x105), v106, (.int .i64 x107), (.bool b108), (.bool b109), v110, v111, v112, (.bool b113), v114, v115, v116, (.int .i64 x117), v118, v119, (.int .i64 x120), (.bool b121), (.bool b122), v123, v124, v125, v126, v127, v128, (.bool b129), (.bool b130), v131, v132, v133, v134, v135, v136, (.bool b137), (.bool b138), v139, v140, v141, v142, v143, v144, (.bool b145), (.tup []), (.tup [])], []⟩ = E29_0 d a0 b103 := by
  unfold r29E0; refine Eq.trans (pl_len (by rfl)) ?_; (iterate 2 (refine Eq.trans (pl_same (by rfl)) ?_)); refine Eq.trans (pl_bool (by rfl)) ?_; (iterate 2 (refine Eq.trans (pl_int (by rfl)) ?_)); refine Eq.trans (pl_any (by rfl)) ?_; refine Eq.trans (pl_int (by rfl)) ?_; (iterate 2 (refine Eq.trans (pl_bool (by rfl)) ?_)); (iterate 3 (refine Eq.trans (pl_any (by rfl)) ?_)); refine Eq.trans (pl_bool (by rfl)) ?_; (iterate 3 (refine Eq.trans (pl_any (by rfl)) ?_)); refine Eq.trans (pl_int (by rfl)) ?_; (iterate 2 (refine Eq.trans (pl_any (by rfl)) ?_)); refine Eq.trans (pl_int (by rfl)) ?_; (iterate 2 (refine Eq.trans (pl_bool (by rfl)) ?_)); (iterate 6 (refine Eq.trans (pl_any (by rfl)) ?_)); (iterate 2 (refine Eq.trans (pl_bool (by rfl)) ?_)); (iterate 6 (refine Eq.trans (pl_any (by rfl)) ?_)); (iterate 2 (refine Eq.trans (pl_bool (by rfl)) ?_)); (iterate 6 (refine Eq.trans (pl_any (by rfl)) ?_)); refine Eq.trans (pl_bool (by rfl)) ?_; (iterate 2 (refine Eq.trans (pl_same (by rfl)) ?_)); refine Eq.trans (pl_sameH) ?_
  rfl
noncomputable def L29_0 (d : Nat) (a0 : List AV) : Nat → Int → Ans
  | 0, _ => none
  | n + 1, x4 =>
  cnd (decide (x4 < (((List.length a0) : Nat) : Int)))
   (cnd (decide ((((List.length a0) : Nat) : Int) ≤ 8))
   (cnd (decide (0 ≤ x4))
   (C0.agg 2 a0[(Int.toNat x4)]? fun l46 =>
   C0.int .i64 l46[0]? fun x47 =>
   C0.int .i64 l46[1]? fun x48 =>
   cnd (decide (x47 < (-1073741824)))
   (E29_0 d a0 false)
   (cnd (decide (0 ≤ x4))
   (C0.agg 2 a0[(Int.toNat x4)]? fun l49 =>
   C0.int .i64 l49[0]? fun x50 =>
   C0.int .i64 l49[1]? fun x51 =>
   cnd (decide (x50 > 1073741824))
   (E29_0 d a0 false)
   (cnd (decide (0 ≤ x4))
   (C0.agg 2 a0[(Int.toNat x4)]? fun l52 =>
   C0.int .i64 l52[0]? fun x53 =>
   C0.int .i64 l52[1]? fun x54 =>
   cnd (decide (x54 < (-1073741824)))
   (E29_0 d a0 false)
   (cnd (decide (0 ≤ x4))
   (C0.agg 2 a0[(Int.toNat x4)]? fun l55 =>
   C0.int .i64 l55[0]? fun x56 =>
   C0.int .i64 l55[1]? fun x57 =>
   cnd (decide (x57 > 1073741824))
   (E29_0 d a0 false)
   (L29_0 d a0 n (IntKind.wrap .i64 (x4 + 1))))
   (none)))
   (none)))
   (none)))
   (none))
   (X29_0_0 d a0))
   (X29_0_0 d a0)
theorem it29_0 (d : Nat) (a0 : List AV)   : ∀ (n : Nat) (b3 : Bool) (x4 : Int) (v5 v6 v7 v8 v9 v10 v11 v12 v13 v14 v15 v16 v17 v18 v19 v20 v21 v22 v23 v24 v25 v26 v27 v28 v29 v30 v31 v32 v33 v34 v35 v36 v37 v38 v39 v40 v41 v42 v43 v44 v45 : AV), C0.iter (r29R0 C0 d a0) n ⟨[(.lst a0), (.tup []), (.bool b3), (.int .i64 x4), v5, v6, v7, v8, v9, v10, v11, v12, v13, v14, v15, v16, v17, v18, v19, v20, v21, v22, v23, v24, v25, v26, v27, v28, v29, v30, v31, v32, v33, v34, v35, v36, v37, v38, v39, v40, v41, v42, v43, v44, v45, (.tup []), (.tup [])], []⟩ [0] [r29X0_0 C0 d a0] (r29E0 C0 d a0) = L29_0 d a0 n x4 := by
  generalize hR : r29R0 C0 d a0 = R
  intro n
  induction n with
  | zero => intros; rfl
  | succ n ih =>
    intro b3 x4 v5 v6 v7 v8 v9 v10 v11 v12 v13 v14 v15 v16 v17 v18 v19 v20 v21 v22 v23 v24 v25 v26 v27 v28 v29 v30 v31 v32 v33 v34 v35 v36 v37 v38 v39 v40 v41 v42 v43 v44 v45
    simp only [it_ret] at ih
    rw [it_ret, xiter_s]
    refine Eq.trans (congrFun (congrFun hR.symm _) _) ?_
    unfold r29R0
    refine Eq.trans (pl_len (by rfl)) ?_; (iterate 2 (refine Eq.trans (pl_same (by rfl)) ?_)); refine Eq.trans (pl_bool (by rfl)) ?_; refine Eq.trans (pl_int (by rfl)) ?_; (iterate 41 (refine Eq.trans (pl_any (by rfl)) ?_)); (iterate 2 (refine Eq.trans (pl_same (by rfl)) ?_)); refine Eq.trans (pl_sameH) ?_
    simp only [L29_0, kIter_n, kIter_x, kIter_r, kOut_x, kOut_r, xgo_hit, xgo_miss, ih, X29_0_0_ok d a0  , E29_0_ok d a0  ]
/-- apogee/apogeeref11.Right -/
theorem q29 (d : Nat) (a0 : List AV) : xcall C0 M unr d 29 [(.lst a0)] =
  L29_0 d a0 1000000000000000000 0 := (r29 C0 d a0).trans (by simp only [it29_0])
noncomputable def X45_2_0 (d : Nat) (a0 : List AV) (x2 x45 : Int) (k42N : Int → Heap → Ans) (k42R : Bool → Heap → Ans) (H : Heap) : Ans :=
  k42N (IntKind.wrap .i64 (x45 + 1)) H
theorem X45_2_0_ok (d : Nat) (a0 : List AV) (x2 x29 x30 x31 : Int) (b32 : Bool) (v33 v34 v35 v36 v37 v38 v39 v40 : AV) (k42 : Ex → St → Ans) (x45 : Int) (v54 v55 : AV) (k42N : Int → Heap → Ans) (k42R : Bool → Heap → Ans) (hk42N : ∀ (b44 : Bool) (x45 : Int) (v46 v47 v48 v49 v50 v51 v52 v53 v54 v55 v56 v57 v58 v59 v60 v61 v62 v63 v64 v65 v66 v67 v68 v69 v70 v71 v72 v73 v74 v75 v76 v77 v78 v79 v80 v81 v82 v83 v84 v85 v86 v87 v88 v89 v90 v91 v92 v93 v94 v95 v96 v97 v98 v99 v100 v101 v102 v103 v104 v105 v106 v107 v108 v109 v110 v111 v112 v113 v114 v115 v116 v117 v118 v119 v120 : AV) (H : Heap), k42 .normal ⟨[(.lst a0), (.tup []), (.bool b44), (.int .i64 x2), (.int .i64 x29), (.int .i64 x45), v46, v47, v48, v49, v50, (.lst a0), (.int .i64 x2), (.int .i64 x2), (.bool (decide (x2 < 3))), (.bool false), (.int .i64 x2), (.bool (decide (x2 > 8))), (.bool false), (.int .i64 x30), (.int .i64 x31), (.bool b32), v33, v34, v35, v36, v37, v38, v39, v40, v51, v52, v53, v54, v55, v56, v57, v58, v59, v60, v61, v62, v63, v64, v65, v66, v67, v68, v69, v70, v71, v72, v73, v74, v75, v76, v77, v78, v79, v80, v81, v82, v83, v84, v85, v86, v87, v88, v89, v90, v91, v92, v93, v94, v95, v96, v97, v98, v99, v100, v101, v102, v103, v104, v105, v106, v107, v108, v109, v110, v111, v112, v113, v114, v115, v116, v117, v118, v119, v120], H⟩ = k42N x45 H) (hk42R : ∀ (b578 : Bool) (x579 x580 : Int) (v581 v582 v583 v584 : AV) (x585 x586 : Int) (b587 : Bool) (v588 v589 : AV) (x590 x591 x592 x593 : Int) (b594 : Bool) (v595 v596 v597 : AV) (x598 : Int) (v599 : AV) (x601 x602 : Int) (v603 : AV) (x604 x606 x607 : Int) (v608 : AV) (x609 : Int) (v610 : AV) (x612 x613 : Int) (v614 : AV) (x615 x617 x618 : Int) (b619 : Bool) (x621 x622 x624 x625 : Int) (b626 : Bool) (v627 v628 v629 v630 v631 v632 v633 v634 v635 v636 v637 v638 v639 v640 v641 v642 v643 v644 v645 v646 v647 v648 v649 v650 v651 v652 v653 v654 v655 v656 v657 v658 v659 v660 v661 v662 v663 v664 v665 v666 : AV) (H : Heap), k42 .ret ⟨[(.lst a0), (.tup []), (.bool b578), (.int .i64 x2), (.int .i64 x29), (.int .i64 x579), (.int .i64 x580), v581, v582, v583, v584, (.lst a0), (.int .i64 x2), (.int .i64 x2), (.bool (decide (x2 < 3))), (.bool false), (.int .i64 x2), (.bool (decide (x2 > 8))), (.bool false), (.int .i64 x30), (.int .i64 x31), (.bool b32), v33, v34, v35, v36, v37, v38, v39, v40, (.int .i64 x585), (.int .i64 x586), (.bool b587), v588, v589, (.int .i64 x590), (.int .i64 x591), (.int .i64 x592), (.int .i64 x593), (.bool b594), v595, v596, v597, (.int .i64 x598), v599, (.agg [(.int .i64 x601), (.int .i64 x602)]), v603, (.int .i64 x604), (.agg [(.int .i64 x606), (.int .i64 x607)]), v608, (.int .i64 x609), v610, (.agg [(.int .i64 x612), (.int .i64 x613)]), v614, (.int .i64 x615), (.agg [(.int .i64 x617), (.int .i64 x618)]), (.bool b619), (.agg [(.int .i64 x621), (.int .i64 x622)]), (.agg [(.int .i64 x624), (.int .i64 x625)]), (.bool b626), v627, v628, v629, v630, v631, v632, v633, v634, v635, v636, v637, v638, v639, v640, v641, v642, v643, v644, v645, v646, v647, v648, v649, v650, v651, v652, v653, v654, v655, v656, v657, v658, v659, v660, v661, v662, v663, v664, v665, v666], H⟩ = k42R b578 H) (b350 : Bool) (x351 : Int) (v352 v353 v354 v355 : AV) (x356 x357 : Int) (b358 : Bool) (v359 v360 v361 v362 v363 v364 v365 v366 v367 v368 v369 v370 v371 v372 v373 v374 v375 v376 v377 v378 v379 v380 v381 v382 v383 v384 v385 v386 v387 v388 v389 v390 v391 v392 v393 v394 v395 v396 v397 v398 v399 v400 v401 v402 v403 v404 v405 v406 v407 v408 v409 v410 v411 v412 v413 v414 v415 v416 v417 v418 : AV) (H : Heap) : r45X2_0 C0 d a0 x2 x29 x30 x31 b32 v33 v34 v35 v36 v37 v38 v39 v40 k42 x45 v54 v55 ⟨[(.lst a0), (.tup []), (.bool b350), (.int .i64 x2), (.int .i64 x29), (.int .i64 x45), (.int .i64 x351), v352, v353, v354, v355, (.lst a0), (.int .i64 x2), (.int .i64 x2), (.bool (decide (x2 < 3))), (.bool false), (.int .i64 x2), (.bool (decide (x2 > 8))), (.bool false), (.int .i64 x30), (.int .i64 x31), (.bool b32), v33, v34, v35, v36, v37, v38, v39, v40, (.int .i64 x45), (.int .i64 x2), (.bool true), v54, v55, (.int .i64 x45), (.int .i64 (IntKind.wrap .i64 (x45 + 1))), (.int .i64 x356), (.int .i64 x357), (.bool b358), v359, v360, v361, v362, v363, v364, v365, v366, v367, v368, v369, v370, v371, v372, v373, v374, v375, v376, v377, v378, v379, v380, v381, v382, v383, v384, v385, v386, v387, v388, v389, v390, v391, v392, v393, v394, v395, v396, v397, v398, v399, v400, v401, v402, v403, v404, v405, v406, v407, v408, v409, v410, v411, v412, v413, v414, v415, v416, v417, v418], H⟩ = X45_2_0 d a0 x2 x45 k42N k42R H := by
  try dsimp only at hk42N
  try dsimp only at hk42R
  unfold r45X2_0; refine Eq.trans (pl_len (by rfl)) ?_; (iterate 2 (refine Eq.trans (pl_same (by rfl)) ?_)); refine Eq.trans (pl_bool (by rfl)) ?_; (iterate 3 (refine Eq.trans (pl_same (by rfl)) ?_)); refine Eq.trans (pl_int (by rfl)) ?_; (iterate 4 (refine Eq.trans (pl_any (by rfl)) ?_)); (iterate 26 (refine Eq.trans (pl_same (by rfl)) ?_)); (iterate 2 (refine Eq.trans (pl_int (by rfl)) ?_)); refine Eq.trans (pl_bool (by rfl)) ?_; (iterate 60 (refine Eq.trans (pl_any (by rfl)) ?_))
  first | rfl | (simp only [hk42N, hk42R] <;> rfl)
noncomputable def E45_2 (d : Nat) (a0 : List AV) (x2 x45 : Int) (k42N : Int → Heap → Ans) (k42R : Bool → Heap → Ans) (b419 : Bool) (H : Heap) : Ans :=
  k42R b419 H
theorem E45_2_ok (d : Nat) (a0 : List AV) (x2 x29 x30 x31 : Int) (b32 : Bool) (v33 v34 v35 v36 v37 v38 v39 v40 : AV) (k42 : Ex → St → Ans) (x45 : Int) (v54 v55 : AV) (k42N : Int → Heap → Ans) (k42R : Bool → Heap → Ans) (hk42N : ∀ (b44 : Bool) (x45 : Int) (v46 v47 v48 v49 v50 v51 v52 v53 v54 v55 v56 v57 v58 v59 v60 v61 v62 v63 v64 v65 v66 v67 v68 v69 v70 v71 v72 v73 v74 v75 v76 v77 v78 v79 v80 v81 v82 v83 v84 v85 v86 v87 v88 v89 v90 v91 v92 v93 v94 v95 v96 v97 v98 v99 v100 v101 v102 v103 v104 v105 v106 v107 v108 v109 v110 v111 v112 v113 v114 v115 v116 v117 v118 v119 v120 : AV) (H : Heap), k42 .normal ⟨[(.lst a0), (.tup []), (.bool b44), (.int .i64 x2), (.int .i64 x29), (.int .i64 x45), v46, v47, v48, v49, v50, (.lst a0), (.int .i64 x2), (.int .i64 x2), (.bool (decide (x2 < 3))), (.bool false), (.int .i64 x2), (.bool (decide (x2 > 8))), (.bool false), (.int .i64 x30), (.int .i64 x31), (.bool b32), v33, v34, v35, v36, v37, v38, v39, v40, v51, v52, v53, v54, v55, v56, v57, v58, v59, v60, v61, v62, v63, v64, v65, v66, v67, v68, v69, v70, v71, v72, v73, v74, v75, v76, v77, v78, v79, v80, v81, v82, v83, v84, v85, v86, v87, v88, v89, v90, v91, v92, v93, v94, v95, v96, v97, v98, v99, v100, v101, v102, v103, v104, v105, v106, v107, v108, v109, v110, v111, v112, v113, v114, v115, v116, v117, v118, v119, v120], H⟩ = k42N x45 H) (hk42R : ∀ (b578 : Bool) (x579 x580 : Int) (v581 v582 v583 v584 : AV) (x585 x586 : Int) (b587 : Bool) (v588 v589 : AV) (x590 x591 x592 x593 : Int) (b594 : Bool) (v595 v596 v597 : AV) (x598 : Int) (v599 : AV) (x601 x602 : Int) (v603 : AV) (x604 x606 x607 : Int) (v608 : AV) (x609 : Int) (v610 : AV) (x612 x613 : Int) (v614 : AV) (x615 x617 x618 : Int) (b619 : Bool) (x621 x622 x624 x625 : Int) (b626 : Bool) (v627 v628 v629 v630 v631 v632 v633 v634 v635 v636 v637 v638 v639 v640 v641 v642 v643 v644 v645 v646 v647 v648 v649 v650 v651 v652 v653 v654 v655 v656 v657 v658 v659 v660 v661 v662 v663 v664 v665 v666 : AV) (H : Heap), k42 .ret ⟨[(.lst a0), (.tup []), (.bool b578), (.int .i64 x2), (.int .i64 x29), (.int .i64 x579), (.int .i64 x580), v581, v582, v583, v584, (.lst a0), (.int .i64 x2), (.int .i64 x2), (.bool (decide (x2 < 3))), (.bool false), (.int .i64 x2), (.bool (decide (x2 > 8))), (.bool false), (.int .i64 x30), (.int .i64 x31), (.bool b32), v33, v34, v35, v36, v37, v38, v39, v40, (.int .i64 x585), (.int .i64 x586), (.bool b587), v588, v589, (.int .i64 x590), (.int .i64 x591), (.int .i64 x592), (.int .i64 x593), (.bool b594), v595, v596, v597, (.int .i64 x598), v599, (.agg [(.int .i64 x601), (.int .i64 x602)]), v603, (.int .i64 x604), (.agg [(.int .i64 x606), (.int .i64 x607)]), v608, (.int .i64 x609), v610, (.agg [(.int .i64 x612), (.int .i64 x613)]), v614, (.int .i64 x615), (.agg [(.int .i64 x617), (.int .i64 x618)]), (.bool b619), (.agg [(.int .i64 x621), (.int .i64 x622)]), (.agg [(.int .i64 x624), (.int .i64 x625)]), (.bool b626), v627, v628, v629, v630, v631, v632, v633, v634, v635, v636, v637, v638, v639, v640, v641, v642, v643, v644, v645, v646, v647, v648, v649, v650, v651, v652, v653, v654, v655, v656, v657, v658, v659, v660, v661, v662, v663, v664, v665, v666], H⟩ = k42R b578 H) (b419 : Bool) (x420 : Int) (v421 v422 v423 v424 : AV) (x425 x426 : Int) (b427 : Bool) (v428 v429 v430 : AV) (x431 : Int) (v432 : AV) (x434 x435 : Int) (v436 : AV) (x437 x439 x440 : Int) (v441 : AV) (x442 : Int) (v443 : AV) (x445 x446 : Int) (v447 : AV) (x448 x450 x451 : Int) (b452 : Bool) (x454 x455 x457 x458 : Int) (b459 : Bool) (v460 v461 v462 v463 v464 v465 v466 v467 v468 v469 v470 v471 v472 v473 v474 v475 v476 v477 v478 v479 v480 v481 v482 v483 v484 v485 v486 v487 v488 v489 v490 v491 v492 v493 v494 v495 v496 v497 v498 v499 : AV) (H : Heap) : r45E2 C0 d a0 x2 x29 x30 x31 b32 v33 v34 v35 v36 v37 v38 v39 v40 k42 x45 v54 v55 ⟨[(.lst a0), (.tup []), (.bool b419), (.int .i64 x2), (.int .i64 x29), (.int .i64 x45), (.int .i64 x420), v421, v422, v423, v424, (.lst a0), (.int .i64 x2), (.int .i64 x2), (.bool (decide (x2 < 3))), (.bool false), (.int .i64 x2), (.bool (decide (x2 > 8))), (.bool false), (.int .i64 x30), (.int .i64 x31), (.bool b32), v33, v34, v35, v36, v37, v38, v39, v40, (.int .i64 x45), (.int .i64 x2), (.bool true), v54, v55, (.int .i64 x45), (.int .i64 (IntKind.wrap .i64 (x45 + 1))), (.int .i64 x425), (.int .i64 x426), (.bool b427), v428, v429, v430, (.int .i64 x431), v432, (.agg [(.int .i64 x434), (.int .i64 x435)]), v436, (.int .i64 x437), (.agg [(.int .i64 x439), (.int .i64 x440)]), v441, (.int .i64 x442), v443, (.agg [(.int .i64 x445), (.int .i64 x446)]), v447, (.int .i64 x448), (.agg [(.int .i64 x450), (.int .i64 x451)]), (.bool b452), (.agg [(.int .i64 x454), (.int .i64 x455)]), (.agg [(.int .i64 x457), (.int .i64 x458)]), (.bool b459), v460, v461, v462, v463, v464, v465, v466, v467, v468, v469, v470, v471, v472, v473, v474, v475, v476, v477, v478, v479, v480, v481, v482, v483, v484, v485, v486, v487, v488, v489, v490, v491, v492, v493, v494, v495, v496, v497, v498, v499], H⟩ = E45_2 d a0 x2 x45 k42N k42R b419 H := by
  try dsimp only at hk42N
  try dsimp only at hk42R
  unfold r45E2; refine Eq.trans (pl_len (by rfl)) ?_; (iterate 2 (refine Eq.trans (pl_same (by rfl)) ?_)); refine Eq.trans (pl_bool (by rfl)) ?_; (iterate 3 (refine Eq.trans (pl_same (by rfl)) ?_)); refine Eq.trans (pl_int (by rfl)) ?_; (iterate 4 (refine Eq.trans (pl_any (by rfl)) ?_)); (iterate 26 (refine Eq.trans (pl_same (by rfl)) ?_)); (iterate 2 (refine Eq.trans (pl_int (by rfl)) ?_)); refine Eq.trans (pl_bool (by rfl)) ?_; (iterate 3 (refine Eq.trans (pl_any (by rfl)) ?_)); refine Eq.trans (pl_int (by rfl)) ?_; refine Eq.trans (pl_any (by rfl)) ?_; refine Eq.trans (pl_agg (by rfl) (by rfl)) ?_; (iterate 2 (refine Eq.trans (pl_int (by rfl)) ?_)); refine Eq.trans (pl_any (by rfl)) ?_; refine Eq.trans (pl_int (by rfl)) ?_; refine Eq.trans (pl_agg (by rfl) (by rfl)) ?_; (iterate 2 (refine Eq.trans (pl_int (by rfl)) ?_)); refine Eq.trans (pl_any (by rfl)) ?_; refine Eq.trans (pl_int (by rfl)) ?_; refine Eq.trans (pl_any (by rfl)) ?_; refine Eq.trans (pl_agg (by rfl) (by rfl)) ?_; (iterate 2 (refine Eq.trans (pl_int (by rfl)) ?_)); refine Eq.trans (pl_any (by rfl)) ?_; refine Eq.trans (pl_int (by rfl)) ?_; refine Eq.trans (pl_agg (by rfl) (by rfl)) ?_; (iterate 2 (refine Eq.trans (pl_int (by rfl)) ?_)); refine Eq.trans (pl_bool (by rfl)) ?_; refine Eq.trans (pl_agg (by rfl) (by rfl)) ?_; (iterate 2 (refine Eq.trans (pl_int (by rfl)) ?_)); refine Eq.trans (pl_agg (by rfl) (by rfl)) ?_; (iterate 2 (refine Eq.trans (pl_int (by rfl)) ?_)); refine Eq.trans (pl_bool (by rfl)) ?_; (iterate 40 (refine Eq.trans (pl_any (by rfl)) ?_))
  first | rfl | (simp only [hk42N, hk42R] <;> rfl)
noncomputable def L45_2 (d : Nat) (a0 : List AV) (x2 x45 : Int) (k42N : Int → Heap → Ans) (k42R : Bool → Heap → Ans) : Nat → Int → Heap → Ans
  | 0, _, _ => none
  | n + 1, x125, H =>
  cnd (decide (x125 < x2))
   (C0.hop H (.ixAS .any 2 (.v (.lst a0)) (.v (.int .i64 x45))) fun v193 h194 =>
   C0.hop h194 (.load true 2 (.v v193)) fun v195 h196 =>
   C0.agg 2 (some v195) fun l197 =>
   C0.int .i64 l197[0]? fun x198 =>
   C0.int .i64 l197[1]? fun x199 =>
   C0.snp h196 [(.lst a0), (.int .i64 x45)] fun l200 b201 =>
   C0.agg 2 (pcall M d 58 l200) fun l202 =>
   C0.int .i64 l202[0]? fun x203 =>
   C0.int .i64 l202[1]? fun x204 =>
   cnd (b201 || true)
   (C0.hop h196 (.ixAS .any 2 (.v (.lst a0)) (.v (.int .i64 x125))) fun v205 h206 =>
   C0.hop h206 (.load true 2 (.v v205)) fun v207 h208 =>
   C0.agg 2 (some v207) fun l209 =>
   C0.int .i64 l209[0]? fun x210 =>
   C0.int .i64 l209[1]? fun x211 =>
   C0.snp h208 [(.lst a0), (.int .i64 x125)] fun l212 b213 =>
   C0.agg 2 (pcall M d 58 l212) fun l214 =>
   C0.int .i64 l214[0]? fun x215 =>
   C0.int .i64 l214[1]? fun x216 =>
   cnd (b213 || true)
   (C0.hop h208 (.alloc E23) fun v217 h218 =>
   C0.hop h218 (.alloc E23) fun v219 h220 =>
   C0.hop h220 (.alloc E23) fun v221 h222 =>
   C0.hop h222 (.alloc E23) fun v223 h224 =>
   C0.disj (.addr v205) (.addr v217) <|
   C0.hop h224 (.store 2 (.v v217) (.v (.agg [(.int .i64 x198), (.int .i64 x199)]))) fun v225 h226 =>
   C0.disj (.addr v205) (.addr v219) <|
   C0.hop h226 (.store 2 (.v v219) (.v (.agg [(.int .i64 x203), (.int .i64 x204)]))) fun v227 h228 =>
   C0.hop h228 (.store 2 (.v v221) (.v (.agg [(.int .i64 x210), (.int .i64 x211)]))) fun v229 h230 =>
   C0.hop h230 (.store 2 (.v v223) (.v (.agg [(.int .i64 x215), (.int .i64 x216)]))) fun v231 h232 =>
   C0.hop h232 (.load true 2 (.v v217)) fun v233 h234 =>
   C0.agg 2 (some v233) fun l235 =>
   C0.int .i64 l235[0]? fun x236 =>
   C0.int .i64 l235[1]? fun x237 =>
   C0.hop h234 (.load true 2 (.v v221)) fun v238 h239 =>
   C0.agg 2 (some v238) fun l240 =>
   C0.int .i64 l240[0]? fun x241 =>
   C0.int .i64 l240[1]? fun x242 =>
   cnd (xor false ((x236 == x241) && ((x237 == x242) && true)))
   (E45_2 d a0 x2 x45 k42N k42R false h239)
   (cnd (x125 == (IntKind.wrap .i64 (x45 + 1)))
   (C0.hop h239 (.load true 2 (.v v223)) fun v243 h244 =>
   C0.agg 2 (some v243) fun l245 =>
   C0.int .i64 l245[0]? fun x246 =>
   C0.int .i64 l245[1]? fun x247 =>
   C0.hop h244 (.load true 2 (.v v217)) fun v248 h249 =>
   C0.agg 2 (some v248) fun l250 =>
   C0.int .i64 l250[0]? fun x251 =>
   C0.int .i64 l250[1]? fun x252 =>
   C0.hop h249 (.load true 2 (.v v219)) fun v253 h254 =>
   C0.agg 2 (some v253) fun l255 =>
   C0.int .i64 l255[0]? fun x256 =>
   C0.int .i64 l255[1]? fun x257 =>
   C0.bool (pcall M d 54 [(.agg [(.int .i64 x246), (.int .i64 x247)]), (.agg [(.int .i64 x251), (.int .i64 x252)]), (.agg [(.int .i64 x256), (.int .i64 x257)])]) fun b258 =>
   cnd b258
   (E45_2 d a0 x2 x45 k42N k42R false h254)
   (C0.hop h254 (.load true 2 (.v v217)) fun v259 h260 =>
   C0.agg 2 (some v259) fun l261 =>
   C0.int .i64 l261[0]? fun x262 =>
   C0.int .i64 l261[1]? fun x263 =>
   C0.hop h260 (.load true 2 (.v v221)) fun v264 h265 =>
   C0.agg 2 (some v264) fun l266 =>
   C0.int .i64 l266[0]? fun x267 =>
   C0.int .i64 l266[1]? fun x268 =>
   C0.hop h265 (.load true 2 (.v v223)) fun v269 h270 =>
   C0.agg 2 (some v269) fun l271 =>
   C0.int .i64 l271[0]? fun x272 =>
   C0.int .i64 l271[1]? fun x273 =>
   C0.bool (pcall M d 54 [(.agg [(.int .i64 x262), (.int .i64 x263)]), (.agg [(.int .i64 x267), (.int .i64 x268)]), (.agg [(.int .i64 x272), (.int .i64 x273)])]) fun b274 =>
   cnd b274
   (E45_2 d a0 x2 x45 k42N k42R false h270)
   (L45_2 d a0 x2 x45 k42N k42R n (IntKind.wrap .i64 (x125 + 1)) h270)))
   (cnd (x45 == 0)
   (cnd (x125 == (IntKind.wrap .i64 (x2 - 1)))
   (C0.hop h239 (.load true 2 (.v v221)) fun v275 h276 =>
   C0.agg 2 (some v275) fun l277 =>
   C0.int .i64 l277[0]? fun x278 =>
   C0.int .i64 l277[1]? fun x279 =>
   C0.hop h276 (.load true 2 (.v v217)) fun v280 h281 =>
   C0.agg 2 (some v280) fun l282 =>
   C0.int .i64 l282[0]? fun x283 =>
   C0.int .i64 l282[1]? fun x284 =>
   C0.hop h281 (.load true 2 (.v v219)) fun v285 h286 =>
   C0.agg 2 (some v285) fun l287 =>
   C0.int .i64 l287[0]? fun x288 =>
   C0.int .i64 l287[1]? fun x289 =>
   C0.bool (pcall M d 54 [(.agg [(.int .i64 x278), (.int .i64 x279)]), (.agg [(.int .i64 x283), (.int .i64 x284)]), (.agg [(.int .i64 x288), (.int .i64 x289)])]) fun b290 =>
   cnd b290
   (E45_2 d a0 x2 x45 k42N k42R false h286)
   (C0.hop h286 (.load true 2 (.v v219)) fun v291 h292 =>
   C0.agg 2 (some v291) fun l293 =>
   C0.int .i64 l293[0]? fun x294 =>
   C0.int .i64 l293[1]? fun x295 =>
   C0.hop h292 (.load true 2 (.v v221)) fun v296 h297 =>
   C0.agg 2 (some v296) fun l298 =>
   C0.int .i64 l298[0]? fun x299 =>
   C0.int .i64 l298[1]? fun x300 =>
   C0.hop h297 (.load true 2 (.v v223)) fun v301 h302 =>
   C0.agg 2 (some v301) fun l303 =>
   C0.int .i64 l303[0]? fun x304 =>
   C0.int .i64 l303[1]? fun x305 =>
   C0.bool (pcall M d 54 [(.agg [(.int .i64 x294), (.int .i64 x295)]), (.agg [(.int .i64 x299), (.int .i64 x300)]), (.agg [(.int .i64 x304), (.int .i64 x305)])]) fun b306 =>
   cnd b306
   (E45_2 d a0 x2 x45 k42N k42R false h302)
   (L45_2 d a0 x2 x45 k42N k42R n (IntKind.wrap .i64 (x125 + 1)) h302)))
   (C0.hop h239 (.load true 2 (.v v217)) fun v307 h308 =>
   C0.agg 2 (some v307) fun l309 =>
   C0.int .i64 l309[0]? fun x310 =>
   C0.int .i64 l309[1]? fun x311 =>
   C0.hop h308 (.load true 2 (.v v219)) fun v312 h313 =>
   C0.agg 2 (some v312) fun l314 =>
   C0.int .i64 l314[0]? fun x315 =>
   C0.int .i64 l314[1]? fun x316 =>
   C0.hop h313 (.load true 2 (.v v221)) fun v317 h318 =>
   C0.agg 2 (some v317) fun l319 =>
   C0.int .i64 l319[0]? fun x320 =>
   C0.int .i64 l319[1]? fun x321 =>
   C0.hop h318 (.load true 2 (.v v223)) fun v322 h323 =>
   C0.agg 2 (some v322) fun l324 =>
   C0.int .i64 l324[0]? fun x325 =>
   C0.int .i64 l324[1]? fun x326 =>
   C0.bool (pcall M d 42 [(.agg [(.int .i64 x310), (.int .i64 x311)]), (.agg [(.int .i64 x315), (.int .i64 x316)]), (.agg [(.int .i64 x320), (.int .i64 x321)]), (.agg [(.int .i64 x325), (.int .i64 x326)])]) fun b327 =>
   cnd b327
   (E45_2 d a0 x2 x45 k42N k42R false h323)
   (L45_2 d a0 x2 x45 k42N k42R n (IntKind.wrap .i64 (x125 + 1)) h323)))
   (C0.hop h239 (.load true 2 (.v v217)) fun v328 h329 =>
   C0.agg 2 (some v328) fun l330 =>
   C0.int .i64 l330[0]? fun x331 =>
   C0.int .i64 l330[1]? fun x332 =>
   C0.hop h329 (.load true 2 (.v v219)) fun v333 h334 =>
   C0.agg 2 (some v333) fun l335 =>
   C0.int .i64 l335[0]? fun x336 =>
   C0.int .i64 l335[1]? fun x337 =>
   C0.hop h334 (.load true 2 (.v v221)) fun v338 h339 =>
   C0.agg 2 (some v338) fun l340 =>
   C0.int .i64 l340[0]? fun x341 =>
   C0.int .i64 l340[1]? fun x342 =>
   C0.hop h339 (.load true 2 (.v v223)) fun v343 h344 =>
   C0.agg 2 (some v343) fun l345 =>
   C0.int .i64 l345[0]? fun x346 =>
   C0.int .i64 l345[1]? fun x347 =>
   C0.bool (pcall M d 42 [(.agg [(.int .i64 x331), (.int .i64 x332)]), (.agg [(.int .i64 x336), (.int .i64 x337)]), (.agg [(.int .i64 x341), (.int .i64 x342)]), (.agg [(.int .i64 x346), (.int .i64 x347)])]) fun b348 =>
   cnd b348
   (E45_2 d a0 x2 x45 k42N k42R false h344)
   (L45_2 d a0 x2 x45 k42N k42R n (IntKind.wrap .i64 (x125 + 1)) h344)))))
   (none))
   (none))
   (X45_2_0 d a0 x2 x45 k42N k42R H)
theorem it45_2 (d : Nat) (a0 : List AV) (x2 x29 x30 x31 : Int) (b32 : Bool) (v33 v34 v35 v36 v37 v38 v39 v40 : AV) (k42 : Ex → St → Ans) (x45 : Int) (v54 v55 : AV) (k42N : Int → Heap → Ans) (k42R : Bool → Heap → Ans) (hk42N : ∀ (b44 : Bool) (x45 : Int) (v46 v47 v48 v49 v50 v51 v52 v53 v54 v55 v56 v57 v58 v59 v60 v61 v62 v63 v64 v65 v66 v67 v68 v69 v70 v71 v72 v73 v74 v75 v76 v77 v78 v79 v80 v81 v82 v83 v84 v85 v86 v87 v88 v89 v90 v91 v92 v93 v94 v95 v96 v97 v98 v99 v100 v101 v102 v103 v104 v105 v106 v107 v108 v109 v110 v111 v112 v113 v114 v115 v116 v117 v118 v119 v120 : AV) (H : Heap), k42 .normal ⟨[(.lst a0), (.tup []), (.bool b44), (.int .i64 x2), (.int .i64 x29), (.int .i64 x45), v46, v47, v48, v49, v50, (.lst a0), (.int .i64 x2), (.int .i64 x2), (.bool (decide (x2 < 3))), (.bool false), (.int .i64 x2), (.bool (decide (x2 > 8))), (.bool false), (.int .i64 x30), (.int .i64 x31), (.bool b32), v33, v34, v35, v36, v37, v38, v39, v40, v51, v52, v53, v54, v55, v56, v57, v58, v59, v60, v61, v62, v63, v64, v65, v66, v67, v68, v69, v70, v71, v72, v73, v74, v75, v76, v77, v78, v79, v80, v81, v82, v83, v84, v85, v86, v87, v88, v89, v90, v91, v92, v93, v94, v95, v96, v97, v98, v99, v100, v101, v102, v103, v104, v105, v106, v107, v108, v109, v110, v111, v112, v113, v114, v115, v116, v117, v118, v119, v120], H⟩ = k42N x45 H) (hk42R : ∀ (b578 : Bool) (x579 x580 : Int) (v581 v582 v583 v584 : AV) (x585 x586 : Int) (b587 : Bool) (v588 v589 : AV) (x590 x591 x592 x593 : Int) (b594 : Bool) (v595 v596 v597 : AV) (x598 : Int) (v599 : AV) (x601 x602 : Int) (v603 : AV) (x604 x606 x607 : Int) (v608 : AV) (x609 : Int) (v610 : AV) (x612 x613 : Int) (v614 : AV) (x615 x617 x618 : Int) (b619 : Bool) (x621 x622 x624 x625 : Int) (b626 : Bool) (v627 v628 v629 v630 v631 v632 v633 v634 v635 v636 v637 v638 v639 v640 v641 v642 v643 v644 v645 v646 v647 v648 v649 v650 v651 v652 v653 v654 v655 v656 v657 v658 v659 v660 v661 v662 v663 v664 v665 v666 : AV) (H : Heap), k42 .ret ⟨[(.lst a0), (.tup []), (.bool b578), (.int .i64 x2), (.int .i64 x29), (.int .i64 x579), (.int .i64 x580), v581, v582, v583, v584, (.lst a0), (.int .i64 x2), (.int .i64 x2), (.bool (decide (x2 < 3))), (.bool false), (.int .i64 x2), (.bool (decide (x2 > 8))), (.bool false), (.int .i64 x30), (.int .i64 x31), (.bool b32), v33, v34, v35, v36, v37, v38, v39, v40, (.int .i64 x585), (.int .i64 x586), (.bool b587), v588, v589, (.int .i64 x590), (.int .i64 x591), (.int .i64 x592), (.int .i64 x593), (.bool b594), v595, v596, v597, (.int .i64 x598), v599, (.agg [(.int .i64 x601), (.int .i64 x602)]), v603, (.int .i64 x604), (.agg [(.int .i64 x606), (.int .i64 x607)]), v608, (.int .i64 x609), v610, (.agg [(.int .i64 x612), (.int .i64 x613)]), v614, (.int .i64 x615), (.agg [(.int .i64 x617), (.int .i64 x618)]), (.bool b619), (.agg [(.int .i64 x621), (.int .i64 x622)]), (.agg [(.int .i64 x624), (.int .i64 x625)]), (.bool b626), v627, v628, v629, v630, v631, v632, v633, v634, v635, v636, v637, v638, v639, v640, v641, v642, v643, v644, v645, v646, v647, v648, v649, v650, v651, v652, v653, v654, v655, v656, v657, v658, v659, v660, v661, v662, v663, v664, v665, v666], H⟩ = k42R b578 H) : ∀ (n : Nat) (b124 : Bool) (x125 : Int) (v126 v127 v128 v129 v130 v131 v132 v133 v134 v135 v136 v137 v138 v139 v140 v141 v142 v143 v144 v145 v146 v147 v148 v149 v150 v151 v152 v153 v154 v155 v156 v157 v158 v159 v160 v161 v162 v163 v164 v165 v166 v167 v168 v169 v170 v171 v172 v173 v174 v175 v176 v177 v178 v179 v180 v181 v182 v183 v184 v185 v186 v187 v188 v189 v190 v191 v192 : AV) (H : Heap), C0.iter (r45R2 C0 d a0 x2 x29 x30 x31 b32 v33 v34 v35 v36 v37 v38 v39 v40 k42 x45 v54 v55) n ⟨[(.lst a0), (.tup []), (.bool b124), (.int .i64 x2), (.int .i64 x29), (.int .i64 x45), (.int .i64 x125), v126, v127, v128, v129, (.lst a0), (.int .i64 x2), (.int .i64 x2), (.bool (decide (x2 < 3))), (.bool false), (.int .i64 x2), (.bool (decide (x2 > 8))), (.bool false), (.int .i64 x30), (.int .i64 x31), (.bool b32), v33, v34, v35, v36, v37, v38, v39, v40, (.int .i64 x45), (.int .i64 x2), (.bool true), v54, v55, (.int .i64 x45), (.int .i64 (IntKind.wrap .i64 (x45 + 1))), v130, v131, v132, v133, v134, v135, v136, v137, v138, v139, v140, v141, v142, v143, v144, v145, v146, v147, v148, v149, v150, v151, v152, v153, v154, v155, v156, v157, v158, v159, v160, v161, v162, v163, v164, v165, v166, v167, v168, v169, v170, v171, v172, v173, v174, v175, v176, v177, v178, v179, v180, v181, v182, v183, v184, v185, v186, v187, v188, v189, v190, v191, v192], H⟩ [4] [r45X2_0 C0 d a0 x2 x29 x30 x31 b32 v33 v34 v35 v36 v37 v38 v39 v40 k42 x45 v54 v55] (r45E2 C0 d a0 x2 x29 x30 x31 b32 v33 v34 v35 v36 v37 v38 v39 v40 k42 x45 v54 v55) = L45_2 d a0 x2 x45 k42N k42R n x125 H := by
  generalize hR : r45R2 C0 d a0 x2 x29 x30 x31 b32 v33 v34 v35 v36 v37 v38 v39 v40 k42 x45 v54 v55 = R
  intro n
  induction n with
  | zero => intros; rfl
  | succ n ih =>
    intro b124 x125 v126 v127 v128 v129 v130 v131 v132 v133 v134 v135 v136 v137 v138 v139 v140 v141 v142 v143 v144 v145 v146 v147 v148 v149 v150 v151 v152 v153 v154 v155 v156 v157 v158 v159 v160 v161 v162 v163 v164 v165 v166 v167 v168 v169 v170 v171 v172 v173 v174 v175 v176 v177 v178 v179 v180 v181 v182 v183 v184 v185 v186 v187 v188 v189 v190 v191 v192 H
    simp only [it_ret] at ih
    rw [it_ret, xiter_s]
    refine Eq.trans (congrFun (congrFun hR.symm _) _) ?_
    unfold r45R2
    refine Eq.trans (pl_len (by rfl)) ?_; (iterate 2 (refine Eq.trans (pl_same (by rfl)) ?_)); refine Eq.trans (pl_bool (by rfl)) ?_; (iterate 3 (refine Eq.trans (pl_same (by rfl)) ?_)); refine Eq.trans (pl_int (by rfl)) ?_; (iterate 4 (refine Eq.trans (pl_any (by rfl)) ?_)); (iterate 26 (refine Eq.trans (pl_same (by rfl)) ?_)); (iterate 63 (refine Eq.trans (pl_any (by rfl)) ?_))
    simp only [L45_2, kIter_n, kIter_x, kIter_r, kOut_x, kOut_r, xgo_hit, xgo_miss, ih, X45_2_0_ok d a0 x2 x29 x30 x31 b32 v33 v34 v35 v36 v37 v38 v39 v40 k42 x45 v54 v55 k42N k42R hk42N hk42R, E45_2_ok d a0 x2 x29 x30 x31 b32 v33 v34 v35 v36 v37 v38 v39 v40 k42 x45 v54 v55 k42N k42R hk42N hk42R]
noncomputable def X45_1_0 (d : Nat) (a0 : List AV) (x2 : Int) (H : Heap) : Ans :=
  C0.fin H (.bool true)
theorem X45_1_0_ok (d : Nat) (a0 : List AV) (x2 x29 x30 x31 : Int) (b32 : Bool) (v33 v34 v35 v36 v37 v38 v39 v40 : AV) (b501 : Bool) (x502 : Int) (v503 v504 v505 v506 v507 : AV) (x508 x509 : Int) (b510 : Bool) (v511 v512 v513 v514 v515 v516 v517 v518 v519 v520 v521 v522 v523 v524 v525 v526 v527 v528 v529 v530 v531 v532 v533 v534 v535 v536 v537 v538 v539 v540 v541 v542 v543 v544 v545 v546 v547 v548 v549 v550 v551 v552 v553 v554 v555 v556 v557 v558 v559 v560 v561 v562 v563 v564 v565 v566 v567 v568 v569 v570 v571 v572 v573 v574 v575 v576 v577 : AV) (H : Heap) : r45X1_0 C0 d a0 x2 x29 x30 x31 b32 v33 v34 v35 v36 v37 v38 v39 v40 ⟨[(.lst a0), (.tup []), (.bool b501), (.int .i64 x2), (.int .i64 x29), (.int .i64 x502), v503, v504, v505, v506, v507, (.lst a0), (.int .i64 x2), (.int .i64 x2), (.bool (decide (x2 < 3))), (.bool false), (.int .i64 x2), (.bool (decide (x2 > 8))), (.bool false), (.int .i64 x30), (.int .i64 x31), (.bool b32), v33, v34, v35, v36, v37, v38, v39, v40, (.int .i64 x508), (.int .i64 x509), (.bool b510), v511, v512, v513, v514, v515, v516, v517, v518, v519, v520, v521, v522, v523, v524, v525, v526, v527, v528, v529, v530, v531, v532, v533, v534, v535, v536, v537, v538, v539, v540, v541, v542, v543, v544, v545, v546, v547, v548, v549, v550, v551, v552, v553, v554, v555, v556, v557, v558, v559, v560, v561, v562, v563, v564, v565, v566, v567, v568, v569, v570, v571, v572, v573, v574, v575, v576, v577], H⟩ = X45_1_0 d a0 x2 H := by
  unfold r45X1_0; refine Eq.trans (pl_len (by rfl)) ?_; (iterate 2 (refine Eq.trans (pl_same (by rfl)) ?_)); refine Eq.trans (pl_bool (by rfl)) ?_; (iterate 2 (refine Eq.trans (pl_same (by rfl)) ?_)); refine Eq.trans (pl_int (by rfl)) ?_; (iterate 5 (refine Eq.trans (pl_any (by rfl)) ?_)); (iterate 19 (refine Eq.trans (pl_same (by rfl)) ?_)); (iterate 2 (refine Eq.trans (pl_int (by rfl)) ?_)); refine Eq.trans (pl_bool (by rfl)) ?_; (iterate 67 (refine Eq.trans (pl_any (by rfl)) ?_))
  rfl
noncomputable def E45_1 (d : Nat) (a0 : List AV) (x2 : Int) (b578 : Bool) (H : Heap) : Ans :=
  C0.fin H (.bool b578)
theorem E45_1_ok (d : Nat) (a0 : List AV) (x2 x29 x30 x31 : Int) (b32 : Bool) (v33 v34 v35 v36 v37 v38 v39 v40 : AV) (b578 : Bool) (x579 x580 : Int) (v581 v582 v583 v584 : AV) (x585 x586 : Int) (b587 : Bool) (v588 v589 : AV) (x590 x591 x592 x593 : Int) (b594 : Bool) (v595 v596 v597 : AV) (x598 : Int) (v599 : AV) (x601 x602 : Int) (v603 : AV) (x604 x606 x607 : Int) (v608 : AV) (x609 : Int) (v610 : AV) (x612 x613 : Int) (v614 : AV) (x615 x617 x618 : Int) (b619 : Bool) (x621 x622 x624 x625 : Int) (b626 : Bool) (v627 v628 v629 v630 v631 v632 v633 v634 v635 v636 v637 v638 v639 v640 v641 v642 v643 v644 v645 v646 v647 v648 v649 v650 v651 v652 v653 v654 v655 v656 v657 v658 v659 v660 v661 v662 v663 v664 v665 v666 : AV) (H : Heap) : r45E1 C0 d a0 x2 x29 x30 x31 b32 v33 v34 v35 v36 v37 v38 v39 v40 ⟨[(.lst a0), (.tup []), (.bool b578), (.int .i64 x2), (.int .i64 x29), (.int .i64 x579), (.int .i64 x580), v581, v582, v583, v584, (.lst a0), (.int .i64 x2), (.int .i64 x2), (.bool (decide (x2 < 3))), (.bool false), (.int .i64 x2), (.bool (decide (x2 > 8))), (.bool false), (.int .i64 x30), (.int .i64 x31), (.bool b32), v33, v34, v35, v36, v37, v38, v39, v40, (.int .i64 x585), (.int .i64 x586), (.bool b587), v588, v589, (.int .i64 x590), (.int .i64 x591), (.int .i64 x592), (.int .i64 x593), (.bool b594), v595, v596, v597, (.int .i64 x598), v599, (.agg [(.int .i64 x601), (.int .i64 x602)]), v603, (.int .i64 x604), (.agg [(.int .i64 x606), (.int .i64 x607)]), v608, (.int .i64 x609), v610, (.agg [(.int .i64 x612), (.int .i64 x613)]), v614, (.int .i64 x615), (.agg [(.int .i64 x617), (.int .i64 x618)]), (.bool b619), (.agg [(.int .i64 x621), (.int .i64 x622)]), (.agg [(.int .i64 x624), (.int .i64 x625)]), (.bool b626), v627, v628, v629, v630, v631, v632, v633, v634, v635, v636, v637, v638, v639, v640, v641, v642, v643, v644, v645, v646, v647, v648, v649, v650, v651, v652, v653, v654, v655, v656, v657, v658, v659, v660, v661, v662, v663, v664, v665, v666], H⟩ = E45_1 d a0 x2 b578 H := by
  unfold r45E1; refine Eq.trans (pl_len (by rfl)) ?_; (iterate 2 (refine Eq.trans (pl_same (by rfl)) ?_)); refine Eq.trans (pl_bool (by rfl)) ?_; (iterate 2 (refine Eq.trans (pl_same (by rfl)) ?_)); (iterate 2 (refine Eq.trans (pl_int (by rfl)) ?_)); (iterate 4 (refine Eq.trans (pl_any (by rfl)) ?_)); (iterate 19 (refine Eq.trans (pl_same (by rfl)) ?_)); (iterate 2 (refine Eq.trans (pl_int (by rfl)) ?_)); refine Eq.trans (pl_bool (by rfl)) ?_; (iterate 2 (refine Eq.trans (pl_any (by rfl)) ?_)); (iterate 4 (refine Eq.trans (pl_int (by rfl)) ?_)); refine Eq.trans (pl_bool (by rfl)) ?_; (iterate 3 (refine Eq.trans (pl_any (by rfl)) ?_)); refine Eq.trans (pl_int (by rfl)) ?_; refine Eq.trans (pl_any (by rfl)) ?_; refine Eq.trans (pl_agg (by rfl) (by rfl)) ?_; (iterate 2 (refine Eq.trans (pl_int (by rfl)) ?_)); refine Eq.trans (pl_any (by rfl)) ?_; refine Eq.trans (pl_int (by rfl)) ?_; refine Eq.trans (pl_agg (by rfl) (by rfl)) ?_; (iterate 2 (refine Eq.trans (pl_int (by rfl)) ?_)); refine Eq.trans (pl_any (by rfl)) ?_; refine Eq.trans (pl_int (by rfl)) ?_; refine Eq.trans (pl_any (by rfl)) ?_; refine Eq.trans (pl_agg (by rfl) (by rfl)) ?_; (iterate 2 (refine Eq.trans (pl_int (by rfl)) ?_)); refine Eq.trans (pl_any (by rfl)) ?_; refine Eq.trans (pl_int (by rfl)) ?_; refine Eq.trans (pl_agg (by rfl) (by rfl)) ?_; (iterate 2 (refine Eq.trans (pl_int (by rfl)) ?_)); refine Eq.trans (pl_bool (by rfl)) ?_; refine Eq.trans (pl_agg (by rfl) (by rfl)) ?_; (iterate 2 (refine Eq.trans (pl_int (by rfl)) ?_)); refine Eq.trans (pl_agg (by rfl) (by rfl)) ?_; (iterate 2 (refine Eq.trans (pl_int (by rfl)) ?_)); refine Eq.trans (pl_bool (by rfl)) ?_; (iterate 40 (refine Eq.trans (pl_any (by rfl)) ?_))
  rfl
noncomputable def L45_1 (d : Nat) (a0 : List AV) (x2 : Int) : Nat → Int → Heap → Ans
  | 0, _, _ => none
  | n + 1, x45, H =>
  cnd (decide (x45 < x2))
   (L45_2 d a0 x2 x45 (fun x45 H => L45_1 d a0 x2 n x45 H) (fun b578 H => E45_1 d a0 x2 b578 H) 1000000000000000000 (IntKind.wrap .i64 (x45 + 1)) H)
   (X45_1_0 d a0 x2 H)
theorem it45_1 (d : Nat) (a0 : List AV) (x2 x29 x30 x31 : Int) (b32 : Bool) (v33 v34 v35 v36 v37 v38 v39 v40 : AV)   : ∀ (n : Nat) (b44 : Bool) (x45 : Int) (v46 v47 v48 v49 v50 v51 v52 v53 v54 v55 v56 v57 v58 v59 v60 v61 v62 v63 v64 v65 v66 v67 v68 v69 v70 v71 v72 v73 v74 v75 v76 v77 v78 v79 v80 v81 v82 v83 v84 v85 v86 v87 v88 v89 v90 v91 v92 v93 v94 v95 v96 v97 v98 v99 v100 v101 v102 v103 v104 v105 v106 v107 v108 v109 v110 v111 v112 v113 v114 v115 v116 v117 v118 v119 v120 : AV) (H : Heap), C0.iter (r45R1 C0 d a0 x2 x29 x30 x31 b32 v33 v34 v35 v36 v37 v38 v39 v40) n ⟨[(.lst a0), (.tup []), (.bool b44), (.int .i64 x2), (.int .i64 x29), (.int .i64 x45), v46, v47, v48, v49, v50, (.lst a0), (.int .i64 x2), (.int .i64 x2), (.bool (decide (x2 < 3))), (.bool false), (.int .i64 x2), (.bool (decide (x2 > 8))), (.bool false), (.int .i64 x30), (.int .i64 x31), (.bool b32), v33, v34, v35, v36, v37, v38, v39, v40, v51, v52, v53, v54, v55, v56, v57, v58, v59, v60, v61, v62, v63, v64, v65, v66, v67, v68, v69, v70, v71, v72, v73, v74, v75, v76, v77, v78, v79, v80, v81, v82, v83, v84, v85, v86, v87, v88, v89, v90, v91, v92, v93, v94, v95, v96, v97, v98, v99, v100, v101, v102, v103, v104, v105, v106, v107, v108, v109, v110, v111, v112, v113, v114, v115, v116, v117, v118, v119, v120], H⟩ [2] [r45X1_0 C0 d a0 x2 x29 x30 x31 b32 v33 v34 v35 v36 v37 v38 v39 v40] (r45E1 C0 d a0 x2 x29 x30 x31 b32 v33 v34 v35 v36 v37 v38 v39 v40) = L45_1 d a0 x2 n x45 H := by
  generalize hR : r45R1 C0 d a0 x2 x29 x30 x31 b32 v33 v34 v35 v36 v37 v38 v39 v40 = R
  intro n
  induction n with
  | zero => intros; rfl
  | succ n ih =>
    intro b44 x45 v46 v47 v48 v49 v50 v51 v52 v53 v54 v55 v56 v57 v58 v59 v60 v61 v62 v63 v64 v65 v66 v67 v68 v69 v70 v71 v72 v73 v74 v75 v76 v77 v78 v79 v80 v81 v82 v83 v84 v85 v86 v87 v88 v89 v90 v91 v92 v93 v94 v95 v96 v97 v98 v99 v100 v101 v102 v103 v104 v105 v106 v107 v108 v109 v110 v111 v112 v113 v114 v115 v116 v117 v118 v119 v120 H
    simp only [it_ret] at ih
    rw [it_ret, xiter_s]
    refine Eq.trans (congrFun (congrFun hR.symm _) _) ?_
    unfold r45R1
    refine Eq.trans (pl_len (by rfl)) ?_; (iterate 2 (refine Eq.trans (pl_same (by rfl)) ?_)); refine Eq.trans (pl_bool (by rfl)) ?_; (iterate 2 (refine Eq.trans (pl_same (by rfl)) ?_)); refine Eq.trans (pl_int (by rfl)) ?_; (iterate 5 (refine Eq.trans (pl_any (by rfl)) ?_)); (iterate 19 (refine Eq.trans (pl_same (by rfl)) ?_)); (iterate 70 (refine Eq.trans (pl_any (by rfl)) ?_))
    have I0 := it45_2 d a0 x2 x29 x30 x31 b32 v33 v34 v35 v36 v37 v38 v39 v40 (kIter R n (kOut [2] [r45X1_0 C0 d a0 x2 x29 x30 x31 b32 v33 v34 v35 v36 v37 v38 v39 v40] (r45E1 C0 d a0 x2 x29 x30 x31 b32 v33 v34 v35 v36 v37 v38 v39 v40))) x45 v54 v55 (fun x45 H => L45_1 d a0 x2 n x45 H) (fun b578 H => E45_1 d a0 x2 b578 H) (fun b44 x45 v46 v47 v48 v49 v50 v51 v52 v53 v54 v55 v56 v57 v58 v59 v60 v61 v62 v63 v64 v65 v66 v67 v68 v69 v70 v71 v72 v73 v74 v75 v76 v77 v78 v79 v80 v81 v82 v83 v84 v85 v86 v87 v88 v89 v90 v91 v92 v93 v94 v95 v96 v97 v98 v99 v100 v101 v102 v103 v104 v105 v106 v107 v108 v109 v110 v111 v112 v113 v114 v115 v116 v117 v118 v119 v120 H => ih b44 x45 v46 v47 v48 v49 v50 v51 v52 v53 v54 v55 v56 v57 v58 v59 v60 v61 v62 v63 v64 v65 v66 v67 v68 v69 v70 v71 v72 v73 v74 v75 v76 v77 v78 v79 v80 v81 v82 v83 v84 v85 v86 v87 v88 v89 v90 v91 v92 v93 v94 v95 v96 v97 v98 v99 v100 v101 v102 v103 v104 v105 v106 v107 v108 v109 v110 v111 v112 v113 v114 v115 v116 v117 v118 v119 v120 H) (fun b578 x579 x580 v581 v582 v583 v584 x585 x586 b587 v588 v589 x590 x591 x592 x593 b594 v595 v596 v597 x598 v599 x601 x602 v603 x604 x606 x607 v608 x609 v610 x612 x613 v614 x615 x617 x618 b619 x621 x622 x624 x625 b626 v627 v628 v629 v630 v631 v632 v633 v634 v635 v636 v637 v638 v639 v640 v641 v642 v643 v644 v645 v646 v647 v648 v649 v650 v651 v652 v653 v654 v655 v656 v657 v658 v659 v660 v661 v662 v663 v664 v665 v666 H => E45_1_ok d a0 x2 x29 x30 x31 b32 v33 v34 v35 v36 v37 v38 v39 v40   b578 x579 x580 v581 v582 v583 v584 x585 x586 b587 v588 v589 x590 x591 x592 x593 b594 v595 v596 v597 x598 v599 x601 x602 v603 x604 x606 x607 v608 x609 v610 x612 x613 v614 x615 x617 x618 b619 x621 x622 x624 x625 b626 v627 v628 v629 v630 v631 v632 v633 v634 v635 v636 v637 v638 v639 v640 v641 v642 v643 v644 v645 v646 v647 v648 v649 v650 v651 v652 v653 v654 v655 v656 v657 v658 v659 v660 v661 v662 v663 v664 v665 v666 H)
    try dsimp only at I0
    simp only [L45_1, kIter_n, kIter_x, kIter_r, kOut_x, kOut_r, xgo_hit, xgo_miss, ih, I0, X45_1_0_ok d a0 x2 x29 x30 x31 b32 v33 v34 v35 v36 v37 v38 v39 v40  , E45_1_ok d a0 x2 x29 x30 x31 b32 v33 v34 v35 v36 v37 v38 v39 v40  ]
noncomputable def X45_0_0 (d : Nat) (a0 : List AV) (x2 : Int) (H : Heap) : Ans :=
  L45_1 d a0 x2 1000000000000000000 0 H
theorem X45_0_0_ok (d : Nat) (a0 : List AV) (x2 : Int) (b28 : Bool) (x29 x30 x31 : Int) (b32 : Bool) (v33 v34 v35 v36 v37 v38 v39 v40 : AV) (H : Heap) : r45X0_0 C0 d a0 x2 ⟨[(.lst a0), (.tup []), (.bool b28), (.int .i64 x2), (.int .i64 x29), (.tup []), (.tup []), (.tup []), (.tup []), (.tup []), (.tup []), (.lst a0), (.int .i64 x2), (.int .i64 x2), (.bool (decide (x2 < 3))), (.bool false), (.int .i64 x2), (.bool (decide (x2 > 8))), (.bool false), (.int .i64 x30), (.int .i64 x31), (.bool b32), v33, v34, v35, v36, v37, v38, v39, v40, (.tup []), (.tup []), (.tup []), (.tup []), (.tup []), (.tup []), (.tup []), (.tup []), (.tup []), (.tup []), (.tup []), (.tup []), (.tup []), (.tup []), (.tup []), (.tup []), (.tup []), (.tup []), (.tup []), (.tup []), (.tup []), (.tup []), (.tup []), (.tup []), (.tup []), (.tup []), (.tup []), (.tup []), (.tup []), (.tup []), (.tup []), (.tup []), (.tup []), (.tup []), (.tup []), (.tup []), (.tup []), (.tup []), (.tup []), (.tup []), (.tup []), (.tup []), (.tup []), (.tup []), (.tup []), (.tup []), (.tup []), (.tup []), (.tup []), (.tup []), (.tup []), (.tup []), (.tup []), (.tup []), (.tup []), (.tup []), (.tup []), (.tup []), (.tup []), (.tup []), (.tup []), (.tup []), (.tup []), (.tup []), (.tup []), (.tup []), (.tup []), (.tup []), (.tup []), (.tup [])], H⟩ = X45_0_0 d a0 x2 H := by
  unfold r45X0_0; refine Eq.trans (pl_len (by rfl)) ?_; (iterate 2 (refine Eq.trans (pl_same (by rfl)) ?_)); refine Eq.trans (pl_bool (by rfl)) ?_; refine Eq.trans (pl_same (by rfl)) ?_; refine Eq.trans (pl_int (by rfl)) ?_; (iterate 14 (refine Eq.trans (pl_same (by rfl)) ?_)); (iterate 2 (refine Eq.trans (pl_int (by rfl)) ?_)); refine Eq.trans (pl_bool (by rfl)) ?_; (iterate 8 (refine Eq.trans (pl_any (by rfl)) ?_)); (iterate 70 (refine Eq.trans (pl_same (by rfl)) ?_))
  first | rfl | (simp only [it45_1] <;> rfl)
noncomputable def E45_0 (d : Nat) (a0 : List AV) (x2 : Int) (b667 : Bool) (H : Heap) : Ans :=
  C0.fin H (.bool b667)
theorem E45_0_ok (d : Nat) (a0 : List AV) (x2 : Int) (b667 : Bool) (x668 x669 x670 : Int) (b671 : Bool) (v672 v673 v674 : AV) (x675 : Int) (v676 : AV) (x678 x679 : Int) (b680 b681 : Bool) (H : Heap) : r45E0 C0 d a0 x2 ⟨[(.lst a0), (.tup []), (.bool b667), (.int .i64 x2), (.int .i64 x668), (.tup []), (.tup []), (.tup []), (.tup []), (.tup []), (.tup []), (.lst a0), (.int .i64 x2), (.int .i64 x2), (.bool (decide (x2 < 3))), (.bool false), (.int .i64 x2), (.bool (decide (x2 > 8))), (.bool false), (.int .i64 x669), (.int .i64 x670), (.bool b671), v672, v673, v674, (.int .i64 x675), v676, (.agg [(.int .i64 x678), (.int .i64 x679)]), (.bool b680), (.bool b681), (.tup []), (.tup []), (.tup []), (.tup []), (.tup []), (.tup []), (.tup []), (.tup []), (.tup []), (.tup []), (.tup []), (.tup []), (.tup []), (.tup []), (.tup []), (.tup []), (.tup []), (.tup []), (.tup []), (.tup []), (.tup []), (.tup []), (.tup []), (.tup []), (.tup []), (.tup []), (.tup []), (.tup []), (.tup []), (.tup []), (.tup []), (.tup []), (.tup []), (.tup []), (.tup []), (.tup []), (.tup []), (.tup []), (.tup []), (.tup []), (.tup []), (.tup []), (.tup []), (.tup []), (.tup []), (.tup []), (.tup []), (.tup []), (.tup []), (.tup []), (.tup []), (.tup []), (.tup []), (.tup []), (.tup []), (.tup []), (.tup []), (.tup []), (.tup []), (.tup []), (.tup []), (.tup []), (.tup []), (.tup []), (.tup []), (.tup []), (.tup []), (.tup []), (.tup []), (.tup [])], H⟩ = E45_0 d a0 x2 b667 H := by
  unfold r45E0; refine Eq.trans (pl_len (by rfl)) ?_; (iterate 2 (refine Eq.trans (pl_same (by rfl)) ?_)); refine Eq.trans (pl_bool (by rfl)) ?_; refine Eq.trans (pl_same (by rfl)) ?_; refine Eq.trans (pl_int (by rfl)) ?_; (iterate 14 (refine Eq.trans (pl_same (by rfl)) ?_)); (iterate 2 (refine Eq.trans (pl_int (by rfl)) ?_)); refine Eq.trans (pl_bool (by rfl)) ?_; (iterate 3 (refine Eq.trans (pl_any (by rfl)) ?_)); refine Eq.trans (pl_int (by rfl)) ?_; refine Eq.trans (pl_any (by rfl)) ?_; refine Eq.trans (pl_agg (by rfl) (by rfl)) ?_; (iterate 2 (refine Eq.trans (pl_int (by rfl)) ?_)); (iterate 2 (refine Eq.trans (pl_bool (by rfl)) ?_)); (iterate 70 (refine Eq.trans (pl_same (by rfl)) ?_))
  rfl
noncomputable def L45_0 (d : Nat) (a0 : List AV) (x2 : Int) : Nat → Int → Heap → Ans
  | 0, _, _ => none
  | n + 1, x7, H =>
  cnd (decide (x7 < x2))
   (C0.hop H (.ixAS .any 2 (.v (.lst a0)) (.v (.int .i64 x7))) fun v19 h20 =>
   C0.hop h20 (.load true 2 (.v v19)) fun v21 h22 =>
   C0.agg 2 (some v21) fun l23 =>
   C0.int .i64 l23[0]? fun x24 =>
   C0.int .i64 l23[1]? fun x25 =>
   C0.bool (pcall M d 26 [(.agg [(.int .i64 x24), (.int .i64 x25)])]) fun b26 =>
   cnd (!b26)
   (E45_0 d a0 x2 false h22)
   (L45_0 d a0 x2 n (IntKind.wrap .i64 (x7 + 1)) h22))
   (X45_0_0 d a0 x2 H)
theorem it45_0 (d : Nat) (a0 : List AV) (x2 : Int)   : ∀ (n : Nat) (b6 : Bool) (x7 : Int) (v8 v9 v10 v11 v12 v13 v14 v15 v16 v17 v18 : AV) (H : Heap), C0.iter (r45R0 C0 d a0 x2) n ⟨[(.lst a0), (.tup []), (.bool b6), (.int .i64 x2), (.int .i64 x7), (.tup []), (.tup []), (.tup []), (.tup []), (.tup []), (.tup []), (.lst a0), (.int .i64 x2), (.int .i64 x2), (.bool (decide (x2 < 3))), (.bool false), (.int .i64 x2), (.bool (decide (x2 > 8))), (.bool false), v8, v9, v10, v11, v12, v13, v14, v15, v16, v17, v18, (.tup []), (.tup []), (.tup []), (.tup []), (.tup []), (.tup []), (.tup []), (.tup []), (.tup []), (.tup []), (.tup []), (.tup []), (.tup []), (.tup []), (.tup []), (.tup []), (.tup []), (.tup []), (.tup []), (.tup []), (.tup []), (.tup []), (.tup []), (.tup []), (.tup []), (.tup []), (.tup []), (.tup []), (.tup []), (.tup []), (.tup []), (.tup []), (.tup []), (.tup []), (.tup []), (.tup []), (.tup []), (.tup []), (.tup []), (.tup []), (.tup []), (.tup []), (.tup []), (.tup []), (.tup []), (.tup []), (.tup []), (.tup []), (.tup []), (.tup []), (.tup []), (.tup []), (.tup []), (.tup []), (.tup []), (.tup []), (.tup []), (.tup []), (.tup []), (.tup []), (.tup []), (.tup []), (.tup []), (.tup []), (.tup []), (.tup []), (.tup []), (.tup []), (.tup []), (.tup [])], H⟩ [0] [r45X0_0 C0 d a0 x2] (r45E0 C0 d a0 x2) = L45_0 d a0 x2 n x7 H := by
  generalize hR : r45R0 C0 d a0 x2 = R
  intro n
  induction n with
  | zero => intros; rfl
  | succ n ih =>
    intro b6 x7 v8 v9 v10 v11 v12 v13 v14 v15 v16 v17 v18 H
    simp only [it_ret] at ih
    rw [it_ret, xiter_s]
    refine Eq.trans (congrFun (congrFun hR.symm _) _) ?_
    unfold r45R0
    refine Eq.trans (pl_len (by rfl)) ?_; (iterate 2 (refine Eq.trans (pl_same (by rfl)) ?_)); refine Eq.trans (pl_bool (by rfl)) ?_; refine Eq.trans (pl_same (by rfl)) ?_; refine Eq.trans (pl_int (by rfl)) ?_; (iterate 14 (refine Eq.trans (pl_same (by rfl)) ?_)); (iterate 11 (refine Eq.trans (pl_any (by rfl)) ?_)); (iterate 70 (refine Eq.trans (pl_same (by rfl)) ?_))
    simp only [L45_0, kIter_n, kIter_x, kIter_r, kOut_x, kOut_r, xgo_hit, xgo_miss, ih, X45_0_0_ok d a0 x2  , E45_0_ok d a0 x2  ]
/-- apogee/apogeeref11.Simple -/
theorem q45 (d : Nat) (a0 : List AV) : xcall C0 M unr d 45 [(.lst a0)] =
  C0.hop [] (.bk .lenV [(.v (.lst a0))]) fun v0 h1 =>
  C0.int .i64 (some v0) fun x2 =>
  cnd (decide (x2 < 3))
   (C0.fin h1 (.bool false))
   (cnd (decide (x2 > 8))
   (C0.fin h1 (.bool false))
   (L45_0 d a0 x2 1000000000000000000 0 h1)) := (r45 C0 d a0).trans (by simp only [it45_0])
end Go.Proofs.Ytjblhppbjebagaa.AE

namespace Go.Proofs.Ytjblhppbjebagaa.AE
set_option linter.unusedVariables false
set_option linter.unusedSimpArgs false
set_option linter.constructorNameAsVariable false
open Go Go.Proofs.Ytjblhppbjebagaa.Geo
theorem s58 (d : Nat) (ps : List Pt) (i : Nat) (h : i < ps.length) (hl : ps.length ≤ 140737488355328) : pcall M (d + 1) 58 [.lst (ps.map pt), .int .i64 i] = some (pt (vv ps (nx ps i))) := told (r58 C0 d _ _) (by
  rw [decide_eq_false (by rw [pmap_len]; omega), cnd_f, nx_int h hl, decide_eq_true (by omega), cnd_t, vv_at (nx_lt h)]
  refine Eq.trans (pl_agg (by rfl) (by rfl)) ?_; refine Eq.trans (pl_int (by rfl)) ?_; refine Eq.trans (pl_int (by rfl)) ?_
  rfl)
theorem upAll_iff (f : Nat → Bool) : ∀ (m i : Nat), upAll f m i = true ↔ ∀ j, i ≤ j → j < i + m → f j = true
  | 0, i => by simp only [upAll]; exact ⟨fun _ j h1 h2 => by omega, fun _ => trivial⟩
  | m + 1, i => by
    simp only [upAll, Bool.and_eq_true, upAll_iff f m (i + 1)]
    constructor
    · rintro ⟨h, h'⟩ j h1 h2
      by_cases hj : j = i
      · subst hj; exact h
      · exact h' j (by omega) (by omega)
    · intro h
      exact ⟨h i (Nat.le_refl _) (by omega), fun j h1 h2 => h j (by omega) (by omega)⟩
/-- Two rows of pairs are one. -/
theorem pairs_two (g : Nat → Nat → Bool) (n : Nat) : upAll (fun i => upAll (fun k => g k i) i 0) n 0 = upAll (fun k => upAll (fun i => g k i) (n - k - 1) (k + 1)) n 0 := by
  rw [Bool.eq_iff_iff]
  simp only [upAll_iff]
  constructor
  · intro h k _ h2 i h3 h4; exact h i (by omega) (by omega) k (by omega) (by omega)
  · intro h i _ h2 k h3 h4; exact h k (by omega) (by omega) i (by omega) (by omega)
end Go.Proofs.Ytjblhppbjebagaa.AE
