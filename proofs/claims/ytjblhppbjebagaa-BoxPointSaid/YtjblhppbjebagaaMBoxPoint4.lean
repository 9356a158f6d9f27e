/- The texts that the law BoxPoint needs, part 4: AEresP. No conditions. -/
import Derived.Test.YtjblhppbjebagaaMBoxPoint3
namespace Go.Proofs.Ytjblhppbjebagaa.AE
set_option linter.unusedVariables false
set_option linter.unusedSimpArgs false
set_option linter.constructorNameAsVariable false
open Go
set_option maxRecDepth 100000
def r29R0 (C : Cb) (d : Nat) (a0 : List AV) : St → (Ex → St → Ans) → Ans := fun s0 k1 =>
  cnd ((List.length (St.env s0)) == 47)
   (C.same (St.env s0)[0]? (.lst a0) <|
   C.same (St.env s0)[1]? (.tup []) <|
   C.bool (St.env s0)[2]? fun b3 =>
   C.int .i64 (St.env s0)[3]? fun x4 =>
   C.any (St.env s0)[4]? fun v5 =>
   C.any (St.env s0)[5]? fun v6 =>
   C.any (St.env s0)[6]? fun v7 =>
   C.any (St.env s0)[7]? fun v8 =>
   C.any (St.env s0)[8]? fun v9 =>
   C.any (St.env s0)[9]? fun v10 =>
   C.any (St.env s0)[10]? fun v11 =>
   C.any (St.env s0)[11]? fun v12 =>
   C.any (St.env s0)[12]? fun v13 =>
   C.any (St.env s0)[13]? fun v14 =>
   C.any (St.env s0)[14]? fun v15 =>
   C.any (St.env s0)[15]? fun v16 =>
   C.any (St.env s0)[16]? fun v17 =>
   C.any (St.env s0)[17]? fun v18 =>
   C.any (St.env s0)[18]? fun v19 =>
   C.any (St.env s0)[19]? fun v20 =>
   C.any (St.env s0)[20]? fun v21 =>
   C.any (St.env s0)[21]? fun v22 =>
   C.any (St.env s0)[22]? fun v23 =>
   C.any (St.env s0)[23]? fun v24 =>
   C.any (St.env s0)[24]? fun v25 =>
   C.any (St.env s0)[25]? fun v26 =>
   C.any (St.env s0)[26]? fun v27 =>
   C.any (St.env s0)[27]? fun v28 =>
   C.any (St.env s0)[28]? fun v29 =>
   C.any (St.env s0)[29]? fun v30 =>
   C.any (St.env s0)[30]? fun v31 =>
   C.any (St.env s0)[31]? fun v32 =>
   C.any (St.env s0)[32]? fun v33 =>
   C.any (St.env s0)[33]? fun v34 =>
   C.any (St.env s0)[34]? fun v35 =>
   C.any (St.env s0)[35]? fun v36 =>
   C.any (St.env s0)[36]? fun v37 =>
   C.any (St.env s0)[37]? fun v38 =>
   C.any (St.env s0)[38]? fun v39 =>
   C.any (St.env s0)[39]? fun v40 =>
   C.any (St.env s0)[40]? fun v41 =>
   C.any (St.env s0)[41]? fun v42 =>
   C.any (St.env s0)[42]? fun v43 =>
   C.any (St.env s0)[43]? fun v44 =>
   C.any (St.env s0)[44]? fun v45 =>
   C.same (St.env s0)[45]? (.tup []) <|
   C.same (St.env s0)[46]? (.tup []) <|
   C.sameH (St.H s0) [] <|
   cnd (decide (x4 < (((List.length a0) : Nat) : Int)))
   (cnd (decide ((((List.length a0) : Nat) : Int) ≤ 8))
   (cnd (decide (0 ≤ x4))
   (C.agg 2 a0[(Int.toNat x4)]? fun l46 =>
   C.int .i64 l46[0]? fun x47 =>
   C.int .i64 l46[1]? fun x48 =>
   cnd (decide (x47 < (-1073741824)))
   (k1 .ret ⟨[(.lst a0), (.tup []), (.bool false), (.int .i64 x4), (.int .i64 x4), (.lst a0), (.int .i64 (((List.length a0) : Nat) : Int)), (.bool (decide (x4 < (((List.length a0) : Nat) : Int)))), (.bool true), (.lst a0), (.int .i64 (((List.length a0) : Nat) : Int)), (.bool (decide ((((List.length a0) : Nat) : Int) ≤ 8))), (.bool true), v14, v15, (.lst a0), (.int .i64 x4), (.fptr (.agg [(.int .i64 x47), (.int .i64 x48)]) 0), (.fptr (.agg [(.int .i64 x47), (.int .i64 x48)]) 0), (.int .i64 x47), (.bool (decide (x47 < (-1073741824)))), (.bool true), (.tup []), (.tup []), (.tup []), (.tup []), (.tup []), (.tup []), (.bool true), (.bool true), (.tup []), (.tup []), (.tup []), (.tup []), (.tup []), (.tup []), (.bool true), (.bool true), (.tup []), (.tup []), (.tup []), (.tup []), (.tup []), (.tup []), (.bool true), (.tup []), (.tup [])], []⟩)
   (cnd (decide (0 ≤ x4))
   (C.agg 2 a0[(Int.toNat x4)]? fun l49 =>
   C.int .i64 l49[0]? fun x50 =>
   C.int .i64 l49[1]? fun x51 =>
   cnd (decide (x50 > 1073741824))
   (k1 .ret ⟨[(.lst a0), (.tup []), (.bool false), (.int .i64 x4), (.int .i64 x4), (.lst a0), (.int .i64 (((List.length a0) : Nat) : Int)), (.bool (decide (x4 < (((List.length a0) : Nat) : Int)))), (.bool true), (.lst a0), (.int .i64 (((List.length a0) : Nat) : Int)), (.bool (decide ((((List.length a0) : Nat) : Int) ≤ 8))), (.bool true), v14, v15, (.lst a0), (.int .i64 x4), (.fptr (.agg [(.int .i64 x47), (.int .i64 x48)]) 0), (.fptr (.agg [(.int .i64 x47), (.int .i64 x48)]) 0), (.int .i64 x47), (.bool (decide (x47 < (-1073741824)))), (.bool false), (.lst a0), (.int .i64 x4), (.fptr (.agg [(.int .i64 x50), (.int .i64 x51)]) 0), (.fptr (.agg [(.int .i64 x50), (.int .i64 x51)]) 0), (.int .i64 x50), (.bool (decide (x50 > 1073741824))), (.bool (decide (x50 > 1073741824))), (.bool true), (.tup []), (.tup []), (.tup []), (.tup []), (.tup []), (.tup []), (.bool true), (.bool true), (.tup []), (.tup []), (.tup []), (.tup []), (.tup []), (.tup []), (.bool true), (.tup []), (.tup [])], []⟩)
   (cnd (decide (0 ≤ x4))
   (C.agg 2 a0[(Int.toNat x4)]? fun l52 =>
   C.int .i64 l52[0]? fun x53 =>
   C.int .i64 l52[1]? fun x54 =>
   cnd (decide (x54 < (-1073741824)))
   (k1 .ret ⟨[(.lst a0), (.tup []), (.bool false), (.int .i64 x4), (.int .i64 x4), (.lst a0), (.int .i64 (((List.length a0) : Nat) : Int)), (.bool (decide (x4 < (((List.length a0) : Nat) : Int)))), (.bool true), (.lst a0), (.int .i64 (((List.length a0) : Nat) : Int)), (.bool (decide ((((List.length a0) : Nat) : Int) ≤ 8))), (.bool true), v14, v15, (.lst a0), (.int .i64 x4), (.fptr (.agg [(.int .i64 x47), (.int .i64 x48)]) 0), (.fptr (.agg [(.int .i64 x47), (.int .i64 x48)]) 0), (.int .i64 x47), (.bool (decide (x47 < (-1073741824)))), (.bool false), (.lst a0), (.int .i64 x4), (.fptr (.agg [(.int .i64 x50), (.int .i64 x51)]) 0), (.fptr (.agg [(.int .i64 x50), (.int .i64 x51)]) 0), (.int .i64 x50), (.bool (decide (x50 > 1073741824))), (.bool (decide (x50 > 1073741824))), (.bool false), (.lst a0), (.int .i64 x4), (.fptr (.agg [(.int .i64 x53), (.int .i64 x54)]) 0), (.fptr (.agg [(.int .i64 x53), (.int .i64 x54)]) 1), (.int .i64 x54), (.bool (decide (x54 < (-1073741824)))), (.bool (decide (x54 < (-1073741824)))), (.bool true), (.tup []), (.tup []), (.tup []), (.tup []), (.tup []), (.tup []), (.bool true), (.tup []), (.tup [])], []⟩)
   (cnd (decide (0 ≤ x4))
   (C.agg 2 a0[(Int.toNat x4)]? fun l55 =>
   C.int .i64 l55[0]? fun x56 =>
   C.int .i64 l55[1]? fun x57 =>
   cnd (decide (x57 > 1073741824))
   (k1 .ret ⟨[(.lst a0), (.tup []), (.bool false), (.int .i64 x4), (.int .i64 x4), (.lst a0), (.int .i64 (((List.length a0) : Nat) : Int)), (.bool (decide (x4 < (((List.length a0) : Nat) : Int)))), (.bool true), (.lst a0), (.int .i64 (((List.length a0) : Nat) : Int)), (.bool (decide ((((List.length a0) : Nat) : Int) ≤ 8))), (.bool true), v14, v15, (.lst a0), (.int .i64 x4), (.fptr (.agg [(.int .i64 x47), (.int .i64 x48)]) 0), (.fptr (.agg [(.int .i64 x47), (.int .i64 x48)]) 0), (.int .i64 x47), (.bool (decide (x47 < (-1073741824)))), (.bool false), (.lst a0), (.int .i64 x4), (.fptr (.agg [(.int .i64 x50), (.int .i64 x51)]) 0), (.fptr (.agg [(.int .i64 x50), (.int .i64 x51)]) 0), (.int .i64 x50), (.bool (decide (x50 > 1073741824))), (.bool (decide (x50 > 1073741824))), (.bool false), (.lst a0), (.int .i64 x4), (.fptr (.agg [(.int .i64 x53), (.int .i64 x54)]) 0), (.fptr (.agg [(.int .i64 x53), (.int .i64 x54)]) 1), (.int .i64 x54), (.bool (decide (x54 < (-1073741824)))), (.bool (decide (x54 < (-1073741824)))), (.bool false), (.lst a0), (.int .i64 x4), (.fptr (.agg [(.int .i64 x56), (.int .i64 x57)]) 0), (.fptr (.agg [(.int .i64 x56), (.int .i64 x57)]) 1), (.int .i64 x57), (.bool (decide (x57 > 1073741824))), (.bool true), (.tup []), (.tup [])], []⟩)
   (k1 .normal ⟨[(.lst a0), (.tup []), (.bool b3), (.int .i64 (IntKind.wrap .i64 (x4 + 1))), (.int .i64 x4), (.lst a0), (.int .i64 (((List.length a0) : Nat) : Int)), (.bool (decide (x4 < (((List.length a0) : Nat) : Int)))), (.bool true), (.lst a0), (.int .i64 (((List.length a0) : Nat) : Int)), (.bool (decide ((((List.length a0) : Nat) : Int) ≤ 8))), (.bool true), (.int .i64 x4), (.int .i64 (IntKind.wrap .i64 (x4 + 1))), (.lst a0), (.int .i64 x4), (.fptr (.agg [(.int .i64 x47), (.int .i64 x48)]) 0), (.fptr (.agg [(.int .i64 x47), (.int .i64 x48)]) 0), (.int .i64 x47), (.bool (decide (x47 < (-1073741824)))), (.bool false), (.lst a0), (.int .i64 x4), (.fptr (.agg [(.int .i64 x50), (.int .i64 x51)]) 0), (.fptr (.agg [(.int .i64 x50), (.int .i64 x51)]) 0), (.int .i64 x50), (.bool (decide (x50 > 1073741824))), (.bool (decide (x50 > 1073741824))), (.bool false), (.lst a0), (.int .i64 x4), (.fptr (.agg [(.int .i64 x53), (.int .i64 x54)]) 0), (.fptr (.agg [(.int .i64 x53), (.int .i64 x54)]) 1), (.int .i64 x54), (.bool (decide (x54 < (-1073741824)))), (.bool (decide (x54 < (-1073741824)))), (.bool false), (.lst a0), (.int .i64 x4), (.fptr (.agg [(.int .i64 x56), (.int .i64 x57)]) 0), (.fptr (.agg [(.int .i64 x56), (.int .i64 x57)]) 1), (.int .i64 x57), (.bool (decide (x57 > 1073741824))), (.bool false), (.tup []), (.tup [])], []⟩))
   (none)))
   (none)))
   (none)))
   (none))
   (k1 (.exit 0) ⟨[(.lst a0), (.tup []), (.bool b3), (.int .i64 x4), (.int .i64 x4), (.lst a0), (.int .i64 (((List.length a0) : Nat) : Int)), (.bool (decide (x4 < (((List.length a0) : Nat) : Int)))), (.bool true), (.lst a0), (.int .i64 (((List.length a0) : Nat) : Int)), (.bool (decide ((((List.length a0) : Nat) : Int) ≤ 8))), (.bool false), v14, v15, v16, v17, v18, v19, v20, v21, v22, v23, v24, v25, v26, v27, v28, v29, v30, v31, v32, v33, v34, v35, v36, v37, v38, v39, v40, v41, v42, v43, v44, v45, (.tup []), (.tup [])], []⟩))
   (k1 (.exit 0) ⟨[(.lst a0), (.tup []), (.bool b3), (.int .i64 x4), (.int .i64 x4), (.lst a0), (.int .i64 (((List.length a0) : Nat) : Int)), (.bool (decide (x4 < (((List.length a0) : Nat) : Int)))), (.bool false), (.tup []), (.tup []), (.tup []), (.bool false), v14, v15, v16, v17, v18, v19, v20, v21, v22, v23, v24, v25, v26, v27, v28, v29, v30, v31, v32, v33, v34, v35, v36, v37, v38, v39, v40, v41, v42, v43, v44, v45, (.tup []), (.tup [])], []⟩))
   (none)
def r29X0_0 (C : Cb) (d : Nat) (a0 : List AV) : St → Ans := fun s58 =>
  cnd ((List.length (St.env s58)) == 47)
   (C.same (St.env s58)[0]? (.lst a0) <|
   C.same (St.env s58)[1]? (.tup []) <|
   C.bool (St.env s58)[2]? fun b59 =>
   C.int .i64 (St.env s58)[3]? fun x60 =>
   C.int .i64 (St.env s58)[4]? fun x61 =>
   C.any (St.env s58)[5]? fun v62 =>
   C.int .i64 (St.env s58)[6]? fun x63 =>
   C.bool (St.env s58)[7]? fun b64 =>
   C.bool (St.env s58)[8]? fun b65 =>
   C.any (St.env s58)[9]? fun v66 =>
   C.any (St.env s58)[10]? fun v67 =>
   C.any (St.env s58)[11]? fun v68 =>
   C.bool (St.env s58)[12]? fun b69 =>
   C.any (St.env s58)[13]? fun v70 =>
   C.any (St.env s58)[14]? fun v71 =>
   C.any (St.env s58)[15]? fun v72 =>
   C.any (St.env s58)[16]? fun v73 =>
   C.any (St.env s58)[17]? fun v74 =>
   C.any (St.env s58)[18]? fun v75 =>
   C.any (St.env s58)[19]? fun v76 =>
   C.any (St.env s58)[20]? fun v77 =>
   C.any (St.env s58)[21]? fun v78 =>
   C.any (St.env s58)[22]? fun v79 =>
   C.any (St.env s58)[23]? fun v80 =>
   C.any (St.env s58)[24]? fun v81 =>
   C.any (St.env s58)[25]? fun v82 =>
   C.any (St.env s58)[26]? fun v83 =>
   C.any (St.env s58)[27]? fun v84 =>
   C.any (St.env s58)[28]? fun v85 =>
   C.any (St.env s58)[29]? fun v86 =>
   C.any (St.env s58)[30]? fun v87 =>
   C.any (St.env s58)[31]? fun v88 =>
   C.any (St.env s58)[32]? fun v89 =>
   C.any (St.env s58)[33]? fun v90 =>
   C.any (St.env s58)[34]? fun v91 =>
   C.any (St.env s58)[35]? fun v92 =>
   C.any (St.env s58)[36]? fun v93 =>
   C.any (St.env s58)[37]? fun v94 =>
   C.any (St.env s58)[38]? fun v95 =>
   C.any (St.env s58)[39]? fun v96 =>
   C.any (St.env s58)[40]? fun v97 =>
   C.any (St.env s58)[41]? fun v98 =>
   C.any (St.env s58)[42]? fun v99 =>
   C.any (St.env s58)[43]? fun v100 =>
   C.any (St.env s58)[44]? fun v101 =>
   C.same (St.env s58)[45]? (.tup []) <|
   C.same (St.env s58)[46]? (.tup []) <|
   C.sameH (St.H s58) [] <|
   C.bool (pcall M d 45 [(.lst a0)]) fun b102 =>
   some (.bool b102))
   (none)
def r29E0 (C : Cb) (d : Nat) (a0 : List AV) : St → Ans := fun s2 =>
  cnd ((List.length (St.env s2)) == 47)
   (C.same (St.env s2)[0]? (.lst a0) <|
   C.same (St.env s2)[1]? (.tup []) <|
   C.bool (St.env s2)[2]? fun b103 =>
   C.int .i64 (St.env s2)[3]? fun x104 =>
   C.int .i64 (St.env s2)[4]? fun x105 =>
   C.any (St.env s2)[5]? fun v106 =>
   C.int .i64 (St.env s2)[6]? fun x107 =>
   C.bool (St.env s2)[7]? fun b108 =>
   C.bool (St.env s2)[8]? fun b109 =>
   C.any (St.env s2)[9]? fun v110 =>
   C.any (St.env s2)[10]? fun v111 =>
   C.any (St.env s2)[11]? fun v112 =>
   C.bool (St.env s2)[12]? fun b113 =>
   C.any (St.env s2)[13]? fun v114 =>
   C.any (St.env s2)[14]? fun v115 =>
   C.any (St.env s2)[15]? fun v116 =>
   C.int .i64 (St.env s2)[16]? fun x117 =>
   C.any (St.env s2)[17]? fun v118 =>
   C.any (St.env s2)[18]? fun v119 =>
   C.int .i64 (St.env s2)[19]? fun x120 =>
   C.bool (St.env s2)[20]? fun b121 =>
   C.bool (St.env s2)[21]? fun b122 =>
   C.any (St.env s2)[22]? fun v123 =>
   C.any (St.env s2)[23]? fun v124 =>
   C.any (St.env s2)[24]? fun v125 =>
   C.any (St.env s2)[25]? fun v126 =>
   C.any (St.env s2)[26]? fun v127 =>
   C.any (St.env s2)[27]? fun v128 =>
   C.bool (St.env s2)[28]? fun b129 =>
   C.bool (St.env s2)[29]? fun b130 =>
   C.any (St.env s2)[30]? fun v131 =>
   C.any (St.env s2)[31]? fun v132 =>
   C.any (St.env s2)[32]? fun v133 =>
   C.any (St.env s2)[33]? fun v134 =>
   C.any (St.env s2)[34]? fun v135 =>
   C.any (St.env s2)[35]? fun v136 =>
   C.bool (St.env s2)[36]? fun b137 =>
   C.bool (St.env s2)[37]? fun b138 =>
   C.any (St.env s2)[38]? fun v139 =>
   C.any (St.env s2)[39]? fun v140 =>
   C.any (St.env s2)[40]? fun v141 =>
   C.any (St.env s2)[41]? fun v142 =>
   C.any (St.env s2)[42]? fun v143 =>
   C.any (St.env s2)[43]? fun v144 =>
   C.bool (St.env s2)[44]? fun b145 =>
   C.same (St.env s2)[45]? (.tup []) <|
   C.same (St.env s2)[46]? (.tup []) <|
   C.sameH (St.H s2) [] <|
   some (.bool b103))
   (none)
/-- apogee/apogeeref11.Right -/
theorem r29 (C : Cb) (d : Nat) (a0 : List AV) : xcall C M unr d 29 [(.lst a0)] =
  C.iter (r29R0 C d a0) 1000000000000000000 ⟨[(.lst a0), (.tup []), (.bool false), (.int .i64 0), (.tup []), (.tup []), (.tup []), (.tup []), (.tup []), (.tup []), (.tup []), (.tup []), (.tup []), (.tup []), (.tup []), (.tup []), (.tup []), (.tup []), (.tup []), (.tup []), (.tup []), (.tup []), (.tup []), (.tup []), (.tup []), (.tup []), (.tup []), (.tup []), (.tup []), (.tup []), (.tup []), (.tup []), (.tup []), (.tup []), (.tup []), (.tup []), (.tup []), (.tup []), (.tup []), (.tup []), (.tup []), (.tup []), (.tup []), (.tup []), (.tup []), (.tup []), (.tup [])], []⟩ [0] [r29X0_0 C d a0] (r29E0 C d a0) := by kernel_rfl
def r31R0 (C : Cb) (d : Nat) (a0 : List AV) (a1 : Int) (a2 : Int) (v0 : AV) (b4 : Bool) (x8 : Int) (x9 : Int) (b10 : Bool) (x13 : Int) : St → (Ex → St → Ans) → Ans := fun s14 k15 =>
  cnd ((List.length (St.env s14)) == 62)
   (C.same (St.env s14)[0]? (.lst a0) <|
   C.same (St.env s14)[1]? (.agg [(.int .i64 a1), (.int .i64 a2)]) <|
   C.same (St.env s14)[2]? (.tup []) <|
   C.same (St.env s14)[3]? v0 <|
   C.int .i64 (St.env s14)[4]? fun x17 =>
   C.int .i64 (St.env s14)[5]? fun x18 =>
   C.any (St.env s14)[6]? fun v19 =>
   C.any (St.env s14)[7]? fun v20 =>
   C.any (St.env s14)[8]? fun v21 =>
   C.same (St.env s14)[9]? (.lst a0) <|
   C.same (St.env s14)[10]? (.bool b4) <|
   C.same (St.env s14)[11]? (.bool (!b4)) <|
   C.same (St.env s14)[12]? (.bool false) <|
   C.same (St.env s14)[13]? (.agg [(.int .i64 x8), (.int .i64 x9)]) <|
   C.same (St.env s14)[14]? (.bool b10) <|
   C.same (St.env s14)[15]? (.bool (!b10)) <|
   C.same (St.env s14)[16]? (.bool false) <|
   C.same (St.env s14)[17]? (.lst a0) <|
   C.same (St.env s14)[18]? (.int .i64 x13) <|
   C.int .i64 (St.env s14)[19]? fun x22 =>
   C.any (St.env s14)[20]? fun v23 =>
   C.any (St.env s14)[21]? fun v24 =>
   C.any (St.env s14)[22]? fun v25 =>
   C.any (St.env s14)[23]? fun v26 =>
   C.any (St.env s14)[24]? fun v27 =>
   C.any (St.env s14)[25]? fun v28 =>
   C.any (St.env s14)[26]? fun v29 =>
   C.any (St.env s14)[27]? fun v30 =>
   C.any (St.env s14)[28]? fun v31 =>
   C.any (St.env s14)[29]? fun v32 =>
   C.any (St.env s14)[30]? fun v33 =>
   C.any (St.env s14)[31]? fun v34 =>
   C.any (St.env s14)[32]? fun v35 =>
   C.any (St.env s14)[33]? fun v36 =>
   C.any (St.env s14)[34]? fun v37 =>
   C.any (St.env s14)[35]? fun v38 =>
   C.any (St.env s14)[36]? fun v39 =>
   C.any (St.env s14)[37]? fun v40 =>
   C.any (St.env s14)[38]? fun v41 =>
   C.any (St.env s14)[39]? fun v42 =>
   C.any (St.env s14)[40]? fun v43 =>
   C.any (St.env s14)[41]? fun v44 =>
   C.any (St.env s14)[42]? fun v45 =>
   C.any (St.env s14)[43]? fun v46 =>
   C.any (St.env s14)[44]? fun v47 =>
   C.any (St.env s14)[45]? fun v48 =>
   C.any (St.env s14)[46]? fun v49 =>
   C.any (St.env s14)[47]? fun v50 =>
   C.any (St.env s14)[48]? fun v51 =>
   C.any (St.env s14)[49]? fun v52 =>
   C.any (St.env s14)[50]? fun v53 =>
   C.any (St.env s14)[51]? fun v54 =>
   C.any (St.env s14)[52]? fun v55 =>
   C.any (St.env s14)[53]? fun v56 =>
   C.any (St.env s14)[54]? fun v57 =>
   C.any (St.env s14)[55]? fun v58 =>
   C.any (St.env s14)[56]? fun v59 =>
   C.any (St.env s14)[57]? fun v60 =>
   C.any (St.env s14)[58]? fun v61 =>
   C.any (St.env s14)[59]? fun v62 =>
   C.any (St.env s14)[60]? fun v63 =>
   C.same (St.env s14)[61]? (.tup []) <|
   cnd (decide (x22 < x13))
   (C.snp (St.H s14) [(.lst a0), (.int .i64 x22)] fun l64 b65 =>
   C.tup 2 (pcall M d 46 l64) fun l66 =>
   C.agg 2 l66[0]? fun l67 =>
   C.int .i64 l67[0]? fun x68 =>
   C.int .i64 l67[1]? fun x69 =>
   C.agg 2 l66[1]? fun l70 =>
   C.int .i64 l70[0]? fun x71 =>
   C.int .i64 l70[1]? fun x72 =>
   cnd (b65 || true)
   (C.hop (St.H s14) (.alloc E23) fun v73 h74 =>
   C.hop h74 (.alloc E23) fun v75 h76 =>
   C.hop h76 (.store 2 (.v v73) (.v (.agg [(.int .i64 x68), (.int .i64 x69)]))) fun v77 h78 =>
   C.hop h78 (.store 2 (.v v75) (.v (.agg [(.int .i64 x71), (.int .i64 x72)]))) fun v79 h80 =>
   C.hop h80 (.load true 2 (.v v0)) fun v81 h82 =>
   C.agg 2 (some v81) fun l83 =>
   C.int .i64 l83[0]? fun x84 =>
   C.int .i64 l83[1]? fun x85 =>
   C.hop h82 (.load true 2 (.v v73)) fun v86 h87 =>
   C.agg 2 (some v86) fun l88 =>
   C.int .i64 l88[0]? fun x89 =>
   C.int .i64 l88[1]? fun x90 =>
   C.hop h87 (.load true 2 (.v v75)) fun v91 h92 =>
   C.agg 2 (some v91) fun l93 =>
   C.int .i64 l93[0]? fun x94 =>
   C.int .i64 l93[1]? fun x95 =>
   C.bool (pcall M d 47 [(.agg [(.int .i64 x84), (.int .i64 x85)]), (.agg [(.int .i64 x89), (.int .i64 x90)]), (.agg [(.int .i64 x94), (.int .i64 x95)])]) fun b96 =>
   cnd b96
   (k15 .ret ⟨[(.lst a0), (.agg [(.int .i64 a1), (.int .i64 a2)]), (.tup []), v0, (.int .i64 0), (.int .i64 x18), (.int .i64 x22), v73, v75, (.lst a0), (.bool b4), (.bool (!b4)), (.bool false), (.agg [(.int .i64 x8), (.int .i64 x9)]), (.bool b10), (.bool (!b10)), (.bool false), (.lst a0), (.int .i64 x13), (.int .i64 x22), (.bool true), (.int .i64 x22), (.tup [(.agg [(.int .i64 x68), (.int .i64 x69)]), (.agg [(.int .i64 x71), (.int .i64 x72)])]), (.lst a0), (.int .i64 x22), (.tup [(.agg [(.int .i64 x68), (.int .i64 x69)]), (.agg [(.int .i64 x71), (.int .i64 x72)])]), (.agg [(.int .i64 x68), (.int .i64 x69)]), (.agg [(.int .i64 x71), (.int .i64 x72)]), (.agg [(.int .i64 x84), (.int .i64 x85)]), (.agg [(.int .i64 x89), (.int .i64 x90)]), (.agg [(.int .i64 x94), (.int .i64 x95)]), (.bool true), v35, v36, v37, v38, v39, v40, v41, v42, v43, v44, v45, v46, v47, v48, v49, v50, v51, v52, v53, v54, v55, v56, v57, v58, v59, v60, v61, v62, v63, (.tup [])], h92⟩)
   (C.hop h92 (.fldA 1 (.v v73)) fun v97 h98 =>
   C.hop h98 (.load false 1 (.v v97)) fun v99 h100 =>
   C.int .i64 (some v99) fun x101 =>
   C.hop h100 (.fldA 1 (.v v75)) fun v102 h103 =>
   C.hop h103 (.load false 1 (.v v102)) fun v104 h105 =>
   C.int .i64 (some v104) fun x106 =>
   cnd (decide (x101 > x106))
   (C.hop h105 (.load true 2 (.v v75)) fun v107 h108 =>
   C.agg 2 (some v107) fun l109 =>
   C.int .i64 l109[0]? fun x110 =>
   C.int .i64 l109[1]? fun x111 =>
   C.hop h108 (.load true 2 (.v v73)) fun v112 h113 =>
   C.agg 2 (some v112) fun l114 =>
   C.int .i64 l114[0]? fun x115 =>
   C.int .i64 l114[1]? fun x116 =>
   C.hop h113 (.store 2 (.v v73) (.v (.agg [(.int .i64 x110), (.int .i64 x111)]))) fun v117 h118 =>
   C.hop h118 (.store 2 (.v v75) (.v (.agg [(.int .i64 x115), (.int .i64 x116)]))) fun v119 h120 =>
   C.hop h120 (.fldA 1 (.v v73)) fun v121 h122 =>
   C.hop h122 (.load false 1 (.v v121)) fun v123 h124 =>
   C.int .i64 (some v123) fun x125 =>
   C.hop h124 (.fldA 1 (.v v0)) fun v126 h127 =>
   C.hop h127 (.load false 1 (.v v126)) fun v128 h129 =>
   C.int .i64 (some v128) fun x130 =>
   cnd (decide (x125 ≤ x130))
   (C.hop h129 (.fldA 1 (.v v0)) fun v131 h132 =>
   C.hop h132 (.load false 1 (.v v131)) fun v133 h134 =>
   C.int .i64 (some v133) fun x135 =>
   C.hop h134 (.fldA 1 (.v v75)) fun v136 h137 =>
   C.hop h137 (.load false 1 (.v v136)) fun v138 h139 =>
   C.int .i64 (some v138) fun x140 =>
   cnd (decide (x135 < x140))
   (C.hop h139 (.load true 2 (.v v73)) fun v141 h142 =>
   C.agg 2 (some v141) fun l143 =>
   C.int .i64 l143[0]? fun x144 =>
   C.int .i64 l143[1]? fun x145 =>
   C.hop h142 (.load true 2 (.v v75)) fun v146 h147 =>
   C.agg 2 (some v146) fun l148 =>
   C.int .i64 l148[0]? fun x149 =>
   C.int .i64 l148[1]? fun x150 =>
   C.hop h147 (.load true 2 (.v v0)) fun v151 h152 =>
   C.agg 2 (some v151) fun l153 =>
   C.int .i64 l153[0]? fun x154 =>
   C.int .i64 l153[1]? fun x155 =>
   C.int .i64 (pcall M d 39 [(.agg [(.int .i64 x144), (.int .i64 x145)]), (.agg [(.int .i64 x149), (.int .i64 x150)]), (.agg [(.int .i64 x154), (.int .i64 x155)])]) fun x156 =>
   cnd (decide (x156 > 0))
   (k15 .normal ⟨[(.lst a0), (.agg [(.int .i64 a1), (.int .i64 a2)]), (.tup []), v0, (.int .i64 x17), (.int .i64 (IntKind.wrap .i64 (0 - x18))), (.int .i64 x22), v73, v75, (.lst a0), (.bool b4), (.bool (!b4)), (.bool false), (.agg [(.int .i64 x8), (.int .i64 x9)]), (.bool b10), (.bool (!b10)), (.bool false), (.lst a0), (.int .i64 x13), (.int .i64 (IntKind.wrap .i64 (x22 + 1))), (.bool true), (.int .i64 x22), (.tup [(.agg [(.int .i64 x68), (.int .i64 x69)]), (.agg [(.int .i64 x71), (.int .i64 x72)])]), (.lst a0), (.int .i64 x22), (.tup [(.agg [(.int .i64 x68), (.int .i64 x69)]), (.agg [(.int .i64 x71), (.int .i64 x72)])]), (.agg [(.int .i64 x68), (.int .i64 x69)]), (.agg [(.int .i64 x71), (.int .i64 x72)]), (.agg [(.int .i64 x84), (.int .i64 x85)]), (.agg [(.int .i64 x89), (.int .i64 x90)]), (.agg [(.int .i64 x94), (.int .i64 x95)]), (.bool false), v97, (.int .i64 x101), v102, (.int .i64 x106), (.bool true), (.agg [(.int .i64 x110), (.int .i64 x111)]), (.agg [(.int .i64 x115), (.int .i64 x116)]), v121, (.int .i64 x125), v126, (.int .i64 x130), (.bool (decide (x125 ≤ x130))), (.bool true), v131, (.int .i64 x135), v136, (.int .i64 x140), (.bool (decide (x135 < x140))), (.bool (decide (x135 < x140))), (.bool true), (.agg [(.int .i64 x144), (.int .i64 x145)]), (.agg [(.int .i64 x149), (.int .i64 x150)]), (.agg [(.int .i64 x154), (.int .i64 x155)]), (.int .i64 x156), (.bool (decide (x156 > 0))), (.bool true), (.int .i64 x18), (.int .i64 (IntKind.wrap .i64 (0 - x18))), (.int .i64 (IntKind.wrap .i64 (x22 + 1))), (.tup [])], h152⟩)
   (k15 .normal ⟨[(.lst a0), (.agg [(.int .i64 a1), (.int .i64 a2)]), (.tup []), v0, (.int .i64 x17), (.int .i64 x18), (.int .i64 x22), v73, v75, (.lst a0), (.bool b4), (.bool (!b4)), (.bool false), (.agg [(.int .i64 x8), (.int .i64 x9)]), (.bool b10), (.bool (!b10)), (.bool false), (.lst a0), (.int .i64 x13), (.int .i64 (IntKind.wrap .i64 (x22 + 1))), (.bool true), (.int .i64 x22), (.tup [(.agg [(.int .i64 x68), (.int .i64 x69)]), (.agg [(.int .i64 x71), (.int .i64 x72)])]), (.lst a0), (.int .i64 x22), (.tup [(.agg [(.int .i64 x68), (.int .i64 x69)]), (.agg [(.int .i64 x71), (.int .i64 x72)])]), (.agg [(.int .i64 x68), (.int .i64 x69)]), (.agg [(.int .i64 x71), (.int .i64 x72)]), (.agg [(.int .i64 x84), (.int .i64 x85)]), (.agg [(.int .i64 x89), (.int .i64 x90)]), (.agg [(.int .i64 x94), (.int .i64 x95)]), (.bool false), v97, (.int .i64 x101), v102, (.int .i64 x106), (.bool true), (.agg [(.int .i64 x110), (.int .i64 x111)]), (.agg [(.int .i64 x115), (.int .i64 x116)]), v121, (.int .i64 x125), v126, (.int .i64 x130), (.bool (decide (x125 ≤ x130))), (.bool true), v131, (.int .i64 x135), v136, (.int .i64 x140), (.bool (decide (x135 < x140))), (.bool (decide (x135 < x140))), (.bool true), (.agg [(.int .i64 x144), (.int .i64 x145)]), (.agg [(.int .i64 x149), (.int .i64 x150)]), (.agg [(.int .i64 x154), (.int .i64 x155)]), (.int .i64 x156), (.bool (decide (x156 > 0))), (.bool false), v61, v62, (.int .i64 (IntKind.wrap .i64 (x22 + 1))), (.tup [])], h152⟩))
   (k15 .normal ⟨[(.lst a0), (.agg [(.int .i64 a1), (.int .i64 a2)]), (.tup []), v0, (.int .i64 x17), (.int .i64 x18), (.int .i64 x22), v73, v75, (.lst a0), (.bool b4), (.bool (!b4)), (.bool false), (.agg [(.int .i64 x8), (.int .i64 x9)]), (.bool b10), (.bool (!b10)), (.bool false), (.lst a0), (.int .i64 x13), (.int .i64 (IntKind.wrap .i64 (x22 + 1))), (.bool true), (.int .i64 x22), (.tup [(.agg [(.int .i64 x68), (.int .i64 x69)]), (.agg [(.int .i64 x71), (.int .i64 x72)])]), (.lst a0), (.int .i64 x22), (.tup [(.agg [(.int .i64 x68), (.int .i64 x69)]), (.agg [(.int .i64 x71), (.int .i64 x72)])]), (.agg [(.int .i64 x68), (.int .i64 x69)]), (.agg [(.int .i64 x71), (.int .i64 x72)]), (.agg [(.int .i64 x84), (.int .i64 x85)]), (.agg [(.int .i64 x89), (.int .i64 x90)]), (.agg [(.int .i64 x94), (.int .i64 x95)]), (.bool false), v97, (.int .i64 x101), v102, (.int .i64 x106), (.bool true), (.agg [(.int .i64 x110), (.int .i64 x111)]), (.agg [(.int .i64 x115), (.int .i64 x116)]), v121, (.int .i64 x125), v126, (.int .i64 x130), (.bool (decide (x125 ≤ x130))), (.bool true), v131, (.int .i64 x135), v136, (.int .i64 x140), (.bool (decide (x135 < x140))), (.bool (decide (x135 < x140))), (.bool false), (.tup []), (.tup []), (.tup []), (.tup []), (.tup []), (.bool false), v61, v62, (.int .i64 (IntKind.wrap .i64 (x22 + 1))), (.tup [])], h139⟩))
   (k15 .normal ⟨[(.lst a0), (.agg [(.int .i64 a1), (.int .i64 a2)]), (.tup []), v0, (.int .i64 x17), (.int .i64 x18), (.int .i64 x22), v73, v75, (.lst a0), (.bool b4), (.bool (!b4)), (.bool false), (.agg [(.int .i64 x8), (.int .i64 x9)]), (.bool b10), (.bool (!b10)), (.bool false), (.lst a0), (.int .i64 x13), (.int .i64 (IntKind.wrap .i64 (x22 + 1))), (.bool true), (.int .i64 x22), (.tup [(.agg [(.int .i64 x68), (.int .i64 x69)]), (.agg [(.int .i64 x71), (.int .i64 x72)])]), (.lst a0), (.int .i64 x22), (.tup [(.agg [(.int .i64 x68), (.int .i64 x69)]), (.agg [(.int .i64 x71), (.int .i64 x72)])]), (.agg [(.int .i64 x68), (.int .i64 x69)]), (.agg [(.int .i64 x71), (.int .i64 x72)]), (.agg [(.int .i64 x84), (.int .i64 x85)]), (.agg [(.int .i64 x89), (.int .i64 x90)]), (.agg [(.int .i64 x94), (.int .i64 x95)]), (.bool false), v97, (.int .i64 x101), v102, (.int .i64 x106), (.bool true), (.agg [(.int .i64 x110), (.int .i64 x111)]), (.agg [(.int .i64 x115), (.int .i64 x116)]), v121, (.int .i64 x125), v126, (.int .i64 x130), (.bool (decide (x125 ≤ x130))), (.bool false), (.tup []), (.tup []), (.tup []), (.tup []), (.tup []), (.bool false), (.bool false), (.tup []), (.tup []), (.tup []), (.tup []), (.tup []), (.bool false), v61, v62, (.int .i64 (IntKind.wrap .i64 (x22 + 1))), (.tup [])], h129⟩))
   (C.hop h105 (.fldA 1 (.v v73)) fun v157 h158 =>
   C.hop h158 (.load false 1 (.v v157)) fun v159 h160 =>
   C.int .i64 (some v159) fun x161 =>
   C.hop h160 (.fldA 1 (.v v0)) fun v162 h163 =>
   C.hop h163 (.load false 1 (.v v162)) fun v164 h165 =>
   C.int .i64 (some v164) fun x166 =>
   cnd (decide (x161 ≤ x166))
   (C.hop h165 (.fldA 1 (.v v0)) fun v167 h168 =>
   C.hop h168 (.load false 1 (.v v167)) fun v169 h170 =>
   C.int .i64 (some v169) fun x171 =>
   C.hop h170 (.fldA 1 (.v v75)) fun v172 h173 =>
   C.hop h173 (.load false 1 (.v v172)) fun v174 h175 =>
   C.int .i64 (some v174) fun x176 =>
   cnd (decide (x171 < x176))
   (C.hop h175 (.load true 2 (.v v73)) fun v177 h178 =>
   C.agg 2 (some v177) fun l179 =>
   C.int .i64 l179[0]? fun x180 =>
   C.int .i64 l179[1]? fun x181 =>
   C.hop h178 (.load true 2 (.v v75)) fun v182 h183 =>
   C.agg 2 (some v182) fun l184 =>
   C.int .i64 l184[0]? fun x185 =>
   C.int .i64 l184[1]? fun x186 =>
   C.hop h183 (.load true 2 (.v v0)) fun v187 h188 =>
   C.agg 2 (some v187) fun l189 =>
   C.int .i64 l189[0]? fun x190 =>
   C.int .i64 l189[1]? fun x191 =>
   C.int .i64 (pcall M d 39 [(.agg [(.int .i64 x180), (.int .i64 x181)]), (.agg [(.int .i64 x185), (.int .i64 x186)]), (.agg [(.int .i64 x190), (.int .i64 x191)])]) fun x192 =>
   cnd (decide (x192 > 0))
   (k15 .normal ⟨[(.lst a0), (.agg [(.int .i64 a1), (.int .i64 a2)]), (.tup []), v0, (.int .i64 x17), (.int .i64 (IntKind.wrap .i64 (0 - x18))), (.int .i64 x22), v73, v75, (.lst a0), (.bool b4), (.bool (!b4)), (.bool false), (.agg [(.int .i64 x8), (.int .i64 x9)]), (.bool b10), (.bool (!b10)), (.bool false), (.lst a0), (.int .i64 x13), (.int .i64 (IntKind.wrap .i64 (x22 + 1))), (.bool true), (.int .i64 x22), (.tup [(.agg [(.int .i64 x68), (.int .i64 x69)]), (.agg [(.int .i64 x71), (.int .i64 x72)])]), (.lst a0), (.int .i64 x22), (.tup [(.agg [(.int .i64 x68), (.int .i64 x69)]), (.agg [(.int .i64 x71), (.int .i64 x72)])]), (.agg [(.int .i64 x68), (.int .i64 x69)]), (.agg [(.int .i64 x71), (.int .i64 x72)]), (.agg [(.int .i64 x84), (.int .i64 x85)]), (.agg [(.int .i64 x89), (.int .i64 x90)]), (.agg [(.int .i64 x94), (.int .i64 x95)]), (.bool false), v97, (.int .i64 x101), v102, (.int .i64 x106), (.bool false), v40, v41, v157, (.int .i64 x161), v162, (.int .i64 x166), (.bool (decide (x161 ≤ x166))), (.bool true), v167, (.int .i64 x171), v172, (.int .i64 x176), (.bool (decide (x171 < x176))), (.bool (decide (x171 < x176))), (.bool true), (.agg [(.int .i64 x180), (.int .i64 x181)]), (.agg [(.int .i64 x185), (.int .i64 x186)]), (.agg [(.int .i64 x190), (.int .i64 x191)]), (.int .i64 x192), (.bool (decide (x192 > 0))), (.bool true), (.int .i64 x18), (.int .i64 (IntKind.wrap .i64 (0 - x18))), (.int .i64 (IntKind.wrap .i64 (x22 + 1))), (.tup [])], h188⟩)
   (k15 .normal ⟨[(.lst a0), (.agg [(.int .i64 a1), (.int .i64 a2)]), (.tup []), v0, (.int .i64 x17), (.int .i64 x18), (.int .i64 x22), v73, v75, (.lst a0), (.bool b4), (.bool (!b4)), (.bool false), (.agg [(.int .i64 x8), (.int .i64 x9)]), (.bool b10), (.bool (!b10)), (.bool false), (.lst a0), (.int .i64 x13), (.int .i64 (IntKind.wrap .i64 (x22 + 1))), (.bool true), (.int .i64 x22), (.tup [(.agg [(.int .i64 x68), (.int .i64 x69)]), (.agg [(.int .i64 x71), (.int .i64 x72)])]), (.lst a0), (.int .i64 x22), (.tup [(.agg [(.int .i64 x68), (.int .i64 x69)]), (.agg [(.int .i64 x71), (.int .i64 x72)])]), (.agg [(.int .i64 x68), (.int .i64 x69)]), (.agg [(.int .i64 x71), (.int .i64 x72)]), (.agg [(.int .i64 x84), (.int .i64 x85)]), (.agg [(.int .i64 x89), (.int .i64 x90)]), (.agg [(.int .i64 x94), (.int .i64 x95)]), (.bool false), v97, (.int .i64 x101), v102, (.int .i64 x106), (.bool false), v40, v41, v157, (.int .i64 x161), v162, (.int .i64 x166), (.bool (decide (x161 ≤ x166))), (.bool true), v167, (.int .i64 x171), v172, (.int .i64 x176), (.bool (decide (x171 < x176))), (.bool (decide (x171 < x176))), (.bool true), (.agg [(.int .i64 x180), (.int .i64 x181)]), (.agg [(.int .i64 x185), (.int .i64 x186)]), (.agg [(.int .i64 x190), (.int .i64 x191)]), (.int .i64 x192), (.bool (decide (x192 > 0))), (.bool false), v61, v62, (.int .i64 (IntKind.wrap .i64 (x22 + 1))), (.tup [])], h188⟩))
   (k15 .normal ⟨[(.lst a0), (.agg [(.int .i64 a1), (.int .i64 a2)]), (.tup []), v0, (.int .i64 x17), (.int .i64 x18), (.int .i64 x22), v73, v75, (.lst a0), (.bool b4), (.bool (!b4)), (.bool false), (.agg [(.int .i64 x8), (.int .i64 x9)]), (.bool b10), (.bool (!b10)), (.bool false), (.lst a0), (.int .i64 x13), (.int .i64 (IntKind.wrap .i64 (x22 + 1))), (.bool true), (.int .i64 x22), (.tup [(.agg [(.int .i64 x68), (.int .i64 x69)]), (.agg [(.int .i64 x71), (.int .i64 x72)])]), (.lst a0), (.int .i64 x22), (.tup [(.agg [(.int .i64 x68), (.int .i64 x69)]), (.agg [(.int .i64 x71), (.int .i64 x72)])]), (.agg [(.int .i64 x68), (.int .i64 x69)]), (.agg [(.int .i64 x71), (.int .i64 x72)]), (.agg [(.int .i64 x84), (.int .i64 x85)]), (.agg [(.int .i64 x89), (.int .i64 x90)]), (.agg [(.int .i64 x94), (.int .i64 x95)]), (.bool false), v97, (.int .i64 x101), v102, (.int .i64 x106), (.bool false), v40, v41, v157, (.int .i64 x161), v162, (.int .i64 x166), (.bool (decide (x161 ≤ x166))), (.bool true), v167, (.int .i64 x171), v172, (.int .i64 x176), (.bool (decide (x171 < x176))), (.bool (decide (x171 < x176))), (.bool false), (.tup []), (.tup []), (.tup []), (.tup []), (.tup []), (.bool false), v61, v62, (.int .i64 (IntKind.wrap .i64 (x22 + 1))), (.tup [])], h175⟩))
   (k15 .normal ⟨[(.lst a0), (.agg [(.int .i64 a1), (.int .i64 a2)]), (.tup []), v0, (.int .i64 x17), (.int .i64 x18), (.int .i64 x22), v73, v75, (.lst a0), (.bool b4), (.bool (!b4)), (.bool false), (.agg [(.int .i64 x8), (.int .i64 x9)]), (.bool b10), (.bool (!b10)), (.bool false), (.lst a0), (.int .i64 x13), (.int .i64 (IntKind.wrap .i64 (x22 + 1))), (.bool true), (.int .i64 x22), (.tup [(.agg [(.int .i64 x68), (.int .i64 x69)]), (.agg [(.int .i64 x71), (.int .i64 x72)])]), (.lst a0), (.int .i64 x22), (.tup [(.agg [(.int .i64 x68), (.int .i64 x69)]), (.agg [(.int .i64 x71), (.int .i64 x72)])]), (.agg [(.int .i64 x68), (.int .i64 x69)]), (.agg [(.int .i64 x71), (.int .i64 x72)]), (.agg [(.int .i64 x84), (.int .i64 x85)]), (.agg [(.int .i64 x89), (.int .i64 x90)]), (.agg [(.int .i64 x94), (.int .i64 x95)]), (.bool false), v97, (.int .i64 x101), v102, (.int .i64 x106), (.bool false), v40, v41, v157, (.int .i64 x161), v162, (.int .i64 x166), (.bool (decide (x161 ≤ x166))), (.bool false), (.tup []), (.tup []), (.tup []), (.tup []), (.tup []), (.bool false), (.bool false), (.tup []), (.tup []), (.tup []), (.tup []), (.tup []), (.bool false), v61, v62, (.int .i64 (IntKind.wrap .i64 (x22 + 1))), (.tup [])], h165⟩))))
   (none))
   (k15 (.exit 0) ⟨[(.lst a0), (.agg [(.int .i64 a1), (.int .i64 a2)]), (.tup []), v0, (.int .i64 x17), (.int .i64 x18), v19, v20, v21, (.lst a0), (.bool b4), (.bool (!b4)), (.bool false), (.agg [(.int .i64 x8), (.int .i64 x9)]), (.bool b10), (.bool (!b10)), (.bool false), (.lst a0), (.int .i64 x13), (.int .i64 x22), (.bool false), v24, v25, v26, v27, v28, v29, v30, v31, v32, v33, v34, v35, v36, v37, v38, v39, v40, v41, v42, v43, v44, v45, v46, v47, v48, v49, v50, v51, v52, v53, v54, v55, v56, v57, v58, v59, v60, v61, v62, v63, (.tup [])], (St.H s14)⟩))
   (none)
def r31X0_0 (C : Cb) (d : Nat) (a0 : List AV) (a1 : Int) (a2 : Int) (v0 : AV) (b4 : Bool) (x8 : Int) (x9 : Int) (b10 : Bool) (x13 : Int) : St → Ans := fun s193 =>
  cnd ((List.length (St.env s193)) == 62)
   (C.same (St.env s193)[0]? (.lst a0) <|
   C.same (St.env s193)[1]? (.agg [(.int .i64 a1), (.int .i64 a2)]) <|
   C.same (St.env s193)[2]? (.tup []) <|
   C.same (St.env s193)[3]? v0 <|
   C.int .i64 (St.env s193)[4]? fun x194 =>
   C.int .i64 (St.env s193)[5]? fun x195 =>
   C.any (St.env s193)[6]? fun v196 =>
   C.any (St.env s193)[7]? fun v197 =>
   C.any (St.env s193)[8]? fun v198 =>
   C.same (St.env s193)[9]? (.lst a0) <|
   C.same (St.env s193)[10]? (.bool b4) <|
   C.same (St.env s193)[11]? (.bool (!b4)) <|
   C.same (St.env s193)[12]? (.bool false) <|
   C.same (St.env s193)[13]? (.agg [(.int .i64 x8), (.int .i64 x9)]) <|
   C.same (St.env s193)[14]? (.bool b10) <|
   C.same (St.env s193)[15]? (.bool (!b10)) <|
   C.same (St.env s193)[16]? (.bool false) <|
   C.same (St.env s193)[17]? (.lst a0) <|
   C.same (St.env s193)[18]? (.int .i64 x13) <|
   C.int .i64 (St.env s193)[19]? fun x199 =>
   C.any (St.env s193)[20]? fun v200 =>
   C.any (St.env s193)[21]? fun v201 =>
   C.any (St.env s193)[22]? fun v202 =>
   C.any (St.env s193)[23]? fun v203 =>
   C.any (St.env s193)[24]? fun v204 =>
   C.any (St.env s193)[25]? fun v205 =>
   C.any (St.env s193)[26]? fun v206 =>
   C.any (St.env s193)[27]? fun v207 =>
   C.any (St.env s193)[28]? fun v208 =>
   C.any (St.env s193)[29]? fun v209 =>
   C.any (St.env s193)[30]? fun v210 =>
   C.any (St.env s193)[31]? fun v211 =>
   C.any (St.env s193)[32]? fun v212 =>
   C.any (St.env s193)[33]? fun v213 =>
   C.any (St.env s193)[34]? fun v214 =>
   C.any (St.env s193)[35]? fun v215 =>
   C.any (St.env s193)[36]? fun v216 =>
   C.any (St.env s193)[37]? fun v217 =>
   C.any (St.env s193)[38]? fun v218 =>
   C.any (St.env s193)[39]? fun v219 =>
   C.any (St.env s193)[40]? fun v220 =>
   C.any (St.env s193)[41]? fun v221 =>
   C.any (St.env s193)[42]? fun v222 =>
   C.any (St.env s193)[43]? fun v223 =>
   C.any (St.env s193)[44]? fun v224 =>
   C.any (St.env s193)[45]? fun v225 =>
   C.any (St.env s193)[46]? fun v226 =>
   C.any (St.env s193)[47]? fun v227 =>
   C.any (St.env s193)[48]? fun v228 =>
   C.any (St.env s193)[49]? fun v229 =>
   C.any (St.env s193)[50]? fun v230 =>
   C.any (St.env s193)[51]? fun v231 =>
   C.any (St.env s193)[52]? fun v232 =>
   C.any (St.env s193)[53]? fun v233 =>
   C.any (St.env s193)[54]? fun v234 =>
   C.any (St.env s193)[55]? fun v235 =>
   C.any (St.env s193)[56]? fun v236 =>
   C.any (St.env s193)[57]? fun v237 =>
   C.any (St.env s193)[58]? fun v238 =>
   C.any (St.env s193)[59]? fun v239 =>
   C.any (St.env s193)[60]? fun v240 =>
   C.same (St.env s193)[61]? (.tup []) <|
   C.fin (St.H s193) (.int .i64 x195))
   (none)
def r31E0 (C : Cb) (d : Nat) (a0 : List AV) (a1 : Int) (a2 : Int) (v0 : AV) (b4 : Bool) (x8 : Int) (x9 : Int) (b10 : Bool) (x13 : Int) : St → Ans := fun s16 =>
  cnd ((List.length (St.env s16)) == 62)
   (C.same (St.env s16)[0]? (.lst a0) <|
   C.same (St.env s16)[1]? (.agg [(.int .i64 a1), (.int .i64 a2)]) <|
   C.same (St.env s16)[2]? (.tup []) <|
   C.same (St.env s16)[3]? v0 <|
   C.int .i64 (St.env s16)[4]? fun x241 =>
   C.int .i64 (St.env s16)[5]? fun x242 =>
   C.int .i64 (St.env s16)[6]? fun x243 =>
   C.any (St.env s16)[7]? fun v244 =>
   C.any (St.env s16)[8]? fun v245 =>
   C.same (St.env s16)[9]? (.lst a0) <|
   C.same (St.env s16)[10]? (.bool b4) <|
   C.same (St.env s16)[11]? (.bool (!b4)) <|
   C.same (St.env s16)[12]? (.bool false) <|
   C.same (St.env s16)[13]? (.agg [(.int .i64 x8), (.int .i64 x9)]) <|
   C.same (St.env s16)[14]? (.bool b10) <|
   C.same (St.env s16)[15]? (.bool (!b10)) <|
   C.same (St.env s16)[16]? (.bool false) <|
   C.same (St.env s16)[17]? (.lst a0) <|
   C.same (St.env s16)[18]? (.int .i64 x13) <|
   C.int .i64 (St.env s16)[19]? fun x246 =>
   C.any (St.env s16)[20]? fun v247 =>
   C.int .i64 (St.env s16)[21]? fun x248 =>
   C.tup 2 (St.env s16)[22]? fun l249 =>
   C.agg 2 l249[0]? fun l250 =>
   C.int .i64 l250[0]? fun x251 =>
   C.int .i64 l250[1]? fun x252 =>
   C.agg 2 l249[1]? fun l253 =>
   C.int .i64 l253[0]? fun x254 =>
   C.int .i64 l253[1]? fun x255 =>
   C.any (St.env s16)[23]? fun v256 =>
   C.int .i64 (St.env s16)[24]? fun x257 =>
   C.tup 2 (St.env s16)[25]? fun l258 =>
   C.agg 2 l258[0]? fun l259 =>
   C.int .i64 l259[0]? fun x260 =>
   C.int .i64 l259[1]? fun x261 =>
   C.agg 2 l258[1]? fun l262 =>
   C.int .i64 l262[0]? fun x263 =>
   C.int .i64 l262[1]? fun x264 =>
   C.agg 2 (St.env s16)[26]? fun l265 =>
   C.int .i64 l265[0]? fun x266 =>
   C.int .i64 l265[1]? fun x267 =>
   C.agg 2 (St.env s16)[27]? fun l268 =>
   C.int .i64 l268[0]? fun x269 =>
   C.int .i64 l268[1]? fun x270 =>
   C.agg 2 (St.env s16)[28]? fun l271 =>
   C.int .i64 l271[0]? fun x272 =>
   C.int .i64 l271[1]? fun x273 =>
   C.agg 2 (St.env s16)[29]? fun l274 =>
   C.int .i64 l274[0]? fun x275 =>
   C.int .i64 l274[1]? fun x276 =>
   C.agg 2 (St.env s16)[30]? fun l277 =>
   C.int .i64 l277[0]? fun x278 =>
   C.int .i64 l277[1]? fun x279 =>
   C.bool (St.env s16)[31]? fun b280 =>
   C.any (St.env s16)[32]? fun v281 =>
   C.any (St.env s16)[33]? fun v282 =>
   C.any (St.env s16)[34]? fun v283 =>
   C.any (St.env s16)[35]? fun v284 =>
   C.any (St.env s16)[36]? fun v285 =>
   C.any (St.env s16)[37]? fun v286 =>
   C.any (St.env s16)[38]? fun v287 =>
   C.any (St.env s16)[39]? fun v288 =>
   C.any (St.env s16)[40]? fun v289 =>
   C.any (St.env s16)[41]? fun v290 =>
   C.any (St.env s16)[42]? fun v291 =>
   C.any (St.env s16)[43]? fun v292 =>
   C.any (St.env s16)[44]? fun v293 =>
   C.any (St.env s16)[45]? fun v294 =>
   C.any (St.env s16)[46]? fun v295 =>
   C.any (St.env s16)[47]? fun v296 =>
   C.any (St.env s16)[48]? fun v297 =>
   C.any (St.env s16)[49]? fun v298 =>
   C.any (St.env s16)[50]? fun v299 =>
   C.any (St.env s16)[51]? fun v300 =>
   C.any (St.env s16)[52]? fun v301 =>
   C.any (St.env s16)[53]? fun v302 =>
   C.any (St.env s16)[54]? fun v303 =>
   C.any (St.env s16)[55]? fun v304 =>
   C.any (St.env s16)[56]? fun v305 =>
   C.any (St.env s16)[57]? fun v306 =>
   C.any (St.env s16)[58]? fun v307 =>
   C.any (St.env s16)[59]? fun v308 =>
   C.any (St.env s16)[60]? fun v309 =>
   C.same (St.env s16)[61]? (.tup []) <|
   C.fin (St.H s16) (.int .i64 x241))
   (none)
/-- apogee/poly.Side -/
theorem r31 (C : Cb) (d : Nat) (a0 : List AV) (a1 : Int) (a2 : Int) : xcall C M unr d 31 [(.lst a0), (.agg [(.int .i64 a1), (.int .i64 a2)])] =
  C.hop [] (.box E23 (.v (.agg [(.int .i64 a1), (.int .i64 a2)]))) fun v0 h1 =>
  C.snp h1 [(.lst a0)] fun l2 b3 =>
  C.bool (pcall M d 43 l2) fun b4 =>
  cnd (b3 || true)
   (cnd (!b4)
   (C.fin h1 (.int .i64 (-1)))
   (C.hop h1 (.load true 2 (.v v0)) fun v5 h6 =>
   C.agg 2 (some v5) fun l7 =>
   C.int .i64 l7[0]? fun x8 =>
   C.int .i64 l7[1]? fun x9 =>
   C.bool (pcall M d 35 [(.agg [(.int .i64 x8), (.int .i64 x9)])]) fun b10 =>
   cnd (!b10)
   (C.fin h6 (.int .i64 (-1)))
   (C.hop h6 (.bk .lenV [(.v (.lst a0))]) fun v11 h12 =>
   C.int .i64 (some v11) fun x13 =>
   C.iter (r31R0 C d a0 a1 a2 v0 b4 x8 x9 b10 x13) 1000000000000000000 ⟨[(.lst a0), (.agg [(.int .i64 a1), (.int .i64 a2)]), (.tup []), v0, (.int .i64 0), (.int .i64 (-1)), (.tup []), (.tup []), (.tup []), (.lst a0), (.bool b4), (.bool (!b4)), (.bool false), (.agg [(.int .i64 x8), (.int .i64 x9)]), (.bool b10), (.bool (!b10)), (.bool false), (.lst a0), (.int .i64 x13), (.int .i64 0), (.tup []), (.tup []), (.tup []), (.tup []), (.tup []), (.tup []), (.tup []), (.tup []), (.tup []), (.tup []), (.tup []), (.tup []), (.tup []), (.tup []), (.tup []), (.tup []), (.tup []), (.tup []), (.tup []), (.tup []), (.tup []), (.tup []), (.tup []), (.tup []), (.tup []), (.tup []), (.tup []), (.tup []), (.tup []), (.tup []), (.tup []), (.tup []), (.tup []), (.tup []), (.tup []), (.tup []), (.tup []), (.tup []), (.tup []), (.tup []), (.tup []), (.tup [])], h12⟩ [0] [r31X0_0 C d a0 a1 a2 v0 b4 x8 x9 b10 x13] (r31E0 C d a0 a1 a2 v0 b4 x8 x9 b10 x13))))
   (none) := by kernel_rfl
/-- slices.ContainsFunc[[]apogee/api.Point,apogee/api.Point] -/
theorem r40f70 (C : Cb) (d : Nat) (a0 : List AV) (a1 : AV) : xcall C M unr d 40 [(.lst a0), (.fn 70 [] [])] =
  C.int .i64 (pcall M d 53 [(.lst a0), (.fn 70 [] [])]) fun x0 =>
  some (.bool (decide (x0 ≥ 0))) := by kernel_rfl
/-- slices.ContainsFunc[[]apogee/api.Point,apogee/api.Point] -/
theorem r40f57 (C : Cb) (d : Nat) (a0 : List AV) (a1 : AV) : xcall C M unr d 40 [(.lst a0), (.fn 57 [] [])] =
  C.int .i64 (pcall M d 53 [(.lst a0), (.fn 57 [] [])]) fun x0 =>
  some (.bool (decide (x0 ≥ 0))) := by kernel_rfl
/-- apogee/poly.Right -/
theorem r43 (C : Cb) (d : Nat) (a0 : List AV) : xcall C M unr d 43 [(.lst a0)] =
  C.bool (pcall M d 56 [(.lst a0)]) fun b0 =>
  cnd b0
   (C.bool (pcall M d 40 [(.lst a0), (.fn 57 [] [])]) fun b1 =>
   some (.bool (!b1)))
   (some (.bool false)) := by kernel_rfl
def r44R0 (C : Cb) (d : Nat) (a0 : List AV) (a1 : Int) (a2 : Int) (v0 : AV) (b4 : Bool) (x8 : Int) (x9 : Int) (b10 : Bool) : St → (Ex → St → Ans) → Ans := fun s11 k12 =>
  cnd ((List.length (St.env s11)) == 63)
   (C.same (St.env s11)[0]? (.lst a0) <|
   C.same (St.env s11)[1]? (.agg [(.int .i64 a1), (.int .i64 a2)]) <|
   C.same (St.env s11)[2]? (.tup []) <|
   C.same (St.env s11)[3]? v0 <|
   C.int .i64 (St.env s11)[4]? fun x14 =>
   C.bool (St.env s11)[5]? fun b15 =>
   C.int .i64 (St.env s11)[6]? fun x16 =>
   C.any (St.env s11)[7]? fun v17 =>
   C.any (St.env s11)[8]? fun v18 =>
   C.same (St.env s11)[9]? (.lst a0) <|
   C.same (St.env s11)[10]? (.bool b4) <|
   C.same (St.env s11)[11]? (.bool (!b4)) <|
   C.same (St.env s11)[12]? (.bool false) <|
   C.same (St.env s11)[13]? (.agg [(.int .i64 x8), (.int .i64 x9)]) <|
   C.same (St.env s11)[14]? (.bool b10) <|
   C.same (St.env s11)[15]? (.bool (!b10)) <|
   C.same (St.env s11)[16]? (.bool false) <|
   C.any (St.env s11)[17]? fun v19 =>
   C.any (St.env s11)[18]? fun v20 =>
   C.any (St.env s11)[19]? fun v21 =>
   C.any (St.env s11)[20]? fun v22 =>
   C.any (St.env s11)[21]? fun v23 =>
   C.any (St.env s11)[22]? fun v24 =>
   C.any (St.env s11)[23]? fun v25 =>
   C.any (St.env s11)[24]? fun v26 =>
   C.any (St.env s11)[25]? fun v27 =>
   C.any (St.env s11)[26]? fun v28 =>
   C.any (St.env s11)[27]? fun v29 =>
   C.any (St.env s11)[28]? fun v30 =>
   C.any (St.env s11)[29]? fun v31 =>
   C.any (St.env s11)[30]? fun v32 =>
   C.any (St.env s11)[31]? fun v33 =>
   C.any (St.env s11)[32]? fun v34 =>
   C.any (St.env s11)[33]? fun v35 =>
   C.any (St.env s11)[34]? fun v36 =>
   C.any (St.env s11)[35]? fun v37 =>
   C.any (St.env s11)[36]? fun v38 =>
   C.any (St.env s11)[37]? fun v39 =>
   C.any (St.env s11)[38]? fun v40 =>
   C.any (St.env s11)[39]? fun v41 =>
   C.any (St.env s11)[40]? fun v42 =>
   C.any (St.env s11)[41]? fun v43 =>
   C.any (St.env s11)[42]? fun v44 =>
   C.any (St.env s11)[43]? fun v45 =>
   C.any (St.env s11)[44]? fun v46 =>
   C.any (St.env s11)[45]? fun v47 =>
   C.any (St.env s11)[46]? fun v48 =>
   C.any (St.env s11)[47]? fun v49 =>
   C.any (St.env s11)[48]? fun v50 =>
   C.any (St.env s11)[49]? fun v51 =>
   C.any (St.env s11)[50]? fun v52 =>
   C.any (St.env s11)[51]? fun v53 =>
   C.any (St.env s11)[52]? fun v54 =>
   C.any (St.env s11)[53]? fun v55 =>
   C.any (St.env s11)[54]? fun v56 =>
   C.any (St.env s11)[55]? fun v57 =>
   C.any (St.env s11)[56]? fun v58 =>
   C.any (St.env s11)[57]? fun v59 =>
   C.any (St.env s11)[58]? fun v60 =>
   C.any (St.env s11)[59]? fun v61 =>
   C.any (St.env s11)[60]? fun v62 =>
   C.any (St.env s11)[61]? fun v63 =>
   C.same (St.env s11)[62]? (.tup []) <|
   C.hop (St.H s11) (.bk .lenV [(.v (.lst a0))]) fun v64 h65 =>
   C.int .i64 (some v64) fun x66 =>
   cnd (decide (x16 < x66))
   (C.hop h65 (.ixAS .any 2 (.v (.lst a0)) (.v (.int .i64 x16))) fun v67 h68 =>
   C.hop h68 (.load true 2 (.v v67)) fun v69 h70 =>
   C.agg 2 (some v69) fun l71 =>
   C.int .i64 l71[0]? fun x72 =>
   C.int .i64 l71[1]? fun x73 =>
   C.snp h70 [(.lst a0), (.int .i64 x16)] fun l74 b75 =>
   C.agg 2 (pcall M d 58 l74) fun l76 =>
   C.int .i64 l76[0]? fun x77 =>
   C.int .i64 l76[1]? fun x78 =>
   cnd (b75 || true)
   (C.hop h70 (.alloc E23) fun v79 h80 =>
   C.hop h80 (.alloc E23) fun v81 h82 =>
   C.hop h82 (.store 2 (.v v79) (.v (.agg [(.int .i64 x72), (.int .i64 x73)]))) fun v83 h84 =>
   C.hop h84 (.store 2 (.v v81) (.v (.agg [(.int .i64 x77), (.int .i64 x78)]))) fun v85 h86 =>
   C.hop h86 (.load true 2 (.v v0)) fun v87 h88 =>
   C.agg 2 (some v87) fun l89 =>
   C.int .i64 l89[0]? fun x90 =>
   C.int .i64 l89[1]? fun x91 =>
   C.hop h88 (.load true 2 (.v v79)) fun v92 h93 =>
   C.agg 2 (some v92) fun l94 =>
   C.int .i64 l94[0]? fun x95 =>
   C.int .i64 l94[1]? fun x96 =>
   C.hop h93 (.load true 2 (.v v81)) fun v97 h98 =>
   C.agg 2 (some v97) fun l99 =>
   C.int .i64 l99[0]? fun x100 =>
   C.int .i64 l99[1]? fun x101 =>
   C.bool (pcall M d 54 [(.agg [(.int .i64 x90), (.int .i64 x91)]), (.agg [(.int .i64 x95), (.int .i64 x96)]), (.agg [(.int .i64 x100), (.int .i64 x101)])]) fun b102 =>
   cnd b102
   (k12 .ret ⟨[(.lst a0), (.agg [(.int .i64 a1), (.int .i64 a2)]), (.tup []), v0, (.int .i64 0), (.bool b15), (.int .i64 x16), v79, v81, (.lst a0), (.bool b4), (.bool (!b4)), (.bool false), (.agg [(.int .i64 x8), (.int .i64 x9)]), (.bool b10), (.bool (!b10)), (.bool false), (.int .i64 x16), (.lst a0), (.int .i64 x66), (.bool true), v23, v24, (.lst a0), (.int .i64 x16), v67, (.agg [(.int .i64 x72), (.int .i64 x73)]), (.lst a0), (.int .i64 x16), (.agg [(.int .i64 x77), (.int .i64 x78)]), (.agg [(.int .i64 x90), (.int .i64 x91)]), (.agg [(.int .i64 x95), (.int .i64 x96)]), (.agg [(.int .i64 x100), (.int .i64 x101)]), (.bool true), v36, v37, v38, v39, v40, v41, v42, v43, v44, v45, v46, v47, v48, v49, v50, v51, v52, v53, v54, v55, v56, v57, v58, v59, v60, v61, v62, v63, (.tup [])], h98⟩)
   (C.hop h98 (.fldA 1 (.v v79)) fun v103 h104 =>
   C.hop h104 (.load false 1 (.v v103)) fun v105 h106 =>
   C.int .i64 (some v105) fun x107 =>
   C.hop h106 (.fldA 1 (.v v81)) fun v108 h109 =>
   C.hop h109 (.load false 1 (.v v108)) fun v110 h111 =>
   C.int .i64 (some v110) fun x112 =>
   cnd (decide (x107 > x112))
   (C.hop h111 (.load true 2 (.v v81)) fun v113 h114 =>
   C.agg 2 (some v113) fun l115 =>
   C.int .i64 l115[0]? fun x116 =>
   C.int .i64 l115[1]? fun x117 =>
   C.hop h114 (.load true 2 (.v v79)) fun v118 h119 =>
   C.agg 2 (some v118) fun l120 =>
   C.int .i64 l120[0]? fun x121 =>
   C.int .i64 l120[1]? fun x122 =>
   C.hop h119 (.store 2 (.v v79) (.v (.agg [(.int .i64 x116), (.int .i64 x117)]))) fun v123 h124 =>
   C.hop h124 (.store 2 (.v v81) (.v (.agg [(.int .i64 x121), (.int .i64 x122)]))) fun v125 h126 =>
   C.hop h126 (.fldA 1 (.v v79)) fun v127 h128 =>
   C.hop h128 (.load false 1 (.v v127)) fun v129 h130 =>
   C.int .i64 (some v129) fun x131 =>
   C.hop h130 (.fldA 1 (.v v0)) fun v132 h133 =>
   C.hop h133 (.load false 1 (.v v132)) fun v134 h135 =>
   C.int .i64 (some v134) fun x136 =>
   cnd (decide (x131 ≤ x136))
   (C.hop h135 (.fldA 1 (.v v81)) fun v137 h138 =>
   C.hop h138 (.load false 1 (.v v137)) fun v139 h140 =>
   C.int .i64 (some v139) fun x141 =>
   C.hop h140 (.fldA 1 (.v v0)) fun v142 h143 =>
   C.hop h143 (.load false 1 (.v v142)) fun v144 h145 =>
   C.int .i64 (some v144) fun x146 =>
   cnd (decide (x141 > x146))
   (C.hop h145 (.load true 2 (.v v79)) fun v147 h148 =>
   C.agg 2 (some v147) fun l149 =>
   C.int .i64 l149[0]? fun x150 =>
   C.int .i64 l149[1]? fun x151 =>
   C.hop h148 (.load true 2 (.v v81)) fun v152 h153 =>
   C.agg 2 (some v152) fun l154 =>
   C.int .i64 l154[0]? fun x155 =>
   C.int .i64 l154[1]? fun x156 =>
   C.hop h153 (.load true 2 (.v v0)) fun v157 h158 =>
   C.agg 2 (some v157) fun l159 =>
   C.int .i64 l159[0]? fun x160 =>
   C.int .i64 l159[1]? fun x161 =>
   C.int .i64 (pcall M d 55 [(.agg [(.int .i64 x150), (.int .i64 x151)]), (.agg [(.int .i64 x155), (.int .i64 x156)]), (.agg [(.int .i64 x160), (.int .i64 x161)])]) fun x162 =>
   cnd (decide (x162 > 0))
   (k12 .normal ⟨[(.lst a0), (.agg [(.int .i64 a1), (.int .i64 a2)]), (.tup []), v0, (.int .i64 x14), (.bool (!b15)), (.int .i64 (IntKind.wrap .i64 (x16 + 1))), v79, v81, (.lst a0), (.bool b4), (.bool (!b4)), (.bool false), (.agg [(.int .i64 x8), (.int .i64 x9)]), (.bool b10), (.bool (!b10)), (.bool false), (.int .i64 x16), (.lst a0), (.int .i64 x66), (.bool true), (.int .i64 x16), (.int .i64 (IntKind.wrap .i64 (x16 + 1))), (.lst a0), (.int .i64 x16), v67, (.agg [(.int .i64 x72), (.int .i64 x73)]), (.lst a0), (.int .i64 x16), (.agg [(.int .i64 x77), (.int .i64 x78)]), (.agg [(.int .i64 x90), (.int .i64 x91)]), (.agg [(.int .i64 x95), (.int .i64 x96)]), (.agg [(.int .i64 x100), (.int .i64 x101)]), (.bool false), v103, (.int .i64 x107), v108, (.int .i64 x112), (.bool true), (.agg [(.int .i64 x116), (.int .i64 x117)]), (.agg [(.int .i64 x121), (.int .i64 x122)]), v127, (.int .i64 x131), v132, (.int .i64 x136), (.bool (decide (x131 ≤ x136))), (.bool true), v137, (.int .i64 x141), v142, (.int .i64 x146), (.bool (decide (x141 > x146))), (.bool (decide (x141 > x146))), (.bool true), (.agg [(.int .i64 x150), (.int .i64 x151)]), (.agg [(.int .i64 x155), (.int .i64 x156)]), (.agg [(.int .i64 x160), (.int .i64 x161)]), (.int .i64 x162), (.bool (decide (x162 > 0))), (.bool true), (.bool b15), (.bool (!b15)), (.tup [])], h158⟩)
   (k12 .normal ⟨[(.lst a0), (.agg [(.int .i64 a1), (.int .i64 a2)]), (.tup []), v0, (.int .i64 x14), (.bool b15), (.int .i64 (IntKind.wrap .i64 (x16 + 1))), v79, v81, (.lst a0), (.bool b4), (.bool (!b4)), (.bool false), (.agg [(.int .i64 x8), (.int .i64 x9)]), (.bool b10), (.bool (!b10)), (.bool false), (.int .i64 x16), (.lst a0), (.int .i64 x66), (.bool true), (.int .i64 x16), (.int .i64 (IntKind.wrap .i64 (x16 + 1))), (.lst a0), (.int .i64 x16), v67, (.agg [(.int .i64 x72), (.int .i64 x73)]), (.lst a0), (.int .i64 x16), (.agg [(.int .i64 x77), (.int .i64 x78)]), (.agg [(.int .i64 x90), (.int .i64 x91)]), (.agg [(.int .i64 x95), (.int .i64 x96)]), (.agg [(.int .i64 x100), (.int .i64 x101)]), (.bool false), v103, (.int .i64 x107), v108, (.int .i64 x112), (.bool true), (.agg [(.int .i64 x116), (.int .i64 x117)]), (.agg [(.int .i64 x121), (.int .i64 x122)]), v127, (.int .i64 x131), v132, (.int .i64 x136), (.bool (decide (x131 ≤ x136))), (.bool true), v137, (.int .i64 x141), v142, (.int .i64 x146), (.bool (decide (x141 > x146))), (.bool (decide (x141 > x146))), (.bool true), (.agg [(.int .i64 x150), (.int .i64 x151)]), (.agg [(.int .i64 x155), (.int .i64 x156)]), (.agg [(.int .i64 x160), (.int .i64 x161)]), (.int .i64 x162), (.bool (decide (x162 > 0))), (.bool false), v62, v63, (.tup [])], h158⟩))
   (k12 .normal ⟨[(.lst a0), (.agg [(.int .i64 a1), (.int .i64 a2)]), (.tup []), v0, (.int .i64 x14), (.bool b15), (.int .i64 (IntKind.wrap .i64 (x16 + 1))), v79, v81, (.lst a0), (.bool b4), (.bool (!b4)), (.bool false), (.agg [(.int .i64 x8), (.int .i64 x9)]), (.bool b10), (.bool (!b10)), (.bool false), (.int .i64 x16), (.lst a0), (.int .i64 x66), (.bool true), (.int .i64 x16), (.int .i64 (IntKind.wrap .i64 (x16 + 1))), (.lst a0), (.int .i64 x16), v67, (.agg [(.int .i64 x72), (.int .i64 x73)]), (.lst a0), (.int .i64 x16), (.agg [(.int .i64 x77), (.int .i64 x78)]), (.agg [(.int .i64 x90), (.int .i64 x91)]), (.agg [(.int .i64 x95), (.int .i64 x96)]), (.agg [(.int .i64 x100), (.int .i64 x101)]), (.bool false), v103, (.int .i64 x107), v108, (.int .i64 x112), (.bool true), (.agg [(.int .i64 x116), (.int .i64 x117)]), (.agg [(.int .i64 x121), (.int .i64 x122)]), v127, (.int .i64 x131), v132, (.int .i64 x136), (.bool (decide (x131 ≤ x136))), (.bool true), v137, (.int .i64 x141), v142, (.int .i64 x146), (.bool (decide (x141 > x146))), (.bool (decide (x141 > x146))), (.bool false), (.tup []), (.tup []), (.tup []), (.tup []), (.tup []), (.bool false), v62, v63, (.tup [])], h145⟩))
   (k12 .normal ⟨[(.lst a0), (.agg [(.int .i64 a1), (.int .i64 a2)]), (.tup []), v0, (.int .i64 x14), (.bool b15), (.int .i64 (IntKind.wrap .i64 (x16 + 1))), v79, v81, (.lst a0), (.bool b4), (.bool (!b4)), (.bool false), (.agg [(.int .i64 x8), (.int .i64 x9)]), (.bool b10), (.bool (!b10)), (.bool false), (.int .i64 x16), (.lst a0), (.int .i64 x66), (.bool true), (.int .i64 x16), (.int .i64 (IntKind.wrap .i64 (x16 + 1))), (.lst a0), (.int .i64 x16), v67, (.agg [(.int .i64 x72), (.int .i64 x73)]), (.lst a0), (.int .i64 x16), (.agg [(.int .i64 x77), (.int .i64 x78)]), (.agg [(.int .i64 x90), (.int .i64 x91)]), (.agg [(.int .i64 x95), (.int .i64 x96)]), (.agg [(.int .i64 x100), (.int .i64 x101)]), (.bool false), v103, (.int .i64 x107), v108, (.int .i64 x112), (.bool true), (.agg [(.int .i64 x116), (.int .i64 x117)]), (.agg [(.int .i64 x121), (.int .i64 x122)]), v127, (.int .i64 x131), v132, (.int .i64 x136), (.bool (decide (x131 ≤ x136))), (.bool false), (.tup []), (.tup []), (.tup []), (.tup []), (.tup []), (.bool false), (.bool false), (.tup []), (.tup []), (.tup []), (.tup []), (.tup []), (.bool false), v62, v63, (.tup [])], h135⟩))
   (C.hop h111 (.fldA 1 (.v v79)) fun v163 h164 =>
   C.hop h164 (.load false 1 (.v v163)) fun v165 h166 =>
   C.int .i64 (some v165) fun x167 =>
   C.hop h166 (.fldA 1 (.v v0)) fun v168 h169 =>
   C.hop h169 (.load false 1 (.v v168)) fun v170 h171 =>
   C.int .i64 (some v170) fun x172 =>
   cnd (decide (x167 ≤ x172))
   (C.hop h171 (.fldA 1 (.v v81)) fun v173 h174 =>
   C.hop h174 (.load false 1 (.v v173)) fun v175 h176 =>
   C.int .i64 (some v175) fun x177 =>
   C.hop h176 (.fldA 1 (.v v0)) fun v178 h179 =>
   C.hop h179 (.load false 1 (.v v178)) fun v180 h181 =>
   C.int .i64 (some v180) fun x182 =>
   cnd (decide (x177 > x182))
   (C.hop h181 (.load true 2 (.v v79)) fun v183 h184 =>
   C.agg 2 (some v183) fun l185 =>
   C.int .i64 l185[0]? fun x186 =>
   C.int .i64 l185[1]? fun x187 =>
   C.hop h184 (.load true 2 (.v v81)) fun v188 h189 =>
   C.agg 2 (some v188) fun l190 =>
   C.int .i64 l190[0]? fun x191 =>
   C.int .i64 l190[1]? fun x192 =>
   C.hop h189 (.load true 2 (.v v0)) fun v193 h194 =>
   C.agg 2 (some v193) fun l195 =>
   C.int .i64 l195[0]? fun x196 =>
   C.int .i64 l195[1]? fun x197 =>
   C.int .i64 (pcall M d 55 [(.agg [(.int .i64 x186), (.int .i64 x187)]), (.agg [(.int .i64 x191), (.int .i64 x192)]), (.agg [(.int .i64 x196), (.int .i64 x197)])]) fun x198 =>
   cnd (decide (x198 > 0))
   (k12 .normal ⟨[(.lst a0), (.agg [(.int .i64 a1), (.int .i64 a2)]), (.tup []), v0, (.int .i64 x14), (.bool (!b15)), (.int .i64 (IntKind.wrap .i64 (x16 + 1))), v79, v81, (.lst a0), (.bool b4), (.bool (!b4)), (.bool false), (.agg [(.int .i64 x8), (.int .i64 x9)]), (.bool b10), (.bool (!b10)), (.bool false), (.int .i64 x16), (.lst a0), (.int .i64 x66), (.bool true), (.int .i64 x16), (.int .i64 (IntKind.wrap .i64 (x16 + 1))), (.lst a0), (.int .i64 x16), v67, (.agg [(.int .i64 x72), (.int .i64 x73)]), (.lst a0), (.int .i64 x16), (.agg [(.int .i64 x77), (.int .i64 x78)]), (.agg [(.int .i64 x90), (.int .i64 x91)]), (.agg [(.int .i64 x95), (.int .i64 x96)]), (.agg [(.int .i64 x100), (.int .i64 x101)]), (.bool false), v103, (.int .i64 x107), v108, (.int .i64 x112), (.bool false), v41, v42, v163, (.int .i64 x167), v168, (.int .i64 x172), (.bool (decide (x167 ≤ x172))), (.bool true), v173, (.int .i64 x177), v178, (.int .i64 x182), (.bool (decide (x177 > x182))), (.bool (decide (x177 > x182))), (.bool true), (.agg [(.int .i64 x186), (.int .i64 x187)]), (.agg [(.int .i64 x191), (.int .i64 x192)]), (.agg [(.int .i64 x196), (.int .i64 x197)]), (.int .i64 x198), (.bool (decide (x198 > 0))), (.bool true), (.bool b15), (.bool (!b15)), (.tup [])], h194⟩)
   (k12 .normal ⟨[(.lst a0), (.agg [(.int .i64 a1), (.int .i64 a2)]), (.tup []), v0, (.int .i64 x14), (.bool b15), (.int .i64 (IntKind.wrap .i64 (x16 + 1))), v79, v81, (.lst a0), (.bool b4), (.bool (!b4)), (.bool false), (.agg [(.int .i64 x8), (.int .i64 x9)]), (.bool b10), (.bool (!b10)), (.bool false), (.int .i64 x16), (.lst a0), (.int .i64 x66), (.bool true), (.int .i64 x16), (.int .i64 (IntKind.wrap .i64 (x16 + 1))), (.lst a0), (.int .i64 x16), v67, (.agg [(.int .i64 x72), (.int .i64 x73)]), (.lst a0), (.int .i64 x16), (.agg [(.int .i64 x77), (.int .i64 x78)]), (.agg [(.int .i64 x90), (.int .i64 x91)]), (.agg [(.int .i64 x95), (.int .i64 x96)]), (.agg [(.int .i64 x100), (.int .i64 x101)]), (.bool false), v103, (.int .i64 x107), v108, (.int .i64 x112), (.bool false), v41, v42, v163, (.int .i64 x167), v168, (.int .i64 x172), (.bool (decide (x167 ≤ x172))), (.bool true), v173, (.int .i64 x177), v178, (.int .i64 x182), (.bool (decide (x177 > x182))), (.bool (decide (x177 > x182))), (.bool true), (.agg [(.int .i64 x186), (.int .i64 x187)]), (.agg [(.int .i64 x191), (.int .i64 x192)]), (.agg [(.int .i64 x196), (.int .i64 x197)]), (.int .i64 x198), (.bool (decide (x198 > 0))), (.bool false), v62, v63, (.tup [])], h194⟩))
   (k12 .normal ⟨[(.lst a0), (.agg [(.int .i64 a1), (.int .i64 a2)]), (.tup []), v0, (.int .i64 x14), (.bool b15), (.int .i64 (IntKind.wrap .i64 (x16 + 1))), v79, v81, (.lst a0), (.bool b4), (.bool (!b4)), (.bool false), (.agg [(.int .i64 x8), (.int .i64 x9)]), (.bool b10), (.bool (!b10)), (.bool false), (.int .i64 x16), (.lst a0), (.int .i64 x66), (.bool true), (.int .i64 x16), (.int .i64 (IntKind.wrap .i64 (x16 + 1))), (.lst a0), (.int .i64 x16), v67, (.agg [(.int .i64 x72), (.int .i64 x73)]), (.lst a0), (.int .i64 x16), (.agg [(.int .i64 x77), (.int .i64 x78)]), (.agg [(.int .i64 x90), (.int .i64 x91)]), (.agg [(.int .i64 x95), (.int .i64 x96)]), (.agg [(.int .i64 x100), (.int .i64 x101)]), (.bool false), v103, (.int .i64 x107), v108, (.int .i64 x112), (.bool false), v41, v42, v163, (.int .i64 x167), v168, (.int .i64 x172), (.bool (decide (x167 ≤ x172))), (.bool true), v173, (.int .i64 x177), v178, (.int .i64 x182), (.bool (decide (x177 > x182))), (.bool (decide (x177 > x182))), (.bool false), (.tup []), (.tup []), (.tup []), (.tup []), (.tup []), (.bool false), v62, v63, (.tup [])], h181⟩))
   (k12 .normal ⟨[(.lst a0), (.agg [(.int .i64 a1), (.int .i64 a2)]), (.tup []), v0, (.int .i64 x14), (.bool b15), (.int .i64 (IntKind.wrap .i64 (x16 + 1))), v79, v81, (.lst a0), (.bool b4), (.bool (!b4)), (.bool false), (.agg [(.int .i64 x8), (.int .i64 x9)]), (.bool b10), (.bool (!b10)), (.bool false), (.int .i64 x16), (.lst a0), (.int .i64 x66), (.bool true), (.int .i64 x16), (.int .i64 (IntKind.wrap .i64 (x16 + 1))), (.lst a0), (.int .i64 x16), v67, (.agg [(.int .i64 x72), (.int .i64 x73)]), (.lst a0), (.int .i64 x16), (.agg [(.int .i64 x77), (.int .i64 x78)]), (.agg [(.int .i64 x90), (.int .i64 x91)]), (.agg [(.int .i64 x95), (.int .i64 x96)]), (.agg [(.int .i64 x100), (.int .i64 x101)]), (.bool false), v103, (.int .i64 x107), v108, (.int .i64 x112), (.bool false), v41, v42, v163, (.int .i64 x167), v168, (.int .i64 x172), (.bool (decide (x167 ≤ x172))), (.bool false), (.tup []), (.tup []), (.tup []), (.tup []), (.tup []), (.bool false), (.bool false), (.tup []), (.tup []), (.tup []), (.tup []), (.tup []), (.bool false), v62, v63, (.tup [])], h171⟩))))
   (none))
   (k12 (.exit 0) ⟨[(.lst a0), (.agg [(.int .i64 a1), (.int .i64 a2)]), (.tup []), v0, (.int .i64 x14), (.bool b15), (.int .i64 x16), v17, v18, (.lst a0), (.bool b4), (.bool (!b4)), (.bool false), (.agg [(.int .i64 x8), (.int .i64 x9)]), (.bool b10), (.bool (!b10)), (.bool false), (.int .i64 x16), (.lst a0), (.int .i64 x66), (.bool false), v23, v24, v25, v26, v27, v28, v29, v30, v31, v32, v33, v34, v35, v36, v37, v38, v39, v40, v41, v42, v43, v44, v45, v46, v47, v48, v49, v50, v51, v52, v53, v54, v55, v56, v57, v58, v59, v60, v61, v62, v63, (.tup [])], h65⟩))
   (none)
def r44X0_0 (C : Cb) (d : Nat) (a0 : List AV) (a1 : Int) (a2 : Int) (v0 : AV) (b4 : Bool) (x8 : Int) (x9 : Int) (b10 : Bool) : St → Ans := fun s199 =>
  cnd ((List.length (St.env s199)) == 63)
   (C.same (St.env s199)[0]? (.lst a0) <|
   C.same (St.env s199)[1]? (.agg [(.int .i64 a1), (.int .i64 a2)]) <|
   C.same (St.env s199)[2]? (.tup []) <|
   C.same (St.env s199)[3]? v0 <|
   C.int .i64 (St.env s199)[4]? fun x200 =>
   C.bool (St.env s199)[5]? fun b201 =>
   C.int .i64 (St.env s199)[6]? fun x202 =>
   C.any (St.env s199)[7]? fun v203 =>
   C.any (St.env s199)[8]? fun v204 =>
   C.same (St.env s199)[9]? (.lst a0) <|
   C.same (St.env s199)[10]? (.bool b4) <|
   C.same (St.env s199)[11]? (.bool (!b4)) <|
   C.same (St.env s199)[12]? (.bool false) <|
   C.same (St.env s199)[13]? (.agg [(.int .i64 x8), (.int .i64 x9)]) <|
   C.same (St.env s199)[14]? (.bool b10) <|
   C.same (St.env s199)[15]? (.bool (!b10)) <|
   C.same (St.env s199)[16]? (.bool false) <|
   C.int .i64 (St.env s199)[17]? fun x205 =>
   C.any (St.env s199)[18]? fun v206 =>
   C.int .i64 (St.env s199)[19]? fun x207 =>
   C.bool (St.env s199)[20]? fun b208 =>
   C.any (St.env s199)[21]? fun v209 =>
   C.any (St.env s199)[22]? fun v210 =>
   C.any (St.env s199)[23]? fun v211 =>
   C.any (St.env s199)[24]? fun v212 =>
   C.any (St.env s199)[25]? fun v213 =>
   C.any (St.env s199)[26]? fun v214 =>
   C.any (St.env s199)[27]? fun v215 =>
   C.any (St.env s199)[28]? fun v216 =>
   C.any (St.env s199)[29]? fun v217 =>
   C.any (St.env s199)[30]? fun v218 =>
   C.any (St.env s199)[31]? fun v219 =>
   C.any (St.env s199)[32]? fun v220 =>
   C.any (St.env s199)[33]? fun v221 =>
   C.any (St.env s199)[34]? fun v222 =>
   C.any (St.env s199)[35]? fun v223 =>
   C.any (St.env s199)[36]? fun v224 =>
   C.any (St.env s199)[37]? fun v225 =>
   C.any (St.env s199)[38]? fun v226 =>
   C.any (St.env s199)[39]? fun v227 =>
   C.any (St.env s199)[40]? fun v228 =>
   C.any (St.env s199)[41]? fun v229 =>
   C.any (St.env s199)[42]? fun v230 =>
   C.any (St.env s199)[43]? fun v231 =>
   C.any (St.env s199)[44]? fun v232 =>
   C.any (St.env s199)[45]? fun v233 =>
   C.any (St.env s199)[46]? fun v234 =>
   C.any (St.env s199)[47]? fun v235 =>
   C.any (St.env s199)[48]? fun v236 =>
   C.any (St.env s199)[49]? fun v237 =>
   C.any (St.env s199)[50]? fun v238 =>
   C.any (St.env s199)[51]? fun v239 =>
   C.any (St.env s199)[52]? fun v240 =>
   C.any (St.env s199)[53]? fun v241 =>
   C.any (St.env s199)[54]? fun v242 =>
   C.any (St.env s199)[55]? fun v243 =>
   C.any (St.env s199)[56]? fun v244 =>
   C.any (St.env s199)[57]? fun v245 =>
   C.any (St.env s199)[58]? fun v246 =>
   C.any (St.env s199)[59]? fun v247 =>
   C.any (St.env s199)[60]? fun v248 =>
   C.any (St.env s199)[61]? fun v249 =>
   C.same (St.env s199)[62]? (.tup []) <|
   cnd b201
   (C.fin (St.H s199) (.int .i64 1))
   (C.fin (St.H s199) (.int .i64 (-1))))
   (none)
def r44E0 (C : Cb) (d : Nat) (a0 : List AV) (a1 : Int) (a2 : Int) (v0 : AV) (b4 : Bool) (x8 : Int) (x9 : Int) (b10 : Bool) : St → Ans := fun s13 =>
  cnd ((List.length (St.env s13)) == 63)
   (C.same (St.env s13)[0]? (.lst a0) <|
   C.same (St.env s13)[1]? (.agg [(.int .i64 a1), (.int .i64 a2)]) <|
   C.same (St.env s13)[2]? (.tup []) <|
   C.same (St.env s13)[3]? v0 <|
   C.int .i64 (St.env s13)[4]? fun x250 =>
   C.bool (St.env s13)[5]? fun b251 =>
   C.int .i64 (St.env s13)[6]? fun x252 =>
   C.any (St.env s13)[7]? fun v253 =>
   C.any (St.env s13)[8]? fun v254 =>
   C.same (St.env s13)[9]? (.lst a0) <|
   C.same (St.env s13)[10]? (.bool b4) <|
   C.same (St.env s13)[11]? (.bool (!b4)) <|
   C.same (St.env s13)[12]? (.bool false) <|
   C.same (St.env s13)[13]? (.agg [(.int .i64 x8), (.int .i64 x9)]) <|
   C.same (St.env s13)[14]? (.bool b10) <|
   C.same (St.env s13)[15]? (.bool (!b10)) <|
   C.same (St.env s13)[16]? (.bool false) <|
   C.int .i64 (St.env s13)[17]? fun x255 =>
   C.any (St.env s13)[18]? fun v256 =>
   C.int .i64 (St.env s13)[19]? fun x257 =>
   C.bool (St.env s13)[20]? fun b258 =>
   C.any (St.env s13)[21]? fun v259 =>
   C.any (St.env s13)[22]? fun v260 =>
   C.any (St.env s13)[23]? fun v261 =>
   C.int .i64 (St.env s13)[24]? fun x262 =>
   C.any (St.env s13)[25]? fun v263 =>
   C.agg 2 (St.env s13)[26]? fun l264 =>
   C.int .i64 l264[0]? fun x265 =>
   C.int .i64 l264[1]? fun x266 =>
   C.any (St.env s13)[27]? fun v267 =>
   C.int .i64 (St.env s13)[28]? fun x268 =>
   C.agg 2 (St.env s13)[29]? fun l269 =>
   C.int .i64 l269[0]? fun x270 =>
   C.int .i64 l269[1]? fun x271 =>
   C.agg 2 (St.env s13)[30]? fun l272 =>
   C.int .i64 l272[0]? fun x273 =>
   C.int .i64 l272[1]? fun x274 =>
   C.agg 2 (St.env s13)[31]? fun l275 =>
   C.int .i64 l275[0]? fun x276 =>
   C.int .i64 l275[1]? fun x277 =>
   C.agg 2 (St.env s13)[32]? fun l278 =>
   C.int .i64 l278[0]? fun x279 =>
   C.int .i64 l278[1]? fun x280 =>
   C.bool (St.env s13)[33]? fun b281 =>
   C.any (St.env s13)[34]? fun v282 =>
   C.any (St.env s13)[35]? fun v283 =>
   C.any (St.env s13)[36]? fun v284 =>
   C.any (St.env s13)[37]? fun v285 =>
   C.any (St.env s13)[38]? fun v286 =>
   C.any (St.env s13)[39]? fun v287 =>
   C.any (St.env s13)[40]? fun v288 =>
   C.any (St.env s13)[41]? fun v289 =>
   C.any (St.env s13)[42]? fun v290 =>
   C.any (St.env s13)[43]? fun v291 =>
   C.any (St.env s13)[44]? fun v292 =>
   C.any (St.env s13)[45]? fun v293 =>
   C.any (St.env s13)[46]? fun v294 =>
   C.any (St.env s13)[47]? fun v295 =>
   C.any (St.env s13)[48]? fun v296 =>
   C.any (St.env s13)[49]? fun v297 =>
   C.any (St.env s13)[50]? fun v298 =>
   C.any (St.env s13)[51]? fun v299 =>
   C.any (St.env s13)[52]? fun v300 =>
   C.any (St.env s13)[53]? fun v301 =>
   C.any (St.env s13)[54]? fun v302 =>
   C.any (St.env s13)[55]? fun v303 =>
   C.any (St.env s13)[56]? fun v304 =>
   C.any (St.env s13)[57]? fun v305 =>
   C.any (St.env s13)[58]? fun v306 =>
   C.any (St.env s13)[59]? fun v307 =>
   C.any (St.env s13)[60]? fun v308 =>
   C.any (St.env s13)[61]? fun v309 =>
   C.same (St.env s13)[62]? (.tup []) <|
   C.fin (St.H s13) (.int .i64 x250))
   (none)
/-- apogee/apogeeref11.Side -/
theorem r44 (C : Cb) (d : Nat) (a0 : List AV) (a1 : Int) (a2 : Int) : xcall C M unr d 44 [(.lst a0), (.agg [(.int .i64 a1), (.int .i64 a2)])] =
  C.hop [] (.box E23 (.v (.agg [(.int .i64 a1), (.int .i64 a2)]))) fun v0 h1 =>
  C.snp h1 [(.lst a0)] fun l2 b3 =>
  C.bool (pcall M d 29 l2) fun b4 =>
  cnd (b3 || true)
   (cnd (!b4)
   (C.fin h1 (.int .i64 (-1)))
   (C.hop h1 (.load true 2 (.v v0)) fun v5 h6 =>
   C.agg 2 (some v5) fun l7 =>
   C.int .i64 l7[0]? fun x8 =>
   C.int .i64 l7[1]? fun x9 =>
   C.bool (pcall M d 26 [(.agg [(.int .i64 x8), (.int .i64 x9)])]) fun b10 =>
   cnd (!b10)
   (C.fin h6 (.int .i64 (-1)))
   (C.iter (r44R0 C d a0 a1 a2 v0 b4 x8 x9 b10) 1000000000000000000 ⟨[(.lst a0), (.agg [(.int .i64 a1), (.int .i64 a2)]), (.tup []), v0, (.int .i64 0), (.bool false), (.int .i64 0), (.tup []), (.tup []), (.lst a0), (.bool b4), (.bool (!b4)), (.bool false), (.agg [(.int .i64 x8), (.int .i64 x9)]), (.bool b10), (.bool (!b10)), (.bool false), (.tup []), (.tup []), (.tup []), (.tup []), (.tup []), (.tup []), (.tup []), (.tup []), (.tup []), (.tup []), (.tup []), (.tup []), (.tup []), (.tup []), (.tup []), (.tup []), (.tup []), (.tup []), (.tup []), (.tup []), (.tup []), (.tup []), (.tup []), (.tup []), (.tup []), (.tup []), (.tup []), (.tup []), (.tup []), (.tup []), (.tup []), (.tup []), (.tup []), (.tup []), (.tup []), (.tup []), (.tup []), (.tup []), (.tup []), (.tup []), (.tup []), (.tup []), (.tup []), (.tup []), (.tup []), (.tup [])], h6⟩ [0] [r44X0_0 C d a0 a1 a2 v0 b4 x8 x9 b10] (r44E0 C d a0 a1 a2 v0 b4 x8 x9 b10))))
   (none) := by kernel_rfl
def r45R2 (C : Cb) (d : Nat) (a0 : List AV) (x2 : Int) (x29 : Int) (x30 : Int) (x31 : Int) (b32 : Bool) (v33 : AV) (v34 : AV) (v35 : AV) (v36 : AV) (v37 : AV) (v38 : AV) (v39 : AV) (v40 : AV) (k42 : Ex → St → Ans) (x45 : Int) (v54 : AV) (v55 : AV) : St → (Ex → St → Ans) → Ans := fun s121 k122 =>
  cnd ((List.length (St.env s121)) == 100)
   (C.same (St.env s121)[0]? (.lst a0) <|
   C.same (St.env s121)[1]? (.tup []) <|
   C.bool (St.env s121)[2]? fun b124 =>
   C.same (St.env s121)[3]? (.int .i64 x2) <|
   C.same (St.env s121)[4]? (.int .i64 x29) <|
   C.same (St.env s121)[5]? (.int .i64 x45) <|
   C.int .i64 (St.env s121)[6]? fun x125 =>
   C.any (St.env s121)[7]? fun v126 =>
   C.any (St.env s121)[8]? fun v127 =>
   C.any (St.env s121)[9]? fun v128 =>
   C.any (St.env s121)[10]? fun v129 =>
   C.same (St.env s121)[11]? (.lst a0) <|
   C.same (St.env s121)[12]? (.int .i64 x2) <|
   C.same (St.env s121)[13]? (.int .i64 x2) <|
   C.same (St.env s121)[14]? (.bool (decide (x2 < 3))) <|
   C.same (St.env s121)[15]? (.bool false) <|
   C.same (St.env s121)[16]? (.int .i64 x2) <|
   C.same (St.env s121)[17]? (.bool (decide (x2 > 8))) <|
   C.same (St.env s121)[18]? (.bool false) <|
   C.same (St.env s121)[19]? (.int .i64 x30) <|
   C.same (St.env s121)[20]? (.int .i64 x31) <|
   C.same (St.env s121)[21]? (.bool b32) <|
   C.same (St.env s121)[22]? v33 <|
   C.same (St.env s121)[23]? v34 <|
   C.same (St.env s121)[24]? v35 <|
   C.same (St.env s121)[25]? v36 <|
   C.same (St.env s121)[26]? v37 <|
   C.same (St.env s121)[27]? v38 <|
   C.same (St.env s121)[28]? v39 <|
   C.same (St.env s121)[29]? v40 <|
   C.same (St.env s121)[30]? (.int .i64 x45) <|
   C.same (St.env s121)[31]? (.int .i64 x2) <|
   C.same (St.env s121)[32]? (.bool true) <|
   C.same (St.env s121)[33]? v54 <|
   C.same (St.env s121)[34]? v55 <|
   C.same (St.env s121)[35]? (.int .i64 x45) <|
   C.same (St.env s121)[36]? (.int .i64 (IntKind.wrap .i64 (x45 + 1))) <|
   C.any (St.env s121)[37]? fun v130 =>
   C.any (St.env s121)[38]? fun v131 =>
   C.any (St.env s121)[39]? fun v132 =>
   C.any (St.env s121)[40]? fun v133 =>
   C.any (St.env s121)[41]? fun v134 =>
   C.any (St.env s121)[42]? fun v135 =>
   C.any (St.env s121)[43]? fun v136 =>
   C.any (St.env s121)[44]? fun v137 =>
   C.any (St.env s121)[45]? fun v138 =>
   C.any (St.env s121)[46]? fun v139 =>
   C.any (St.env s121)[47]? fun v140 =>
   C.any (St.env s121)[48]? fun v141 =>
   C.any (St.env s121)[49]? fun v142 =>
   C.any (St.env s121)[50]? fun v143 =>
   C.any (St.env s121)[51]? fun v144 =>
   C.any (St.env s121)[52]? fun v145 =>
   C.any (St.env s121)[53]? fun v146 =>
   C.any (St.env s121)[54]? fun v147 =>
   C.any (St.env s121)[55]? fun v148 =>
   C.any (St.env s121)[56]? fun v149 =>
   C.any (St.env s121)[57]? fun v150 =>
   C.any (St.env s121)[58]? fun v151 =>
   C.any (St.env s121)[59]? fun v152 =>
   C.any (St.env s121)[60]? fun v153 =>
   C.any (St.env s121)[61]? fun v154 =>
   C.any (St.env s121)[62]? fun v155 =>
   C.any (St.env s121)[63]? fun v156 =>
   C.any (St.env s121)[64]? fun v157 =>
   C.any (St.env s121)[65]? fun v158 =>
   C.any (St.env s121)[66]? fun v159 =>
   C.any (St.env s121)[67]? fun v160 =>
   C.any (St.env s121)[68]? fun v161 =>
   C.any (St.env s121)[69]? fun v162 =>
   C.any (St.env s121)[70]? fun v163 =>
   C.any (St.env s121)[71]? fun v164 =>
   C.any (St.env s121)[72]? fun v165 =>
   C.any (St.env s121)[73]? fun v166 =>
   C.any (St.env s121)[74]? fun v167 =>
   C.any (St.env s121)[75]? fun v168 =>
   C.any (St.env s121)[76]? fun v169 =>
   C.any (St.env s121)[77]? fun v170 =>
   C.any (St.env s121)[78]? fun v171 =>
   C.any (St.env s121)[79]? fun v172 =>
   C.any (St.env s121)[80]? fun v173 =>
   C.any (St.env s121)[81]? fun v174 =>
   C.any (St.env s121)[82]? fun v175 =>
   C.any (St.env s121)[83]? fun v176 =>
   C.any (St.env s121)[84]? fun v177 =>
   C.any (St.env s121)[85]? fun v178 =>
   C.any (St.env s121)[86]? fun v179 =>
   C.any (St.env s121)[87]? fun v180 =>
   C.any (St.env s121)[88]? fun v181 =>
   C.any (St.env s121)[89]? fun v182 =>
   C.any (St.env s121)[90]? fun v183 =>
   C.any (St.env s121)[91]? fun v184 =>
   C.any (St.env s121)[92]? fun v185 =>
   C.any (St.env s121)[93]? fun v186 =>
   C.any (St.env s121)[94]? fun v187 =>
   C.any (St.env s121)[95]? fun v188 =>
   C.any (St.env s121)[96]? fun v189 =>
   C.any (St.env s121)[97]? fun v190 =>
   C.any (St.env s121)[98]? fun v191 =>
   C.any (St.env s121)[99]? fun v192 =>
   cnd (decide (x125 < x2))
   (C.hop (St.H s121) (.ixAS .any 2 (.v (.lst a0)) (.v (.int .i64 x45))) fun v193 h194 =>
   C.hop h194 (.load true 2 (.v v193)) fun v195 h196 =>
   C.agg 2 (some v195) fun l197 =>
   C.int .i64 l197[0]? fun x198 =>
   C.int .i64 l197[1]? fun x199 =>
   C.snp h196 [(.lst a0), (.int .i64 x45)] fun l200 b201 =>
   C.agg 2 (pcall M d 58 l200) fun l202 =>
   C.int .i64 l202[0]? fun x203 =>
   C.int .i64 l202[1]? fun x204 =>
   cnd (b201 || true)
   (C.hop h196 (.ixAS .any 2 (.v (.lst a0)) (.v (.int .i64 x125))) fun v205 h206 =>
   C.hop h206 (.load true 2 (.v v205)) fun v207 h208 =>
   C.agg 2 (some v207) fun l209 =>
   C.int .i64 l209[0]? fun x210 =>
   C.int .i64 l209[1]? fun x211 =>
   C.snp h208 [(.lst a0), (.int .i64 x125)] fun l212 b213 =>
   C.agg 2 (pcall M d 58 l212) fun l214 =>
   C.int .i64 l214[0]? fun x215 =>
   C.int .i64 l214[1]? fun x216 =>
   cnd (b213 || true)
   (C.hop h208 (.alloc E23) fun v217 h218 =>
   C.hop h218 (.alloc E23) fun v219 h220 =>
   C.hop h220 (.alloc E23) fun v221 h222 =>
   C.hop h222 (.alloc E23) fun v223 h224 =>
   C.disj (.addr v205) (.addr v217) <|
   C.hop h224 (.store 2 (.v v217) (.v (.agg [(.int .i64 x198), (.int .i64 x199)]))) fun v225 h226 =>
   C.disj (.addr v205) (.addr v219) <|
   C.hop h226 (.store 2 (.v v219) (.v (.agg [(.int .i64 x203), (.int .i64 x204)]))) fun v227 h228 =>
   C.hop h228 (.store 2 (.v v221) (.v (.agg [(.int .i64 x210), (.int .i64 x211)]))) fun v229 h230 =>
   C.hop h230 (.store 2 (.v v223) (.v (.agg [(.int .i64 x215), (.int .i64 x216)]))) fun v231 h232 =>
   C.hop h232 (.load true 2 (.v v217)) fun v233 h234 =>
   C.agg 2 (some v233) fun l235 =>
   C.int .i64 l235[0]? fun x236 =>
   C.int .i64 l235[1]? fun x237 =>
   C.hop h234 (.load true 2 (.v v221)) fun v238 h239 =>
   C.agg 2 (some v238) fun l240 =>
   C.int .i64 l240[0]? fun x241 =>
   C.int .i64 l240[1]? fun x242 =>
   cnd (xor false ((x236 == x241) && ((x237 == x242) && true)))
   (k122 .ret ⟨[(.lst a0), (.tup []), (.bool false), (.int .i64 x2), (.int .i64 x29), (.int .i64 x45), (.int .i64 x125), v217, v219, v221, v223, (.lst a0), (.int .i64 x2), (.int .i64 x2), (.bool (decide (x2 < 3))), (.bool false), (.int .i64 x2), (.bool (decide (x2 > 8))), (.bool false), (.int .i64 x30), (.int .i64 x31), (.bool b32), v33, v34, v35, v36, v37, v38, v39, v40, (.int .i64 x45), (.int .i64 x2), (.bool true), v54, v55, (.int .i64 x45), (.int .i64 (IntKind.wrap .i64 (x45 + 1))), (.int .i64 x125), (.int .i64 x2), (.bool true), v133, v134, (.lst a0), (.int .i64 x45), v193, (.agg [(.int .i64 x198), (.int .i64 x199)]), (.lst a0), (.int .i64 x45), (.agg [(.int .i64 x203), (.int .i64 x204)]), (.lst a0), (.int .i64 x125), v205, (.agg [(.int .i64 x210), (.int .i64 x211)]), (.lst a0), (.int .i64 x125), (.agg [(.int .i64 x215), (.int .i64 x216)]), (.bool true), (.agg [(.int .i64 x236), (.int .i64 x237)]), (.agg [(.int .i64 x241), (.int .i64 x242)]), (.bool (xor false ((x236 == x241) && ((x237 == x242) && true)))), v153, v154, v155, v156, v157, v158, v159, v160, v161, v162, v163, v164, v165, v166, v167, v168, v169, v170, v171, v172, v173, v174, v175, v176, v177, v178, v179, v180, v181, v182, v183, v184, v185, v186, v187, v188, v189, v190, v191, v192], h239⟩)
   (cnd (x125 == (IntKind.wrap .i64 (x45 + 1)))
   (C.hop h239 (.load true 2 (.v v223)) fun v243 h244 =>
   C.agg 2 (some v243) fun l245 =>
   C.int .i64 l245[0]? fun x246 =>
   C.int .i64 l245[1]? fun x247 =>
   C.hop h244 (.load true 2 (.v v217)) fun v248 h249 =>
   C.agg 2 (some v248) fun l250 =>
   C.int .i64 l250[0]? fun x251 =>
   C.int .i64 l250[1]? fun x252 =>
   C.hop h249 (.load true 2 (.v v219)) fun v253 h254 =>
   C.agg 2 (some v253) fun l255 =>
   C.int .i64 l255[0]? fun x256 =>
   C.int .i64 l255[1]? fun x257 =>
   C.bool (pcall M d 54 [(.agg [(.int .i64 x246), (.int .i64 x247)]), (.agg [(.int .i64 x251), (.int .i64 x252)]), (.agg [(.int .i64 x256), (.int .i64 x257)])]) fun b258 =>
   cnd b258
   (k122 .ret ⟨[(.lst a0), (.tup []), (.bool false), (.int .i64 x2), (.int .i64 x29), (.int .i64 x45), (.int .i64 x125), v217, v219, v221, v223, (.lst a0), (.int .i64 x2), (.int .i64 x2), (.bool (decide (x2 < 3))), (.bool false), (.int .i64 x2), (.bool (decide (x2 > 8))), (.bool false), (.int .i64 x30), (.int .i64 x31), (.bool b32), v33, v34, v35, v36, v37, v38, v39, v40, (.int .i64 x45), (.int .i64 x2), (.bool true), v54, v55, (.int .i64 x45), (.int .i64 (IntKind.wrap .i64 (x45 + 1))), (.int .i64 x125), (.int .i64 x2), (.bool true), v133, v134, (.lst a0), (.int .i64 x45), v193, (.agg [(.int .i64 x198), (.int .i64 x199)]), (.lst a0), (.int .i64 x45), (.agg [(.int .i64 x203), (.int .i64 x204)]), (.lst a0), (.int .i64 x125), v205, (.agg [(.int .i64 x210), (.int .i64 x211)]), (.lst a0), (.int .i64 x125), (.agg [(.int .i64 x215), (.int .i64 x216)]), (.bool false), (.agg [(.int .i64 x236), (.int .i64 x237)]), (.agg [(.int .i64 x241), (.int .i64 x242)]), (.bool (xor false ((x236 == x241) && ((x237 == x242) && true)))), (.bool true), (.int .i64 x125), (.int .i64 x45), (.int .i64 (IntKind.wrap .i64 (x45 + 1))), (.bool (x125 == (IntKind.wrap .i64 (x45 + 1)))), (.agg [(.int .i64 x246), (.int .i64 x247)]), (.agg [(.int .i64 x251), (.int .i64 x252)]), (.agg [(.int .i64 x256), (.int .i64 x257)]), (.bool b258), (.bool true), (.tup []), (.tup []), (.tup []), (.tup []), (.bool true), v168, v169, v170, v171, v172, v173, v174, v175, v176, v177, v178, v179, v180, v181, v182, v183, v184, v185, v186, v187, v188, v189, v190, v191, v192], h254⟩)
   (C.hop h254 (.load true 2 (.v v217)) fun v259 h260 =>
   C.agg 2 (some v259) fun l261 =>
   C.int .i64 l261[0]? fun x262 =>
   C.int .i64 l261[1]? fun x263 =>
   C.hop h260 (.load true 2 (.v v221)) fun v264 h265 =>
   C.agg 2 (some v264) fun l266 =>
   C.int .i64 l266[0]? fun x267 =>
   C.int .i64 l266[1]? fun x268 =>
   C.hop h265 (.load true 2 (.v v223)) fun v269 h270 =>
   C.agg 2 (some v269) fun l271 =>
   C.int .i64 l271[0]? fun x272 =>
   C.int .i64 l271[1]? fun x273 =>
   C.bool (pcall M d 54 [(.agg [(.int .i64 x262), (.int .i64 x263)]), (.agg [(.int .i64 x267), (.int .i64 x268)]), (.agg [(.int .i64 x272), (.int .i64 x273)])]) fun b274 =>
   cnd b274
   (k122 .ret ⟨[(.lst a0), (.tup []), (.bool false), (.int .i64 x2), (.int .i64 x29), (.int .i64 x45), (.int .i64 x125), v217, v219, v221, v223, (.lst a0), (.int .i64 x2), (.int .i64 x2), (.bool (decide (x2 < 3))), (.bool false), (.int .i64 x2), (.bool (decide (x2 > 8))), (.bool false), (.int .i64 x30), (.int .i64 x31), (.bool b32), v33, v34, v35, v36, v37, v38, v39, v40, (.int .i64 x45), (.int .i64 x2), (.bool true), v54, v55, (.int .i64 x45), (.int .i64 (IntKind.wrap .i64 (x45 + 1))), (.int .i64 x125), (.int .i64 x2), (.bool true), v133, v134, (.lst a0), (.int .i64 x45), v193, (.agg [(.int .i64 x198), (.int .i64 x199)]), (.lst a0), (.int .i64 x45), (.agg [(.int .i64 x203), (.int .i64 x204)]), (.lst a0), (.int .i64 x125), v205, (.agg [(.int .i64 x210), (.int .i64 x211)]), (.lst a0), (.int .i64 x125), (.agg [(.int .i64 x215), (.int .i64 x216)]), (.bool false), (.agg [(.int .i64 x236), (.int .i64 x237)]), (.agg [(.int .i64 x241), (.int .i64 x242)]), (.bool (xor false ((x236 == x241) && ((x237 == x242) && true)))), (.bool true), (.int .i64 x125), (.int .i64 x45), (.int .i64 (IntKind.wrap .i64 (x45 + 1))), (.bool (x125 == (IntKind.wrap .i64 (x45 + 1)))), (.agg [(.int .i64 x246), (.int .i64 x247)]), (.agg [(.int .i64 x251), (.int .i64 x252)]), (.agg [(.int .i64 x256), (.int .i64 x257)]), (.bool b258), (.bool false), (.agg [(.int .i64 x262), (.int .i64 x263)]), (.agg [(.int .i64 x267), (.int .i64 x268)]), (.agg [(.int .i64 x272), (.int .i64 x273)]), (.bool b274), (.bool true), v168, v169, v170, v171, v172, v173, v174, v175, v176, v177, v178, v179, v180, v181, v182, v183, v184, v185, v186, v187, v188, v189, v190, v191, v192], h270⟩)
   (k122 .normal ⟨[(.lst a0), (.tup []), (.bool b124), (.int .i64 x2), (.int .i64 x29), (.int .i64 x45), (.int .i64 (IntKind.wrap .i64 (x125 + 1))), v217, v219, v221, v223, (.lst a0), (.int .i64 x2), (.int .i64 x2), (.bool (decide (x2 < 3))), (.bool false), (.int .i64 x2), (.bool (decide (x2 > 8))), (.bool false), (.int .i64 x30), (.int .i64 x31), (.bool b32), v33, v34, v35, v36, v37, v38, v39, v40, (.int .i64 x45), (.int .i64 x2), (.bool true), v54, v55, (.int .i64 x45), (.int .i64 (IntKind.wrap .i64 (x45 + 1))), (.int .i64 x125), (.int .i64 x2), (.bool true), (.int .i64 x125), (.int .i64 (IntKind.wrap .i64 (x125 + 1))), (.lst a0), (.int .i64 x45), v193, (.agg [(.int .i64 x198), (.int .i64 x199)]), (.lst a0), (.int .i64 x45), (.agg [(.int .i64 x203), (.int .i64 x204)]), (.lst a0), (.int .i64 x125), v205, (.agg [(.int .i64 x210), (.int .i64 x211)]), (.lst a0), (.int .i64 x125), (.agg [(.int .i64 x215), (.int .i64 x216)]), (.bool false), (.agg [(.int .i64 x236), (.int .i64 x237)]), (.agg [(.int .i64 x241), (.int .i64 x242)]), (.bool (xor false ((x236 == x241) && ((x237 == x242) && true)))), (.bool true), (.int .i64 x125), (.int .i64 x45), (.int .i64 (IntKind.wrap .i64 (x45 + 1))), (.bool (x125 == (IntKind.wrap .i64 (x45 + 1)))), (.agg [(.int .i64 x246), (.int .i64 x247)]), (.agg [(.int .i64 x251), (.int .i64 x252)]), (.agg [(.int .i64 x256), (.int .i64 x257)]), (.bool b258), (.bool false), (.agg [(.int .i64 x262), (.int .i64 x263)]), (.agg [(.int .i64 x267), (.int .i64 x268)]), (.agg [(.int .i64 x272), (.int .i64 x273)]), (.bool b274), (.bool false), v168, v169, v170, v171, v172, v173, v174, v175, v176, v177, v178, v179, v180, v181, v182, v183, v184, v185, v186, v187, v188, v189, v190, v191, v192], h270⟩)))
   (cnd (x45 == 0)
   (cnd (x125 == (IntKind.wrap .i64 (x2 - 1)))
   (C.hop h239 (.load true 2 (.v v221)) fun v275 h276 =>
   C.agg 2 (some v275) fun l277 =>
   C.int .i64 l277[0]? fun x278 =>
   C.int .i64 l277[1]? fun x279 =>
   C.hop h276 (.load true 2 (.v v217)) fun v280 h281 =>
   C.agg 2 (some v280) fun l282 =>
   C.int .i64 l282[0]? fun x283 =>
   C.int .i64 l282[1]? fun x284 =>
   C.hop h281 (.load true 2 (.v v219)) fun v285 h286 =>
   C.agg 2 (some v285) fun l287 =>
   C.int .i64 l287[0]? fun x288 =>
   C.int .i64 l287[1]? fun x289 =>
   C.bool (pcall M d 54 [(.agg [(.int .i64 x278), (.int .i64 x279)]), (.agg [(.int .i64 x283), (.int .i64 x284)]), (.agg [(.int .i64 x288), (.int .i64 x289)])]) fun b290 =>
   cnd b290
   (k122 .ret ⟨[(.lst a0), (.tup []), (.bool false), (.int .i64 x2), (.int .i64 x29), (.int .i64 x45), (.int .i64 x125), v217, v219, v221, v223, (.lst a0), (.int .i64 x2), (.int .i64 x2), (.bool (decide (x2 < 3))), (.bool false), (.int .i64 x2), (.bool (decide (x2 > 8))), (.bool false), (.int .i64 x30), (.int .i64 x31), (.bool b32), v33, v34, v35, v36, v37, v38, v39, v40, (.int .i64 x45), (.int .i64 x2), (.bool true), v54, v55, (.int .i64 x45), (.int .i64 (IntKind.wrap .i64 (x45 + 1))), (.int .i64 x125), (.int .i64 x2), (.bool true), v133, v134, (.lst a0), (.int .i64 x45), v193, (.agg [(.int .i64 x198), (.int .i64 x199)]), (.lst a0), (.int .i64 x45), (.agg [(.int .i64 x203), (.int .i64 x204)]), (.lst a0), (.int .i64 x125), v205, (.agg [(.int .i64 x210), (.int .i64 x211)]), (.lst a0), (.int .i64 x125), (.agg [(.int .i64 x215), (.int .i64 x216)]), (.bool false), (.agg [(.int .i64 x236), (.int .i64 x237)]), (.agg [(.int .i64 x241), (.int .i64 x242)]), (.bool (xor false ((x236 == x241) && ((x237 == x242) && true)))), (.bool false), (.int .i64 x125), (.int .i64 x45), (.int .i64 (IntKind.wrap .i64 (x45 + 1))), (.bool (x125 == (IntKind.wrap .i64 (x45 + 1)))), v158, v159, v160, v161, v162, v163, v164, v165, v166, v167, (.bool true), (.int .i64 x45), (.bool (x45 == 0)), (.bool true), (.int .i64 x125), (.int .i64 x2), (.int .i64 (IntKind.wrap .i64 (x2 - 1))), (.bool (x125 == (IntKind.wrap .i64 (x2 - 1)))), (.bool (x125 == (IntKind.wrap .i64 (x2 - 1)))), (.agg [(.int .i64 x278), (.int .i64 x279)]), (.agg [(.int .i64 x283), (.int .i64 x284)]), (.agg [(.int .i64 x288), (.int .i64 x289)]), (.bool b290), (.bool true), (.tup []), (.tup []), (.tup []), (.tup []), (.bool true), v187, v188, v189, v190, v191, v192], h286⟩)
   (C.hop h286 (.load true 2 (.v v219)) fun v291 h292 =>
   C.agg 2 (some v291) fun l293 =>
   C.int .i64 l293[0]? fun x294 =>
   C.int .i64 l293[1]? fun x295 =>
   C.hop h292 (.load true 2 (.v v221)) fun v296 h297 =>
   C.agg 2 (some v296) fun l298 =>
   C.int .i64 l298[0]? fun x299 =>
   C.int .i64 l298[1]? fun x300 =>
   C.hop h297 (.load true 2 (.v v223)) fun v301 h302 =>
   C.agg 2 (some v301) fun l303 =>
   C.int .i64 l303[0]? fun x304 =>
   C.int .i64 l303[1]? fun x305 =>
   C.bool (pcall M d 54 [(.agg [(.int .i64 x294), (.int .i64 x295)]), (.agg [(.int .i64 x299), (.int .i64 x300)]), (.agg [(.int .i64 x304), (.int .i64 x305)])]) fun b306 =>
   cnd b306
   (k122 .ret ⟨[(.lst a0), (.tup []), (.bool false), (.int .i64 x2), (.int .i64 x29), (.int .i64 x45), (.int .i64 x125), v217, v219, v221, v223, (.lst a0), (.int .i64 x2), (.int .i64 x2), (.bool (decide (x2 < 3))), (.bool false), (.int .i64 x2), (.bool (decide (x2 > 8))), (.bool false), (.int .i64 x30), (.int .i64 x31), (.bool b32), v33, v34, v35, v36, v37, v38, v39, v40, (.int .i64 x45), (.int .i64 x2), (.bool true), v54, v55, (.int .i64 x45), (.int .i64 (IntKind.wrap .i64 (x45 + 1))), (.int .i64 x125), (.int .i64 x2), (.bool true), v133, v134, (.lst a0), (.int .i64 x45), v193, (.agg [(.int .i64 x198), (.int .i64 x199)]), (.lst a0), (.int .i64 x45), (.agg [(.int .i64 x203), (.int .i64 x204)]), (.lst a0), (.int .i64 x125), v205, (.agg [(.int .i64 x210), (.int .i64 x211)]), (.lst a0), (.int .i64 x125), (.agg [(.int .i64 x215), (.int .i64 x216)]), (.bool false), (.agg [(.int .i64 x236), (.int .i64 x237)]), (.agg [(.int .i64 x241), (.int .i64 x242)]), (.bool (xor false ((x236 == x241) && ((x237 == x242) && true)))), (.bool false), (.int .i64 x125), (.int .i64 x45), (.int .i64 (IntKind.wrap .i64 (x45 + 1))), (.bool (x125 == (IntKind.wrap .i64 (x45 + 1)))), v158, v159, v160, v161, v162, v163, v164, v165, v166, v167, (.bool true), (.int .i64 x45), (.bool (x45 == 0)), (.bool true), (.int .i64 x125), (.int .i64 x2), (.int .i64 (IntKind.wrap .i64 (x2 - 1))), (.bool (x125 == (IntKind.wrap .i64 (x2 - 1)))), (.bool (x125 == (IntKind.wrap .i64 (x2 - 1)))), (.agg [(.int .i64 x278), (.int .i64 x279)]), (.agg [(.int .i64 x283), (.int .i64 x284)]), (.agg [(.int .i64 x288), (.int .i64 x289)]), (.bool b290), (.bool false), (.agg [(.int .i64 x294), (.int .i64 x295)]), (.agg [(.int .i64 x299), (.int .i64 x300)]), (.agg [(.int .i64 x304), (.int .i64 x305)]), (.bool b306), (.bool true), v187, v188, v189, v190, v191, v192], h302⟩)
   (k122 .normal ⟨[(.lst a0), (.tup []), (.bool b124), (.int .i64 x2), (.int .i64 x29), (.int .i64 x45), (.int .i64 (IntKind.wrap .i64 (x125 + 1))), v217, v219, v221, v223, (.lst a0), (.int .i64 x2), (.int .i64 x2), (.bool (decide (x2 < 3))), (.bool false), (.int .i64 x2), (.bool (decide (x2 > 8))), (.bool false), (.int .i64 x30), (.int .i64 x31), (.bool b32), v33, v34, v35, v36, v37, v38, v39, v40, (.int .i64 x45), (.int .i64 x2), (.bool true), v54, v55, (.int .i64 x45), (.int .i64 (IntKind.wrap .i64 (x45 + 1))), (.int .i64 x125), (.int .i64 x2), (.bool true), (.int .i64 x125), (.int .i64 (IntKind.wrap .i64 (x125 + 1))), (.lst a0), (.int .i64 x45), v193, (.agg [(.int .i64 x198), (.int .i64 x199)]), (.lst a0), (.int .i64 x45), (.agg [(.int .i64 x203), (.int .i64 x204)]), (.lst a0), (.int .i64 x125), v205, (.agg [(.int .i64 x210), (.int .i64 x211)]), (.lst a0), (.int .i64 x125), (.agg [(.int .i64 x215), (.int .i64 x216)]), (.bool false), (.agg [(.int .i64 x236), (.int .i64 x237)]), (.agg [(.int .i64 x241), (.int .i64 x242)]), (.bool (xor false ((x236 == x241) && ((x237 == x242) && true)))), (.bool false), (.int .i64 x125), (.int .i64 x45), (.int .i64 (IntKind.wrap .i64 (x45 + 1))), (.bool (x125 == (IntKind.wrap .i64 (x45 + 1)))), v158, v159, v160, v161, v162, v163, v164, v165, v166, v167, (.bool true), (.int .i64 x45), (.bool (x45 == 0)), (.bool true), (.int .i64 x125), (.int .i64 x2), (.int .i64 (IntKind.wrap .i64 (x2 - 1))), (.bool (x125 == (IntKind.wrap .i64 (x2 - 1)))), (.bool (x125 == (IntKind.wrap .i64 (x2 - 1)))), (.agg [(.int .i64 x278), (.int .i64 x279)]), (.agg [(.int .i64 x283), (.int .i64 x284)]), (.agg [(.int .i64 x288), (.int .i64 x289)]), (.bool b290), (.bool false), (.agg [(.int .i64 x294), (.int .i64 x295)]), (.agg [(.int .i64 x299), (.int .i64 x300)]), (.agg [(.int .i64 x304), (.int .i64 x305)]), (.bool b306), (.bool false), v187, v188, v189, v190, v191, v192], h302⟩)))
   (C.hop h239 (.load true 2 (.v v217)) fun v307 h308 =>
   C.agg 2 (some v307) fun l309 =>
   C.int .i64 l309[0]? fun x310 =>
   C.int .i64 l309[1]? fun x311 =>
   C.hop h308 (.load true 2 (.v v219)) fun v312 h313 =>
   C.agg 2 (some v312) fun l314 =>
   C.int .i64 l314[0]? fun x315 =>
   C.int .i64 l314[1]? fun x316 =>
   C.hop h313 (.load true 2 (.v v221)) fun v317 h318 =>
   C.agg 2 (some v317) fun l319 =>
   C.int .i64 l319[0]? fun x320 =>
   C.int .i64 l319[1]? fun x321 =>
   C.hop h318 (.load true 2 (.v v223)) fun v322 h323 =>
   C.agg 2 (some v322) fun l324 =>
   C.int .i64 l324[0]? fun x325 =>
   C.int .i64 l324[1]? fun x326 =>
   C.bool (pcall M d 42 [(.agg [(.int .i64 x310), (.int .i64 x311)]), (.agg [(.int .i64 x315), (.int .i64 x316)]), (.agg [(.int .i64 x320), (.int .i64 x321)]), (.agg [(.int .i64 x325), (.int .i64 x326)])]) fun b327 =>
   cnd b327
   (k122 .ret ⟨[(.lst a0), (.tup []), (.bool false), (.int .i64 x2), (.int .i64 x29), (.int .i64 x45), (.int .i64 x125), v217, v219, v221, v223, (.lst a0), (.int .i64 x2), (.int .i64 x2), (.bool (decide (x2 < 3))), (.bool false), (.int .i64 x2), (.bool (decide (x2 > 8))), (.bool false), (.int .i64 x30), (.int .i64 x31), (.bool b32), v33, v34, v35, v36, v37, v38, v39, v40, (.int .i64 x45), (.int .i64 x2), (.bool true), v54, v55, (.int .i64 x45), (.int .i64 (IntKind.wrap .i64 (x45 + 1))), (.int .i64 x125), (.int .i64 x2), (.bool true), v133, v134, (.lst a0), (.int .i64 x45), v193, (.agg [(.int .i64 x198), (.int .i64 x199)]), (.lst a0), (.int .i64 x45), (.agg [(.int .i64 x203), (.int .i64 x204)]), (.lst a0), (.int .i64 x125), v205, (.agg [(.int .i64 x210), (.int .i64 x211)]), (.lst a0), (.int .i64 x125), (.agg [(.int .i64 x215), (.int .i64 x216)]), (.bool false), (.agg [(.int .i64 x236), (.int .i64 x237)]), (.agg [(.int .i64 x241), (.int .i64 x242)]), (.bool (xor false ((x236 == x241) && ((x237 == x242) && true)))), (.bool false), (.int .i64 x125), (.int .i64 x45), (.int .i64 (IntKind.wrap .i64 (x45 + 1))), (.bool (x125 == (IntKind.wrap .i64 (x45 + 1)))), v158, v159, v160, v161, v162, v163, v164, v165, v166, v167, (.bool false), (.int .i64 x45), (.bool (x45 == 0)), (.bool true), (.int .i64 x125), (.int .i64 x2), (.int .i64 (IntKind.wrap .i64 (x2 - 1))), (.bool (x125 == (IntKind.wrap .i64 (x2 - 1)))), (.bool (x125 == (IntKind.wrap .i64 (x2 - 1)))), v177, v178, v179, v180, v181, v182, v183, v184, v185, v186, (.bool true), (.agg [(.int .i64 x310), (.int .i64 x311)]), (.agg [(.int .i64 x315), (.int .i64 x316)]), (.agg [(.int .i64 x320), (.int .i64 x321)]), (.agg [(.int .i64 x325), (.int .i64 x326)]), (.bool b327)], h323⟩)
   (k122 .normal ⟨[(.lst a0), (.tup []), (.bool b124), (.int .i64 x2), (.int .i64 x29), (.int .i64 x45), (.int .i64 (IntKind.wrap .i64 (x125 + 1))), v217, v219, v221, v223, (.lst a0), (.int .i64 x2), (.int .i64 x2), (.bool (decide (x2 < 3))), (.bool false), (.int .i64 x2), (.bool (decide (x2 > 8))), (.bool false), (.int .i64 x30), (.int .i64 x31), (.bool b32), v33, v34, v35, v36, v37, v38, v39, v40, (.int .i64 x45), (.int .i64 x2), (.bool true), v54, v55, (.int .i64 x45), (.int .i64 (IntKind.wrap .i64 (x45 + 1))), (.int .i64 x125), (.int .i64 x2), (.bool true), (.int .i64 x125), (.int .i64 (IntKind.wrap .i64 (x125 + 1))), (.lst a0), (.int .i64 x45), v193, (.agg [(.int .i64 x198), (.int .i64 x199)]), (.lst a0), (.int .i64 x45), (.agg [(.int .i64 x203), (.int .i64 x204)]), (.lst a0), (.int .i64 x125), v205, (.agg [(.int .i64 x210), (.int .i64 x211)]), (.lst a0), (.int .i64 x125), (.agg [(.int .i64 x215), (.int .i64 x216)]), (.bool false), (.agg [(.int .i64 x236), (.int .i64 x237)]), (.agg [(.int .i64 x241), (.int .i64 x242)]), (.bool (xor false ((x236 == x241) && ((x237 == x242) && true)))), (.bool false), (.int .i64 x125), (.int .i64 x45), (.int .i64 (IntKind.wrap .i64 (x45 + 1))), (.bool (x125 == (IntKind.wrap .i64 (x45 + 1)))), v158, v159, v160, v161, v162, v163, v164, v165, v166, v167, (.bool false), (.int .i64 x45), (.bool (x45 == 0)), (.bool true), (.int .i64 x125), (.int .i64 x2), (.int .i64 (IntKind.wrap .i64 (x2 - 1))), (.bool (x125 == (IntKind.wrap .i64 (x2 - 1)))), (.bool (x125 == (IntKind.wrap .i64 (x2 - 1)))), v177, v178, v179, v180, v181, v182, v183, v184, v185, v186, (.bool false), (.agg [(.int .i64 x310), (.int .i64 x311)]), (.agg [(.int .i64 x315), (.int .i64 x316)]), (.agg [(.int .i64 x320), (.int .i64 x321)]), (.agg [(.int .i64 x325), (.int .i64 x326)]), (.bool b327)], h323⟩)))
   (C.hop h239 (.load true 2 (.v v217)) fun v328 h329 =>
   C.agg 2 (some v328) fun l330 =>
   C.int .i64 l330[0]? fun x331 =>
   C.int .i64 l330[1]? fun x332 =>
   C.hop h329 (.load true 2 (.v v219)) fun v333 h334 =>
   C.agg 2 (some v333) fun l335 =>
   C.int .i64 l335[0]? fun x336 =>
   C.int .i64 l335[1]? fun x337 =>
   C.hop h334 (.load true 2 (.v v221)) fun v338 h339 =>
   C.agg 2 (some v338) fun l340 =>
   C.int .i64 l340[0]? fun x341 =>
   C.int .i64 l340[1]? fun x342 =>
   C.hop h339 (.load true 2 (.v v223)) fun v343 h344 =>
   C.agg 2 (some v343) fun l345 =>
   C.int .i64 l345[0]? fun x346 =>
   C.int .i64 l345[1]? fun x347 =>
   C.bool (pcall M d 42 [(.agg [(.int .i64 x331), (.int .i64 x332)]), (.agg [(.int .i64 x336), (.int .i64 x337)]), (.agg [(.int .i64 x341), (.int .i64 x342)]), (.agg [(.int .i64 x346), (.int .i64 x347)])]) fun b348 =>
   cnd b348
   (k122 .ret ⟨[(.lst a0), (.tup []), (.bool false), (.int .i64 x2), (.int .i64 x29), (.int .i64 x45), (.int .i64 x125), v217, v219, v221, v223, (.lst a0), (.int .i64 x2), (.int .i64 x2), (.bool (decide (x2 < 3))), (.bool false), (.int .i64 x2), (.bool (decide (x2 > 8))), (.bool false), (.int .i64 x30), (.int .i64 x31), (.bool b32), v33, v34, v35, v36, v37, v38, v39, v40, (.int .i64 x45), (.int .i64 x2), (.bool true), v54, v55, (.int .i64 x45), (.int .i64 (IntKind.wrap .i64 (x45 + 1))), (.int .i64 x125), (.int .i64 x2), (.bool true), v133, v134, (.lst a0), (.int .i64 x45), v193, (.agg [(.int .i64 x198), (.int .i64 x199)]), (.lst a0), (.int .i64 x45), (.agg [(.int .i64 x203), (.int .i64 x204)]), (.lst a0), (.int .i64 x125), v205, (.agg [(.int .i64 x210), (.int .i64 x211)]), (.lst a0), (.int .i64 x125), (.agg [(.int .i64 x215), (.int .i64 x216)]), (.bool false), (.agg [(.int .i64 x236), (.int .i64 x237)]), (.agg [(.int .i64 x241), (.int .i64 x242)]), (.bool (xor false ((x236 == x241) && ((x237 == x242) && true)))), (.bool false), (.int .i64 x125), (.int .i64 x45), (.int .i64 (IntKind.wrap .i64 (x45 + 1))), (.bool (x125 == (IntKind.wrap .i64 (x45 + 1)))), v158, v159, v160, v161, v162, v163, v164, v165, v166, v167, (.bool false), (.int .i64 x45), (.bool (x45 == 0)), (.bool false), (.tup []), (.tup []), (.tup []), (.tup []), (.bool false), v177, v178, v179, v180, v181, v182, v183, v184, v185, v186, (.bool true), (.agg [(.int .i64 x331), (.int .i64 x332)]), (.agg [(.int .i64 x336), (.int .i64 x337)]), (.agg [(.int .i64 x341), (.int .i64 x342)]), (.agg [(.int .i64 x346), (.int .i64 x347)]), (.bool b348)], h344⟩)
   (k122 .normal ⟨[(.lst a0), (.tup []), (.bool b124), (.int .i64 x2), (.int .i64 x29), (.int .i64 x45), (.int .i64 (IntKind.wrap .i64 (x125 + 1))), v217, v219, v221, v223, (.lst a0), (.int .i64 x2), (.int .i64 x2), (.bool (decide (x2 < 3))), (.bool false), (.int .i64 x2), (.bool (decide (x2 > 8))), (.bool false), (.int .i64 x30), (.int .i64 x31), (.bool b32), v33, v34, v35, v36, v37, v38, v39, v40, (.int .i64 x45), (.int .i64 x2), (.bool true), v54, v55, (.int .i64 x45), (.int .i64 (IntKind.wrap .i64 (x45 + 1))), (.int .i64 x125), (.int .i64 x2), (.bool true), (.int .i64 x125), (.int .i64 (IntKind.wrap .i64 (x125 + 1))), (.lst a0), (.int .i64 x45), v193, (.agg [(.int .i64 x198), (.int .i64 x199)]), (.lst a0), (.int .i64 x45), (.agg [(.int .i64 x203), (.int .i64 x204)]), (.lst a0), (.int .i64 x125), v205, (.agg [(.int .i64 x210), (.int .i64 x211)]), (.lst a0), (.int .i64 x125), (.agg [(.int .i64 x215), (.int .i64 x216)]), (.bool false), (.agg [(.int .i64 x236), (.int .i64 x237)]), (.agg [(.int .i64 x241), (.int .i64 x242)]), (.bool (xor false ((x236 == x241) && ((x237 == x242) && true)))), (.bool false), (.int .i64 x125), (.int .i64 x45), (.int .i64 (IntKind.wrap .i64 (x45 + 1))), (.bool (x125 == (IntKind.wrap .i64 (x45 + 1)))), v158, v159, v160, v161, v162, v163, v164, v165, v166, v167, (.bool false), (.int .i64 x45), (.bool (x45 == 0)), (.bool false), (.tup []), (.tup []), (.tup []), (.tup []), (.bool false), v177, v178, v179, v180, v181, v182, v183, v184, v185, v186, (.bool false), (.agg [(.int .i64 x331), (.int .i64 x332)]), (.agg [(.int .i64 x336), (.int .i64 x337)]), (.agg [(.int .i64 x341), (.int .i64 x342)]), (.agg [(.int .i64 x346), (.int .i64 x347)]), (.bool b348)], h344⟩)))))
   (none))
   (none))
   (k122 (.exit 4) ⟨[(.lst a0), (.tup []), (.bool b124), (.int .i64 x2), (.int .i64 x29), (.int .i64 x45), (.int .i64 x125), v126, v127, v128, v129, (.lst a0), (.int .i64 x2), (.int .i64 x2), (.bool (decide (x2 < 3))), (.bool false), (.int .i64 x2), (.bool (decide (x2 > 8))), (.bool false), (.int .i64 x30), (.int .i64 x31), (.bool b32), v33, v34, v35, v36, v37, v38, v39, v40, (.int .i64 x45), (.int .i64 x2), (.bool true), v54, v55, (.int .i64 x45), (.int .i64 (IntKind.wrap .i64 (x45 + 1))), (.int .i64 x125), (.int .i64 x2), (.bool false), v133, v134, v135, v136, v137, v138, v139, v140, v141, v142, v143, v144, v145, v146, v147, v148, v149, v150, v151, v152, v153, v154, v155, v156, v157, v158, v159, v160, v161, v162, v163, v164, v165, v166, v167, v168, v169, v170, v171, v172, v173, v174, v175, v176, v177, v178, v179, v180, v181, v182, v183, v184, v185, v186, v187, v188, v189, v190, v191, v192], (St.H s121)⟩))
   (none)
def r45X2_0 (C : Cb) (d : Nat) (a0 : List AV) (x2 : Int) (x29 : Int) (x30 : Int) (x31 : Int) (b32 : Bool) (v33 : AV) (v34 : AV) (v35 : AV) (v36 : AV) (v37 : AV) (v38 : AV) (v39 : AV) (v40 : AV) (k42 : Ex → St → Ans) (x45 : Int) (v54 : AV) (v55 : AV) : St → Ans := fun s349 =>
  cnd ((List.length (St.env s349)) == 100)
   (C.same (St.env s349)[0]? (.lst a0) <|
   C.same (St.env s349)[1]? (.tup []) <|
   C.bool (St.env s349)[2]? fun b350 =>
   C.same (St.env s349)[3]? (.int .i64 x2) <|
   C.same (St.env s349)[4]? (.int .i64 x29) <|
   C.same (St.env s349)[5]? (.int .i64 x45) <|
   C.int .i64 (St.env s349)[6]? fun x351 =>
   C.any (St.env s349)[7]? fun v352 =>
   C.any (St.env s349)[8]? fun v353 =>
   C.any (St.env s349)[9]? fun v354 =>
   C.any (St.env s349)[10]? fun v355 =>
   C.same (St.env s349)[11]? (.lst a0) <|
   C.same (St.env s349)[12]? (.int .i64 x2) <|
   C.same (St.env s349)[13]? (.int .i64 x2) <|
   C.same (St.env s349)[14]? (.bool (decide (x2 < 3))) <|
   C.same (St.env s349)[15]? (.bool false) <|
   C.same (St.env s349)[16]? (.int .i64 x2) <|
   C.same (St.env s349)[17]? (.bool (decide (x2 > 8))) <|
   C.same (St.env s349)[18]? (.bool false) <|
   C.same (St.env s349)[19]? (.int .i64 x30) <|
   C.same (St.env s349)[20]? (.int .i64 x31) <|
   C.same (St.env s349)[21]? (.bool b32) <|
   C.same (St.env s349)[22]? v33 <|
   C.same (St.env s349)[23]? v34 <|
   C.same (St.env s349)[24]? v35 <|
   C.same (St.env s349)[25]? v36 <|
   C.same (St.env s349)[26]? v37 <|
   C.same (St.env s349)[27]? v38 <|
   C.same (St.env s349)[28]? v39 <|
   C.same (St.env s349)[29]? v40 <|
   C.same (St.env s349)[30]? (.int .i64 x45) <|
   C.same (St.env s349)[31]? (.int .i64 x2) <|
   C.same (St.env s349)[32]? (.bool true) <|
   C.same (St.env s349)[33]? v54 <|
   C.same (St.env s349)[34]? v55 <|
   C.same (St.env s349)[35]? (.int .i64 x45) <|
   C.same (St.env s349)[36]? (.int .i64 (IntKind.wrap .i64 (x45 + 1))) <|
   C.int .i64 (St.env s349)[37]? fun x356 =>
   C.int .i64 (St.env s349)[38]? fun x357 =>
   C.bool (St.env s349)[39]? fun b358 =>
   C.any (St.env s349)[40]? fun v359 =>
   C.any (St.env s349)[41]? fun v360 =>
   C.any (St.env s349)[42]? fun v361 =>
   C.any (St.env s349)[43]? fun v362 =>
   C.any (St.env s349)[44]? fun v363 =>
   C.any (St.env s349)[45]? fun v364 =>
   C.any (St.env s349)[46]? fun v365 =>
   C.any (St.env s349)[47]? fun v366 =>
   C.any (St.env s349)[48]? fun v367 =>
   C.any (St.env s349)[49]? fun v368 =>
   C.any (St.env s349)[50]? fun v369 =>
   C.any (St.env s349)[51]? fun v370 =>
   C.any (St.env s349)[52]? fun v371 =>
   C.any (St.env s349)[53]? fun v372 =>
   C.any (St.env s349)[54]? fun v373 =>
   C.any (St.env s349)[55]? fun v374 =>
   C.any (St.env s349)[56]? fun v375 =>
   C.any (St.env s349)[57]? fun v376 =>
   C.any (St.env s349)[58]? fun v377 =>
   C.any (St.env s349)[59]? fun v378 =>
   C.any (St.env s349)[60]? fun v379 =>
   C.any (St.env s349)[61]? fun v380 =>
   C.any (St.env s349)[62]? fun v381 =>
   C.any (St.env s349)[63]? fun v382 =>
   C.any (St.env s349)[64]? fun v383 =>
   C.any (St.env s349)[65]? fun v384 =>
   C.any (St.env s349)[66]? fun v385 =>
   C.any (St.env s349)[67]? fun v386 =>
   C.any (St.env s349)[68]? fun v387 =>
   C.any (St.env s349)[69]? fun v388 =>
   C.any (St.env s349)[70]? fun v389 =>
   C.any (St.env s349)[71]? fun v390 =>
   C.any (St.env s349)[72]? fun v391 =>
   C.any (St.env s349)[73]? fun v392 =>
   C.any (St.env s349)[74]? fun v393 =>
   C.any (St.env s349)[75]? fun v394 =>
   C.any (St.env s349)[76]? fun v395 =>
   C.any (St.env s349)[77]? fun v396 =>
   C.any (St.env s349)[78]? fun v397 =>
   C.any (St.env s349)[79]? fun v398 =>
   C.any (St.env s349)[80]? fun v399 =>
   C.any (St.env s349)[81]? fun v400 =>
   C.any (St.env s349)[82]? fun v401 =>
   C.any (St.env s349)[83]? fun v402 =>
   C.any (St.env s349)[84]? fun v403 =>
   C.any (St.env s349)[85]? fun v404 =>
   C.any (St.env s349)[86]? fun v405 =>
   C.any (St.env s349)[87]? fun v406 =>
   C.any (St.env s349)[88]? fun v407 =>
   C.any (St.env s349)[89]? fun v408 =>
   C.any (St.env s349)[90]? fun v409 =>
   C.any (St.env s349)[91]? fun v410 =>
   C.any (St.env s349)[92]? fun v411 =>
   C.any (St.env s349)[93]? fun v412 =>
   C.any (St.env s349)[94]? fun v413 =>
   C.any (St.env s349)[95]? fun v414 =>
   C.any (St.env s349)[96]? fun v415 =>
   C.any (St.env s349)[97]? fun v416 =>
   C.any (St.env s349)[98]? fun v417 =>
   C.any (St.env s349)[99]? fun v418 =>
   k42 .normal ⟨[(.lst a0), (.tup []), (.bool b350), (.int .i64 x2), (.int .i64 x29), (.int .i64 (IntKind.wrap .i64 (x45 + 1))), (.int .i64 x351), v352, v353, v354, v355, (.lst a0), (.int .i64 x2), (.int .i64 x2), (.bool (decide (x2 < 3))), (.bool false), (.int .i64 x2), (.bool (decide (x2 > 8))), (.bool false), (.int .i64 x30), (.int .i64 x31), (.bool b32), v33, v34, v35, v36, v37, v38, v39, v40, (.int .i64 x45), (.int .i64 x2), (.bool true), (.int .i64 x45), (.int .i64 (IntKind.wrap .i64 (x45 + 1))), (.int .i64 x45), (.int .i64 (IntKind.wrap .i64 (x45 + 1))), (.int .i64 x356), (.int .i64 x357), (.bool b358), v359, v360, v361, v362, v363, v364, v365, v366, v367, v368, v369, v370, v371, v372, v373, v374, v375, v376, v377, v378, v379, v380, v381, v382, v383, v384, v385, v386, v387, v388, v389, v390, v391, v392, v393, v394, v395, v396, v397, v398, v399, v400, v401, v402, v403, v404, v405, v406, v407, v408, v409, v410, v411, v412, v413, v414, v415, v416, v417, v418], (St.H s349)⟩)
   (none)
def r45E2 (C : Cb) (d : Nat) (a0 : List AV) (x2 : Int) (x29 : Int) (x30 : Int) (x31 : Int) (b32 : Bool) (v33 : AV) (v34 : AV) (v35 : AV) (v36 : AV) (v37 : AV) (v38 : AV) (v39 : AV) (v40 : AV) (k42 : Ex → St → Ans) (x45 : Int) (v54 : AV) (v55 : AV) : St → Ans := fun s123 =>
  cnd ((List.length (St.env s123)) == 100)
   (C.same (St.env s123)[0]? (.lst a0) <|
   C.same (St.env s123)[1]? (.tup []) <|
   C.bool (St.env s123)[2]? fun b419 =>
   C.same (St.env s123)[3]? (.int .i64 x2) <|
   C.same (St.env s123)[4]? (.int .i64 x29) <|
   C.same (St.env s123)[5]? (.int .i64 x45) <|
   C.int .i64 (St.env s123)[6]? fun x420 =>
   C.any (St.env s123)[7]? fun v421 =>
   C.any (St.env s123)[8]? fun v422 =>
   C.any (St.env s123)[9]? fun v423 =>
   C.any (St.env s123)[10]? fun v424 =>
   C.same (St.env s123)[11]? (.lst a0) <|
   C.same (St.env s123)[12]? (.int .i64 x2) <|
   C.same (St.env s123)[13]? (.int .i64 x2) <|
   C.same (St.env s123)[14]? (.bool (decide (x2 < 3))) <|
   C.same (St.env s123)[15]? (.bool false) <|
   C.same (St.env s123)[16]? (.int .i64 x2) <|
   C.same (St.env s123)[17]? (.bool (decide (x2 > 8))) <|
   C.same (St.env s123)[18]? (.bool false) <|
   C.same (St.env s123)[19]? (.int .i64 x30) <|
   C.same (St.env s123)[20]? (.int .i64 x31) <|
   C.same (St.env s123)[21]? (.bool b32) <|
   C.same (St.env s123)[22]? v33 <|
   C.same (St.env s123)[23]? v34 <|
   C.same (St.env s123)[24]? v35 <|
   C.same (St.env s123)[25]? v36 <|
   C.same (St.env s123)[26]? v37 <|
   C.same (St.env s123)[27]? v38 <|
   C.same (St.env s123)[28]? v39 <|
   C.same (St.env s123)[29]? v40 <|
   C.same (St.env s123)[30]? (.int .i64 x45) <|
   C.same (St.env s123)[31]? (.int .i64 x2) <|
   C.same (St.env s123)[32]? (.bool true) <|
   C.same (St.env s123)[33]? v54 <|
   C.same (St.env s123)[34]? v55 <|
   C.same (St.env s123)[35]? (.int .i64 x45) <|
   C.same (St.env s123)[36]? (.int .i64 (IntKind.wrap .i64 (x45 + 1))) <|
   C.int .i64 (St.env s123)[37]? fun x425 =>
   C.int .i64 (St.env s123)[38]? fun x426 =>
   C.bool (St.env s123)[39]? fun b427 =>
   C.any (St.env s123)[40]? fun v428 =>
   C.any (St.env s123)[41]? fun v429 =>
   C.any (St.env s123)[42]? fun v430 =>
   C.int .i64 (St.env s123)[43]? fun x431 =>
   C.any (St.env s123)[44]? fun v432 =>
   C.agg 2 (St.env s123)[45]? fun l433 =>
   C.int .i64 l433[0]? fun x434 =>
   C.int .i64 l433[1]? fun x435 =>
   C.any (St.env s123)[46]? fun v436 =>
   C.int .i64 (St.env s123)[47]? fun x437 =>
   C.agg 2 (St.env s123)[48]? fun l438 =>
   C.int .i64 l438[0]? fun x439 =>
   C.int .i64 l438[1]? fun x440 =>
   C.any (St.env s123)[49]? fun v441 =>
   C.int .i64 (St.env s123)[50]? fun x442 =>
   C.any (St.env s123)[51]? fun v443 =>
   C.agg 2 (St.env s123)[52]? fun l444 =>
   C.int .i64 l444[0]? fun x445 =>
   C.int .i64 l444[1]? fun x446 =>
   C.any (St.env s123)[53]? fun v447 =>
   C.int .i64 (St.env s123)[54]? fun x448 =>
   C.agg 2 (St.env s123)[55]? fun l449 =>
   C.int .i64 l449[0]? fun x450 =>
   C.int .i64 l449[1]? fun x451 =>
   C.bool (St.env s123)[56]? fun b452 =>
   C.agg 2 (St.env s123)[57]? fun l453 =>
   C.int .i64 l453[0]? fun x454 =>
   C.int .i64 l453[1]? fun x455 =>
   C.agg 2 (St.env s123)[58]? fun l456 =>
   C.int .i64 l456[0]? fun x457 =>
   C.int .i64 l456[1]? fun x458 =>
   C.bool (St.env s123)[59]? fun b459 =>
   C.any (St.env s123)[60]? fun v460 =>
   C.any (St.env s123)[61]? fun v461 =>
   C.any (St.env s123)[62]? fun v462 =>
   C.any (St.env s123)[63]? fun v463 =>
   C.any (St.env s123)[64]? fun v464 =>
   C.any (St.env s123)[65]? fun v465 =>
   C.any (St.env s123)[66]? fun v466 =>
   C.any (St.env s123)[67]? fun v467 =>
   C.any (St.env s123)[68]? fun v468 =>
   C.any (St.env s123)[69]? fun v469 =>
   C.any (St.env s123)[70]? fun v470 =>
   C.any (St.env s123)[71]? fun v471 =>
   C.any (St.env s123)[72]? fun v472 =>
   C.any (St.env s123)[73]? fun v473 =>
   C.any (St.env s123)[74]? fun v474 =>
   C.any (St.env s123)[75]? fun v475 =>
   C.any (St.env s123)[76]? fun v476 =>
   C.any (St.env s123)[77]? fun v477 =>
   C.any (St.env s123)[78]? fun v478 =>
   C.any (St.env s123)[79]? fun v479 =>
   C.any (St.env s123)[80]? fun v480 =>
   C.any (St.env s123)[81]? fun v481 =>
   C.any (St.env s123)[82]? fun v482 =>
   C.any (St.env s123)[83]? fun v483 =>
   C.any (St.env s123)[84]? fun v484 =>
   C.any (St.env s123)[85]? fun v485 =>
   C.any (St.env s123)[86]? fun v486 =>
   C.any (St.env s123)[87]? fun v487 =>
   C.any (St.env s123)[88]? fun v488 =>
   C.any (St.env s123)[89]? fun v489 =>
   C.any (St.env s123)[90]? fun v490 =>
   C.any (St.env s123)[91]? fun v491 =>
   C.any (St.env s123)[92]? fun v492 =>
   C.any (St.env s123)[93]? fun v493 =>
   C.any (St.env s123)[94]? fun v494 =>
   C.any (St.env s123)[95]? fun v495 =>
   C.any (St.env s123)[96]? fun v496 =>
   C.any (St.env s123)[97]? fun v497 =>
   C.any (St.env s123)[98]? fun v498 =>
   C.any (St.env s123)[99]? fun v499 =>
   k42 .ret ⟨[(.lst a0), (.tup []), (.bool b419), (.int .i64 x2), (.int .i64 x29), (.int .i64 x45), (.int .i64 x420), v421, v422, v423, v424, (.lst a0), (.int .i64 x2), (.int .i64 x2), (.bool (decide (x2 < 3))), (.bool false), (.int .i64 x2), (.bool (decide (x2 > 8))), (.bool false), (.int .i64 x30), (.int .i64 x31), (.bool b32), v33, v34, v35, v36, v37, v38, v39, v40, (.int .i64 x45), (.int .i64 x2), (.bool true), v54, v55, (.int .i64 x45), (.int .i64 (IntKind.wrap .i64 (x45 + 1))), (.int .i64 x425), (.int .i64 x426), (.bool b427), v428, v429, v430, (.int .i64 x431), v432, (.agg [(.int .i64 x434), (.int .i64 x435)]), v436, (.int .i64 x437), (.agg [(.int .i64 x439), (.int .i64 x440)]), v441, (.int .i64 x442), v443, (.agg [(.int .i64 x445), (.int .i64 x446)]), v447, (.int .i64 x448), (.agg [(.int .i64 x450), (.int .i64 x451)]), (.bool b452), (.agg [(.int .i64 x454), (.int .i64 x455)]), (.agg [(.int .i64 x457), (.int .i64 x458)]), (.bool b459), v460, v461, v462, v463, v464, v465, v466, v467, v468, v469, v470, v471, v472, v473, v474, v475, v476, v477, v478, v479, v480, v481, v482, v483, v484, v485, v486, v487, v488, v489, v490, v491, v492, v493, v494, v495, v496, v497, v498, v499], (St.H s123)⟩)
   (none)
def r45R1 (C : Cb) (d : Nat) (a0 : List AV) (x2 : Int) (x29 : Int) (x30 : Int) (x31 : Int) (b32 : Bool) (v33 : AV) (v34 : AV) (v35 : AV) (v36 : AV) (v37 : AV) (v38 : AV) (v39 : AV) (v40 : AV) : St → (Ex → St → Ans) → Ans := fun s41 k42 =>
  cnd ((List.length (St.env s41)) == 100)
   (C.same (St.env s41)[0]? (.lst a0) <|
   C.same (St.env s41)[1]? (.tup []) <|
   C.bool (St.env s41)[2]? fun b44 =>
   C.same (St.env s41)[3]? (.int .i64 x2) <|
   C.same (St.env s41)[4]? (.int .i64 x29) <|
   C.int .i64 (St.env s41)[5]? fun x45 =>
   C.any (St.env s41)[6]? fun v46 =>
   C.any (St.env s41)[7]? fun v47 =>
   C.any (St.env s41)[8]? fun v48 =>
   C.any (St.env s41)[9]? fun v49 =>
   C.any (St.env s41)[10]? fun v50 =>
   C.same (St.env s41)[11]? (.lst a0) <|
   C.same (St.env s41)[12]? (.int .i64 x2) <|
   C.same (St.env s41)[13]? (.int .i64 x2) <|
   C.same (St.env s41)[14]? (.bool (decide (x2 < 3))) <|
   C.same (St.env s41)[15]? (.bool false) <|
   C.same (St.env s41)[16]? (.int .i64 x2) <|
   C.same (St.env s41)[17]? (.bool (decide (x2 > 8))) <|
   C.same (St.env s41)[18]? (.bool false) <|
   C.same (St.env s41)[19]? (.int .i64 x30) <|
   C.same (St.env s41)[20]? (.int .i64 x31) <|
   C.same (St.env s41)[21]? (.bool b32) <|
   C.same (St.env s41)[22]? v33 <|
   C.same (St.env s41)[23]? v34 <|
   C.same (St.env s41)[24]? v35 <|
   C.same (St.env s41)[25]? v36 <|
   C.same (St.env s41)[26]? v37 <|
   C.same (St.env s41)[27]? v38 <|
   C.same (St.env s41)[28]? v39 <|
   C.same (St.env s41)[29]? v40 <|
   C.any (St.env s41)[30]? fun v51 =>
   C.any (St.env s41)[31]? fun v52 =>
   C.any (St.env s41)[32]? fun v53 =>
   C.any (St.env s41)[33]? fun v54 =>
   C.any (St.env s41)[34]? fun v55 =>
   C.any (St.env s41)[35]? fun v56 =>
   C.any (St.env s41)[36]? fun v57 =>
   C.any (St.env s41)[37]? fun v58 =>
   C.any (St.env s41)[38]? fun v59 =>
   C.any (St.env s41)[39]? fun v60 =>
   C.any (St.env s41)[40]? fun v61 =>
   C.any (St.env s41)[41]? fun v62 =>
   C.any (St.env s41)[42]? fun v63 =>
   C.any (St.env s41)[43]? fun v64 =>
   C.any (St.env s41)[44]? fun v65 =>
   C.any (St.env s41)[45]? fun v66 =>
   C.any (St.env s41)[46]? fun v67 =>
   C.any (St.env s41)[47]? fun v68 =>
   C.any (St.env s41)[48]? fun v69 =>
   C.any (St.env s41)[49]? fun v70 =>
   C.any (St.env s41)[50]? fun v71 =>
   C.any (St.env s41)[51]? fun v72 =>
   C.any (St.env s41)[52]? fun v73 =>
   C.any (St.env s41)[53]? fun v74 =>
   C.any (St.env s41)[54]? fun v75 =>
   C.any (St.env s41)[55]? fun v76 =>
   C.any (St.env s41)[56]? fun v77 =>
   C.any (St.env s41)[57]? fun v78 =>
   C.any (St.env s41)[58]? fun v79 =>
   C.any (St.env s41)[59]? fun v80 =>
   C.any (St.env s41)[60]? fun v81 =>
   C.any (St.env s41)[61]? fun v82 =>
   C.any (St.env s41)[62]? fun v83 =>
   C.any (St.env s41)[63]? fun v84 =>
   C.any (St.env s41)[64]? fun v85 =>
   C.any (St.env s41)[65]? fun v86 =>
   C.any (St.env s41)[66]? fun v87 =>
   C.any (St.env s41)[67]? fun v88 =>
   C.any (St.env s41)[68]? fun v89 =>
   C.any (St.env s41)[69]? fun v90 =>
   C.any (St.env s41)[70]? fun v91 =>
   C.any (St.env s41)[71]? fun v92 =>
   C.any (St.env s41)[72]? fun v93 =>
   C.any (St.env s41)[73]? fun v94 =>
   C.any (St.env s41)[74]? fun v95 =>
   C.any (St.env s41)[75]? fun v96 =>
   C.any (St.env s41)[76]? fun v97 =>
   C.any (St.env s41)[77]? fun v98 =>
   C.any (St.env s41)[78]? fun v99 =>
   C.any (St.env s41)[79]? fun v100 =>
   C.any (St.env s41)[80]? fun v101 =>
   C.any (St.env s41)[81]? fun v102 =>
   C.any (St.env s41)[82]? fun v103 =>
   C.any (St.env s41)[83]? fun v104 =>
   C.any (St.env s41)[84]? fun v105 =>
   C.any (St.env s41)[85]? fun v106 =>
   C.any (St.env s41)[86]? fun v107 =>
   C.any (St.env s41)[87]? fun v108 =>
   C.any (St.env s41)[88]? fun v109 =>
   C.any (St.env s41)[89]? fun v110 =>
   C.any (St.env s41)[90]? fun v111 =>
   C.any (St.env s41)[91]? fun v112 =>
   C.any (St.env s41)[92]? fun v113 =>
   C.any (St.env s41)[93]? fun v114 =>
   C.any (St.env s41)[94]? fun v115 =>
   C.any (St.env s41)[95]? fun v116 =>
   C.any (St.env s41)[96]? fun v117 =>
   C.any (St.env s41)[97]? fun v118 =>
   C.any (St.env s41)[98]? fun v119 =>
   C.any (St.env s41)[99]? fun v120 =>
   cnd (decide (x45 < x2))
   (C.iter (r45R2 C d a0 x2 x29 x30 x31 b32 v33 v34 v35 v36 v37 v38 v39 v40 k42 x45 v54 v55) 1000000000000000000 ⟨[(.lst a0), (.tup []), (.bool b44), (.int .i64 x2), (.int .i64 x29), (.int .i64 x45), (.int .i64 (IntKind.wrap .i64 (x45 + 1))), v47, v48, v49, v50, (.lst a0), (.int .i64 x2), (.int .i64 x2), (.bool (decide (x2 < 3))), (.bool false), (.int .i64 x2), (.bool (decide (x2 > 8))), (.bool false), (.int .i64 x30), (.int .i64 x31), (.bool b32), v33, v34, v35, v36, v37, v38, v39, v40, (.int .i64 x45), (.int .i64 x2), (.bool true), v54, v55, (.int .i64 x45), (.int .i64 (IntKind.wrap .i64 (x45 + 1))), v58, v59, v60, v61, v62, v63, v64, v65, v66, v67, v68, v69, v70, v71, v72, v73, v74, v75, v76, v77, v78, v79, v80, v81, v82, v83, v84, v85, v86, v87, v88, v89, v90, v91, v92, v93, v94, v95, v96, v97, v98, v99, v100, v101, v102, v103, v104, v105, v106, v107, v108, v109, v110, v111, v112, v113, v114, v115, v116, v117, v118, v119, v120], (St.H s41)⟩ [4] [r45X2_0 C d a0 x2 x29 x30 x31 b32 v33 v34 v35 v36 v37 v38 v39 v40 k42 x45 v54 v55] (r45E2 C d a0 x2 x29 x30 x31 b32 v33 v34 v35 v36 v37 v38 v39 v40 k42 x45 v54 v55))
   (k42 (.exit 2) ⟨[(.lst a0), (.tup []), (.bool b44), (.int .i64 x2), (.int .i64 x29), (.int .i64 x45), v46, v47, v48, v49, v50, (.lst a0), (.int .i64 x2), (.int .i64 x2), (.bool (decide (x2 < 3))), (.bool false), (.int .i64 x2), (.bool (decide (x2 > 8))), (.bool false), (.int .i64 x30), (.int .i64 x31), (.bool b32), v33, v34, v35, v36, v37, v38, v39, v40, (.int .i64 x45), (.int .i64 x2), (.bool false), v54, v55, v56, v57, v58, v59, v60, v61, v62, v63, v64, v65, v66, v67, v68, v69, v70, v71, v72, v73, v74, v75, v76, v77, v78, v79, v80, v81, v82, v83, v84, v85, v86, v87, v88, v89, v90, v91, v92, v93, v94, v95, v96, v97, v98, v99, v100, v101, v102, v103, v104, v105, v106, v107, v108, v109, v110, v111, v112, v113, v114, v115, v116, v117, v118, v119, v120], (St.H s41)⟩))
   (none)
def r45X1_0 (C : Cb) (d : Nat) (a0 : List AV) (x2 : Int) (x29 : Int) (x30 : Int) (x31 : Int) (b32 : Bool) (v33 : AV) (v34 : AV) (v35 : AV) (v36 : AV) (v37 : AV) (v38 : AV) (v39 : AV) (v40 : AV) : St → Ans := fun s500 =>
  cnd ((List.length (St.env s500)) == 100)
   (C.same (St.env s500)[0]? (.lst a0) <|
   C.same (St.env s500)[1]? (.tup []) <|
   C.bool (St.env s500)[2]? fun b501 =>
   C.same (St.env s500)[3]? (.int .i64 x2) <|
   C.same (St.env s500)[4]? (.int .i64 x29) <|
   C.int .i64 (St.env s500)[5]? fun x502 =>
   C.any (St.env s500)[6]? fun v503 =>
   C.any (St.env s500)[7]? fun v504 =>
   C.any (St.env s500)[8]? fun v505 =>
   C.any (St.env s500)[9]? fun v506 =>
   C.any (St.env s500)[10]? fun v507 =>
   C.same (St.env s500)[11]? (.lst a0) <|
   C.same (St.env s500)[12]? (.int .i64 x2) <|
   C.same (St.env s500)[13]? (.int .i64 x2) <|
   C.same (St.env s500)[14]? (.bool (decide (x2 < 3))) <|
   C.same (St.env s500)[15]? (.bool false) <|
   C.same (St.env s500)[16]? (.int .i64 x2) <|
   C.same (St.env s500)[17]? (.bool (decide (x2 > 8))) <|
   C.same (St.env s500)[18]? (.bool false) <|
   C.same (St.env s500)[19]? (.int .i64 x30) <|
   C.same (St.env s500)[20]? (.int .i64 x31) <|
   C.same (St.env s500)[21]? (.bool b32) <|
   C.same (St.env s500)[22]? v33 <|
   C.same (St.env s500)[23]? v34 <|
   C.same (St.env s500)[24]? v35 <|
   C.same (St.env s500)[25]? v36 <|
   C.same (St.env s500)[26]? v37 <|
   C.same (St.env s500)[27]? v38 <|
   C.same (St.env s500)[28]? v39 <|
   C.same (St.env s500)[29]? v40 <|
   C.int .i64 (St.env s500)[30]? fun x508 =>
   C.int .i64 (St.env s500)[31]? fun x509 =>
   C.bool (St.env s500)[32]? fun b510 =>
   C.any (St.env s500)[33]? fun v511 =>
   C.any (St.env s500)[34]? fun v512 =>
   C.any (St.env s500)[35]? fun v513 =>
   C.any (St.env s500)[36]? fun v514 =>
   C.any (St.env s500)[37]? fun v515 =>
   C.any (St.env s500)[38]? fun v516 =>
   C.any (St.env s500)[39]? fun v517 =>
   C.any (St.env s500)[40]? fun v518 =>
   C.any (St.env s500)[41]? fun v519 =>
   C.any (St.env s500)[42]? fun v520 =>
   C.any (St.env s500)[43]? fun v521 =>
   C.any (St.env s500)[44]? fun v522 =>
   C.any (St.env s500)[45]? fun v523 =>
   C.any (St.env s500)[46]? fun v524 =>
   C.any (St.env s500)[47]? fun v525 =>
   C.any (St.env s500)[48]? fun v526 =>
   C.any (St.env s500)[49]? fun v527 =>
   C.any (St.env s500)[50]? fun v528 =>
   C.any (St.env s500)[51]? fun v529 =>
   C.any (St.env s500)[52]? fun v530 =>
   C.any (St.env s500)[53]? fun v531 =>
   C.any (St.env s500)[54]? fun v532 =>
   C.any (St.env s500)[55]? fun v533 =>
   C.any (St.env s500)[56]? fun v534 =>
   C.any (St.env s500)[57]? fun v535 =>
   C.any (St.env s500)[58]? fun v536 =>
   C.any (St.env s500)[59]? fun v537 =>
   C.any (St.env s500)[60]? fun v538 =>
   C.any (St.env s500)[61]? fun v539 =>
   C.any (St.env s500)[62]? fun v540 =>
   C.any (St.env s500)[63]? fun v541 =>
   C.any (St.env s500)[64]? fun v542 =>
   C.any (St.env s500)[65]? fun v543 =>
   C.any (St.env s500)[66]? fun v544 =>
   C.any (St.env s500)[67]? fun v545 =>
   C.any (St.env s500)[68]? fun v546 =>
   C.any (St.env s500)[69]? fun v547 =>
   C.any (St.env s500)[70]? fun v548 =>
   C.any (St.env s500)[71]? fun v549 =>
   C.any (St.env s500)[72]? fun v550 =>
   C.any (St.env s500)[73]? fun v551 =>
   C.any (St.env s500)[74]? fun v552 =>
   C.any (St.env s500)[75]? fun v553 =>
   C.any (St.env s500)[76]? fun v554 =>
   C.any (St.env s500)[77]? fun v555 =>
   C.any (St.env s500)[78]? fun v556 =>
   C.any (St.env s500)[79]? fun v557 =>
   C.any (St.env s500)[80]? fun v558 =>
   C.any (St.env s500)[81]? fun v559 =>
   C.any (St.env s500)[82]? fun v560 =>
   C.any (St.env s500)[83]? fun v561 =>
   C.any (St.env s500)[84]? fun v562 =>
   C.any (St.env s500)[85]? fun v563 =>
   C.any (St.env s500)[86]? fun v564 =>
   C.any (St.env s500)[87]? fun v565 =>
   C.any (St.env s500)[88]? fun v566 =>
   C.any (St.env s500)[89]? fun v567 =>
   C.any (St.env s500)[90]? fun v568 =>
   C.any (St.env s500)[91]? fun v569 =>
   C.any (St.env s500)[92]? fun v570 =>
   C.any (St.env s500)[93]? fun v571 =>
   C.any (St.env s500)[94]? fun v572 =>
   C.any (St.env s500)[95]? fun v573 =>
   C.any (St.env s500)[96]? fun v574 =>
   C.any (St.env s500)[97]? fun v575 =>
   C.any (St.env s500)[98]? fun v576 =>
   C.any (St.env s500)[99]? fun v577 =>
   C.fin (St.H s500) (.bool true))
   (none)
def r45E1 (C : Cb) (d : Nat) (a0 : List AV) (x2 : Int) (x29 : Int) (x30 : Int) (x31 : Int) (b32 : Bool) (v33 : AV) (v34 : AV) (v35 : AV) (v36 : AV) (v37 : AV) (v38 : AV) (v39 : AV) (v40 : AV) : St → Ans := fun s43 =>
  cnd ((List.length (St.env s43)) == 100)
   (C.same (St.env s43)[0]? (.lst a0) <|
   C.same (St.env s43)[1]? (.tup []) <|
   C.bool (St.env s43)[2]? fun b578 =>
   C.same (St.env s43)[3]? (.int .i64 x2) <|
   C.same (St.env s43)[4]? (.int .i64 x29) <|
   C.int .i64 (St.env s43)[5]? fun x579 =>
   C.int .i64 (St.env s43)[6]? fun x580 =>
   C.any (St.env s43)[7]? fun v581 =>
   C.any (St.env s43)[8]? fun v582 =>
   C.any (St.env s43)[9]? fun v583 =>
   C.any (St.env s43)[10]? fun v584 =>
   C.same (St.env s43)[11]? (.lst a0) <|
   C.same (St.env s43)[12]? (.int .i64 x2) <|
   C.same (St.env s43)[13]? (.int .i64 x2) <|
   C.same (St.env s43)[14]? (.bool (decide (x2 < 3))) <|
   C.same (St.env s43)[15]? (.bool false) <|
   C.same (St.env s43)[16]? (.int .i64 x2) <|
   C.same (St.env s43)[17]? (.bool (decide (x2 > 8))) <|
   C.same (St.env s43)[18]? (.bool false) <|
   C.same (St.env s43)[19]? (.int .i64 x30) <|
   C.same (St.env s43)[20]? (.int .i64 x31) <|
   C.same (St.env s43)[21]? (.bool b32) <|
   C.same (St.env s43)[22]? v33 <|
   C.same (St.env s43)[23]? v34 <|
   C.same (St.env s43)[24]? v35 <|
   C.same (St.env s43)[25]? v36 <|
   C.same (St.env s43)[26]? v37 <|
   C.same (St.env s43)[27]? v38 <|
   C.same (St.env s43)[28]? v39 <|
   C.same (St.env s43)[29]? v40 <|
   C.int .i64 (St.env s43)[30]? fun x585 =>
   C.int .i64 (St.env s43)[31]? fun x586 =>
   C.bool (St.env s43)[32]? fun b587 =>
   C.any (St.env s43)[33]? fun v588 =>
   C.any (St.env s43)[34]? fun v589 =>
   C.int .i64 (St.env s43)[35]? fun x590 =>
   C.int .i64 (St.env s43)[36]? fun x591 =>
   C.int .i64 (St.env s43)[37]? fun x592 =>
   C.int .i64 (St.env s43)[38]? fun x593 =>
   C.bool (St.env s43)[39]? fun b594 =>
   C.any (St.env s43)[40]? fun v595 =>
   C.any (St.env s43)[41]? fun v596 =>
   C.any (St.env s43)[42]? fun v597 =>
   C.int .i64 (St.env s43)[43]? fun x598 =>
   C.any (St.env s43)[44]? fun v599 =>
   C.agg 2 (St.env s43)[45]? fun l600 =>
   C.int .i64 l600[0]? fun x601 =>
   C.int .i64 l600[1]? fun x602 =>
   C.any (St.env s43)[46]? fun v603 =>
   C.int .i64 (St.env s43)[47]? fun x604 =>
   C.agg 2 (St.env s43)[48]? fun l605 =>
   C.int .i64 l605[0]? fun x606 =>
   C.int .i64 l605[1]? fun x607 =>
   C.any (St.env s43)[49]? fun v608 =>
   C.int .i64 (St.env s43)[50]? fun x609 =>
   C.any (St.env s43)[51]? fun v610 =>
   C.agg 2 (St.env s43)[52]? fun l611 =>
   C.int .i64 l611[0]? fun x612 =>
   C.int .i64 l611[1]? fun x613 =>
   C.any (St.env s43)[53]? fun v614 =>
   C.int .i64 (St.env s43)[54]? fun x615 =>
   C.agg 2 (St.env s43)[55]? fun l616 =>
   C.int .i64 l616[0]? fun x617 =>
   C.int .i64 l616[1]? fun x618 =>
   C.bool (St.env s43)[56]? fun b619 =>
   C.agg 2 (St.env s43)[57]? fun l620 =>
   C.int .i64 l620[0]? fun x621 =>
   C.int .i64 l620[1]? fun x622 =>
   C.agg 2 (St.env s43)[58]? fun l623 =>
   C.int .i64 l623[0]? fun x624 =>
   C.int .i64 l623[1]? fun x625 =>
   C.bool (St.env s43)[59]? fun b626 =>
   C.any (St.env s43)[60]? fun v627 =>
   C.any (St.env s43)[61]? fun v628 =>
   C.any (St.env s43)[62]? fun v629 =>
   C.any (St.env s43)[63]? fun v630 =>
   C.any (St.env s43)[64]? fun v631 =>
   C.any (St.env s43)[65]? fun v632 =>
   C.any (St.env s43)[66]? fun v633 =>
   C.any (St.env s43)[67]? fun v634 =>
   C.any (St.env s43)[68]? fun v635 =>
   C.any (St.env s43)[69]? fun v636 =>
   C.any (St.env s43)[70]? fun v637 =>
   C.any (St.env s43)[71]? fun v638 =>
   C.any (St.env s43)[72]? fun v639 =>
   C.any (St.env s43)[73]? fun v640 =>
   C.any (St.env s43)[74]? fun v641 =>
   C.any (St.env s43)[75]? fun v642 =>
   C.any (St.env s43)[76]? fun v643 =>
   C.any (St.env s43)[77]? fun v644 =>
   C.any (St.env s43)[78]? fun v645 =>
   C.any (St.env s43)[79]? fun v646 =>
   C.any (St.env s43)[80]? fun v647 =>
   C.any (St.env s43)[81]? fun v648 =>
   C.any (St.env s43)[82]? fun v649 =>
   C.any (St.env s43)[83]? fun v650 =>
   C.any (St.env s43)[84]? fun v651 =>
   C.any (St.env s43)[85]? fun v652 =>
   C.any (St.env s43)[86]? fun v653 =>
   C.any (St.env s43)[87]? fun v654 =>
   C.any (St.env s43)[88]? fun v655 =>
   C.any (St.env s43)[89]? fun v656 =>
   C.any (St.env s43)[90]? fun v657 =>
   C.any (St.env s43)[91]? fun v658 =>
   C.any (St.env s43)[92]? fun v659 =>
   C.any (St.env s43)[93]? fun v660 =>
   C.any (St.env s43)[94]? fun v661 =>
   C.any (St.env s43)[95]? fun v662 =>
   C.any (St.env s43)[96]? fun v663 =>
   C.any (St.env s43)[97]? fun v664 =>
   C.any (St.env s43)[98]? fun v665 =>
   C.any (St.env s43)[99]? fun v666 =>
   C.fin (St.H s43) (.bool b578))
   (none)
def r45R0 (C : Cb) (d : Nat) (a0 : List AV) (x2 : Int) : St → (Ex → St → Ans) → Ans := fun s3 k4 =>
  cnd ((List.length (St.env s3)) == 100)
   (C.same (St.env s3)[0]? (.lst a0) <|
   C.same (St.env s3)[1]? (.tup []) <|
   C.bool (St.env s3)[2]? fun b6 =>
   C.same (St.env s3)[3]? (.int .i64 x2) <|
   C.int .i64 (St.env s3)[4]? fun x7 =>
   C.same (St.env s3)[5]? (.tup []) <|
   C.same (St.env s3)[6]? (.tup []) <|
   C.same (St.env s3)[7]? (.tup []) <|
   C.same (St.env s3)[8]? (.tup []) <|
   C.same (St.env s3)[9]? (.tup []) <|
   C.same (St.env s3)[10]? (.tup []) <|
   C.same (St.env s3)[11]? (.lst a0) <|
   C.same (St.env s3)[12]? (.int .i64 x2) <|
   C.same (St.env s3)[13]? (.int .i64 x2) <|
   C.same (St.env s3)[14]? (.bool (decide (x2 < 3))) <|
   C.same (St.env s3)[15]? (.bool false) <|
   C.same (St.env s3)[16]? (.int .i64 x2) <|
   C.same (St.env s3)[17]? (.bool (decide (x2 > 8))) <|
   C.same (St.env s3)[18]? (.bool false) <|
   C.any (St.env s3)[19]? fun v8 =>
   C.any (St.env s3)[20]? fun v9 =>
   C.any (St.env s3)[21]? fun v10 =>
   C.any (St.env s3)[22]? fun v11 =>
   C.any (St.env s3)[23]? fun v12 =>
   C.any (St.env s3)[24]? fun v13 =>
   C.any (St.env s3)[25]? fun v14 =>
   C.any (St.env s3)[26]? fun v15 =>
   C.any (St.env s3)[27]? fun v16 =>
   C.any (St.env s3)[28]? fun v17 =>
   C.any (St.env s3)[29]? fun v18 =>
   C.same (St.env s3)[30]? (.tup []) <|
   C.same (St.env s3)[31]? (.tup []) <|
   C.same (St.env s3)[32]? (.tup []) <|
   C.same (St.env s3)[33]? (.tup []) <|
   C.same (St.env s3)[34]? (.tup []) <|
   C.same (St.env s3)[35]? (.tup []) <|
   C.same (St.env s3)[36]? (.tup []) <|
   C.same (St.env s3)[37]? (.tup []) <|
   C.same (St.env s3)[38]? (.tup []) <|
   C.same (St.env s3)[39]? (.tup []) <|
   C.same (St.env s3)[40]? (.tup []) <|
   C.same (St.env s3)[41]? (.tup []) <|
   C.same (St.env s3)[42]? (.tup []) <|
   C.same (St.env s3)[43]? (.tup []) <|
   C.same (St.env s3)[44]? (.tup []) <|
   C.same (St.env s3)[45]? (.tup []) <|
   C.same (St.env s3)[46]? (.tup []) <|
   C.same (St.env s3)[47]? (.tup []) <|
   C.same (St.env s3)[48]? (.tup []) <|
   C.same (St.env s3)[49]? (.tup []) <|
   C.same (St.env s3)[50]? (.tup []) <|
   C.same (St.env s3)[51]? (.tup []) <|
   C.same (St.env s3)[52]? (.tup []) <|
   C.same (St.env s3)[53]? (.tup []) <|
   C.same (St.env s3)[54]? (.tup []) <|
   C.same (St.env s3)[55]? (.tup []) <|
   C.same (St.env s3)[56]? (.tup []) <|
   C.same (St.env s3)[57]? (.tup []) <|
   C.same (St.env s3)[58]? (.tup []) <|
   C.same (St.env s3)[59]? (.tup []) <|
   C.same (St.env s3)[60]? (.tup []) <|
   C.same (St.env s3)[61]? (.tup []) <|
   C.same (St.env s3)[62]? (.tup []) <|
   C.same (St.env s3)[63]? (.tup []) <|
   C.same (St.env s3)[64]? (.tup []) <|
   C.same (St.env s3)[65]? (.tup []) <|
   C.same (St.env s3)[66]? (.tup []) <|
   C.same (St.env s3)[67]? (.tup []) <|
   C.same (St.env s3)[68]? (.tup []) <|
   C.same (St.env s3)[69]? (.tup []) <|
   C.same (St.env s3)[70]? (.tup []) <|
   C.same (St.env s3)[71]? (.tup []) <|
   C.same (St.env s3)[72]? (.tup []) <|
   C.same (St.env s3)[73]? (.tup []) <|
   C.same (St.env s3)[74]? (.tup []) <|
   C.same (St.env s3)[75]? (.tup []) <|
   C.same (St.env s3)[76]? (.tup []) <|
   C.same (St.env s3)[77]? (.tup []) <|
   C.same (St.env s3)[78]? (.tup []) <|
   C.same (St.env s3)[79]? (.tup []) <|
   C.same (St.env s3)[80]? (.tup []) <|
   C.same (St.env s3)[81]? (.tup []) <|
   C.same (St.env s3)[82]? (.tup []) <|
   C.same (St.env s3)[83]? (.tup []) <|
   C.same (St.env s3)[84]? (.tup []) <|
   C.same (St.env s3)[85]? (.tup []) <|
   C.same (St.env s3)[86]? (.tup []) <|
   C.same (St.env s3)[87]? (.tup []) <|
   C.same (St.env s3)[88]? (.tup []) <|
   C.same (St.env s3)[89]? (.tup []) <|
   C.same (St.env s3)[90]? (.tup []) <|
   C.same (St.env s3)[91]? (.tup []) <|
   C.same (St.env s3)[92]? (.tup []) <|
   C.same (St.env s3)[93]? (.tup []) <|
   C.same (St.env s3)[94]? (.tup []) <|
   C.same (St.env s3)[95]? (.tup []) <|
   C.same (St.env s3)[96]? (.tup []) <|
   C.same (St.env s3)[97]? (.tup []) <|
   C.same (St.env s3)[98]? (.tup []) <|
   C.same (St.env s3)[99]? (.tup []) <|
   cnd (decide (x7 < x2))
   (C.hop (St.H s3) (.ixAS .any 2 (.v (.lst a0)) (.v (.int .i64 x7))) fun v19 h20 =>
   C.hop h20 (.load true 2 (.v v19)) fun v21 h22 =>
   C.agg 2 (some v21) fun l23 =>
   C.int .i64 l23[0]? fun x24 =>
   C.int .i64 l23[1]? fun x25 =>
   C.bool (pcall M d 26 [(.agg [(.int .i64 x24), (.int .i64 x25)])]) fun b26 =>
   cnd (!b26)
   (k4 .ret ⟨[(.lst a0), (.tup []), (.bool false), (.int .i64 x2), (.int .i64 x7), (.tup []), (.tup []), (.tup []), (.tup []), (.tup []), (.tup []), (.lst a0), (.int .i64 x2), (.int .i64 x2), (.bool (decide (x2 < 3))), (.bool false), (.int .i64 x2), (.bool (decide (x2 > 8))), (.bool false), (.int .i64 x7), (.int .i64 x2), (.bool true), v11, v12, (.lst a0), (.int .i64 x7), v19, (.agg [(.int .i64 x24), (.int .i64 x25)]), (.bool b26), (.bool true), (.tup []), (.tup []), (.tup []), (.tup []), (.tup []), (.tup []), (.tup []), (.tup []), (.tup []), (.tup []), (.tup []), (.tup []), (.tup []), (.tup []), (.tup []), (.tup []), (.tup []), (.tup []), (.tup []), (.tup []), (.tup []), (.tup []), (.tup []), (.tup []), (.tup []), (.tup []), (.tup []), (.tup []), (.tup []), (.tup []), (.tup []), (.tup []), (.tup []), (.tup []), (.tup []), (.tup []), (.tup []), (.tup []), (.tup []), (.tup []), (.tup []), (.tup []), (.tup []), (.tup []), (.tup []), (.tup []), (.tup []), (.tup []), (.tup []), (.tup []), (.tup []), (.tup []), (.tup []), (.tup []), (.tup []), (.tup []), (.tup []), (.tup []), (.tup []), (.tup []), (.tup []), (.tup []), (.tup []), (.tup []), (.tup []), (.tup []), (.tup []), (.tup []), (.tup []), (.tup [])], h22⟩)
   (k4 .normal ⟨[(.lst a0), (.tup []), (.bool b6), (.int .i64 x2), (.int .i64 (IntKind.wrap .i64 (x7 + 1))), (.tup []), (.tup []), (.tup []), (.tup []), (.tup []), (.tup []), (.lst a0), (.int .i64 x2), (.int .i64 x2), (.bool (decide (x2 < 3))), (.bool false), (.int .i64 x2), (.bool (decide (x2 > 8))), (.bool false), (.int .i64 x7), (.int .i64 x2), (.bool true), (.int .i64 x7), (.int .i64 (IntKind.wrap .i64 (x7 + 1))), (.lst a0), (.int .i64 x7), v19, (.agg [(.int .i64 x24), (.int .i64 x25)]), (.bool b26), (.bool false), (.tup []), (.tup []), (.tup []), (.tup []), (.tup []), (.tup []), (.tup []), (.tup []), (.tup []), (.tup []), (.tup []), (.tup []), (.tup []), (.tup []), (.tup []), (.tup []), (.tup []), (.tup []), (.tup []), (.tup []), (.tup []), (.tup []), (.tup []), (.tup []), (.tup []), (.tup []), (.tup []), (.tup []), (.tup []), (.tup []), (.tup []), (.tup []), (.tup []), (.tup []), (.tup []), (.tup []), (.tup []), (.tup []), (.tup []), (.tup []), (.tup []), (.tup []), (.tup []), (.tup []), (.tup []), (.tup []), (.tup []), (.tup []), (.tup []), (.tup []), (.tup []), (.tup []), (.tup []), (.tup []), (.tup []), (.tup []), (.tup []), (.tup []), (.tup []), (.tup []), (.tup []), (.tup []), (.tup []), (.tup []), (.tup []), (.tup []), (.tup []), (.tup []), (.tup []), (.tup [])], h22⟩))
   (k4 (.exit 0) ⟨[(.lst a0), (.tup []), (.bool b6), (.int .i64 x2), (.int .i64 x7), (.tup []), (.tup []), (.tup []), (.tup []), (.tup []), (.tup []), (.lst a0), (.int .i64 x2), (.int .i64 x2), (.bool (decide (x2 < 3))), (.bool false), (.int .i64 x2), (.bool (decide (x2 > 8))), (.bool false), (.int .i64 x7), (.int .i64 x2), (.bool false), v11, v12, v13, v14, v15, v16, v17, v18, (.tup []), (.tup []), (.tup []), (.tup []), (.tup []), (.tup []), (.tup []), (.tup []), (.tup []), (.tup []), (.tup []), (.tup []), (.tup []), (.tup []), (.tup []), (.tup []), (.tup []), (.tup []), (.tup []), (.tup []), (.tup []), (.tup []), (.tup []), (.tup []), (.tup []), (.tup []), (.tup []), (.tup []), (.tup []), (.tup []), (.tup []), (.tup []), (.tup []), (.tup []), (.tup []), (.tup []), (.tup []), (.tup []), (.tup []), (.tup []), (.tup []), (.tup []), (.tup []), (.tup []), (.tup []), (.tup []), (.tup []), (.tup []), (.tup []), (.tup []), (.tup []), (.tup []), (.tup []), (.tup []), (.tup []), (.tup []), (.tup []), (.tup []), (.tup []), (.tup []), (.tup []), (.tup []), (.tup []), (.tup []), (.tup []), (.tup []), (.tup []), (.tup []), (.tup []), (.tup [])], (St.H s3)⟩))
   (none)
def r45X0_0 (C : Cb) (d : Nat) (a0 : List AV) (x2 : Int) : St → Ans := fun s27 =>
  cnd ((List.length (St.env s27)) == 100)
   (C.same (St.env s27)[0]? (.lst a0) <|
   C.same (St.env s27)[1]? (.tup []) <|
   C.bool (St.env s27)[2]? fun b28 =>
   C.same (St.env s27)[3]? (.int .i64 x2) <|
   C.int .i64 (St.env s27)[4]? fun x29 =>
   C.same (St.env s27)[5]? (.tup []) <|
   C.same (St.env s27)[6]? (.tup []) <|
   C.same (St.env s27)[7]? (.tup []) <|
   C.same (St.env s27)[8]? (.tup []) <|
   C.same (St.env s27)[9]? (.tup []) <|
   C.same (St.env s27)[10]? (.tup []) <|
   C.same (St.env s27)[11]? (.lst a0) <|
   C.same (St.env s27)[12]? (.int .i64 x2) <|
   C.same (St.env s27)[13]? (.int .i64 x2) <|
   C.same (St.env s27)[14]? (.bool (decide (x2 < 3))) <|
   C.same (St.env s27)[15]? (.bool false) <|
   C.same (St.env s27)[16]? (.int .i64 x2) <|
   C.same (St.env s27)[17]? (.bool (decide (x2 > 8))) <|
   C.same (St.env s27)[18]? (.bool false) <|
   C.int .i64 (St.env s27)[19]? fun x30 =>
   C.int .i64 (St.env s27)[20]? fun x31 =>
   C.bool (St.env s27)[21]? fun b32 =>
   C.any (St.env s27)[22]? fun v33 =>
   C.any (St.env s27)[23]? fun v34 =>
   C.any (St.env s27)[24]? fun v35 =>
   C.any (St.env s27)[25]? fun v36 =>
   C.any (St.env s27)[26]? fun v37 =>
   C.any (St.env s27)[27]? fun v38 =>
   C.any (St.env s27)[28]? fun v39 =>
   C.any (St.env s27)[29]? fun v40 =>
   C.same (St.env s27)[30]? (.tup []) <|
   C.same (St.env s27)[31]? (.tup []) <|
   C.same (St.env s27)[32]? (.tup []) <|
   C.same (St.env s27)[33]? (.tup []) <|
   C.same (St.env s27)[34]? (.tup []) <|
   C.same (St.env s27)[35]? (.tup []) <|
   C.same (St.env s27)[36]? (.tup []) <|
   C.same (St.env s27)[37]? (.tup []) <|
   C.same (St.env s27)[38]? (.tup []) <|
   C.same (St.env s27)[39]? (.tup []) <|
   C.same (St.env s27)[40]? (.tup []) <|
   C.same (St.env s27)[41]? (.tup []) <|
   C.same (St.env s27)[42]? (.tup []) <|
   C.same (St.env s27)[43]? (.tup []) <|
   C.same (St.env s27)[44]? (.tup []) <|
   C.same (St.env s27)[45]? (.tup []) <|
   C.same (St.env s27)[46]? (.tup []) <|
   C.same (St.env s27)[47]? (.tup []) <|
   C.same (St.env s27)[48]? (.tup []) <|
   C.same (St.env s27)[49]? (.tup []) <|
   C.same (St.env s27)[50]? (.tup []) <|
   C.same (St.env s27)[51]? (.tup []) <|
   C.same (St.env s27)[52]? (.tup []) <|
   C.same (St.env s27)[53]? (.tup []) <|
   C.same (St.env s27)[54]? (.tup []) <|
   C.same (St.env s27)[55]? (.tup []) <|
   C.same (St.env s27)[56]? (.tup []) <|
   C.same (St.env s27)[57]? (.tup []) <|
   C.same (St.env s27)[58]? (.tup []) <|
   C.same (St.env s27)[59]? (.tup []) <|
   C.same (St.env s27)[60]? (.tup []) <|
   C.same (St.env s27)[61]? (.tup []) <|
   C.same (St.env s27)[62]? (.tup []) <|
   C.same (St.env s27)[63]? (.tup []) <|
   C.same (St.env s27)[64]? (.tup []) <|
   C.same (St.env s27)[65]? (.tup []) <|
   C.same (St.env s27)[66]? (.tup []) <|
   C.same (St.env s27)[67]? (.tup []) <|
   C.same (St.env s27)[68]? (.tup []) <|
   C.same (St.env s27)[69]? (.tup []) <|
   C.same (St.env s27)[70]? (.tup []) <|
   C.same (St.env s27)[71]? (.tup []) <|
   C.same (St.env s27)[72]? (.tup []) <|
   C.same (St.env s27)[73]? (.tup []) <|
   C.same (St.env s27)[74]? (.tup []) <|
   C.same (St.env s27)[75]? (.tup []) <|
   C.same (St.env s27)[76]? (.tup []) <|
   C.same (St.env s27)[77]? (.tup []) <|
   C.same (St.env s27)[78]? (.tup []) <|
   C.same (St.env s27)[79]? (.tup []) <|
   C.same (St.env s27)[80]? (.tup []) <|
   C.same (St.env s27)[81]? (.tup []) <|
   C.same (St.env s27)[82]? (.tup []) <|
   C.same (St.env s27)[83]? (.tup []) <|
   C.same (St.env s27)[84]? (.tup []) <|
   C.same (St.env s27)[85]? (.tup []) <|
   C.same (St.env s27)[86]? (.tup []) <|
   C.same (St.env s27)[87]? (.tup []) <|
   C.same (St.env s27)[88]? (.tup []) <|
   C.same (St.env s27)[89]? (.tup []) <|
   C.same (St.env s27)[90]? (.tup []) <|
   C.same (St.env s27)[91]? (.tup []) <|
   C.same (St.env s27)[92]? (.tup []) <|
   C.same (St.env s27)[93]? (.tup []) <|
   C.same (St.env s27)[94]? (.tup []) <|
   C.same (St.env s27)[95]? (.tup []) <|
   C.same (St.env s27)[96]? (.tup []) <|
   C.same (St.env s27)[97]? (.tup []) <|
   C.same (St.env s27)[98]? (.tup []) <|
   C.same (St.env s27)[99]? (.tup []) <|
   C.iter (r45R1 C d a0 x2 x29 x30 x31 b32 v33 v34 v35 v36 v37 v38 v39 v40) 1000000000000000000 ⟨[(.lst a0), (.tup []), (.bool b28), (.int .i64 x2), (.int .i64 x29), (.int .i64 0), (.tup []), (.tup []), (.tup []), (.tup []), (.tup []), (.lst a0), (.int .i64 x2), (.int .i64 x2), (.bool (decide (x2 < 3))), (.bool false), (.int .i64 x2), (.bool (decide (x2 > 8))), (.bool false), (.int .i64 x30), (.int .i64 x31), (.bool b32), v33, v34, v35, v36, v37, v38, v39, v40, (.tup []), (.tup []), (.tup []), (.tup []), (.tup []), (.tup []), (.tup []), (.tup []), (.tup []), (.tup []), (.tup []), (.tup []), (.tup []), (.tup []), (.tup []), (.tup []), (.tup []), (.tup []), (.tup []), (.tup []), (.tup []), (.tup []), (.tup []), (.tup []), (.tup []), (.tup []), (.tup []), (.tup []), (.tup []), (.tup []), (.tup []), (.tup []), (.tup []), (.tup []), (.tup []), (.tup []), (.tup []), (.tup []), (.tup []), (.tup []), (.tup []), (.tup []), (.tup []), (.tup []), (.tup []), (.tup []), (.tup []), (.tup []), (.tup []), (.tup []), (.tup []), (.tup []), (.tup []), (.tup []), (.tup []), (.tup []), (.tup []), (.tup []), (.tup []), (.tup []), (.tup []), (.tup []), (.tup []), (.tup []), (.tup []), (.tup []), (.tup []), (.tup []), (.tup []), (.tup [])], (St.H s27)⟩ [2] [r45X1_0 C d a0 x2 x29 x30 x31 b32 v33 v34 v35 v36 v37 v38 v39 v40] (r45E1 C d a0 x2 x29 x30 x31 b32 v33 v34 v35 v36 v37 v38 v39 v40))
   (none)
def r45E0 (C : Cb) (d : Nat) (a0 : List AV) (x2 : Int) : St → Ans := fun s5 =>
  cnd ((List.length (St.env s5)) == 100)
   (C.same (St.env s5)[0]? (.lst a0) <|
   C.same (St.env s5)[1]? (.tup []) <|
   C.bool (St.env s5)[2]? fun b667 =>
   C.same (St.env s5)[3]? (.int .i64 x2) <|
   C.int .i64 (St.env s5)[4]? fun x668 =>
   C.same (St.env s5)[5]? (.tup []) <|
   C.same (St.env s5)[6]? (.tup []) <|
   C.same (St.env s5)[7]? (.tup []) <|
   C.same (St.env s5)[8]? (.tup []) <|
   C.same (St.env s5)[9]? (.tup []) <|
   C.same (St.env s5)[10]? (.tup []) <|
   C.same (St.env s5)[11]? (.lst a0) <|
   C.same (St.env s5)[12]? (.int .i64 x2) <|
   C.same (St.env s5)[13]? (.int .i64 x2) <|
   C.same (St.env s5)[14]? (.bool (decide (x2 < 3))) <|
   C.same (St.env s5)[15]? (.bool false) <|
   C.same (St.env s5)[16]? (.int .i64 x2) <|
   C.same (St.env s5)[17]? (.bool (decide (x2 > 8))) <|
   C.same (St.env s5)[18]? (.bool false) <|
   C.int .i64 (St.env s5)[19]? fun x669 =>
   C.int .i64 (St.env s5)[20]? fun x670 =>
   C.bool (St.env s5)[21]? fun b671 =>
   C.any (St.env s5)[22]? fun v672 =>
   C.any (St.env s5)[23]? fun v673 =>
   C.any (St.env s5)[24]? fun v674 =>
   C.int .i64 (St.env s5)[25]? fun x675 =>
   C.any (St.env s5)[26]? fun v676 =>
   C.agg 2 (St.env s5)[27]? fun l677 =>
   C.int .i64 l677[0]? fun x678 =>
   C.int .i64 l677[1]? fun x679 =>
   C.bool (St.env s5)[28]? fun b680 =>
   C.bool (St.env s5)[29]? fun b681 =>
   C.same (St.env s5)[30]? (.tup []) <|
   C.same (St.env s5)[31]? (.tup []) <|
   C.same (St.env s5)[32]? (.tup []) <|
   C.same (St.env s5)[33]? (.tup []) <|
   C.same (St.env s5)[34]? (.tup []) <|
   C.same (St.env s5)[35]? (.tup []) <|
   C.same (St.env s5)[36]? (.tup []) <|
   C.same (St.env s5)[37]? (.tup []) <|
   C.same (St.env s5)[38]? (.tup []) <|
   C.same (St.env s5)[39]? (.tup []) <|
   C.same (St.env s5)[40]? (.tup []) <|
   C.same (St.env s5)[41]? (.tup []) <|
   C.same (St.env s5)[42]? (.tup []) <|
   C.same (St.env s5)[43]? (.tup []) <|
   C.same (St.env s5)[44]? (.tup []) <|
   C.same (St.env s5)[45]? (.tup []) <|
   C.same (St.env s5)[46]? (.tup []) <|
   C.same (St.env s5)[47]? (.tup []) <|
   C.same (St.env s5)[48]? (.tup []) <|
   C.same (St.env s5)[49]? (.tup []) <|
   C.same (St.env s5)[50]? (.tup []) <|
   C.same (St.env s5)[51]? (.tup []) <|
   C.same (St.env s5)[52]? (.tup []) <|
   C.same (St.env s5)[53]? (.tup []) <|
   C.same (St.env s5)[54]? (.tup []) <|
   C.same (St.env s5)[55]? (.tup []) <|
   C.same (St.env s5)[56]? (.tup []) <|
   C.same (St.env s5)[57]? (.tup []) <|
   C.same (St.env s5)[58]? (.tup []) <|
   C.same (St.env s5)[59]? (.tup []) <|
   C.same (St.env s5)[60]? (.tup []) <|
   C.same (St.env s5)[61]? (.tup []) <|
   C.same (St.env s5)[62]? (.tup []) <|
   C.same (St.env s5)[63]? (.tup []) <|
   C.same (St.env s5)[64]? (.tup []) <|
   C.same (St.env s5)[65]? (.tup []) <|
   C.same (St.env s5)[66]? (.tup []) <|
   C.same (St.env s5)[67]? (.tup []) <|
   C.same (St.env s5)[68]? (.tup []) <|
   C.same (St.env s5)[69]? (.tup []) <|
   C.same (St.env s5)[70]? (.tup []) <|
   C.same (St.env s5)[71]? (.tup []) <|
   C.same (St.env s5)[72]? (.tup []) <|
   C.same (St.env s5)[73]? (.tup []) <|
   C.same (St.env s5)[74]? (.tup []) <|
   C.same (St.env s5)[75]? (.tup []) <|
   C.same (St.env s5)[76]? (.tup []) <|
   C.same (St.env s5)[77]? (.tup []) <|
   C.same (St.env s5)[78]? (.tup []) <|
   C.same (St.env s5)[79]? (.tup []) <|
   C.same (St.env s5)[80]? (.tup []) <|
   C.same (St.env s5)[81]? (.tup []) <|
   C.same (St.env s5)[82]? (.tup []) <|
   C.same (St.env s5)[83]? (.tup []) <|
   C.same (St.env s5)[84]? (.tup []) <|
   C.same (St.env s5)[85]? (.tup []) <|
   C.same (St.env s5)[86]? (.tup []) <|
   C.same (St.env s5)[87]? (.tup []) <|
   C.same (St.env s5)[88]? (.tup []) <|
   C.same (St.env s5)[89]? (.tup []) <|
   C.same (St.env s5)[90]? (.tup []) <|
   C.same (St.env s5)[91]? (.tup []) <|
   C.same (St.env s5)[92]? (.tup []) <|
   C.same (St.env s5)[93]? (.tup []) <|
   C.same (St.env s5)[94]? (.tup []) <|
   C.same (St.env s5)[95]? (.tup []) <|
   C.same (St.env s5)[96]? (.tup []) <|
   C.same (St.env s5)[97]? (.tup []) <|
   C.same (St.env s5)[98]? (.tup []) <|
   C.same (St.env s5)[99]? (.tup []) <|
   C.fin (St.H s5) (.bool b667))
   (none)
/-- apogee/apogeeref11.Simple -/
theorem r45 (C : Cb) (d : Nat) (a0 : List AV) : xcall C M unr d 45 [(.lst a0)] =
  C.hop [] (.bk .lenV [(.v (.lst a0))]) fun v0 h1 =>
  C.int .i64 (some v0) fun x2 =>
  cnd (decide (x2 < 3))
   (C.fin h1 (.bool false))
   (cnd (decide (x2 > 8))
   (C.fin h1 (.bool false))
   (C.iter (r45R0 C d a0 x2) 1000000000000000000 ⟨[(.lst a0), (.tup []), (.bool false), (.int .i64 x2), (.int .i64 0), (.tup []), (.tup []), (.tup []), (.tup []), (.tup []), (.tup []), (.lst a0), (.int .i64 x2), (.int .i64 x2), (.bool (decide (x2 < 3))), (.bool false), (.int .i64 x2), (.bool (decide (x2 > 8))), (.bool false), (.tup []), (.tup []), (.tup []), (.tup []), (.tup []), (.tup []), (.tup []), (.tup []), (.tup []), (.tup []), (.tup []), (.tup []), (.tup []), (.tup []), (.tup []), (.tup []), (.tup []), (.tup []), (.tup []), (.tup []), (.tup []), (.tup []), (.tup []), (.tup []), (.tup []), (.tup []), (.tup []), (.tup []), (.tup []), (.tup []), (.tup []), (.tup []), (.tup []), (.tup []), (.tup []), (.tup []), (.tup []), (.tup []), (.tup []), (.tup []), (.tup []), (.tup []), (.tup []), (.tup []), (.tup []), (.tup []), (.tup []), (.tup []), (.tup []), (.tup []), (.tup []), (.tup []), (.tup []), (.tup []), (.tup []), (.tup []), (.tup []), (.tup []), (.tup []), (.tup []), (.tup []), (.tup []), (.tup []), (.tup []), (.tup []), (.tup []), (.tup []), (.tup []), (.tup []), (.tup []), (.tup []), (.tup []), (.tup []), (.tup []), (.tup []), (.tup []), (.tup []), (.tup []), (.tup []), (.tup []), (.tup [])], h1⟩ [0] [r45X0_0 C d a0 x2] (r45E0 C d a0 x2))) := by kernel_rfl
/-- apogee/poly.edge -/
theorem r46 (C : Cb) (d : Nat) (a0 : List AV) (a1 : Int) : xcall C M unr d 46 [(.lst a0), (.int .i64 a1)] =
  cnd (decide (0 ≤ a1))
   (C.agg 2 a0[(Int.toNat a1)]? fun l0 =>
   C.int .i64 l0[0]? fun x1 =>
   C.int .i64 l0[1]? fun x2 =>
   cnd (decide ((((List.length a0) : Nat) : Int) = 0))
   (none)
   (cnd (decide (0 ≤ (Int.tmod (IntKind.wrap .i64 (a1 + 1)) (((List.length a0) : Nat) : Int))))
   (C.agg 2 a0[(Int.toNat (Int.tmod (IntKind.wrap .i64 (a1 + 1)) (((List.length a0) : Nat) : Int)))]? fun l3 =>
   C.int .i64 l3[0]? fun x4 =>
   C.int .i64 l3[1]? fun x5 =>
   some (.tup [(.agg [(.int .i64 x1), (.int .i64 x2)]), (.agg [(.int .i64 x4), (.int .i64 x5)])]))
   (none)))
   (none) := by kernel_rfl
def r53f70R0 (C : Cb) (d : Nat) (a0 : List AV) : St → (Ex → St → Ans) → Ans := fun s0 k1 =>
  cnd ((List.length (St.env s0)) == 19)
   (C.same (St.env s0)[0]? (.lst a0) <|
   C.same (St.env s0)[1]? (.fn 70 [] []) <|
   C.same (St.env s0)[2]? (.tup []) <|
   C.same (St.env s0)[3]? (.tup []) <|
   C.int .i64 (St.env s0)[4]? fun x3 =>
   C.any (St.env s0)[5]? fun v4 =>
   C.same (St.env s0)[6]? (.lst a0) <|
   C.same (St.env s0)[7]? (.int .i64 (((List.length a0) : Nat) : Int)) <|
   C.int .i64 (St.env s0)[8]? fun x5 =>
   C.any (St.env s0)[9]? fun v6 =>
   C.any (St.env s0)[10]? fun v7 =>
   C.any (St.env s0)[11]? fun v8 =>
   C.any (St.env s0)[12]? fun v9 =>
   C.any (St.env s0)[13]? fun v10 =>
   C.any (St.env s0)[14]? fun v11 =>
   C.any (St.env s0)[15]? fun v12 =>
   C.any (St.env s0)[16]? fun v13 =>
   C.any (St.env s0)[17]? fun v14 =>
   C.any (St.env s0)[18]? fun v15 =>
   C.sameH (St.H s0) [] <|
   cnd (decide (x5 < (((List.length a0) : Nat) : Int)))
   (cnd (decide (0 ≤ x5))
   (C.agg 2 a0[(Int.toNat x5)]? fun l16 =>
   C.int .i64 l16[0]? fun x17 =>
   C.int .i64 l16[1]? fun x18 =>
   C.bool (pcall M d 70 [(.agg [(.int .i64 x17), (.int .i64 x18)])]) fun b19 =>
   cnd b19
   (k1 .ret ⟨[(.lst a0), (.fn 70 [] []), (.tup []), (.tup []), (.int .i64 x5), (.int .i64 x5), (.lst a0), (.int .i64 (((List.length a0) : Nat) : Int)), (.int .i64 x5), (.bool true), (.int .i64 x5), (.fn 70 [] []), (.lst a0), (.int .i64 x5), (.fptr (.agg [(.int .i64 x17), (.int .i64 x18)]) 0), (.agg [(.int .i64 x17), (.int .i64 x18)]), (.bool true), (.int .i64 x5), v15], []⟩)
   (k1 .normal ⟨[(.lst a0), (.fn 70 [] []), (.tup []), (.tup []), (.int .i64 x3), (.int .i64 x5), (.lst a0), (.int .i64 (((List.length a0) : Nat) : Int)), (.int .i64 (IntKind.wrap .i64 (x5 + 1))), (.bool true), (.int .i64 x5), (.fn 70 [] []), (.lst a0), (.int .i64 x5), (.fptr (.agg [(.int .i64 x17), (.int .i64 x18)]) 0), (.agg [(.int .i64 x17), (.int .i64 x18)]), (.bool false), v14, (.int .i64 (IntKind.wrap .i64 (x5 + 1)))], []⟩))
   (none))
   (k1 (.exit 0) ⟨[(.lst a0), (.fn 70 [] []), (.tup []), (.tup []), (.int .i64 x3), v4, (.lst a0), (.int .i64 (((List.length a0) : Nat) : Int)), (.int .i64 x5), (.bool false), v7, v8, v9, v10, v11, v12, v13, v14, v15], []⟩))
   (none)
def r53f70X0_0 (C : Cb) (d : Nat) (a0 : List AV) : St → Ans := fun s20 =>
  cnd ((List.length (St.env s20)) == 19)
   (C.same (St.env s20)[0]? (.lst a0) <|
   C.same (St.env s20)[1]? (.fn 70 [] []) <|
   C.same (St.env s20)[2]? (.tup []) <|
   C.same (St.env s20)[3]? (.tup []) <|
   C.int .i64 (St.env s20)[4]? fun x21 =>
   C.any (St.env s20)[5]? fun v22 =>
   C.same (St.env s20)[6]? (.lst a0) <|
   C.same (St.env s20)[7]? (.int .i64 (((List.length a0) : Nat) : Int)) <|
   C.int .i64 (St.env s20)[8]? fun x23 =>
   C.any (St.env s20)[9]? fun v24 =>
   C.any (St.env s20)[10]? fun v25 =>
   C.any (St.env s20)[11]? fun v26 =>
   C.any (St.env s20)[12]? fun v27 =>
   C.any (St.env s20)[13]? fun v28 =>
   C.any (St.env s20)[14]? fun v29 =>
   C.any (St.env s20)[15]? fun v30 =>
   C.any (St.env s20)[16]? fun v31 =>
   C.any (St.env s20)[17]? fun v32 =>
   C.any (St.env s20)[18]? fun v33 =>
   C.sameH (St.H s20) [] <|
   some (.int .i64 (-1)))
   (none)
def r53f70E0 (C : Cb) (d : Nat) (a0 : List AV) : St → Ans := fun s2 =>
  cnd ((List.length (St.env s2)) == 19)
   (C.same (St.env s2)[0]? (.lst a0) <|
   C.same (St.env s2)[1]? (.fn 70 [] []) <|
   C.same (St.env s2)[2]? (.tup []) <|
   C.same (St.env s2)[3]? (.tup []) <|
   C.int .i64 (St.env s2)[4]? fun x34 =>
   C.int .i64 (St.env s2)[5]? fun x35 =>
   C.same (St.env s2)[6]? (.lst a0) <|
   C.same (St.env s2)[7]? (.int .i64 (((List.length a0) : Nat) : Int)) <|
   C.int .i64 (St.env s2)[8]? fun x36 =>
   C.any (St.env s2)[9]? fun v37 =>
   C.int .i64 (St.env s2)[10]? fun x38 =>
   C.any (St.env s2)[11]? fun v39 =>
   C.any (St.env s2)[12]? fun v40 =>
   C.int .i64 (St.env s2)[13]? fun x41 =>
   C.any (St.env s2)[14]? fun v42 =>
   C.agg 2 (St.env s2)[15]? fun l43 =>
   C.int .i64 l43[0]? fun x44 =>
   C.int .i64 l43[1]? fun x45 =>
   C.bool (St.env s2)[16]? fun b46 =>
   C.int .i64 (St.env s2)[17]? fun x47 =>
   C.any (St.env s2)[18]? fun v48 =>
   C.sameH (St.H s2) [] <|
   some (.int .i64 x34))
   (none)
/-- slices.IndexFunc[[]apogee/api.Point,apogee/api.Point] -/
theorem r53f70 (C : Cb) (d : Nat) (a0 : List AV) (a1 : AV) : xcall C M unr d 53 [(.lst a0), (.fn 70 [] [])] =
  C.iter (r53f70R0 C d a0) 1000000000000000000 ⟨[(.lst a0), (.fn 70 [] []), (.tup []), (.tup []), (.int .i64 0), (.tup []), (.lst a0), (.int .i64 (((List.length a0) : Nat) : Int)), (.int .i64 0), (.tup []), (.tup []), (.tup []), (.tup []), (.tup []), (.tup []), (.tup []), (.tup []), (.tup []), (.tup [])], []⟩ [0] [r53f70X0_0 C d a0] (r53f70E0 C d a0) := by kernel_rfl
def r53f57R0 (C : Cb) (d : Nat) (a0 : List AV) : St → (Ex → St → Ans) → Ans := fun s0 k1 =>
  cnd ((List.length (St.env s0)) == 19)
   (C.same (St.env s0)[0]? (.lst a0) <|
   C.same (St.env s0)[1]? (.fn 57 [] []) <|
   C.same (St.env s0)[2]? (.tup []) <|
   C.same (St.env s0)[3]? (.tup []) <|
   C.int .i64 (St.env s0)[4]? fun x3 =>
   C.any (St.env s0)[5]? fun v4 =>
   C.same (St.env s0)[6]? (.lst a0) <|
   C.same (St.env s0)[7]? (.int .i64 (((List.length a0) : Nat) : Int)) <|
   C.int .i64 (St.env s0)[8]? fun x5 =>
   C.any (St.env s0)[9]? fun v6 =>
   C.any (St.env s0)[10]? fun v7 =>
   C.any (St.env s0)[11]? fun v8 =>
   C.any (St.env s0)[12]? fun v9 =>
   C.any (St.env s0)[13]? fun v10 =>
   C.any (St.env s0)[14]? fun v11 =>
   C.any (St.env s0)[15]? fun v12 =>
   C.any (St.env s0)[16]? fun v13 =>
   C.any (St.env s0)[17]? fun v14 =>
   C.any (St.env s0)[18]? fun v15 =>
   C.sameH (St.H s0) [] <|
   cnd (decide (x5 < (((List.length a0) : Nat) : Int)))
   (cnd (decide (0 ≤ x5))
   (C.agg 2 a0[(Int.toNat x5)]? fun l16 =>
   C.int .i64 l16[0]? fun x17 =>
   C.int .i64 l16[1]? fun x18 =>
   C.bool (pcall M d 57 [(.agg [(.int .i64 x17), (.int .i64 x18)])]) fun b19 =>
   cnd b19
   (k1 .ret ⟨[(.lst a0), (.fn 57 [] []), (.tup []), (.tup []), (.int .i64 x5), (.int .i64 x5), (.lst a0), (.int .i64 (((List.length a0) : Nat) : Int)), (.int .i64 x5), (.bool true), (.int .i64 x5), (.fn 57 [] []), (.lst a0), (.int .i64 x5), (.fptr (.agg [(.int .i64 x17), (.int .i64 x18)]) 0), (.agg [(.int .i64 x17), (.int .i64 x18)]), (.bool true), (.int .i64 x5), v15], []⟩)
   (k1 .normal ⟨[(.lst a0), (.fn 57 [] []), (.tup []), (.tup []), (.int .i64 x3), (.int .i64 x5), (.lst a0), (.int .i64 (((List.length a0) : Nat) : Int)), (.int .i64 (IntKind.wrap .i64 (x5 + 1))), (.bool true), (.int .i64 x5), (.fn 57 [] []), (.lst a0), (.int .i64 x5), (.fptr (.agg [(.int .i64 x17), (.int .i64 x18)]) 0), (.agg [(.int .i64 x17), (.int .i64 x18)]), (.bool false), v14, (.int .i64 (IntKind.wrap .i64 (x5 + 1)))], []⟩))
   (none))
   (k1 (.exit 0) ⟨[(.lst a0), (.fn 57 [] []), (.tup []), (.tup []), (.int .i64 x3), v4, (.lst a0), (.int .i64 (((List.length a0) : Nat) : Int)), (.int .i64 x5), (.bool false), v7, v8, v9, v10, v11, v12, v13, v14, v15], []⟩))
   (none)
def r53f57X0_0 (C : Cb) (d : Nat) (a0 : List AV) : St → Ans := fun s20 =>
  cnd ((List.length (St.env s20)) == 19)
   (C.same (St.env s20)[0]? (.lst a0) <|
   C.same (St.env s20)[1]? (.fn 57 [] []) <|
   C.same (St.env s20)[2]? (.tup []) <|
   C.same (St.env s20)[3]? (.tup []) <|
   C.int .i64 (St.env s20)[4]? fun x21 =>
   C.any (St.env s20)[5]? fun v22 =>
   C.same (St.env s20)[6]? (.lst a0) <|
   C.same (St.env s20)[7]? (.int .i64 (((List.length a0) : Nat) : Int)) <|
   C.int .i64 (St.env s20)[8]? fun x23 =>
   C.any (St.env s20)[9]? fun v24 =>
   C.any (St.env s20)[10]? fun v25 =>
   C.any (St.env s20)[11]? fun v26 =>
   C.any (St.env s20)[12]? fun v27 =>
   C.any (St.env s20)[13]? fun v28 =>
   C.any (St.env s20)[14]? fun v29 =>
   C.any (St.env s20)[15]? fun v30 =>
   C.any (St.env s20)[16]? fun v31 =>
   C.any (St.env s20)[17]? fun v32 =>
   C.any (St.env s20)[18]? fun v33 =>
   C.sameH (St.H s20) [] <|
   some (.int .i64 (-1)))
   (none)
def r53f57E0 (C : Cb) (d : Nat) (a0 : List AV) : St → Ans := fun s2 =>
  cnd ((List.length (St.env s2)) == 19)
   (C.same (St.env s2)[0]? (.lst a0) <|
   C.same (St.env s2)[1]? (.fn 57 [] []) <|
   C.same (St.env s2)[2]? (.tup []) <|
   C.same (St.env s2)[3]? (.tup []) <|
   C.int .i64 (St.env s2)[4]? fun x34 =>
   C.int .i64 (St.env s2)[5]? fun x35 =>
   C.same (St.env s2)[6]? (.lst a0) <|
   C.same (St.env s2)[7]? (.int .i64 (((List.length a0) : Nat) : Int)) <|
   C.int .i64 (St.env s2)[8]? fun x36 =>
   C.any (St.env s2)[9]? fun v37 =>
   C.int .i64 (St.env s2)[10]? fun x38 =>
   C.any (St.env s2)[11]? fun v39 =>
   C.any (St.env s2)[12]? fun v40 =>
   C.int .i64 (St.env s2)[13]? fun x41 =>
   C.any (St.env s2)[14]? fun v42 =>
   C.agg 2 (St.env s2)[15]? fun l43 =>
   C.int .i64 l43[0]? fun x44 =>
   C.int .i64 l43[1]? fun x45 =>
   C.bool (St.env s2)[16]? fun b46 =>
   C.int .i64 (St.env s2)[17]? fun x47 =>
   C.any (St.env s2)[18]? fun v48 =>
   C.sameH (St.H s2) [] <|
   some (.int .i64 x34))
   (none)
/-- slices.IndexFunc[[]apogee/api.Point,apogee/api.Point] -/
theorem r53f57 (C : Cb) (d : Nat) (a0 : List AV) (a1 : AV) : xcall C M unr d 53 [(.lst a0), (.fn 57 [] [])] =
  C.iter (r53f57R0 C d a0) 1000000000000000000 ⟨[(.lst a0), (.fn 57 [] []), (.tup []), (.tup []), (.int .i64 0), (.tup []), (.lst a0), (.int .i64 (((List.length a0) : Nat) : Int)), (.int .i64 0), (.tup []), (.tup []), (.tup []), (.tup []), (.tup []), (.tup []), (.tup []), (.tup []), (.tup []), (.tup [])], []⟩ [0] [r53f57X0_0 C d a0] (r53f57E0 C d a0) := by kernel_rfl
def r56R1 (C : Cb) (d : Nat) (a0 : List AV) (b0 : Bool) (k2 : Ex → St → Ans) (x7 : Int) (v31 : AV) : St → (Ex → St → Ans) → Ans := fun s32 k33 =>
  cnd ((List.length (St.env s32)) == 44)
   (C.same (St.env s32)[0]? (.lst a0) <|
   C.same (St.env s32)[1]? (.tup []) <|
   C.bool (St.env s32)[2]? fun b35 =>
   C.same (St.env s32)[3]? (.int .i64 (((List.length a0) : Nat) : Int)) <|
   C.same (St.env s32)[4]? (.int .i64 x7) <|
   C.any (St.env s32)[5]? fun v36 =>
   C.same (St.env s32)[6]? (.lst a0) <|
   C.same (St.env s32)[7]? (.int .i64 (((List.length a0) : Nat) : Int)) <|
   C.same (St.env s32)[8]? (.int .i64 (((List.length a0) : Nat) : Int)) <|
   C.same (St.env s32)[9]? (.bool (decide ((((List.length a0) : Nat) : Int) < 3))) <|
   C.same (St.env s32)[10]? (.bool false) <|
   C.same (St.env s32)[11]? (.int .i64 (((List.length a0) : Nat) : Int)) <|
   C.same (St.env s32)[12]? (.bool (decide ((((List.length a0) : Nat) : Int) > 8))) <|
   C.same (St.env s32)[13]? (.bool (decide ((((List.length a0) : Nat) : Int) > 8))) <|
   C.same (St.env s32)[14]? (.bool false) <|
   C.same (St.env s32)[15]? (.lst a0) <|
   C.same (St.env s32)[16]? (.bool b0) <|
   C.same (St.env s32)[17]? (.bool false) <|
   C.same (St.env s32)[18]? (.int .i64 (((List.length a0) : Nat) : Int)) <|
   C.same (St.env s32)[19]? (.int .i64 x7) <|
   C.same (St.env s32)[20]? (.bool true) <|
   C.same (St.env s32)[21]? (.int .i64 x7) <|
   C.same (St.env s32)[22]? (.int .i64 x7) <|
   C.int .i64 (St.env s32)[23]? fun x37 =>
   C.any (St.env s32)[24]? fun v38 =>
   C.any (St.env s32)[25]? fun v39 =>
   C.any (St.env s32)[26]? fun v40 =>
   C.any (St.env s32)[27]? fun v41 =>
   C.any (St.env s32)[28]? fun v42 =>
   C.any (St.env s32)[29]? fun v43 =>
   C.any (St.env s32)[30]? fun v44 =>
   C.any (St.env s32)[31]? fun v45 =>
   C.any (St.env s32)[32]? fun v46 =>
   C.any (St.env s32)[33]? fun v47 =>
   C.any (St.env s32)[34]? fun v48 =>
   C.any (St.env s32)[35]? fun v49 =>
   C.any (St.env s32)[36]? fun v50 =>
   C.any (St.env s32)[37]? fun v51 =>
   C.any (St.env s32)[38]? fun v52 =>
   C.any (St.env s32)[39]? fun v53 =>
   C.any (St.env s32)[40]? fun v54 =>
   C.any (St.env s32)[41]? fun v55 =>
   C.any (St.env s32)[42]? fun v56 =>
   C.same (St.env s32)[43]? v31 <|
   C.sameH (St.H s32) [] <|
   cnd (decide (x37 < x7))
   (cnd (decide (0 ≤ x7))
   (C.agg 2 a0[(Int.toNat x7)]? fun l57 =>
   C.int .i64 l57[0]? fun x58 =>
   C.int .i64 l57[1]? fun x59 =>
   cnd (decide (0 ≤ x37))
   (C.agg 2 a0[(Int.toNat x37)]? fun l60 =>
   C.int .i64 l60[0]? fun x61 =>
   C.int .i64 l60[1]? fun x62 =>
   cnd (xor false ((x58 == x61) && ((x59 == x62) && true)))
   (k33 .ret ⟨[(.lst a0), (.tup []), (.bool false), (.int .i64 (((List.length a0) : Nat) : Int)), (.int .i64 x7), (.int .i64 x37), (.lst a0), (.int .i64 (((List.length a0) : Nat) : Int)), (.int .i64 (((List.length a0) : Nat) : Int)), (.bool (decide ((((List.length a0) : Nat) : Int) < 3))), (.bool false), (.int .i64 (((List.length a0) : Nat) : Int)), (.bool (decide ((((List.length a0) : Nat) : Int) > 8))), (.bool (decide ((((List.length a0) : Nat) : Int) > 8))), (.bool false), (.lst a0), (.bool b0), (.bool false), (.int .i64 (((List.length a0) : Nat) : Int)), (.int .i64 x7), (.bool true), (.int .i64 x7), (.int .i64 x7), (.int .i64 x37), (.bool true), (.int .i64 x37), (.lst a0), (.int .i64 x7), (.fptr (.agg [(.int .i64 x58), (.int .i64 x59)]) 0), (.agg [(.int .i64 x58), (.int .i64 x59)]), (.lst a0), (.int .i64 x37), (.fptr (.agg [(.int .i64 x61), (.int .i64 x62)]) 0), (.agg [(.int .i64 x61), (.int .i64 x62)]), (.bool (xor false ((x58 == x61) && ((x59 == x62) && true)))), (.bool true), (.tup []), (.tup []), (.tup []), (.tup []), (.tup []), (.bool true), v56, v31], []⟩)
   (C.bool (pcall M d 71 [(.lst a0), (.int .i64 x37), (.int .i64 x7)]) fun b63 =>
   cnd (!b63)
   (k33 .ret ⟨[(.lst a0), (.tup []), (.bool false), (.int .i64 (((List.length a0) : Nat) : Int)), (.int .i64 x7), (.int .i64 x37), (.lst a0), (.int .i64 (((List.length a0) : Nat) : Int)), (.int .i64 (((List.length a0) : Nat) : Int)), (.bool (decide ((((List.length a0) : Nat) : Int) < 3))), (.bool false), (.int .i64 (((List.length a0) : Nat) : Int)), (.bool (decide ((((List.length a0) : Nat) : Int) > 8))), (.bool (decide ((((List.length a0) : Nat) : Int) > 8))), (.bool false), (.lst a0), (.bool b0), (.bool false), (.int .i64 (((List.length a0) : Nat) : Int)), (.int .i64 x7), (.bool true), (.int .i64 x7), (.int .i64 x7), (.int .i64 x37), (.bool true), (.int .i64 x37), (.lst a0), (.int .i64 x7), (.fptr (.agg [(.int .i64 x58), (.int .i64 x59)]) 0), (.agg [(.int .i64 x58), (.int .i64 x59)]), (.lst a0), (.int .i64 x37), (.fptr (.agg [(.int .i64 x61), (.int .i64 x62)]) 0), (.agg [(.int .i64 x61), (.int .i64 x62)]), (.bool (xor false ((x58 == x61) && ((x59 == x62) && true)))), (.bool false), (.lst a0), (.int .i64 x37), (.int .i64 x7), (.bool b63), (.bool (!b63)), (.bool true), v56, v31], []⟩)
   (k33 .normal ⟨[(.lst a0), (.tup []), (.bool b35), (.int .i64 (((List.length a0) : Nat) : Int)), (.int .i64 x7), (.int .i64 x37), (.lst a0), (.int .i64 (((List.length a0) : Nat) : Int)), (.int .i64 (((List.length a0) : Nat) : Int)), (.bool (decide ((((List.length a0) : Nat) : Int) < 3))), (.bool false), (.int .i64 (((List.length a0) : Nat) : Int)), (.bool (decide ((((List.length a0) : Nat) : Int) > 8))), (.bool (decide ((((List.length a0) : Nat) : Int) > 8))), (.bool false), (.lst a0), (.bool b0), (.bool false), (.int .i64 (((List.length a0) : Nat) : Int)), (.int .i64 x7), (.bool true), (.int .i64 x7), (.int .i64 x7), (.int .i64 (IntKind.wrap .i64 (x37 + 1))), (.bool true), (.int .i64 x37), (.lst a0), (.int .i64 x7), (.fptr (.agg [(.int .i64 x58), (.int .i64 x59)]) 0), (.agg [(.int .i64 x58), (.int .i64 x59)]), (.lst a0), (.int .i64 x37), (.fptr (.agg [(.int .i64 x61), (.int .i64 x62)]) 0), (.agg [(.int .i64 x61), (.int .i64 x62)]), (.bool (xor false ((x58 == x61) && ((x59 == x62) && true)))), (.bool false), (.lst a0), (.int .i64 x37), (.int .i64 x7), (.bool b63), (.bool (!b63)), (.bool false), (.int .i64 (IntKind.wrap .i64 (x37 + 1))), v31], []⟩)))
   (none))
   (none))
   (k33 (.exit 2) ⟨[(.lst a0), (.tup []), (.bool b35), (.int .i64 (((List.length a0) : Nat) : Int)), (.int .i64 x7), v36, (.lst a0), (.int .i64 (((List.length a0) : Nat) : Int)), (.int .i64 (((List.length a0) : Nat) : Int)), (.bool (decide ((((List.length a0) : Nat) : Int) < 3))), (.bool false), (.int .i64 (((List.length a0) : Nat) : Int)), (.bool (decide ((((List.length a0) : Nat) : Int) > 8))), (.bool (decide ((((List.length a0) : Nat) : Int) > 8))), (.bool false), (.lst a0), (.bool b0), (.bool false), (.int .i64 (((List.length a0) : Nat) : Int)), (.int .i64 x7), (.bool true), (.int .i64 x7), (.int .i64 x7), (.int .i64 x37), (.bool false), v39, v40, v41, v42, v43, v44, v45, v46, v47, v48, v49, v50, v51, v52, v53, v54, v55, v56, v31], []⟩))
   (none)
def r56X1_0 (C : Cb) (d : Nat) (a0 : List AV) (b0 : Bool) (k2 : Ex → St → Ans) (x7 : Int) (v31 : AV) : St → Ans := fun s64 =>
  cnd ((List.length (St.env s64)) == 44)
   (C.same (St.env s64)[0]? (.lst a0) <|
   C.same (St.env s64)[1]? (.tup []) <|
   C.bool (St.env s64)[2]? fun b65 =>
   C.same (St.env s64)[3]? (.int .i64 (((List.length a0) : Nat) : Int)) <|
   C.same (St.env s64)[4]? (.int .i64 x7) <|
   C.any (St.env s64)[5]? fun v66 =>
   C.same (St.env s64)[6]? (.lst a0) <|
   C.same (St.env s64)[7]? (.int .i64 (((List.length a0) : Nat) : Int)) <|
   C.same (St.env s64)[8]? (.int .i64 (((List.length a0) : Nat) : Int)) <|
   C.same (St.env s64)[9]? (.bool (decide ((((List.length a0) : Nat) : Int) < 3))) <|
   C.same (St.env s64)[10]? (.bool false) <|
   C.same (St.env s64)[11]? (.int .i64 (((List.length a0) : Nat) : Int)) <|
   C.same (St.env s64)[12]? (.bool (decide ((((List.length a0) : Nat) : Int) > 8))) <|
   C.same (St.env s64)[13]? (.bool (decide ((((List.length a0) : Nat) : Int) > 8))) <|
   C.same (St.env s64)[14]? (.bool false) <|
   C.same (St.env s64)[15]? (.lst a0) <|
   C.same (St.env s64)[16]? (.bool b0) <|
   C.same (St.env s64)[17]? (.bool false) <|
   C.same (St.env s64)[18]? (.int .i64 (((List.length a0) : Nat) : Int)) <|
   C.same (St.env s64)[19]? (.int .i64 x7) <|
   C.same (St.env s64)[20]? (.bool true) <|
   C.same (St.env s64)[21]? (.int .i64 x7) <|
   C.same (St.env s64)[22]? (.int .i64 x7) <|
   C.int .i64 (St.env s64)[23]? fun x67 =>
   C.bool (St.env s64)[24]? fun b68 =>
   C.any (St.env s64)[25]? fun v69 =>
   C.any (St.env s64)[26]? fun v70 =>
   C.any (St.env s64)[27]? fun v71 =>
   C.any (St.env s64)[28]? fun v72 =>
   C.any (St.env s64)[29]? fun v73 =>
   C.any (St.env s64)[30]? fun v74 =>
   C.any (St.env s64)[31]? fun v75 =>
   C.any (St.env s64)[32]? fun v76 =>
   C.any (St.env s64)[33]? fun v77 =>
   C.any (St.env s64)[34]? fun v78 =>
   C.any (St.env s64)[35]? fun v79 =>
   C.any (St.env s64)[36]? fun v80 =>
   C.any (St.env s64)[37]? fun v81 =>
   C.any (St.env s64)[38]? fun v82 =>
   C.any (St.env s64)[39]? fun v83 =>
   C.any (St.env s64)[40]? fun v84 =>
   C.any (St.env s64)[41]? fun v85 =>
   C.any (St.env s64)[42]? fun v86 =>
   C.same (St.env s64)[43]? v31 <|
   C.sameH (St.H s64) [] <|
   k2 .normal ⟨[(.lst a0), (.tup []), (.bool b65), (.int .i64 (((List.length a0) : Nat) : Int)), (.int .i64 x7), v66, (.lst a0), (.int .i64 (((List.length a0) : Nat) : Int)), (.int .i64 (((List.length a0) : Nat) : Int)), (.bool (decide ((((List.length a0) : Nat) : Int) < 3))), (.bool false), (.int .i64 (((List.length a0) : Nat) : Int)), (.bool (decide ((((List.length a0) : Nat) : Int) > 8))), (.bool (decide ((((List.length a0) : Nat) : Int) > 8))), (.bool false), (.lst a0), (.bool b0), (.bool false), (.int .i64 (((List.length a0) : Nat) : Int)), (.int .i64 (IntKind.wrap .i64 (x7 + 1))), (.bool true), (.int .i64 x7), (.int .i64 x7), (.int .i64 x67), (.bool b68), v69, v70, v71, v72, v73, v74, v75, v76, v77, v78, v79, v80, v81, v82, v83, v84, v85, v86, (.int .i64 (IntKind.wrap .i64 (x7 + 1)))], []⟩)
   (none)
def r56E1 (C : Cb) (d : Nat) (a0 : List AV) (b0 : Bool) (k2 : Ex → St → Ans) (x7 : Int) (v31 : AV) : St → Ans := fun s34 =>
  cnd ((List.length (St.env s34)) == 44)
   (C.same (St.env s34)[0]? (.lst a0) <|
   C.same (St.env s34)[1]? (.tup []) <|
   C.bool (St.env s34)[2]? fun b87 =>
   C.same (St.env s34)[3]? (.int .i64 (((List.length a0) : Nat) : Int)) <|
   C.same (St.env s34)[4]? (.int .i64 x7) <|
   C.int .i64 (St.env s34)[5]? fun x88 =>
   C.same (St.env s34)[6]? (.lst a0) <|
   C.same (St.env s34)[7]? (.int .i64 (((List.length a0) : Nat) : Int)) <|
   C.same (St.env s34)[8]? (.int .i64 (((List.length a0) : Nat) : Int)) <|
   C.same (St.env s34)[9]? (.bool (decide ((((List.length a0) : Nat) : Int) < 3))) <|
   C.same (St.env s34)[10]? (.bool false) <|
   C.same (St.env s34)[11]? (.int .i64 (((List.length a0) : Nat) : Int)) <|
   C.same (St.env s34)[12]? (.bool (decide ((((List.length a0) : Nat) : Int) > 8))) <|
   C.same (St.env s34)[13]? (.bool (decide ((((List.length a0) : Nat) : Int) > 8))) <|
   C.same (St.env s34)[14]? (.bool false) <|
   C.same (St.env s34)[15]? (.lst a0) <|
   C.same (St.env s34)[16]? (.bool b0) <|
   C.same (St.env s34)[17]? (.bool false) <|
   C.same (St.env s34)[18]? (.int .i64 (((List.length a0) : Nat) : Int)) <|
   C.same (St.env s34)[19]? (.int .i64 x7) <|
   C.same (St.env s34)[20]? (.bool true) <|
   C.same (St.env s34)[21]? (.int .i64 x7) <|
   C.same (St.env s34)[22]? (.int .i64 x7) <|
   C.int .i64 (St.env s34)[23]? fun x89 =>
   C.bool (St.env s34)[24]? fun b90 =>
   C.int .i64 (St.env s34)[25]? fun x91 =>
   C.any (St.env s34)[26]? fun v92 =>
   C.int .i64 (St.env s34)[27]? fun x93 =>
   C.any (St.env s34)[28]? fun v94 =>
   C.agg 2 (St.env s34)[29]? fun l95 =>
   C.int .i64 l95[0]? fun x96 =>
   C.int .i64 l95[1]? fun x97 =>
   C.any (St.env s34)[30]? fun v98 =>
   C.int .i64 (St.env s34)[31]? fun x99 =>
   C.any (St.env s34)[32]? fun v100 =>
   C.agg 2 (St.env s34)[33]? fun l101 =>
   C.int .i64 l101[0]? fun x102 =>
   C.int .i64 l101[1]? fun x103 =>
   C.bool (St.env s34)[34]? fun b104 =>
   C.bool (St.env s34)[35]? fun b105 =>
   C.any (St.env s34)[36]? fun v106 =>
   C.any (St.env s34)[37]? fun v107 =>
   C.any (St.env s34)[38]? fun v108 =>
   C.any (St.env s34)[39]? fun v109 =>
   C.any (St.env s34)[40]? fun v110 =>
   C.bool (St.env s34)[41]? fun b111 =>
   C.any (St.env s34)[42]? fun v112 =>
   C.same (St.env s34)[43]? v31 <|
   C.sameH (St.H s34) [] <|
   k2 .ret ⟨[(.lst a0), (.tup []), (.bool b87), (.int .i64 (((List.length a0) : Nat) : Int)), (.int .i64 x7), (.int .i64 x88), (.lst a0), (.int .i64 (((List.length a0) : Nat) : Int)), (.int .i64 (((List.length a0) : Nat) : Int)), (.bool (decide ((((List.length a0) : Nat) : Int) < 3))), (.bool false), (.int .i64 (((List.length a0) : Nat) : Int)), (.bool (decide ((((List.length a0) : Nat) : Int) > 8))), (.bool (decide ((((List.length a0) : Nat) : Int) > 8))), (.bool false), (.lst a0), (.bool b0), (.bool false), (.int .i64 (((List.length a0) : Nat) : Int)), (.int .i64 x7), (.bool true), (.int .i64 x7), (.int .i64 x7), (.int .i64 x89), (.bool b90), (.int .i64 x91), v92, (.int .i64 x93), v94, (.agg [(.int .i64 x96), (.int .i64 x97)]), v98, (.int .i64 x99), v100, (.agg [(.int .i64 x102), (.int .i64 x103)]), (.bool b104), (.bool b105), v106, v107, v108, v109, v110, (.bool b111), v112, v31], []⟩)
   (none)
def r56R0 (C : Cb) (d : Nat) (a0 : List AV) (b0 : Bool) : St → (Ex → St → Ans) → Ans := fun s1 k2 =>
  cnd ((List.length (St.env s1)) == 44)
   (C.same (St.env s1)[0]? (.lst a0) <|
   C.same (St.env s1)[1]? (.tup []) <|
   C.bool (St.env s1)[2]? fun b4 =>
   C.same (St.env s1)[3]? (.int .i64 (((List.length a0) : Nat) : Int)) <|
   C.any (St.env s1)[4]? fun v5 =>
   C.any (St.env s1)[5]? fun v6 =>
   C.same (St.env s1)[6]? (.lst a0) <|
   C.same (St.env s1)[7]? (.int .i64 (((List.length a0) : Nat) : Int)) <|
   C.same (St.env s1)[8]? (.int .i64 (((List.length a0) : Nat) : Int)) <|
   C.same (St.env s1)[9]? (.bool (decide ((((List.length a0) : Nat) : Int) < 3))) <|
   C.same (St.env s1)[10]? (.bool false) <|
   C.same (St.env s1)[11]? (.int .i64 (((List.length a0) : Nat) : Int)) <|
   C.same (St.env s1)[12]? (.bool (decide ((((List.length a0) : Nat) : Int) > 8))) <|
   C.same (St.env s1)[13]? (.bool (decide ((((List.length a0) : Nat) : Int) > 8))) <|
   C.same (St.env s1)[14]? (.bool false) <|
   C.same (St.env s1)[15]? (.lst a0) <|
   C.same (St.env s1)[16]? (.bool b0) <|
   C.same (St.env s1)[17]? (.bool false) <|
   C.same (St.env s1)[18]? (.int .i64 (((List.length a0) : Nat) : Int)) <|
   C.int .i64 (St.env s1)[19]? fun x7 =>
   C.any (St.env s1)[20]? fun v8 =>
   C.any (St.env s1)[21]? fun v9 =>
   C.any (St.env s1)[22]? fun v10 =>
   C.any (St.env s1)[23]? fun v11 =>
   C.any (St.env s1)[24]? fun v12 =>
   C.any (St.env s1)[25]? fun v13 =>
   C.any (St.env s1)[26]? fun v14 =>
   C.any (St.env s1)[27]? fun v15 =>
   C.any (St.env s1)[28]? fun v16 =>
   C.any (St.env s1)[29]? fun v17 =>
   C.any (St.env s1)[30]? fun v18 =>
   C.any (St.env s1)[31]? fun v19 =>
   C.any (St.env s1)[32]? fun v20 =>
   C.any (St.env s1)[33]? fun v21 =>
   C.any (St.env s1)[34]? fun v22 =>
   C.any (St.env s1)[35]? fun v23 =>
   C.any (St.env s1)[36]? fun v24 =>
   C.any (St.env s1)[37]? fun v25 =>
   C.any (St.env s1)[38]? fun v26 =>
   C.any (St.env s1)[39]? fun v27 =>
   C.any (St.env s1)[40]? fun v28 =>
   C.any (St.env s1)[41]? fun v29 =>
   C.any (St.env s1)[42]? fun v30 =>
   C.any (St.env s1)[43]? fun v31 =>
   C.sameH (St.H s1) [] <|
   cnd (decide (x7 < (((List.length a0) : Nat) : Int)))
   (C.iter (r56R1 C d a0 b0 k2 x7 v31) 1000000000000000000 ⟨[(.lst a0), (.tup []), (.bool b4), (.int .i64 (((List.length a0) : Nat) : Int)), (.int .i64 x7), v6, (.lst a0), (.int .i64 (((List.length a0) : Nat) : Int)), (.int .i64 (((List.length a0) : Nat) : Int)), (.bool (decide ((((List.length a0) : Nat) : Int) < 3))), (.bool false), (.int .i64 (((List.length a0) : Nat) : Int)), (.bool (decide ((((List.length a0) : Nat) : Int) > 8))), (.bool (decide ((((List.length a0) : Nat) : Int) > 8))), (.bool false), (.lst a0), (.bool b0), (.bool false), (.int .i64 (((List.length a0) : Nat) : Int)), (.int .i64 x7), (.bool true), (.int .i64 x7), (.int .i64 x7), (.int .i64 0), v12, v13, v14, v15, v16, v17, v18, v19, v20, v21, v22, v23, v24, v25, v26, v27, v28, v29, v30, v31], []⟩ [2] [r56X1_0 C d a0 b0 k2 x7 v31] (r56E1 C d a0 b0 k2 x7 v31))
   (k2 (.exit 0) ⟨[(.lst a0), (.tup []), (.bool b4), (.int .i64 (((List.length a0) : Nat) : Int)), v5, v6, (.lst a0), (.int .i64 (((List.length a0) : Nat) : Int)), (.int .i64 (((List.length a0) : Nat) : Int)), (.bool (decide ((((List.length a0) : Nat) : Int) < 3))), (.bool false), (.int .i64 (((List.length a0) : Nat) : Int)), (.bool (decide ((((List.length a0) : Nat) : Int) > 8))), (.bool (decide ((((List.length a0) : Nat) : Int) > 8))), (.bool false), (.lst a0), (.bool b0), (.bool false), (.int .i64 (((List.length a0) : Nat) : Int)), (.int .i64 x7), (.bool false), v9, v10, v11, v12, v13, v14, v15, v16, v17, v18, v19, v20, v21, v22, v23, v24, v25, v26, v27, v28, v29, v30, v31], []⟩))
   (none)
def r56X0_0 (C : Cb) (d : Nat) (a0 : List AV) (b0 : Bool) : St → Ans := fun s113 =>
  cnd ((List.length (St.env s113)) == 44)
   (C.same (St.env s113)[0]? (.lst a0) <|
   C.same (St.env s113)[1]? (.tup []) <|
   C.bool (St.env s113)[2]? fun b114 =>
   C.same (St.env s113)[3]? (.int .i64 (((List.length a0) : Nat) : Int)) <|
   C.any (St.env s113)[4]? fun v115 =>
   C.any (St.env s113)[5]? fun v116 =>
   C.same (St.env s113)[6]? (.lst a0) <|
   C.same (St.env s113)[7]? (.int .i64 (((List.length a0) : Nat) : Int)) <|
   C.same (St.env s113)[8]? (.int .i64 (((List.length a0) : Nat) : Int)) <|
   C.same (St.env s113)[9]? (.bool (decide ((((List.length a0) : Nat) : Int) < 3))) <|
   C.same (St.env s113)[10]? (.bool false) <|
   C.same (St.env s113)[11]? (.int .i64 (((List.length a0) : Nat) : Int)) <|
   C.same (St.env s113)[12]? (.bool (decide ((((List.length a0) : Nat) : Int) > 8))) <|
   C.same (St.env s113)[13]? (.bool (decide ((((List.length a0) : Nat) : Int) > 8))) <|
   C.same (St.env s113)[14]? (.bool false) <|
   C.same (St.env s113)[15]? (.lst a0) <|
   C.same (St.env s113)[16]? (.bool b0) <|
   C.same (St.env s113)[17]? (.bool false) <|
   C.same (St.env s113)[18]? (.int .i64 (((List.length a0) : Nat) : Int)) <|
   C.int .i64 (St.env s113)[19]? fun x117 =>
   C.bool (St.env s113)[20]? fun b118 =>
   C.any (St.env s113)[21]? fun v119 =>
   C.any (St.env s113)[22]? fun v120 =>
   C.any (St.env s113)[23]? fun v121 =>
   C.any (St.env s113)[24]? fun v122 =>
   C.any (St.env s113)[25]? fun v123 =>
   C.any (St.env s113)[26]? fun v124 =>
   C.any (St.env s113)[27]? fun v125 =>
   C.any (St.env s113)[28]? fun v126 =>
   C.any (St.env s113)[29]? fun v127 =>
   C.any (St.env s113)[30]? fun v128 =>
   C.any (St.env s113)[31]? fun v129 =>
   C.any (St.env s113)[32]? fun v130 =>
   C.any (St.env s113)[33]? fun v131 =>
   C.any (St.env s113)[34]? fun v132 =>
   C.any (St.env s113)[35]? fun v133 =>
   C.any (St.env s113)[36]? fun v134 =>
   C.any (St.env s113)[37]? fun v135 =>
   C.any (St.env s113)[38]? fun v136 =>
   C.any (St.env s113)[39]? fun v137 =>
   C.any (St.env s113)[40]? fun v138 =>
   C.any (St.env s113)[41]? fun v139 =>
   C.any (St.env s113)[42]? fun v140 =>
   C.any (St.env s113)[43]? fun v141 =>
   C.sameH (St.H s113) [] <|
   some (.bool true))
   (none)
def r56E0 (C : Cb) (d : Nat) (a0 : List AV) (b0 : Bool) : St → Ans := fun s3 =>
  cnd ((List.length (St.env s3)) == 44)
   (C.same (St.env s3)[0]? (.lst a0) <|
   C.same (St.env s3)[1]? (.tup []) <|
   C.bool (St.env s3)[2]? fun b142 =>
   C.same (St.env s3)[3]? (.int .i64 (((List.length a0) : Nat) : Int)) <|
   C.int .i64 (St.env s3)[4]? fun x143 =>
   C.int .i64 (St.env s3)[5]? fun x144 =>
   C.same (St.env s3)[6]? (.lst a0) <|
   C.same (St.env s3)[7]? (.int .i64 (((List.length a0) : Nat) : Int)) <|
   C.same (St.env s3)[8]? (.int .i64 (((List.length a0) : Nat) : Int)) <|
   C.same (St.env s3)[9]? (.bool (decide ((((List.length a0) : Nat) : Int) < 3))) <|
   C.same (St.env s3)[10]? (.bool false) <|
   C.same (St.env s3)[11]? (.int .i64 (((List.length a0) : Nat) : Int)) <|
   C.same (St.env s3)[12]? (.bool (decide ((((List.length a0) : Nat) : Int) > 8))) <|
   C.same (St.env s3)[13]? (.bool (decide ((((List.length a0) : Nat) : Int) > 8))) <|
   C.same (St.env s3)[14]? (.bool false) <|
   C.same (St.env s3)[15]? (.lst a0) <|
   C.same (St.env s3)[16]? (.bool b0) <|
   C.same (St.env s3)[17]? (.bool false) <|
   C.same (St.env s3)[18]? (.int .i64 (((List.length a0) : Nat) : Int)) <|
   C.int .i64 (St.env s3)[19]? fun x145 =>
   C.bool (St.env s3)[20]? fun b146 =>
   C.int .i64 (St.env s3)[21]? fun x147 =>
   C.int .i64 (St.env s3)[22]? fun x148 =>
   C.int .i64 (St.env s3)[23]? fun x149 =>
   C.bool (St.env s3)[24]? fun b150 =>
   C.int .i64 (St.env s3)[25]? fun x151 =>
   C.any (St.env s3)[26]? fun v152 =>
   C.int .i64 (St.env s3)[27]? fun x153 =>
   C.any (St.env s3)[28]? fun v154 =>
   C.agg 2 (St.env s3)[29]? fun l155 =>
   C.int .i64 l155[0]? fun x156 =>
   C.int .i64 l155[1]? fun x157 =>
   C.any (St.env s3)[30]? fun v158 =>
   C.int .i64 (St.env s3)[31]? fun x159 =>
   C.any (St.env s3)[32]? fun v160 =>
   C.agg 2 (St.env s3)[33]? fun l161 =>
   C.int .i64 l161[0]? fun x162 =>
   C.int .i64 l161[1]? fun x163 =>
   C.bool (St.env s3)[34]? fun b164 =>
   C.bool (St.env s3)[35]? fun b165 =>
   C.any (St.env s3)[36]? fun v166 =>
   C.any (St.env s3)[37]? fun v167 =>
   C.any (St.env s3)[38]? fun v168 =>
   C.any (St.env s3)[39]? fun v169 =>
   C.any (St.env s3)[40]? fun v170 =>
   C.bool (St.env s3)[41]? fun b171 =>
   C.any (St.env s3)[42]? fun v172 =>
   C.any (St.env s3)[43]? fun v173 =>
   C.sameH (St.H s3) [] <|
   some (.bool b142))
   (none)
/-- apogee/poly.Simple -/
theorem r56 (C : Cb) (d : Nat) (a0 : List AV) : xcall C M unr d 56 [(.lst a0)] =
  cnd (decide ((((List.length a0) : Nat) : Int) < 3))
   (some (.bool false))
   (cnd (decide ((((List.length a0) : Nat) : Int) > 8))
   (some (.bool false))
   (C.bool (pcall M d 40 [(.lst a0), (.fn 70 [] [])]) fun b0 =>
   cnd b0
   (some (.bool false))
   (C.iter (r56R0 C d a0 b0) 1000000000000000000 ⟨[(.lst a0), (.tup []), (.bool false), (.int .i64 (((List.length a0) : Nat) : Int)), (.tup []), (.tup []), (.lst a0), (.int .i64 (((List.length a0) : Nat) : Int)), (.int .i64 (((List.length a0) : Nat) : Int)), (.bool (decide ((((List.length a0) : Nat) : Int) < 3))), (.bool false), (.int .i64 (((List.length a0) : Nat) : Int)), (.bool (decide ((((List.length a0) : Nat) : Int) > 8))), (.bool (decide ((((List.length a0) : Nat) : Int) > 8))), (.bool false), (.lst a0), (.bool b0), (.bool false), (.int .i64 (((List.length a0) : Nat) : Int)), (.int .i64 0), (.tup []), (.tup []), (.tup []), (.tup []), (.tup []), (.tup []), (.tup []), (.tup []), (.tup []), (.tup []), (.tup []), (.tup []), (.tup []), (.tup []), (.tup []), (.tup []), (.tup []), (.tup []), (.tup []), (.tup []), (.tup []), (.tup []), (.tup []), (.tup [])], []⟩ [0] [r56X0_0 C d a0 b0] (r56E0 C d a0 b0)))) := by kernel_rfl
/-- apogee/poly.far -/
theorem r57 (C : Cb) (d : Nat) (a0 : Int) (a1 : Int) : xcall C M unr d 57 [(.agg [(.int .i64 a0), (.int .i64 a1)])] =
  some (.bool (decide ((if ((IntKind.wrap .i64 (0 - a1)) > (if (a1 > (if ((IntKind.wrap .i64 (0 - a0)) > a0) then (IntKind.wrap .i64 (0 - a0)) else a0)) then a1 else (if ((IntKind.wrap .i64 (0 - a0)) > a0) then (IntKind.wrap .i64 (0 - a0)) else a0))) then (IntKind.wrap .i64 (0 - a1)) else (if (a1 > (if ((IntKind.wrap .i64 (0 - a0)) > a0) then (IntKind.wrap .i64 (0 - a0)) else a0)) then a1 else (if ((IntKind.wrap .i64 (0 - a0)) > a0) then (IntKind.wrap .i64 (0 - a0)) else a0))) > 1073741824))) := by kernel_rfl
/-- apogee/apogeeref11.next -/
theorem r58 (C : Cb) (d : Nat) (a0 : List AV) (a1 : Int) : xcall C M unr d 58 [(.lst a0), (.int .i64 a1)] =
  cnd (decide ((((List.length a0) : Nat) : Int) = 0))
   (none)
   (cnd (decide (0 ≤ (Int.tmod (IntKind.wrap .i64 (a1 + 1)) (((List.length a0) : Nat) : Int))))
   (C.agg 2 a0[(Int.toNat (Int.tmod (IntKind.wrap .i64 (a1 + 1)) (((List.length a0) : Nat) : Int)))]? fun l0 =>
   C.int .i64 l0[0]? fun x1 =>
   C.int .i64 l0[1]? fun x2 =>
   some (.agg [(.int .i64 x1), (.int .i64 x2)]))
   (none)) := by kernel_rfl
/-- apogee/poly.Simple$1 -/
theorem r70 (C : Cb) (d : Nat) (a0 : Int) (a1 : Int) : xcall C M unr d 70 [(.agg [(.int .i64 a0), (.int .i64 a1)])] =
  C.bool (pcall M d 35 [(.agg [(.int .i64 a0), (.int .i64 a1)])]) fun b0 =>
  some (.bool (!b0)) := by kernel_rfl
/-- apogee/poly.apart -/
theorem r71 (C : Cb) (d : Nat) (a0 : List AV) (a1 : Int) (a2 : Int) : xcall C M unr d 71 [(.lst a0), (.int .i64 a1), (.int .i64 a2)] =
  C.tup 2 (pcall M d 46 [(.lst a0), (.int .i64 a1)]) fun l0 =>
  C.agg 2 l0[0]? fun l1 =>
  C.int .i64 l1[0]? fun x2 =>
  C.int .i64 l1[1]? fun x3 =>
  C.agg 2 l0[1]? fun l4 =>
  C.int .i64 l4[0]? fun x5 =>
  C.int .i64 l4[1]? fun x6 =>
  C.tup 2 (pcall M d 46 [(.lst a0), (.int .i64 a2)]) fun l7 =>
  C.agg 2 l7[0]? fun l8 =>
  C.int .i64 l8[0]? fun x9 =>
  C.int .i64 l8[1]? fun x10 =>
  C.agg 2 l7[1]? fun l11 =>
  C.int .i64 l11[0]? fun x12 =>
  C.int .i64 l11[1]? fun x13 =>
  cnd (decide ((((List.length a0) : Nat) : Int) = 0))
   (none)
   (cnd ((Int.tmod (IntKind.wrap .i64 (a1 + 1)) (((List.length a0) : Nat) : Int)) == a2)
   (C.bool (pcall M d 47 [(.agg [(.int .i64 x12), (.int .i64 x13)]), (.agg [(.int .i64 x2), (.int .i64 x3)]), (.agg [(.int .i64 x5), (.int .i64 x6)])]) fun b14 =>
   cnd (!b14)
   (C.bool (pcall M d 47 [(.agg [(.int .i64 x2), (.int .i64 x3)]), (.agg [(.int .i64 x9), (.int .i64 x10)]), (.agg [(.int .i64 x12), (.int .i64 x13)])]) fun b15 =>
   some (.bool (!b15)))
   (some (.bool false)))
   (cnd (decide ((((List.length a0) : Nat) : Int) = 0))
   (none)
   (cnd ((Int.tmod (IntKind.wrap .i64 (a2 + 1)) (((List.length a0) : Nat) : Int)) == a1)
   (C.bool (pcall M d 47 [(.agg [(.int .i64 x9), (.int .i64 x10)]), (.agg [(.int .i64 x2), (.int .i64 x3)]), (.agg [(.int .i64 x5), (.int .i64 x6)])]) fun b16 =>
   cnd (!b16)
   (C.bool (pcall M d 47 [(.agg [(.int .i64 x5), (.int .i64 x6)]), (.agg [(.int .i64 x9), (.int .i64 x10)]), (.agg [(.int .i64 x12), (.int .i64 x13)])]) fun b17 =>
   some (.bool (!b17)))
   (some (.bool false)))
   (C.bool (pcall M d 79 [(.agg [(.int .i64 x2), (.int .i64 x3)]), (.agg [(.int .i64 x5), (.int .i64 x6)]), (.agg [(.int .i64 x9), (.int .i64 x10)]), (.agg [(.int .i64 x12), (.int .i64 x13)])]) fun b18 =>
   some (.bool (!b18)))))) := by kernel_rfl
end Go.Proofs.Ytjblhppbjebagaa.AE
