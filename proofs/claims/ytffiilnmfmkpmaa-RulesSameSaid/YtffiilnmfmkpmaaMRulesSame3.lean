/- The texts that the law RulesSame needs, part 3. No conditions. -/
import Derived.Test.YtffiilnmfmkpmaaMRulesSame2
namespace Go.Proofs.Ytffiilnmfmkpmaa.AE
set_option linter.unusedVariables false
set_option linter.unusedSimpArgs false
set_option linter.constructorNameAsVariable false
open Go
set_option maxRecDepth 100000
def r9R0 (C : Cb) (d : Nat) (a0 : List AV) (a1 a2 a3 a4 a5 a6 a7 a8 : Int) : St → (Ex → St → Ans) → Ans := fun s0 k1 =>
 cnd ((List.length s0.env) == 23)
 (C.same s0.env[0]? (.agg [(.lst a0), (iz a1), (iz a2), (iz a3), (iz a4), (iz a5), (iz a6), (iz a7), (iz a8)]) <|
 C.same s0.env[1]? (.ptr 0 0 0) <|
 C.bool s0.env[2]? fun b3 =>
 C.int .i64 s0.env[3]? fun x4 =>
 C.any s0.env[4]? fun v5 =>
 C.any s0.env[5]? fun v6 =>
 C.any s0.env[6]? fun v7 =>
 C.any s0.env[7]? fun v8 =>
 C.any s0.env[8]? fun v9 =>
 C.any s0.env[9]? fun v10 =>
 C.any s0.env[10]? fun v11 =>
 C.any s0.env[11]? fun v12 =>
 C.any s0.env[12]? fun v13 =>
 C.any s0.env[13]? fun v14 =>
 C.any s0.env[14]? fun v15 =>
 C.any s0.env[15]? fun v16 =>
 C.any s0.env[16]? fun v17 =>
 C.any s0.env[17]? fun v18 =>
 C.any s0.env[18]? fun v19 =>
 C.same s0.env[19]? tz <|
 C.same s0.env[20]? tz <|
 C.same s0.env[21]? tz <|
 C.same s0.env[22]? tz <|
 C.sameH (St.H s0) [some ⟨E24, [(.agg [(.lst a0), (iz a1), (iz a2), (iz a3), (iz a4), (iz a5), (iz a6), (iz a7), (iz a8)])]⟩] <|
 cnd (decide (x4 < (((List.length a0) : Nat) : Int)))
 (cnd (decide ((0 : Int) ≤ x4))
 (C.agg 5 a0[(Int.toNat x4)]? fun l20 =>
 C.lst l20[0]? (fun l21 =>
 C.int .i64 l20[1]? fun x23 =>
 C.int .i64 l20[2]? fun x24 =>
 C.int .i64 l20[3]? fun x25 =>
 C.int .i64 l20[4]? fun x26 =>
 cnd (decide ((((List.length l21) : Nat) : Int) > 12))
 (k1 .ret ⟨[(.agg [(.lst a0), (iz a1), (iz a2), (iz a3), (iz a4), (iz a5), (iz a6), (iz a7), (iz a8)]), (.ptr 0 0 0), bf, (iz x4), (iz x4), (.ptr 0 0 0), (.lst a0), (iz (((List.length a0) : Nat) : Int)), bt, v10, v11, (.ptr 0 0 0), (.lst a0), (iz x4), (.fptr (.agg [(.lst l21), (iz x23), (iz x24), (iz x25), (iz x26)]) 0), (.fptr (.agg [(.lst l21), (iz x23), (iz x24), (iz x25), (iz x26)]) 0), (.lst l21), (iz (((List.length l21) : Nat) : Int)), bt, tz, tz, tz, tz], [some ⟨E24, [(.agg [(.lst a0), (iz a1), (iz a2), (iz a3), (iz a4), (iz a5), (iz a6), (iz a7), (iz a8)])]⟩]⟩)
 (k1 .normal ⟨[(.agg [(.lst a0), (iz a1), (iz a2), (iz a3), (iz a4), (iz a5), (iz a6), (iz a7), (iz a8)]), (.ptr 0 0 0), (.bool b3), (iz (IntKind.wrap .i64 (x4 + 1))), (iz x4), (.ptr 0 0 0), (.lst a0), (iz (((List.length a0) : Nat) : Int)), bt, (iz x4), (iz (IntKind.wrap .i64 (x4 + 1))), (.ptr 0 0 0), (.lst a0), (iz x4), (.fptr (.agg [(.lst l21), (iz x23), (iz x24), (iz x25), (iz x26)]) 0), (.fptr (.agg [(.lst l21), (iz x23), (iz x24), (iz x25), (iz x26)]) 0), (.lst l21), (iz (((List.length l21) : Nat) : Int)), bf, tz, tz, tz, tz], [some ⟨E24, [(.agg [(.lst a0), (iz a1), (iz a2), (iz a3), (iz a4), (iz a5), (iz a6), (iz a7), (iz a8)])]⟩]⟩))
 (fun z22 =>
 C.int .i64 l20[1]? fun x27 =>
 C.int .i64 l20[2]? fun x28 =>
 C.int .i64 l20[3]? fun x29 =>
 C.int .i64 l20[4]? fun x30 =>
 k1 .normal ⟨[(.agg [(.lst a0), (iz a1), (iz a2), (iz a3), (iz a4), (iz a5), (iz a6), (iz a7), (iz a8)]), (.ptr 0 0 0), (.bool b3), (iz (IntKind.wrap .i64 (x4 + 1))), (iz x4), (.ptr 0 0 0), (.lst a0), (iz (((List.length a0) : Nat) : Int)), bt, (iz x4), (iz (IntKind.wrap .i64 (x4 + 1))), (.ptr 0 0 0), (.lst a0), (iz x4), (.fptr (.agg [(.zsl z22), (iz x27), (iz x28), (iz x29), (iz x30)]) 0), (.fptr (.agg [(.zsl z22), (iz x27), (iz x28), (iz x29), (iz x30)]) 0), (.zsl z22), (iz ((0 : Nat) : Int)), bf, tz, tz, tz, tz], [some ⟨E24, [(.agg [(.lst a0), (iz a1), (iz a2), (iz a3), (iz a4), (iz a5), (iz a6), (iz a7), (iz a8)])]⟩]⟩))
 (none))
 (k1 (.exit 0) ⟨[(.agg [(.lst a0), (iz a1), (iz a2), (iz a3), (iz a4), (iz a5), (iz a6), (iz a7), (iz a8)]), (.ptr 0 0 0), (.bool b3), (iz x4), (iz x4), (.ptr 0 0 0), (.lst a0), (iz (((List.length a0) : Nat) : Int)), bf, v10, v11, v12, v13, v14, v15, v16, v17, v18, v19, tz, tz, tz, tz], [some ⟨E24, [(.agg [(.lst a0), (iz a1), (iz a2), (iz a3), (iz a4), (iz a5), (iz a6), (iz a7), (iz a8)])]⟩]⟩))
 (none)
def r9X0_0 (C : Cb) (d : Nat) (a0 : List AV) (a1 a2 a3 a4 a5 a6 a7 a8 : Int) : St → Ans := fun s31 =>
 cnd ((List.length s31.env) == 23)
 (C.same s31.env[0]? (.agg [(.lst a0), (iz a1), (iz a2), (iz a3), (iz a4), (iz a5), (iz a6), (iz a7), (iz a8)]) <|
 C.same s31.env[1]? (.ptr 0 0 0) <|
 C.bool s31.env[2]? fun b32 =>
 C.int .i64 s31.env[3]? fun x33 =>
 C.int .i64 s31.env[4]? fun x34 =>
 C.any s31.env[5]? fun v35 =>
 C.any s31.env[6]? fun v36 =>
 C.int .i64 s31.env[7]? fun x37 =>
 C.bool s31.env[8]? fun b38 =>
 C.any s31.env[9]? fun v39 =>
 C.any s31.env[10]? fun v40 =>
 C.any s31.env[11]? fun v41 =>
 C.any s31.env[12]? fun v42 =>
 C.any s31.env[13]? fun v43 =>
 C.any s31.env[14]? fun v44 =>
 C.any s31.env[15]? fun v45 =>
 C.any s31.env[16]? fun v46 =>
 C.any s31.env[17]? fun v47 =>
 C.any s31.env[18]? fun v48 =>
 C.same s31.env[19]? tz <|
 C.same s31.env[20]? tz <|
 C.same s31.env[21]? tz <|
 C.same s31.env[22]? tz <|
 C.sameH (St.H s31) [some ⟨E24, [(.agg [(.lst a0), (iz a1), (iz a2), (iz a3), (iz a4), (iz a5), (iz a6), (iz a7), (iz a8)])]⟩] <|
 some (.bool (decide ((((List.length a0) : Nat) : Int) ≤ 8))))
 (none)
def r9E0 (C : Cb) (d : Nat) (a0 : List AV) (a1 a2 a3 a4 a5 a6 a7 a8 : Int) : St → Ans := fun s2 =>
 cnd ((List.length s2.env) == 23)
 (C.same s2.env[0]? (.agg [(.lst a0), (iz a1), (iz a2), (iz a3), (iz a4), (iz a5), (iz a6), (iz a7), (iz a8)]) <|
 C.same s2.env[1]? (.ptr 0 0 0) <|
 C.bool s2.env[2]? fun b49 =>
 C.int .i64 s2.env[3]? fun x50 =>
 C.int .i64 s2.env[4]? fun x51 =>
 C.any s2.env[5]? fun v52 =>
 C.any s2.env[6]? fun v53 =>
 C.int .i64 s2.env[7]? fun x54 =>
 C.bool s2.env[8]? fun b55 =>
 C.any s2.env[9]? fun v56 =>
 C.any s2.env[10]? fun v57 =>
 C.any s2.env[11]? fun v58 =>
 C.any s2.env[12]? fun v59 =>
 C.int .i64 s2.env[13]? fun x60 =>
 C.any s2.env[14]? fun v61 =>
 C.any s2.env[15]? fun v62 =>
 C.any s2.env[16]? fun v63 =>
 C.int .i64 s2.env[17]? fun x64 =>
 C.bool s2.env[18]? fun b65 =>
 C.same s2.env[19]? tz <|
 C.same s2.env[20]? tz <|
 C.same s2.env[21]? tz <|
 C.same s2.env[22]? tz <|
 C.sameH (St.H s2) [some ⟨E24, [(.agg [(.lst a0), (iz a1), (iz a2), (iz a3), (iz a4), (iz a5), (iz a6), (iz a7), (iz a8)])]⟩] <|
 some (.bool b49))
 (none)
/-- apogee/apogeeref13.Few -/
theorem r9 (C : Cb) (d : Nat) (a0 : List AV) (a1 a2 a3 a4 a5 a6 a7 a8 : Int) : xcall C M unr d 9 [(.agg [(.lst a0), (iz a1), (iz a2), (iz a3), (iz a4), (iz a5), (iz a6), (iz a7), (iz a8)])] =
 C.iter (r9R0 C d a0 a1 a2 a3 a4 a5 a6 a7 a8) 10000000000000000000 ⟨[(.agg [(.lst a0), (iz a1), (iz a2), (iz a3), (iz a4), (iz a5), (iz a6), (iz a7), (iz a8)]), (.ptr 0 0 0), bf, (iz 0), tz, tz, tz, tz, tz, tz, tz, tz, tz, tz, tz, tz, tz, tz, tz, tz, tz, tz, tz], [some ⟨E24, [(.agg [(.lst a0), (iz a1), (iz a2), (iz a3), (iz a4), (iz a5), (iz a6), (iz a7), (iz a8)])]⟩]⟩ [0] [r9X0_0 C d a0 a1 a2 a3 a4 a5 a6 a7 a8] (r9E0 C d a0 a1 a2 a3 a4 a5 a6 a7 a8) := by kernel_rfl
/-- apogee/apogeeref13.SamePhase -/
theorem r15 (C : Cb) (d : Nat) (a0 : List AV) (a1 a2 a3 a4 : Int) (a5 : List AV) (a6 a7 a8 a9 : Int) : xcall C M unr d 15 [(.agg [(.lst a0), (iz a1), (iz a2), (iz a3), (iz a4)]), (.agg [(.lst a5), (iz a6), (iz a7), (iz a8), (iz a9)])] =
 C.bool (pcall M d 29 [(.lst a0), (.lst a5)]) fun b0 =>
 cnd b0
 (cnd (a1 == a6)
 (cnd (a2 == a7)
 (cnd (a3 == a8)
 (some (.bool (a4 == a9)))
 (some bf))
 (some bf))
 (some bf))
 (some bf) := by kernel_rfl
/-- apogee/rules.RightPhase -/
theorem r16 (C : Cb) (d : Nat) (a0 : List AV) (a1 a2 a3 a4 : Int) : xcall C M unr d 16 [(.agg [(.lst a0), (iz a1), (iz a2), (iz a3), (iz a4)])] =
 C.bool (pcall M d 30 [(.lst a0)]) fun b0 =>
 cnd b0
 (C.bool (pcall M d 28 [(iz a1), (iz 1), (iz 100)]) fun b1 =>
 cnd b1
 (C.bool (pcall M d 28 [(iz a2), (iz 1), (iz 65536)]) fun b2 =>
 cnd b2
 (C.bool (pcall M d 24 [(iz a3), (iz 1), (iz 1000000)]) fun b3 =>
 cnd b3
 (C.bool (pcall M d 28 [(iz a4), (iz 0), (iz 1073741824)]) fun b4 =>
 some (.bool b4))
 (some bf))
 (some bf))
 (some bf))
 (some bf) := by kernel_rfl
def r18R0 (C : Cb) (d : Nat) (a0 : AV) (a1 a2 a3 a4 a5 a6 a7 a8 : Int) (n0 : Nat) (K0 : AV → Heap → Ans) (v0 v2 v4 v6 v9 v13 v15 : AV) (x19 : Int) : St → (Ex → St → Ans) → Ans := fun s20 k21 =>
 cnd ((List.length s20.env) == 28)
 (C.same s20.env[0]? (.agg [a0, (iz a1), (iz a2), (iz a3), (iz a4), (iz a5), (iz a6), (iz a7), (iz a8)]) <|
 C.same s20.env[1]? v0 <|
 C.same s20.env[2]? v2 <|
 C.any s20.env[3]? fun v23 =>
 C.same s20.env[4]? v4 <|
 C.same s20.env[5]? v6 <|
 C.same s20.env[6]? (.lst []) <|
 C.same s20.env[7]? v9 <|
 C.same s20.env[8]? v13 <|
 C.same s20.env[9]? v15 <|
 C.same s20.env[10]? (iz x19) <|
 C.int .i64 s20.env[11]? fun x24 =>
 C.any s20.env[12]? fun v25 =>
 C.any s20.env[13]? fun v26 =>
 C.any s20.env[14]? fun v27 =>
 C.any s20.env[15]? fun v28 =>
 C.any s20.env[16]? fun v29 =>
 C.any s20.env[17]? fun v30 =>
 C.any s20.env[18]? fun v31 =>
 C.any s20.env[19]? fun v32 =>
 C.any s20.env[20]? fun v33 =>
 C.any s20.env[21]? fun v34 =>
 C.any s20.env[22]? fun v35 =>
 C.any s20.env[23]? fun v36 =>
 C.any s20.env[24]? fun v37 =>
 C.any s20.env[25]? fun v38 =>
 C.any s20.env[26]? fun v39 =>
 C.same s20.env[27]? tz <|
 cnd (decide (x24 < x19))
 (C.hop (St.H s20) (.fldA 0 (.v v0)) fun v40 h41 =>
 C.hop h41 (.load false 1 (.v v40)) fun v42 h43 =>
 C.hop h43 (.fldA 0 (.v v0)) fun v44 h45 =>
 C.hop h45 (.load false 1 (.v v44)) fun v46 h47 =>
 C.hop h47 (.ixAS .any 5 (.v v46) (.v (iz x24))) fun v48 h49 =>
 C.hop h49 (.fldA 0 (.v v48)) fun v50 h51 =>
 C.hop h51 (.load false 1 (.v v50)) fun v52 h53 =>
 C.cal M (pcall M d) (n0 + 8) false 23 [v52] h53 fun v54 h55 =>
 C.any (some v54) fun v56 =>
 C.hop h55 (.ixAS .any 5 (.v v42) (.v (iz x24))) fun v57 h58 =>
 C.hop h58 (.fldA 0 (.v v57)) fun v59 h60 =>
 C.hop h60 (.store 1 (.v v59) (.v v56)) fun v61 h62 =>
 k21 .normal ⟨[(.agg [a0, (iz a1), (iz a2), (iz a3), (iz a4), (iz a5), (iz a6), (iz a7), (iz a8)]), v0, v2, (iz x24), v4, v6, (.lst []), v9, v13, v15, (iz x19), (iz (IntKind.wrap .i64 (x24 + 1))), bt, (iz x24), v40, v42, (iz x24), v44, v46, (iz x24), v48, v50, v52, v56, v57, v59, (iz (IntKind.wrap .i64 (x24 + 1))), tz], h62⟩)
 (k21 (.exit 0) ⟨[(.agg [a0, (iz a1), (iz a2), (iz a3), (iz a4), (iz a5), (iz a6), (iz a7), (iz a8)]), v0, v2, v23, v4, v6, (.lst []), v9, v13, v15, (iz x19), (iz x24), bf, v26, v27, v28, v29, v30, v31, v32, v33, v34, v35, v36, v37, v38, v39, tz], (St.H s20)⟩))
 (none)
def r18X0_0 (C : Cb) (d : Nat) (a0 : AV) (a1 a2 a3 a4 a5 a6 a7 a8 : Int) (n0 : Nat) (K0 : AV → Heap → Ans) (v0 v2 v4 v6 v9 v13 v15 : AV) (x19 : Int) : St → Ans := fun s63 =>
 cnd ((List.length s63.env) == 28)
 (C.same s63.env[0]? (.agg [a0, (iz a1), (iz a2), (iz a3), (iz a4), (iz a5), (iz a6), (iz a7), (iz a8)]) <|
 C.same s63.env[1]? v0 <|
 C.same s63.env[2]? v2 <|
 C.any s63.env[3]? fun v64 =>
 C.same s63.env[4]? v4 <|
 C.same s63.env[5]? v6 <|
 C.same s63.env[6]? (.lst []) <|
 C.same s63.env[7]? v9 <|
 C.same s63.env[8]? v13 <|
 C.same s63.env[9]? v15 <|
 C.same s63.env[10]? (iz x19) <|
 C.int .i64 s63.env[11]? fun x65 =>
 C.any s63.env[12]? fun v66 =>
 C.any s63.env[13]? fun v67 =>
 C.any s63.env[14]? fun v68 =>
 C.any s63.env[15]? fun v69 =>
 C.any s63.env[16]? fun v70 =>
 C.any s63.env[17]? fun v71 =>
 C.any s63.env[18]? fun v72 =>
 C.any s63.env[19]? fun v73 =>
 C.any s63.env[20]? fun v74 =>
 C.any s63.env[21]? fun v75 =>
 C.any s63.env[22]? fun v76 =>
 C.any s63.env[23]? fun v77 =>
 C.any s63.env[24]? fun v78 =>
 C.any s63.env[25]? fun v79 =>
 C.any s63.env[26]? fun v80 =>
 C.same s63.env[27]? tz <|
 C.hop (St.H s63) (.load true 9 (.v v0)) fun v81 h82 =>
 C.agg 9 (some v81) fun l83 =>
 C.any l83[0]? fun v84 =>
 C.int .i64 l83[1]? fun x85 =>
 C.int .i64 l83[2]? fun x86 =>
 C.int .i64 l83[3]? fun x87 =>
 C.int .i64 l83[4]? fun x88 =>
 C.int .i64 l83[5]? fun x89 =>
 C.int .i64 l83[6]? fun x90 =>
 C.int .i64 l83[7]? fun x91 =>
 C.int .i64 l83[8]? fun x92 =>
 C.hop h82 (.store 9 (.v v2) (.v (.agg [v84, (iz x85), (iz x86), (iz x87), (iz x88), (iz x89), (iz x90), (iz x91), (iz x92)]))) fun v93 h94 =>
 C.hop h94 (.load true 9 (.v v2)) fun v95 h96 =>
 K0 v95 h94)
 (none)
def r18E0 (C : Cb) (d : Nat) (a0 : AV) (a1 a2 a3 a4 a5 a6 a7 a8 : Int) (n0 : Nat) (K0 : AV → Heap → Ans) (v0 v2 v4 v6 v9 v13 v15 : AV) (x19 : Int) : St → Ans := fun s22 =>
 cnd ((List.length s22.env) == 28)
 (C.same s22.env[0]? (.agg [a0, (iz a1), (iz a2), (iz a3), (iz a4), (iz a5), (iz a6), (iz a7), (iz a8)]) <|
 C.same s22.env[1]? v0 <|
 C.same s22.env[2]? v2 <|
 C.any s22.env[3]? fun v97 =>
 C.same s22.env[4]? v4 <|
 C.same s22.env[5]? v6 <|
 C.same s22.env[6]? (.lst []) <|
 C.same s22.env[7]? v9 <|
 C.same s22.env[8]? v13 <|
 C.same s22.env[9]? v15 <|
 C.same s22.env[10]? (iz x19) <|
 C.int .i64 s22.env[11]? fun x98 =>
 C.any s22.env[12]? fun v99 =>
 C.any s22.env[13]? fun v100 =>
 C.any s22.env[14]? fun v101 =>
 C.any s22.env[15]? fun v102 =>
 C.any s22.env[16]? fun v103 =>
 C.any s22.env[17]? fun v104 =>
 C.any s22.env[18]? fun v105 =>
 C.any s22.env[19]? fun v106 =>
 C.any s22.env[20]? fun v107 =>
 C.any s22.env[21]? fun v108 =>
 C.any s22.env[22]? fun v109 =>
 C.any s22.env[23]? fun v110 =>
 C.any s22.env[24]? fun v111 =>
 C.any s22.env[25]? fun v112 =>
 C.any s22.env[26]? fun v113 =>
 C.same s22.env[27]? tz <|
 C.hop (St.H s22) (.load true 9 (.v v2)) fun v114 h115 =>
 K0 v114 (St.H s22))
 (none)
def r18R2 (C : Cb) (d : Nat) (a0 : AV) (a1 a2 a3 a4 a5 a6 a7 a8 : Int) (n0 : Nat) (K0 : AV → Heap → Ans) (v0 v2 v4 v6 v119 v123 v125 : AV) (x129 : Int) : St → (Ex → St → Ans) → Ans := fun s130 k131 =>
 cnd ((List.length s130.env) == 28)
 (C.same s130.env[0]? (.agg [a0, (iz a1), (iz a2), (iz a3), (iz a4), (iz a5), (iz a6), (iz a7), (iz a8)]) <|
 C.same s130.env[1]? v0 <|
 C.same s130.env[2]? v2 <|
 C.any s130.env[3]? fun v133 =>
 C.same s130.env[4]? v4 <|
 C.same s130.env[5]? v6 <|
 C.same s130.env[6]? (.zsl true) <|
 C.same s130.env[7]? v119 <|
 C.same s130.env[8]? v123 <|
 C.same s130.env[9]? v125 <|
 C.same s130.env[10]? (iz x129) <|
 C.int .i64 s130.env[11]? fun x134 =>
 C.any s130.env[12]? fun v135 =>
 C.any s130.env[13]? fun v136 =>
 C.any s130.env[14]? fun v137 =>
 C.any s130.env[15]? fun v138 =>
 C.any s130.env[16]? fun v139 =>
 C.any s130.env[17]? fun v140 =>
 C.any s130.env[18]? fun v141 =>
 C.any s130.env[19]? fun v142 =>
 C.any s130.env[20]? fun v143 =>
 C.any s130.env[21]? fun v144 =>
 C.any s130.env[22]? fun v145 =>
 C.any s130.env[23]? fun v146 =>
 C.any s130.env[24]? fun v147 =>
 C.any s130.env[25]? fun v148 =>
 C.any s130.env[26]? fun v149 =>
 C.same s130.env[27]? tz <|
 cnd (decide (x134 < x129))
 (C.hop (St.H s130) (.fldA 0 (.v v0)) fun v150 h151 =>
 C.hop h151 (.load false 1 (.v v150)) fun v152 h153 =>
 C.hop h153 (.fldA 0 (.v v0)) fun v154 h155 =>
 C.hop h155 (.load false 1 (.v v154)) fun v156 h157 =>
 C.hop h157 (.ixAS .any 5 (.v v156) (.v (iz x134))) fun v158 h159 =>
 C.hop h159 (.fldA 0 (.v v158)) fun v160 h161 =>
 C.hop h161 (.load false 1 (.v v160)) fun v162 h163 =>
 C.cal M (pcall M d) (n0 + 8) false 23 [v162] h163 fun v164 h165 =>
 C.any (some v164) fun v166 =>
 C.hop h165 (.ixAS .any 5 (.v v152) (.v (iz x134))) fun v167 h168 =>
 C.hop h168 (.fldA 0 (.v v167)) fun v169 h170 =>
 C.hop h170 (.store 1 (.v v169) (.v v166)) fun v171 h172 =>
 k131 .normal ⟨[(.agg [a0, (iz a1), (iz a2), (iz a3), (iz a4), (iz a5), (iz a6), (iz a7), (iz a8)]), v0, v2, (iz x134), v4, v6, (.zsl true), v119, v123, v125, (iz x129), (iz (IntKind.wrap .i64 (x134 + 1))), bt, (iz x134), v150, v152, (iz x134), v154, v156, (iz x134), v158, v160, v162, v166, v167, v169, (iz (IntKind.wrap .i64 (x134 + 1))), tz], h172⟩)
 (k131 (.exit 0) ⟨[(.agg [a0, (iz a1), (iz a2), (iz a3), (iz a4), (iz a5), (iz a6), (iz a7), (iz a8)]), v0, v2, v133, v4, v6, (.zsl true), v119, v123, v125, (iz x129), (iz x134), bf, v136, v137, v138, v139, v140, v141, v142, v143, v144, v145, v146, v147, v148, v149, tz], (St.H s130)⟩))
 (none)
def r18X2_0 (C : Cb) (d : Nat) (a0 : AV) (a1 a2 a3 a4 a5 a6 a7 a8 : Int) (n0 : Nat) (K0 : AV → Heap → Ans) (v0 v2 v4 v6 v119 v123 v125 : AV) (x129 : Int) : St → Ans := fun s173 =>
 cnd ((List.length s173.env) == 28)
 (C.same s173.env[0]? (.agg [a0, (iz a1), (iz a2), (iz a3), (iz a4), (iz a5), (iz a6), (iz a7), (iz a8)]) <|
 C.same s173.env[1]? v0 <|
 C.same s173.env[2]? v2 <|
 C.any s173.env[3]? fun v174 =>
 C.same s173.env[4]? v4 <|
 C.same s173.env[5]? v6 <|
 C.same s173.env[6]? (.zsl true) <|
 C.same s173.env[7]? v119 <|
 C.same s173.env[8]? v123 <|
 C.same s173.env[9]? v125 <|
 C.same s173.env[10]? (iz x129) <|
 C.int .i64 s173.env[11]? fun x175 =>
 C.any s173.env[12]? fun v176 =>
 C.any s173.env[13]? fun v177 =>
 C.any s173.env[14]? fun v178 =>
 C.any s173.env[15]? fun v179 =>
 C.any s173.env[16]? fun v180 =>
 C.any s173.env[17]? fun v181 =>
 C.any s173.env[18]? fun v182 =>
 C.any s173.env[19]? fun v183 =>
 C.any s173.env[20]? fun v184 =>
 C.any s173.env[21]? fun v185 =>
 C.any s173.env[22]? fun v186 =>
 C.any s173.env[23]? fun v187 =>
 C.any s173.env[24]? fun v188 =>
 C.any s173.env[25]? fun v189 =>
 C.any s173.env[26]? fun v190 =>
 C.same s173.env[27]? tz <|
 C.hop (St.H s173) (.load true 9 (.v v0)) fun v191 h192 =>
 C.agg 9 (some v191) fun l193 =>
 C.any l193[0]? fun v194 =>
 C.int .i64 l193[1]? fun x195 =>
 C.int .i64 l193[2]? fun x196 =>
 C.int .i64 l193[3]? fun x197 =>
 C.int .i64 l193[4]? fun x198 =>
 C.int .i64 l193[5]? fun x199 =>
 C.int .i64 l193[6]? fun x200 =>
 C.int .i64 l193[7]? fun x201 =>
 C.int .i64 l193[8]? fun x202 =>
 C.hop h192 (.store 9 (.v v2) (.v (.agg [v194, (iz x195), (iz x196), (iz x197), (iz x198), (iz x199), (iz x200), (iz x201), (iz x202)]))) fun v203 h204 =>
 C.hop h204 (.load true 9 (.v v2)) fun v205 h206 =>
 K0 v205 h204)
 (none)
def r18E2 (C : Cb) (d : Nat) (a0 : AV) (a1 a2 a3 a4 a5 a6 a7 a8 : Int) (n0 : Nat) (K0 : AV → Heap → Ans) (v0 v2 v4 v6 v119 v123 v125 : AV) (x129 : Int) : St → Ans := fun s132 =>
 cnd ((List.length s132.env) == 28)
 (C.same s132.env[0]? (.agg [a0, (iz a1), (iz a2), (iz a3), (iz a4), (iz a5), (iz a6), (iz a7), (iz a8)]) <|
 C.same s132.env[1]? v0 <|
 C.same s132.env[2]? v2 <|
 C.any s132.env[3]? fun v207 =>
 C.same s132.env[4]? v4 <|
 C.same s132.env[5]? v6 <|
 C.same s132.env[6]? (.zsl true) <|
 C.same s132.env[7]? v119 <|
 C.same s132.env[8]? v123 <|
 C.same s132.env[9]? v125 <|
 C.same s132.env[10]? (iz x129) <|
 C.int .i64 s132.env[11]? fun x208 =>
 C.any s132.env[12]? fun v209 =>
 C.any s132.env[13]? fun v210 =>
 C.any s132.env[14]? fun v211 =>
 C.any s132.env[15]? fun v212 =>
 C.any s132.env[16]? fun v213 =>
 C.any s132.env[17]? fun v214 =>
 C.any s132.env[18]? fun v215 =>
 C.any s132.env[19]? fun v216 =>
 C.any s132.env[20]? fun v217 =>
 C.any s132.env[21]? fun v218 =>
 C.any s132.env[22]? fun v219 =>
 C.any s132.env[23]? fun v220 =>
 C.any s132.env[24]? fun v221 =>
 C.any s132.env[25]? fun v222 =>
 C.any s132.env[26]? fun v223 =>
 C.same s132.env[27]? tz <|
 C.hop (St.H s132) (.load true 9 (.v v2)) fun v224 h225 =>
 K0 v224 (St.H s132))
 (none)
def r18R4 (C : Cb) (d : Nat) (a0 : AV) (a1 a2 a3 a4 a5 a6 a7 a8 : Int) (n0 : Nat) (K0 : AV → Heap → Ans) (v0 v2 v4 v6 v228 v230 v234 v236 : AV) (x240 : Int) : St → (Ex → St → Ans) → Ans := fun s241 k242 =>
 cnd ((List.length s241.env) == 28)
 (C.same s241.env[0]? (.agg [a0, (iz a1), (iz a2), (iz a3), (iz a4), (iz a5), (iz a6), (iz a7), (iz a8)]) <|
 C.same s241.env[1]? v0 <|
 C.same s241.env[2]? v2 <|
 C.any s241.env[3]? fun v244 =>
 C.same s241.env[4]? v4 <|
 C.same s241.env[5]? v6 <|
 C.same s241.env[6]? v228 <|
 C.same s241.env[7]? v230 <|
 C.same s241.env[8]? v234 <|
 C.same s241.env[9]? v236 <|
 C.same s241.env[10]? (iz x240) <|
 C.int .i64 s241.env[11]? fun x245 =>
 C.any s241.env[12]? fun v246 =>
 C.any s241.env[13]? fun v247 =>
 C.any s241.env[14]? fun v248 =>
 C.any s241.env[15]? fun v249 =>
 C.any s241.env[16]? fun v250 =>
 C.any s241.env[17]? fun v251 =>
 C.any s241.env[18]? fun v252 =>
 C.any s241.env[19]? fun v253 =>
 C.any s241.env[20]? fun v254 =>
 C.any s241.env[21]? fun v255 =>
 C.any s241.env[22]? fun v256 =>
 C.any s241.env[23]? fun v257 =>
 C.any s241.env[24]? fun v258 =>
 C.any s241.env[25]? fun v259 =>
 C.any s241.env[26]? fun v260 =>
 C.same s241.env[27]? tz <|
 cnd (decide (x245 < x240))
 (C.hop (St.H s241) (.fldA 0 (.v v0)) fun v261 h262 =>
 C.hop h262 (.load false 1 (.v v261)) fun v263 h264 =>
 C.hop h264 (.fldA 0 (.v v0)) fun v265 h266 =>
 C.hop h266 (.load false 1 (.v v265)) fun v267 h268 =>
 C.hop h268 (.ixAS .any 5 (.v v267) (.v (iz x245))) fun v269 h270 =>
 C.hop h270 (.fldA 0 (.v v269)) fun v271 h272 =>
 C.hop h272 (.load false 1 (.v v271)) fun v273 h274 =>
 C.cal M (pcall M d) (n0 + 8) false 23 [v273] h274 fun v275 h276 =>
 C.any (some v275) fun v277 =>
 C.hop h276 (.ixAS .any 5 (.v v263) (.v (iz x245))) fun v278 h279 =>
 C.hop h279 (.fldA 0 (.v v278)) fun v280 h281 =>
 C.hop h281 (.store 1 (.v v280) (.v v277)) fun v282 h283 =>
 k242 .normal ⟨[(.agg [a0, (iz a1), (iz a2), (iz a3), (iz a4), (iz a5), (iz a6), (iz a7), (iz a8)]), v0, v2, (iz x245), v4, v6, v228, v230, v234, v236, (iz x240), (iz (IntKind.wrap .i64 (x245 + 1))), bt, (iz x245), v261, v263, (iz x245), v265, v267, (iz x245), v269, v271, v273, v277, v278, v280, (iz (IntKind.wrap .i64 (x245 + 1))), tz], h283⟩)
 (k242 (.exit 0) ⟨[(.agg [a0, (iz a1), (iz a2), (iz a3), (iz a4), (iz a5), (iz a6), (iz a7), (iz a8)]), v0, v2, v244, v4, v6, v228, v230, v234, v236, (iz x240), (iz x245), bf, v247, v248, v249, v250, v251, v252, v253, v254, v255, v256, v257, v258, v259, v260, tz], (St.H s241)⟩))
 (none)
def r18X4_0 (C : Cb) (d : Nat) (a0 : AV) (a1 a2 a3 a4 a5 a6 a7 a8 : Int) (n0 : Nat) (K0 : AV → Heap → Ans) (v0 v2 v4 v6 v228 v230 v234 v236 : AV) (x240 : Int) : St → Ans := fun s284 =>
 cnd ((List.length s284.env) == 28)
 (C.same s284.env[0]? (.agg [a0, (iz a1), (iz a2), (iz a3), (iz a4), (iz a5), (iz a6), (iz a7), (iz a8)]) <|
 C.same s284.env[1]? v0 <|
 C.same s284.env[2]? v2 <|
 C.any s284.env[3]? fun v285 =>
 C.same s284.env[4]? v4 <|
 C.same s284.env[5]? v6 <|
 C.same s284.env[6]? v228 <|
 C.same s284.env[7]? v230 <|
 C.same s284.env[8]? v234 <|
 C.same s284.env[9]? v236 <|
 C.same s284.env[10]? (iz x240) <|
 C.int .i64 s284.env[11]? fun x286 =>
 C.any s284.env[12]? fun v287 =>
 C.any s284.env[13]? fun v288 =>
 C.any s284.env[14]? fun v289 =>
 C.any s284.env[15]? fun v290 =>
 C.any s284.env[16]? fun v291 =>
 C.any s284.env[17]? fun v292 =>
 C.any s284.env[18]? fun v293 =>
 C.any s284.env[19]? fun v294 =>
 C.any s284.env[20]? fun v295 =>
 C.any s284.env[21]? fun v296 =>
 C.any s284.env[22]? fun v297 =>
 C.any s284.env[23]? fun v298 =>
 C.any s284.env[24]? fun v299 =>
 C.any s284.env[25]? fun v300 =>
 C.any s284.env[26]? fun v301 =>
 C.same s284.env[27]? tz <|
 C.hop (St.H s284) (.load true 9 (.v v0)) fun v302 h303 =>
 C.agg 9 (some v302) fun l304 =>
 C.any l304[0]? fun v305 =>
 C.int .i64 l304[1]? fun x306 =>
 C.int .i64 l304[2]? fun x307 =>
 C.int .i64 l304[3]? fun x308 =>
 C.int .i64 l304[4]? fun x309 =>
 C.int .i64 l304[5]? fun x310 =>
 C.int .i64 l304[6]? fun x311 =>
 C.int .i64 l304[7]? fun x312 =>
 C.int .i64 l304[8]? fun x313 =>
 C.hop h303 (.store 9 (.v v2) (.v (.agg [v305, (iz x306), (iz x307), (iz x308), (iz x309), (iz x310), (iz x311), (iz x312), (iz x313)]))) fun v314 h315 =>
 C.hop h315 (.load true 9 (.v v2)) fun v316 h317 =>
 K0 v316 h315)
 (none)
def r18E4 (C : Cb) (d : Nat) (a0 : AV) (a1 a2 a3 a4 a5 a6 a7 a8 : Int) (n0 : Nat) (K0 : AV → Heap → Ans) (v0 v2 v4 v6 v228 v230 v234 v236 : AV) (x240 : Int) : St → Ans := fun s243 =>
 cnd ((List.length s243.env) == 28)
 (C.same s243.env[0]? (.agg [a0, (iz a1), (iz a2), (iz a3), (iz a4), (iz a5), (iz a6), (iz a7), (iz a8)]) <|
 C.same s243.env[1]? v0 <|
 C.same s243.env[2]? v2 <|
 C.any s243.env[3]? fun v318 =>
 C.same s243.env[4]? v4 <|
 C.same s243.env[5]? v6 <|
 C.same s243.env[6]? v228 <|
 C.same s243.env[7]? v230 <|
 C.same s243.env[8]? v234 <|
 C.same s243.env[9]? v236 <|
 C.same s243.env[10]? (iz x240) <|
 C.int .i64 s243.env[11]? fun x319 =>
 C.any s243.env[12]? fun v320 =>
 C.any s243.env[13]? fun v321 =>
 C.any s243.env[14]? fun v322 =>
 C.any s243.env[15]? fun v323 =>
 C.any s243.env[16]? fun v324 =>
 C.any s243.env[17]? fun v325 =>
 C.any s243.env[18]? fun v326 =>
 C.any s243.env[19]? fun v327 =>
 C.any s243.env[20]? fun v328 =>
 C.any s243.env[21]? fun v329 =>
 C.any s243.env[22]? fun v330 =>
 C.any s243.env[23]? fun v331 =>
 C.any s243.env[24]? fun v332 =>
 C.any s243.env[25]? fun v333 =>
 C.any s243.env[26]? fun v334 =>
 C.same s243.env[27]? tz <|
 C.hop (St.H s243) (.load true 9 (.v v2)) fun v335 h336 =>
 K0 v335 (St.H s243))
 (none)
/-- apogee/rules.Copy -/
theorem r18 (C : Cb) (d : Nat) (a0 : AV) (a1 a2 a3 a4 a5 a6 a7 a8 : Int) (n0 : Nat) (H0 : Heap) (K0 : AV → Heap → Ans) : xmeth C M unr d (n0 + 8) 18 [(.agg [a0, (iz a1), (iz a2), (iz a3), (iz a4), (iz a5), (iz a6), (iz a7), (iz a8)])] H0 K0 =
 C.hop H0 (.box E24 (.v (.agg [a0, (iz a1), (iz a2), (iz a3), (iz a4), (iz a5), (iz a6), (iz a7), (iz a8)]))) fun v0 h1 =>
 C.hop h1 (.alloc E24) fun v2 h3 =>
 C.hop h3 (.fldA 0 (.v v0)) fun v4 h5 =>
 C.hop h5 (.load false 1 (.v v4)) fun v6 h7 =>
 C.bool (clr v6) fun b8 =>
 cnd b8
 (C.same (emptyQ (pcall M d) 32) (.lst []) <|
 C.hop h7 (.fldA 0 (.v v0)) fun v9 h10 =>
 C.hop h10 (.store 1 (.v v9) (.v (.lst []))) fun v11 h12 =>
 C.hop h12 (.fldA 0 (.v v0)) fun v13 h14 =>
 C.hop h14 (.load false 1 (.v v13)) fun v15 h16 =>
 C.hop h16 (.bk .lenV [(.v v15)]) fun v17 h18 =>
 C.int .i64 (some v17) fun x19 =>
 C.iter (r18R0 C d a0 a1 a2 a3 a4 a5 a6 a7 a8 n0 K0 v0 v2 v4 v6 v9 v13 v15 x19) 10000000000000000000 ⟨[(.agg [a0, (iz a1), (iz a2), (iz a3), (iz a4), (iz a5), (iz a6), (iz a7), (iz a8)]), v0, v2, tz, v4, v6, (.lst []), v9, v13, v15, (iz x19), (iz 0), tz, tz, tz, tz, tz, tz, tz, tz, tz, tz, tz, tz, tz, tz, tz, tz], h18⟩ [0] [r18X0_0 C d a0 a1 a2 a3 a4 a5 a6 a7 a8 n0 K0 v0 v2 v4 v6 v9 v13 v15 x19] (r18E0 C d a0 a1 a2 a3 a4 a5 a6 a7 a8 n0 K0 v0 v2 v4 v6 v9 v13 v15 x19))
 (C.hop h7 (.eqv false 2 [] (.v v6) (.v (.zsl true))) fun v116 h117 =>
 C.bool (some v116) fun b118 =>
 cnd b118
 (C.hop h117 (.fldA 0 (.v v0)) fun v119 h120 =>
 C.hop h120 (.store 1 (.v v119) (.v (.zsl true))) fun v121 h122 =>
 C.hop h122 (.fldA 0 (.v v0)) fun v123 h124 =>
 C.hop h124 (.load false 1 (.v v123)) fun v125 h126 =>
 C.hop h126 (.bk .lenV [(.v v125)]) fun v127 h128 =>
 C.int .i64 (some v127) fun x129 =>
 C.iter (r18R2 C d a0 a1 a2 a3 a4 a5 a6 a7 a8 n0 K0 v0 v2 v4 v6 v119 v123 v125 x129) 10000000000000000000 ⟨[(.agg [a0, (iz a1), (iz a2), (iz a3), (iz a4), (iz a5), (iz a6), (iz a7), (iz a8)]), v0, v2, tz, v4, v6, (.zsl true), v119, v123, v125, (iz x129), (iz 0), tz, tz, tz, tz, tz, tz, tz, tz, tz, tz, tz, tz, tz, tz, tz, tz], h128⟩ [0] [r18X2_0 C d a0 a1 a2 a3 a4 a5 a6 a7 a8 n0 K0 v0 v2 v4 v6 v119 v123 v125 x129] (r18E2 C d a0 a1 a2 a3 a4 a5 a6 a7 a8 n0 K0 v0 v2 v4 v6 v119 v123 v125 x129))
 (C.hop h117 (.mkrow E30 0 []) fun v226 h227 =>
 C.hop h227 (.app E30 (.v v226) (.v v6)) fun v228 h229 =>
 C.hop h229 (.fldA 0 (.v v0)) fun v230 h231 =>
 C.hop h231 (.store 1 (.v v230) (.v v228)) fun v232 h233 =>
 C.hop h233 (.fldA 0 (.v v0)) fun v234 h235 =>
 C.hop h235 (.load false 1 (.v v234)) fun v236 h237 =>
 C.hop h237 (.bk .lenV [(.v v236)]) fun v238 h239 =>
 C.int .i64 (some v238) fun x240 =>
 C.iter (r18R4 C d a0 a1 a2 a3 a4 a5 a6 a7 a8 n0 K0 v0 v2 v4 v6 v228 v230 v234 v236 x240) 10000000000000000000 ⟨[(.agg [a0, (iz a1), (iz a2), (iz a3), (iz a4), (iz a5), (iz a6), (iz a7), (iz a8)]), v0, v2, tz, v4, v6, v228, v230, v234, v236, (iz x240), (iz 0), tz, tz, tz, tz, tz, tz, tz, tz, tz, tz, tz, tz, tz, tz, tz, tz], h239⟩ [0] [r18X4_0 C d a0 a1 a2 a3 a4 a5 a6 a7 a8 n0 K0 v0 v2 v4 v6 v228 v230 v234 v236 x240] (r18E4 C d a0 a1 a2 a3 a4 a5 a6 a7 a8 n0 K0 v0 v2 v4 v6 v228 v230 v234 v236 x240))) := by kernel_rfl
def r19R0 (C : Cb) (d : Nat) (a0 : List AV) (a1 a2 a3 a4 a5 a6 a7 a8 : Int) (a9 : List AV) (a10 a11 a12 a13 a14 a15 a16 a17 : Int) : St → (Ex → St → Ans) → Ans := fun s0 k1 =>
 cnd ((List.length s0.env) == 88)
 (C.same s0.env[0]? (.agg [(.lst a0), (iz a1), (iz a2), (iz a3), (iz a4), (iz a5), (iz a6), (iz a7), (iz a8)]) <|
 C.same s0.env[1]? (.agg [(.lst a9), (iz a10), (iz a11), (iz a12), (iz a13), (iz a14), (iz a15), (iz a16), (iz a17)]) <|
 C.same s0.env[2]? (.ptr 0 0 0) <|
 C.same s0.env[3]? (.ptr 1 0 0) <|
 C.bool s0.env[4]? fun b3 =>
 C.int .i64 s0.env[5]? fun x4 =>
 C.same s0.env[6]? (.ptr 0 0 0) <|
 C.same s0.env[7]? (.lst a0) <|
 C.same s0.env[8]? (iz (((List.length a0) : Nat) : Int)) <|
 C.same s0.env[9]? (.ptr 1 0 0) <|
 C.same s0.env[10]? (.lst a9) <|
 C.same s0.env[11]? (iz (((List.length a9) : Nat) : Int)) <|
 C.same s0.env[12]? (.bool ((((List.length a0) : Nat) : Int) != (((List.length a9) : Nat) : Int))) <|
 C.same s0.env[13]? bf <|
 C.same s0.env[14]? (.ptr 0 0 1) <|
 C.same s0.env[15]? (iz a1) <|
 C.same s0.env[16]? (.ptr 1 0 1) <|
 C.same s0.env[17]? (iz a10) <|
 C.same s0.env[18]? (.bool (a1 != a10)) <|
 C.same s0.env[19]? (.bool (a1 != a10)) <|
 C.same s0.env[20]? bf <|
 C.same s0.env[21]? (.ptr 0 0 2) <|
 C.same s0.env[22]? (iz a2) <|
 C.same s0.env[23]? (.ptr 1 0 2) <|
 C.same s0.env[24]? (iz a11) <|
 C.same s0.env[25]? (.bool (a2 != a11)) <|
 C.same s0.env[26]? (.bool (a2 != a11)) <|
 C.same s0.env[27]? bf <|
 C.same s0.env[28]? (.ptr 0 0 3) <|
 C.same s0.env[29]? (iz a3) <|
 C.same s0.env[30]? (.ptr 1 0 3) <|
 C.same s0.env[31]? (iz a12) <|
 C.same s0.env[32]? (.bool (a3 != a12)) <|
 C.same s0.env[33]? (.bool (a3 != a12)) <|
 C.same s0.env[34]? bf <|
 C.same s0.env[35]? (.ptr 0 0 4) <|
 C.same s0.env[36]? (iz a4) <|
 C.same s0.env[37]? (.ptr 1 0 4) <|
 C.same s0.env[38]? (iz a13) <|
 C.same s0.env[39]? (.bool (a4 != a13)) <|
 C.same s0.env[40]? (.bool (a4 != a13)) <|
 C.same s0.env[41]? bf <|
 C.same s0.env[42]? (.ptr 0 0 5) <|
 C.same s0.env[43]? (iz a5) <|
 C.same s0.env[44]? (.ptr 1 0 5) <|
 C.same s0.env[45]? (iz a14) <|
 C.same s0.env[46]? (.bool (a5 != a14)) <|
 C.same s0.env[47]? (.bool (a5 != a14)) <|
 C.same s0.env[48]? bf <|
 C.same s0.env[49]? (.ptr 0 0 6) <|
 C.same s0.env[50]? (iz a6) <|
 C.same s0.env[51]? (.ptr 1 0 6) <|
 C.same s0.env[52]? (iz a15) <|
 C.same s0.env[53]? (.bool (a6 != a15)) <|
 C.same s0.env[54]? (.bool (a6 != a15)) <|
 C.same s0.env[55]? bf <|
 C.same s0.env[56]? (.ptr 0 0 7) <|
 C.same s0.env[57]? (iz a7) <|
 C.same s0.env[58]? (.ptr 1 0 7) <|
 C.same s0.env[59]? (iz a16) <|
 C.same s0.env[60]? (.bool (a7 != a16)) <|
 C.same s0.env[61]? (.bool (a7 != a16)) <|
 C.same s0.env[62]? bf <|
 C.same s0.env[63]? (.ptr 0 0 8) <|
 C.same s0.env[64]? (iz a8) <|
 C.same s0.env[65]? (.ptr 1 0 8) <|
 C.same s0.env[66]? (iz a17) <|
 C.same s0.env[67]? (.bool (a8 != a17)) <|
 C.same s0.env[68]? bf <|
 C.any s0.env[69]? fun v5 =>
 C.any s0.env[70]? fun v6 =>
 C.any s0.env[71]? fun v7 =>
 C.any s0.env[72]? fun v8 =>
 C.any s0.env[73]? fun v9 =>
 C.any s0.env[74]? fun v10 =>
 C.any s0.env[75]? fun v11 =>
 C.any s0.env[76]? fun v12 =>
 C.any s0.env[77]? fun v13 =>
 C.any s0.env[78]? fun v14 =>
 C.any s0.env[79]? fun v15 =>
 C.any s0.env[80]? fun v16 =>
 C.any s0.env[81]? fun v17 =>
 C.any s0.env[82]? fun v18 =>
 C.any s0.env[83]? fun v19 =>
 C.any s0.env[84]? fun v20 =>
 C.any s0.env[85]? fun v21 =>
 C.any s0.env[86]? fun v22 =>
 C.any s0.env[87]? fun v23 =>
 C.sameH (St.H s0) [some ⟨E24, [(.agg [(.lst a0), (iz a1), (iz a2), (iz a3), (iz a4), (iz a5), (iz a6), (iz a7), (iz a8)])]⟩, some ⟨E24, [(.agg [(.lst a9), (iz a10), (iz a11), (iz a12), (iz a13), (iz a14), (iz a15), (iz a16), (iz a17)])]⟩] <|
 cnd (decide (x4 < (((List.length a0) : Nat) : Int)))
 (cnd (decide ((0 : Int) ≤ x4))
 (C.agg 5 a0[(Int.toNat x4)]? fun l24 =>
 C.lst l24[0]? (fun l25 =>
 C.int .i64 l24[1]? fun x27 =>
 C.int .i64 l24[2]? fun x28 =>
 C.int .i64 l24[3]? fun x29 =>
 C.int .i64 l24[4]? fun x30 =>
 cnd (decide ((0 : Int) ≤ x4))
 (C.agg 5 a9[(Int.toNat x4)]? fun l31 =>
 C.lst l31[0]? (fun l32 =>
 C.int .i64 l31[1]? fun x34 =>
 C.int .i64 l31[2]? fun x35 =>
 C.int .i64 l31[3]? fun x36 =>
 C.int .i64 l31[4]? fun x37 =>
 C.bool (pcall M d 15 [(.agg [(.lst l25), (iz x27), (iz x28), (iz x29), (iz x30)]), (.agg [(.lst l32), (iz x34), (iz x35), (iz x36), (iz x37)])]) fun b38 =>
 cnd (!b38)
 (k1 .ret ⟨[(.agg [(.lst a0), (iz a1), (iz a2), (iz a3), (iz a4), (iz a5), (iz a6), (iz a7), (iz a8)]), (.agg [(.lst a9), (iz a10), (iz a11), (iz a12), (iz a13), (iz a14), (iz a15), (iz a16), (iz a17)]), (.ptr 0 0 0), (.ptr 1 0 0), bf, (iz x4), (.ptr 0 0 0), (.lst a0), (iz (((List.length a0) : Nat) : Int)), (.ptr 1 0 0), (.lst a9), (iz (((List.length a9) : Nat) : Int)), (.bool ((((List.length a0) : Nat) : Int) != (((List.length a9) : Nat) : Int))), bf, (.ptr 0 0 1), (iz a1), (.ptr 1 0 1), (iz a10), (.bool (a1 != a10)), (.bool (a1 != a10)), bf, (.ptr 0 0 2), (iz a2), (.ptr 1 0 2), (iz a11), (.bool (a2 != a11)), (.bool (a2 != a11)), bf, (.ptr 0 0 3), (iz a3), (.ptr 1 0 3), (iz a12), (.bool (a3 != a12)), (.bool (a3 != a12)), bf, (.ptr 0 0 4), (iz a4), (.ptr 1 0 4), (iz a13), (.bool (a4 != a13)), (.bool (a4 != a13)), bf, (.ptr 0 0 5), (iz a5), (.ptr 1 0 5), (iz a14), (.bool (a5 != a14)), (.bool (a5 != a14)), bf, (.ptr 0 0 6), (iz a6), (.ptr 1 0 6), (iz a15), (.bool (a6 != a15)), (.bool (a6 != a15)), bf, (.ptr 0 0 7), (iz a7), (.ptr 1 0 7), (iz a16), (.bool (a7 != a16)), (.bool (a7 != a16)), bf, (.ptr 0 0 8), (iz a8), (.ptr 1 0 8), (iz a17), (.bool (a8 != a17)), bf, (iz x4), (.ptr 0 0 0), (.lst a0), (iz (((List.length a0) : Nat) : Int)), bt, v10, v11, (.ptr 0 0 0), (.lst a0), (iz x4), (.fptr (.agg [(.lst l25), (iz x27), (iz x28), (iz x29), (iz x30)]) 0), (.agg [(.lst l25), (iz x27), (iz x28), (iz x29), (iz x30)]), (.ptr 1 0 0), (.lst a9), (iz x4), (.fptr (.agg [(.lst l32), (iz x34), (iz x35), (iz x36), (iz x37)]) 0), (.agg [(.lst l32), (iz x34), (iz x35), (iz x36), (iz x37)]), (.bool b38), bt], [some ⟨E24, [(.agg [(.lst a0), (iz a1), (iz a2), (iz a3), (iz a4), (iz a5), (iz a6), (iz a7), (iz a8)])]⟩, some ⟨E24, [(.agg [(.lst a9), (iz a10), (iz a11), (iz a12), (iz a13), (iz a14), (iz a15), (iz a16), (iz a17)])]⟩]⟩)
 (k1 .normal ⟨[(.agg [(.lst a0), (iz a1), (iz a2), (iz a3), (iz a4), (iz a5), (iz a6), (iz a7), (iz a8)]), (.agg [(.lst a9), (iz a10), (iz a11), (iz a12), (iz a13), (iz a14), (iz a15), (iz a16), (iz a17)]), (.ptr 0 0 0), (.ptr 1 0 0), (.bool b3), (iz (IntKind.wrap .i64 (x4 + 1))), (.ptr 0 0 0), (.lst a0), (iz (((List.length a0) : Nat) : Int)), (.ptr 1 0 0), (.lst a9), (iz (((List.length a9) : Nat) : Int)), (.bool ((((List.length a0) : Nat) : Int) != (((List.length a9) : Nat) : Int))), bf, (.ptr 0 0 1), (iz a1), (.ptr 1 0 1), (iz a10), (.bool (a1 != a10)), (.bool (a1 != a10)), bf, (.ptr 0 0 2), (iz a2), (.ptr 1 0 2), (iz a11), (.bool (a2 != a11)), (.bool (a2 != a11)), bf, (.ptr 0 0 3), (iz a3), (.ptr 1 0 3), (iz a12), (.bool (a3 != a12)), (.bool (a3 != a12)), bf, (.ptr 0 0 4), (iz a4), (.ptr 1 0 4), (iz a13), (.bool (a4 != a13)), (.bool (a4 != a13)), bf, (.ptr 0 0 5), (iz a5), (.ptr 1 0 5), (iz a14), (.bool (a5 != a14)), (.bool (a5 != a14)), bf, (.ptr 0 0 6), (iz a6), (.ptr 1 0 6), (iz a15), (.bool (a6 != a15)), (.bool (a6 != a15)), bf, (.ptr 0 0 7), (iz a7), (.ptr 1 0 7), (iz a16), (.bool (a7 != a16)), (.bool (a7 != a16)), bf, (.ptr 0 0 8), (iz a8), (.ptr 1 0 8), (iz a17), (.bool (a8 != a17)), bf, (iz x4), (.ptr 0 0 0), (.lst a0), (iz (((List.length a0) : Nat) : Int)), bt, (iz x4), (iz (IntKind.wrap .i64 (x4 + 1))), (.ptr 0 0 0), (.lst a0), (iz x4), (.fptr (.agg [(.lst l25), (iz x27), (iz x28), (iz x29), (iz x30)]) 0), (.agg [(.lst l25), (iz x27), (iz x28), (iz x29), (iz x30)]), (.ptr 1 0 0), (.lst a9), (iz x4), (.fptr (.agg [(.lst l32), (iz x34), (iz x35), (iz x36), (iz x37)]) 0), (.agg [(.lst l32), (iz x34), (iz x35), (iz x36), (iz x37)]), (.bool b38), bf], [some ⟨E24, [(.agg [(.lst a0), (iz a1), (iz a2), (iz a3), (iz a4), (iz a5), (iz a6), (iz a7), (iz a8)])]⟩, some ⟨E24, [(.agg [(.lst a9), (iz a10), (iz a11), (iz a12), (iz a13), (iz a14), (iz a15), (iz a16), (iz a17)])]⟩]⟩))
 (fun z33 =>
 C.int .i64 l31[1]? fun x39 =>
 C.int .i64 l31[2]? fun x40 =>
 C.int .i64 l31[3]? fun x41 =>
 C.int .i64 l31[4]? fun x42 =>
 C.bool (pcall M d 15 [(.agg [(.lst l25), (iz x27), (iz x28), (iz x29), (iz x30)]), (.agg [(.zsl z33), (iz x39), (iz x40), (iz x41), (iz x42)])]) fun b43 =>
 cnd (!b43)
 (k1 .ret ⟨[(.agg [(.lst a0), (iz a1), (iz a2), (iz a3), (iz a4), (iz a5), (iz a6), (iz a7), (iz a8)]), (.agg [(.lst a9), (iz a10), (iz a11), (iz a12), (iz a13), (iz a14), (iz a15), (iz a16), (iz a17)]), (.ptr 0 0 0), (.ptr 1 0 0), bf, (iz x4), (.ptr 0 0 0), (.lst a0), (iz (((List.length a0) : Nat) : Int)), (.ptr 1 0 0), (.lst a9), (iz (((List.length a9) : Nat) : Int)), (.bool ((((List.length a0) : Nat) : Int) != (((List.length a9) : Nat) : Int))), bf, (.ptr 0 0 1), (iz a1), (.ptr 1 0 1), (iz a10), (.bool (a1 != a10)), (.bool (a1 != a10)), bf, (.ptr 0 0 2), (iz a2), (.ptr 1 0 2), (iz a11), (.bool (a2 != a11)), (.bool (a2 != a11)), bf, (.ptr 0 0 3), (iz a3), (.ptr 1 0 3), (iz a12), (.bool (a3 != a12)), (.bool (a3 != a12)), bf, (.ptr 0 0 4), (iz a4), (.ptr 1 0 4), (iz a13), (.bool (a4 != a13)), (.bool (a4 != a13)), bf, (.ptr 0 0 5), (iz a5), (.ptr 1 0 5), (iz a14), (.bool (a5 != a14)), (.bool (a5 != a14)), bf, (.ptr 0 0 6), (iz a6), (.ptr 1 0 6), (iz a15), (.bool (a6 != a15)), (.bool (a6 != a15)), bf, (.ptr 0 0 7), (iz a7), (.ptr 1 0 7), (iz a16), (.bool (a7 != a16)), (.bool (a7 != a16)), bf, (.ptr 0 0 8), (iz a8), (.ptr 1 0 8), (iz a17), (.bool (a8 != a17)), bf, (iz x4), (.ptr 0 0 0), (.lst a0), (iz (((List.length a0) : Nat) : Int)), bt, v10, v11, (.ptr 0 0 0), (.lst a0), (iz x4), (.fptr (.agg [(.lst l25), (iz x27), (iz x28), (iz x29), (iz x30)]) 0), (.agg [(.lst l25), (iz x27), (iz x28), (iz x29), (iz x30)]), (.ptr 1 0 0), (.lst a9), (iz x4), (.fptr (.agg [(.zsl z33), (iz x39), (iz x40), (iz x41), (iz x42)]) 0), (.agg [(.zsl z33), (iz x39), (iz x40), (iz x41), (iz x42)]), (.bool b43), bt], [some ⟨E24, [(.agg [(.lst a0), (iz a1), (iz a2), (iz a3), (iz a4), (iz a5), (iz a6), (iz a7), (iz a8)])]⟩, some ⟨E24, [(.agg [(.lst a9), (iz a10), (iz a11), (iz a12), (iz a13), (iz a14), (iz a15), (iz a16), (iz a17)])]⟩]⟩)
 (k1 .normal ⟨[(.agg [(.lst a0), (iz a1), (iz a2), (iz a3), (iz a4), (iz a5), (iz a6), (iz a7), (iz a8)]), (.agg [(.lst a9), (iz a10), (iz a11), (iz a12), (iz a13), (iz a14), (iz a15), (iz a16), (iz a17)]), (.ptr 0 0 0), (.ptr 1 0 0), (.bool b3), (iz (IntKind.wrap .i64 (x4 + 1))), (.ptr 0 0 0), (.lst a0), (iz (((List.length a0) : Nat) : Int)), (.ptr 1 0 0), (.lst a9), (iz (((List.length a9) : Nat) : Int)), (.bool ((((List.length a0) : Nat) : Int) != (((List.length a9) : Nat) : Int))), bf, (.ptr 0 0 1), (iz a1), (.ptr 1 0 1), (iz a10), (.bool (a1 != a10)), (.bool (a1 != a10)), bf, (.ptr 0 0 2), (iz a2), (.ptr 1 0 2), (iz a11), (.bool (a2 != a11)), (.bool (a2 != a11)), bf, (.ptr 0 0 3), (iz a3), (.ptr 1 0 3), (iz a12), (.bool (a3 != a12)), (.bool (a3 != a12)), bf, (.ptr 0 0 4), (iz a4), (.ptr 1 0 4), (iz a13), (.bool (a4 != a13)), (.bool (a4 != a13)), bf, (.ptr 0 0 5), (iz a5), (.ptr 1 0 5), (iz a14), (.bool (a5 != a14)), (.bool (a5 != a14)), bf, (.ptr 0 0 6), (iz a6), (.ptr 1 0 6), (iz a15), (.bool (a6 != a15)), (.bool (a6 != a15)), bf, (.ptr 0 0 7), (iz a7), (.ptr 1 0 7), (iz a16), (.bool (a7 != a16)), (.bool (a7 != a16)), bf, (.ptr 0 0 8), (iz a8), (.ptr 1 0 8), (iz a17), (.bool (a8 != a17)), bf, (iz x4), (.ptr 0 0 0), (.lst a0), (iz (((List.length a0) : Nat) : Int)), bt, (iz x4), (iz (IntKind.wrap .i64 (x4 + 1))), (.ptr 0 0 0), (.lst a0), (iz x4), (.fptr (.agg [(.lst l25), (iz x27), (iz x28), (iz x29), (iz x30)]) 0), (.agg [(.lst l25), (iz x27), (iz x28), (iz x29), (iz x30)]), (.ptr 1 0 0), (.lst a9), (iz x4), (.fptr (.agg [(.zsl z33), (iz x39), (iz x40), (iz x41), (iz x42)]) 0), (.agg [(.zsl z33), (iz x39), (iz x40), (iz x41), (iz x42)]), (.bool b43), bf], [some ⟨E24, [(.agg [(.lst a0), (iz a1), (iz a2), (iz a3), (iz a4), (iz a5), (iz a6), (iz a7), (iz a8)])]⟩, some ⟨E24, [(.agg [(.lst a9), (iz a10), (iz a11), (iz a12), (iz a13), (iz a14), (iz a15), (iz a16), (iz a17)])]⟩]⟩)))
 (none))
 (fun z26 =>
 C.int .i64 l24[1]? fun x44 =>
 C.int .i64 l24[2]? fun x45 =>
 C.int .i64 l24[3]? fun x46 =>
 C.int .i64 l24[4]? fun x47 =>
 cnd (decide ((0 : Int) ≤ x4))
 (C.agg 5 a9[(Int.toNat x4)]? fun l48 =>
 C.lst l48[0]? (fun l49 =>
 C.int .i64 l48[1]? fun x51 =>
 C.int .i64 l48[2]? fun x52 =>
 C.int .i64 l48[3]? fun x53 =>
 C.int .i64 l48[4]? fun x54 =>
 C.bool (pcall M d 15 [(.agg [(.zsl z26), (iz x44), (iz x45), (iz x46), (iz x47)]), (.agg [(.lst l49), (iz x51), (iz x52), (iz x53), (iz x54)])]) fun b55 =>
 cnd (!b55)
 (k1 .ret ⟨[(.agg [(.lst a0), (iz a1), (iz a2), (iz a3), (iz a4), (iz a5), (iz a6), (iz a7), (iz a8)]), (.agg [(.lst a9), (iz a10), (iz a11), (iz a12), (iz a13), (iz a14), (iz a15), (iz a16), (iz a17)]), (.ptr 0 0 0), (.ptr 1 0 0), bf, (iz x4), (.ptr 0 0 0), (.lst a0), (iz (((List.length a0) : Nat) : Int)), (.ptr 1 0 0), (.lst a9), (iz (((List.length a9) : Nat) : Int)), (.bool ((((List.length a0) : Nat) : Int) != (((List.length a9) : Nat) : Int))), bf, (.ptr 0 0 1), (iz a1), (.ptr 1 0 1), (iz a10), (.bool (a1 != a10)), (.bool (a1 != a10)), bf, (.ptr 0 0 2), (iz a2), (.ptr 1 0 2), (iz a11), (.bool (a2 != a11)), (.bool (a2 != a11)), bf, (.ptr 0 0 3), (iz a3), (.ptr 1 0 3), (iz a12), (.bool (a3 != a12)), (.bool (a3 != a12)), bf, (.ptr 0 0 4), (iz a4), (.ptr 1 0 4), (iz a13), (.bool (a4 != a13)), (.bool (a4 != a13)), bf, (.ptr 0 0 5), (iz a5), (.ptr 1 0 5), (iz a14), (.bool (a5 != a14)), (.bool (a5 != a14)), bf, (.ptr 0 0 6), (iz a6), (.ptr 1 0 6), (iz a15), (.bool (a6 != a15)), (.bool (a6 != a15)), bf, (.ptr 0 0 7), (iz a7), (.ptr 1 0 7), (iz a16), (.bool (a7 != a16)), (.bool (a7 != a16)), bf, (.ptr 0 0 8), (iz a8), (.ptr 1 0 8), (iz a17), (.bool (a8 != a17)), bf, (iz x4), (.ptr 0 0 0), (.lst a0), (iz (((List.length a0) : Nat) : Int)), bt, v10, v11, (.ptr 0 0 0), (.lst a0), (iz x4), (.fptr (.agg [(.zsl z26), (iz x44), (iz x45), (iz x46), (iz x47)]) 0), (.agg [(.zsl z26), (iz x44), (iz x45), (iz x46), (iz x47)]), (.ptr 1 0 0), (.lst a9), (iz x4), (.fptr (.agg [(.lst l49), (iz x51), (iz x52), (iz x53), (iz x54)]) 0), (.agg [(.lst l49), (iz x51), (iz x52), (iz x53), (iz x54)]), (.bool b55), bt], [some ⟨E24, [(.agg [(.lst a0), (iz a1), (iz a2), (iz a3), (iz a4), (iz a5), (iz a6), (iz a7), (iz a8)])]⟩, some ⟨E24, [(.agg [(.lst a9), (iz a10), (iz a11), (iz a12), (iz a13), (iz a14), (iz a15), (iz a16), (iz a17)])]⟩]⟩)
 (k1 .normal ⟨[(.agg [(.lst a0), (iz a1), (iz a2), (iz a3), (iz a4), (iz a5), (iz a6), (iz a7), (iz a8)]), (.agg [(.lst a9), (iz a10), (iz a11), (iz a12), (iz a13), (iz a14), (iz a15), (iz a16), (iz a17)]), (.ptr 0 0 0), (.ptr 1 0 0), (.bool b3), (iz (IntKind.wrap .i64 (x4 + 1))), (.ptr 0 0 0), (.lst a0), (iz (((List.length a0) : Nat) : Int)), (.ptr 1 0 0), (.lst a9), (iz (((List.length a9) : Nat) : Int)), (.bool ((((List.length a0) : Nat) : Int) != (((List.length a9) : Nat) : Int))), bf, (.ptr 0 0 1), (iz a1), (.ptr 1 0 1), (iz a10), (.bool (a1 != a10)), (.bool (a1 != a10)), bf, (.ptr 0 0 2), (iz a2), (.ptr 1 0 2), (iz a11), (.bool (a2 != a11)), (.bool (a2 != a11)), bf, (.ptr 0 0 3), (iz a3), (.ptr 1 0 3), (iz a12), (.bool (a3 != a12)), (.bool (a3 != a12)), bf, (.ptr 0 0 4), (iz a4), (.ptr 1 0 4), (iz a13), (.bool (a4 != a13)), (.bool (a4 != a13)), bf, (.ptr 0 0 5), (iz a5), (.ptr 1 0 5), (iz a14), (.bool (a5 != a14)), (.bool (a5 != a14)), bf, (.ptr 0 0 6), (iz a6), (.ptr 1 0 6), (iz a15), (.bool (a6 != a15)), (.bool (a6 != a15)), bf, (.ptr 0 0 7), (iz a7), (.ptr 1 0 7), (iz a16), (.bool (a7 != a16)), (.bool (a7 != a16)), bf, (.ptr 0 0 8), (iz a8), (.ptr 1 0 8), (iz a17), (.bool (a8 != a17)), bf, (iz x4), (.ptr 0 0 0), (.lst a0), (iz (((List.length a0) : Nat) : Int)), bt, (iz x4), (iz (IntKind.wrap .i64 (x4 + 1))), (.ptr 0 0 0), (.lst a0), (iz x4), (.fptr (.agg [(.zsl z26), (iz x44), (iz x45), (iz x46), (iz x47)]) 0), (.agg [(.zsl z26), (iz x44), (iz x45), (iz x46), (iz x47)]), (.ptr 1 0 0), (.lst a9), (iz x4), (.fptr (.agg [(.lst l49), (iz x51), (iz x52), (iz x53), (iz x54)]) 0), (.agg [(.lst l49), (iz x51), (iz x52), (iz x53), (iz x54)]), (.bool b55), bf], [some ⟨E24, [(.agg [(.lst a0), (iz a1), (iz a2), (iz a3), (iz a4), (iz a5), (iz a6), (iz a7), (iz a8)])]⟩, some ⟨E24, [(.agg [(.lst a9), (iz a10), (iz a11), (iz a12), (iz a13), (iz a14), (iz a15), (iz a16), (iz a17)])]⟩]⟩))
 (fun z50 =>
 C.int .i64 l48[1]? fun x56 =>
 C.int .i64 l48[2]? fun x57 =>
 C.int .i64 l48[3]? fun x58 =>
 C.int .i64 l48[4]? fun x59 =>
 C.bool (pcall M d 15 [(.agg [(.zsl z26), (iz x44), (iz x45), (iz x46), (iz x47)]), (.agg [(.zsl z50), (iz x56), (iz x57), (iz x58), (iz x59)])]) fun b60 =>
 cnd (!b60)
 (k1 .ret ⟨[(.agg [(.lst a0), (iz a1), (iz a2), (iz a3), (iz a4), (iz a5), (iz a6), (iz a7), (iz a8)]), (.agg [(.lst a9), (iz a10), (iz a11), (iz a12), (iz a13), (iz a14), (iz a15), (iz a16), (iz a17)]), (.ptr 0 0 0), (.ptr 1 0 0), bf, (iz x4), (.ptr 0 0 0), (.lst a0), (iz (((List.length a0) : Nat) : Int)), (.ptr 1 0 0), (.lst a9), (iz (((List.length a9) : Nat) : Int)), (.bool ((((List.length a0) : Nat) : Int) != (((List.length a9) : Nat) : Int))), bf, (.ptr 0 0 1), (iz a1), (.ptr 1 0 1), (iz a10), (.bool (a1 != a10)), (.bool (a1 != a10)), bf, (.ptr 0 0 2), (iz a2), (.ptr 1 0 2), (iz a11), (.bool (a2 != a11)), (.bool (a2 != a11)), bf, (.ptr 0 0 3), (iz a3), (.ptr 1 0 3), (iz a12), (.bool (a3 != a12)), (.bool (a3 != a12)), bf, (.ptr 0 0 4), (iz a4), (.ptr 1 0 4), (iz a13), (.bool (a4 != a13)), (.bool (a4 != a13)), bf, (.ptr 0 0 5), (iz a5), (.ptr 1 0 5), (iz a14), (.bool (a5 != a14)), (.bool (a5 != a14)), bf, (.ptr 0 0 6), (iz a6), (.ptr 1 0 6), (iz a15), (.bool (a6 != a15)), (.bool (a6 != a15)), bf, (.ptr 0 0 7), (iz a7), (.ptr 1 0 7), (iz a16), (.bool (a7 != a16)), (.bool (a7 != a16)), bf, (.ptr 0 0 8), (iz a8), (.ptr 1 0 8), (iz a17), (.bool (a8 != a17)), bf, (iz x4), (.ptr 0 0 0), (.lst a0), (iz (((List.length a0) : Nat) : Int)), bt, v10, v11, (.ptr 0 0 0), (.lst a0), (iz x4), (.fptr (.agg [(.zsl z26), (iz x44), (iz x45), (iz x46), (iz x47)]) 0), (.agg [(.zsl z26), (iz x44), (iz x45), (iz x46), (iz x47)]), (.ptr 1 0 0), (.lst a9), (iz x4), (.fptr (.agg [(.zsl z50), (iz x56), (iz x57), (iz x58), (iz x59)]) 0), (.agg [(.zsl z50), (iz x56), (iz x57), (iz x58), (iz x59)]), (.bool b60), bt], [some ⟨E24, [(.agg [(.lst a0), (iz a1), (iz a2), (iz a3), (iz a4), (iz a5), (iz a6), (iz a7), (iz a8)])]⟩, some ⟨E24, [(.agg [(.lst a9), (iz a10), (iz a11), (iz a12), (iz a13), (iz a14), (iz a15), (iz a16), (iz a17)])]⟩]⟩)
 (k1 .normal ⟨[(.agg [(.lst a0), (iz a1), (iz a2), (iz a3), (iz a4), (iz a5), (iz a6), (iz a7), (iz a8)]), (.agg [(.lst a9), (iz a10), (iz a11), (iz a12), (iz a13), (iz a14), (iz a15), (iz a16), (iz a17)]), (.ptr 0 0 0), (.ptr 1 0 0), (.bool b3), (iz (IntKind.wrap .i64 (x4 + 1))), (.ptr 0 0 0), (.lst a0), (iz (((List.length a0) : Nat) : Int)), (.ptr 1 0 0), (.lst a9), (iz (((List.length a9) : Nat) : Int)), (.bool ((((List.length a0) : Nat) : Int) != (((List.length a9) : Nat) : Int))), bf, (.ptr 0 0 1), (iz a1), (.ptr 1 0 1), (iz a10), (.bool (a1 != a10)), (.bool (a1 != a10)), bf, (.ptr 0 0 2), (iz a2), (.ptr 1 0 2), (iz a11), (.bool (a2 != a11)), (.bool (a2 != a11)), bf, (.ptr 0 0 3), (iz a3), (.ptr 1 0 3), (iz a12), (.bool (a3 != a12)), (.bool (a3 != a12)), bf, (.ptr 0 0 4), (iz a4), (.ptr 1 0 4), (iz a13), (.bool (a4 != a13)), (.bool (a4 != a13)), bf, (.ptr 0 0 5), (iz a5), (.ptr 1 0 5), (iz a14), (.bool (a5 != a14)), (.bool (a5 != a14)), bf, (.ptr 0 0 6), (iz a6), (.ptr 1 0 6), (iz a15), (.bool (a6 != a15)), (.bool (a6 != a15)), bf, (.ptr 0 0 7), (iz a7), (.ptr 1 0 7), (iz a16), (.bool (a7 != a16)), (.bool (a7 != a16)), bf, (.ptr 0 0 8), (iz a8), (.ptr 1 0 8), (iz a17), (.bool (a8 != a17)), bf, (iz x4), (.ptr 0 0 0), (.lst a0), (iz (((List.length a0) : Nat) : Int)), bt, (iz x4), (iz (IntKind.wrap .i64 (x4 + 1))), (.ptr 0 0 0), (.lst a0), (iz x4), (.fptr (.agg [(.zsl z26), (iz x44), (iz x45), (iz x46), (iz x47)]) 0), (.agg [(.zsl z26), (iz x44), (iz x45), (iz x46), (iz x47)]), (.ptr 1 0 0), (.lst a9), (iz x4), (.fptr (.agg [(.zsl z50), (iz x56), (iz x57), (iz x58), (iz x59)]) 0), (.agg [(.zsl z50), (iz x56), (iz x57), (iz x58), (iz x59)]), (.bool b60), bf], [some ⟨E24, [(.agg [(.lst a0), (iz a1), (iz a2), (iz a3), (iz a4), (iz a5), (iz a6), (iz a7), (iz a8)])]⟩, some ⟨E24, [(.agg [(.lst a9), (iz a10), (iz a11), (iz a12), (iz a13), (iz a14), (iz a15), (iz a16), (iz a17)])]⟩]⟩)))
 (none)))
 (none))
 (k1 (.exit 0) ⟨[(.agg [(.lst a0), (iz a1), (iz a2), (iz a3), (iz a4), (iz a5), (iz a6), (iz a7), (iz a8)]), (.agg [(.lst a9), (iz a10), (iz a11), (iz a12), (iz a13), (iz a14), (iz a15), (iz a16), (iz a17)]), (.ptr 0 0 0), (.ptr 1 0 0), (.bool b3), (iz x4), (.ptr 0 0 0), (.lst a0), (iz (((List.length a0) : Nat) : Int)), (.ptr 1 0 0), (.lst a9), (iz (((List.length a9) : Nat) : Int)), (.bool ((((List.length a0) : Nat) : Int) != (((List.length a9) : Nat) : Int))), bf, (.ptr 0 0 1), (iz a1), (.ptr 1 0 1), (iz a10), (.bool (a1 != a10)), (.bool (a1 != a10)), bf, (.ptr 0 0 2), (iz a2), (.ptr 1 0 2), (iz a11), (.bool (a2 != a11)), (.bool (a2 != a11)), bf, (.ptr 0 0 3), (iz a3), (.ptr 1 0 3), (iz a12), (.bool (a3 != a12)), (.bool (a3 != a12)), bf, (.ptr 0 0 4), (iz a4), (.ptr 1 0 4), (iz a13), (.bool (a4 != a13)), (.bool (a4 != a13)), bf, (.ptr 0 0 5), (iz a5), (.ptr 1 0 5), (iz a14), (.bool (a5 != a14)), (.bool (a5 != a14)), bf, (.ptr 0 0 6), (iz a6), (.ptr 1 0 6), (iz a15), (.bool (a6 != a15)), (.bool (a6 != a15)), bf, (.ptr 0 0 7), (iz a7), (.ptr 1 0 7), (iz a16), (.bool (a7 != a16)), (.bool (a7 != a16)), bf, (.ptr 0 0 8), (iz a8), (.ptr 1 0 8), (iz a17), (.bool (a8 != a17)), bf, (iz x4), (.ptr 0 0 0), (.lst a0), (iz (((List.length a0) : Nat) : Int)), bf, v10, v11, v12, v13, v14, v15, v16, v17, v18, v19, v20, v21, v22, v23], [some ⟨E24, [(.agg [(.lst a0), (iz a1), (iz a2), (iz a3), (iz a4), (iz a5), (iz a6), (iz a7), (iz a8)])]⟩, some ⟨E24, [(.agg [(.lst a9), (iz a10), (iz a11), (iz a12), (iz a13), (iz a14), (iz a15), (iz a16), (iz a17)])]⟩]⟩))
 (none)
def r19X0_0 (C : Cb) (d : Nat) (a0 : List AV) (a1 a2 a3 a4 a5 a6 a7 a8 : Int) (a9 : List AV) (a10 a11 a12 a13 a14 a15 a16 a17 : Int) : St → Ans := fun s61 =>
 cnd ((List.length s61.env) == 88)
 (C.same s61.env[0]? (.agg [(.lst a0), (iz a1), (iz a2), (iz a3), (iz a4), (iz a5), (iz a6), (iz a7), (iz a8)]) <|
 C.same s61.env[1]? (.agg [(.lst a9), (iz a10), (iz a11), (iz a12), (iz a13), (iz a14), (iz a15), (iz a16), (iz a17)]) <|
 C.same s61.env[2]? (.ptr 0 0 0) <|
 C.same s61.env[3]? (.ptr 1 0 0) <|
 C.bool s61.env[4]? fun b62 =>
 C.int .i64 s61.env[5]? fun x63 =>
 C.same s61.env[6]? (.ptr 0 0 0) <|
 C.same s61.env[7]? (.lst a0) <|
 C.same s61.env[8]? (iz (((List.length a0) : Nat) : Int)) <|
 C.same s61.env[9]? (.ptr 1 0 0) <|
 C.same s61.env[10]? (.lst a9) <|
 C.same s61.env[11]? (iz (((List.length a9) : Nat) : Int)) <|
 C.same s61.env[12]? (.bool ((((List.length a0) : Nat) : Int) != (((List.length a9) : Nat) : Int))) <|
 C.same s61.env[13]? bf <|
 C.same s61.env[14]? (.ptr 0 0 1) <|
 C.same s61.env[15]? (iz a1) <|
 C.same s61.env[16]? (.ptr 1 0 1) <|
 C.same s61.env[17]? (iz a10) <|
 C.same s61.env[18]? (.bool (a1 != a10)) <|
 C.same s61.env[19]? (.bool (a1 != a10)) <|
 C.same s61.env[20]? bf <|
 C.same s61.env[21]? (.ptr 0 0 2) <|
 C.same s61.env[22]? (iz a2) <|
 C.same s61.env[23]? (.ptr 1 0 2) <|
 C.same s61.env[24]? (iz a11) <|
 C.same s61.env[25]? (.bool (a2 != a11)) <|
 C.same s61.env[26]? (.bool (a2 != a11)) <|
 C.same s61.env[27]? bf <|
 C.same s61.env[28]? (.ptr 0 0 3) <|
 C.same s61.env[29]? (iz a3) <|
 C.same s61.env[30]? (.ptr 1 0 3) <|
 C.same s61.env[31]? (iz a12) <|
 C.same s61.env[32]? (.bool (a3 != a12)) <|
 C.same s61.env[33]? (.bool (a3 != a12)) <|
 C.same s61.env[34]? bf <|
 C.same s61.env[35]? (.ptr 0 0 4) <|
 C.same s61.env[36]? (iz a4) <|
 C.same s61.env[37]? (.ptr 1 0 4) <|
 C.same s61.env[38]? (iz a13) <|
 C.same s61.env[39]? (.bool (a4 != a13)) <|
 C.same s61.env[40]? (.bool (a4 != a13)) <|
 C.same s61.env[41]? bf <|
 C.same s61.env[42]? (.ptr 0 0 5) <|
 C.same s61.env[43]? (iz a5) <|
 C.same s61.env[44]? (.ptr 1 0 5) <|
 C.same s61.env[45]? (iz a14) <|
 C.same s61.env[46]? (.bool (a5 != a14)) <|
 C.same s61.env[47]? (.bool (a5 != a14)) <|
 C.same s61.env[48]? bf <|
 C.same s61.env[49]? (.ptr 0 0 6) <|
 C.same s61.env[50]? (iz a6) <|
 C.same s61.env[51]? (.ptr 1 0 6) <|
 C.same s61.env[52]? (iz a15) <|
 C.same s61.env[53]? (.bool (a6 != a15)) <|
 C.same s61.env[54]? (.bool (a6 != a15)) <|
 C.same s61.env[55]? bf <|
 C.same s61.env[56]? (.ptr 0 0 7) <|
 C.same s61.env[57]? (iz a7) <|
 C.same s61.env[58]? (.ptr 1 0 7) <|
 C.same s61.env[59]? (iz a16) <|
 C.same s61.env[60]? (.bool (a7 != a16)) <|
 C.same s61.env[61]? (.bool (a7 != a16)) <|
 C.same s61.env[62]? bf <|
 C.same s61.env[63]? (.ptr 0 0 8) <|
 C.same s61.env[64]? (iz a8) <|
 C.same s61.env[65]? (.ptr 1 0 8) <|
 C.same s61.env[66]? (iz a17) <|
 C.same s61.env[67]? (.bool (a8 != a17)) <|
 C.same s61.env[68]? bf <|
 C.int .i64 s61.env[69]? fun x64 =>
 C.any s61.env[70]? fun v65 =>
 C.any s61.env[71]? fun v66 =>
 C.int .i64 s61.env[72]? fun x67 =>
 C.bool s61.env[73]? fun b68 =>
 C.any s61.env[74]? fun v69 =>
 C.any s61.env[75]? fun v70 =>
 C.any s61.env[76]? fun v71 =>
 C.any s61.env[77]? fun v72 =>
 C.any s61.env[78]? fun v73 =>
 C.any s61.env[79]? fun v74 =>
 C.any s61.env[80]? fun v75 =>
 C.any s61.env[81]? fun v76 =>
 C.any s61.env[82]? fun v77 =>
 C.any s61.env[83]? fun v78 =>
 C.any s61.env[84]? fun v79 =>
 C.any s61.env[85]? fun v80 =>
 C.any s61.env[86]? fun v81 =>
 C.any s61.env[87]? fun v82 =>
 C.sameH (St.H s61) [some ⟨E24, [(.agg [(.lst a0), (iz a1), (iz a2), (iz a3), (iz a4), (iz a5), (iz a6), (iz a7), (iz a8)])]⟩, some ⟨E24, [(.agg [(.lst a9), (iz a10), (iz a11), (iz a12), (iz a13), (iz a14), (iz a15), (iz a16), (iz a17)])]⟩] <|
 some bt)
 (none)
def r19E0 (C : Cb) (d : Nat) (a0 : List AV) (a1 a2 a3 a4 a5 a6 a7 a8 : Int) (a9 : List AV) (a10 a11 a12 a13 a14 a15 a16 a17 : Int) : St → Ans := fun s2 =>
 cnd ((List.length s2.env) == 88)
 (C.same s2.env[0]? (.agg [(.lst a0), (iz a1), (iz a2), (iz a3), (iz a4), (iz a5), (iz a6), (iz a7), (iz a8)]) <|
 C.same s2.env[1]? (.agg [(.lst a9), (iz a10), (iz a11), (iz a12), (iz a13), (iz a14), (iz a15), (iz a16), (iz a17)]) <|
 C.same s2.env[2]? (.ptr 0 0 0) <|
 C.same s2.env[3]? (.ptr 1 0 0) <|
 C.bool s2.env[4]? fun b83 =>
 C.int .i64 s2.env[5]? fun x84 =>
 C.same s2.env[6]? (.ptr 0 0 0) <|
 C.same s2.env[7]? (.lst a0) <|
 C.same s2.env[8]? (iz (((List.length a0) : Nat) : Int)) <|
 C.same s2.env[9]? (.ptr 1 0 0) <|
 C.same s2.env[10]? (.lst a9) <|
 C.same s2.env[11]? (iz (((List.length a9) : Nat) : Int)) <|
 C.same s2.env[12]? (.bool ((((List.length a0) : Nat) : Int) != (((List.length a9) : Nat) : Int))) <|
 C.same s2.env[13]? bf <|
 C.same s2.env[14]? (.ptr 0 0 1) <|
 C.same s2.env[15]? (iz a1) <|
 C.same s2.env[16]? (.ptr 1 0 1) <|
 C.same s2.env[17]? (iz a10) <|
 C.same s2.env[18]? (.bool (a1 != a10)) <|
 C.same s2.env[19]? (.bool (a1 != a10)) <|
 C.same s2.env[20]? bf <|
 C.same s2.env[21]? (.ptr 0 0 2) <|
 C.same s2.env[22]? (iz a2) <|
 C.same s2.env[23]? (.ptr 1 0 2) <|
 C.same s2.env[24]? (iz a11) <|
 C.same s2.env[25]? (.bool (a2 != a11)) <|
 C.same s2.env[26]? (.bool (a2 != a11)) <|
 C.same s2.env[27]? bf <|
 C.same s2.env[28]? (.ptr 0 0 3) <|
 C.same s2.env[29]? (iz a3) <|
 C.same s2.env[30]? (.ptr 1 0 3) <|
 C.same s2.env[31]? (iz a12) <|
 C.same s2.env[32]? (.bool (a3 != a12)) <|
 C.same s2.env[33]? (.bool (a3 != a12)) <|
 C.same s2.env[34]? bf <|
 C.same s2.env[35]? (.ptr 0 0 4) <|
 C.same s2.env[36]? (iz a4) <|
 C.same s2.env[37]? (.ptr 1 0 4) <|
 C.same s2.env[38]? (iz a13) <|
 C.same s2.env[39]? (.bool (a4 != a13)) <|
 C.same s2.env[40]? (.bool (a4 != a13)) <|
 C.same s2.env[41]? bf <|
 C.same s2.env[42]? (.ptr 0 0 5) <|
 C.same s2.env[43]? (iz a5) <|
 C.same s2.env[44]? (.ptr 1 0 5) <|
 C.same s2.env[45]? (iz a14) <|
 C.same s2.env[46]? (.bool (a5 != a14)) <|
 C.same s2.env[47]? (.bool (a5 != a14)) <|
 C.same s2.env[48]? bf <|
 C.same s2.env[49]? (.ptr 0 0 6) <|
 C.same s2.env[50]? (iz a6) <|
 C.same s2.env[51]? (.ptr 1 0 6) <|
 C.same s2.env[52]? (iz a15) <|
 C.same s2.env[53]? (.bool (a6 != a15)) <|
 C.same s2.env[54]? (.bool (a6 != a15)) <|
 C.same s2.env[55]? bf <|
 C.same s2.env[56]? (.ptr 0 0 7) <|
 C.same s2.env[57]? (iz a7) <|
 C.same s2.env[58]? (.ptr 1 0 7) <|
 C.same s2.env[59]? (iz a16) <|
 C.same s2.env[60]? (.bool (a7 != a16)) <|
 C.same s2.env[61]? (.bool (a7 != a16)) <|
 C.same s2.env[62]? bf <|
 C.same s2.env[63]? (.ptr 0 0 8) <|
 C.same s2.env[64]? (iz a8) <|
 C.same s2.env[65]? (.ptr 1 0 8) <|
 C.same s2.env[66]? (iz a17) <|
 C.same s2.env[67]? (.bool (a8 != a17)) <|
 C.same s2.env[68]? bf <|
 C.int .i64 s2.env[69]? fun x85 =>
 C.any s2.env[70]? fun v86 =>
 C.any s2.env[71]? fun v87 =>
 C.int .i64 s2.env[72]? fun x88 =>
 C.bool s2.env[73]? fun b89 =>
 C.any s2.env[74]? fun v90 =>
 C.any s2.env[75]? fun v91 =>
 C.any s2.env[76]? fun v92 =>
 C.any s2.env[77]? fun v93 =>
 C.int .i64 s2.env[78]? fun x94 =>
 C.any s2.env[79]? fun v95 =>
 C.agg 5 s2.env[80]? fun l96 =>
 C.any l96[0]? fun v97 =>
 C.int .i64 l96[1]? fun x98 =>
 C.int .i64 l96[2]? fun x99 =>
 C.int .i64 l96[3]? fun x100 =>
 C.int .i64 l96[4]? fun x101 =>
 C.any s2.env[81]? fun v102 =>
 C.any s2.env[82]? fun v103 =>
 C.int .i64 s2.env[83]? fun x104 =>
 C.any s2.env[84]? fun v105 =>
 C.agg 5 s2.env[85]? fun l106 =>
 C.any l106[0]? fun v107 =>
 C.int .i64 l106[1]? fun x108 =>
 C.int .i64 l106[2]? fun x109 =>
 C.int .i64 l106[3]? fun x110 =>
 C.int .i64 l106[4]? fun x111 =>
 C.bool s2.env[86]? fun b112 =>
 C.bool s2.env[87]? fun b113 =>
 C.sameH (St.H s2) [some ⟨E24, [(.agg [(.lst a0), (iz a1), (iz a2), (iz a3), (iz a4), (iz a5), (iz a6), (iz a7), (iz a8)])]⟩, some ⟨E24, [(.agg [(.lst a9), (iz a10), (iz a11), (iz a12), (iz a13), (iz a14), (iz a15), (iz a16), (iz a17)])]⟩] <|
 some (.bool b83))
 (none)
/-- apogee/apogeeref13.Same -/
theorem r19 (C : Cb) (d : Nat) (a0 : List AV) (a1 a2 a3 a4 a5 a6 a7 a8 : Int) (a9 : List AV) (a10 a11 a12 a13 a14 a15 a16 a17 : Int) : xcall C M unr d 19 [(.agg [(.lst a0), (iz a1), (iz a2), (iz a3), (iz a4), (iz a5), (iz a6), (iz a7), (iz a8)]), (.agg [(.lst a9), (iz a10), (iz a11), (iz a12), (iz a13), (iz a14), (iz a15), (iz a16), (iz a17)])] =
 cnd ((((List.length a0) : Nat) : Int) != (((List.length a9) : Nat) : Int))
 (some bf)
 (cnd (a1 != a10)
 (some bf)
 (cnd (a2 != a11)
 (some bf)
 (cnd (a3 != a12)
 (some bf)
 (cnd (a4 != a13)
 (some bf)
 (cnd (a5 != a14)
 (some bf)
 (cnd (a6 != a15)
 (some bf)
 (cnd (a7 != a16)
 (some bf)
 (cnd (a8 != a17)
 (some bf)
 (C.iter (r19R0 C d a0 a1 a2 a3 a4 a5 a6 a7 a8 a9 a10 a11 a12 a13 a14 a15 a16 a17) 10000000000000000000 ⟨[(.agg [(.lst a0), (iz a1), (iz a2), (iz a3), (iz a4), (iz a5), (iz a6), (iz a7), (iz a8)]), (.agg [(.lst a9), (iz a10), (iz a11), (iz a12), (iz a13), (iz a14), (iz a15), (iz a16), (iz a17)]), (.ptr 0 0 0), (.ptr 1 0 0), bf, (iz 0), (.ptr 0 0 0), (.lst a0), (iz (((List.length a0) : Nat) : Int)), (.ptr 1 0 0), (.lst a9), (iz (((List.length a9) : Nat) : Int)), (.bool ((((List.length a0) : Nat) : Int) != (((List.length a9) : Nat) : Int))), bf, (.ptr 0 0 1), (iz a1), (.ptr 1 0 1), (iz a10), (.bool (a1 != a10)), (.bool (a1 != a10)), bf, (.ptr 0 0 2), (iz a2), (.ptr 1 0 2), (iz a11), (.bool (a2 != a11)), (.bool (a2 != a11)), bf, (.ptr 0 0 3), (iz a3), (.ptr 1 0 3), (iz a12), (.bool (a3 != a12)), (.bool (a3 != a12)), bf, (.ptr 0 0 4), (iz a4), (.ptr 1 0 4), (iz a13), (.bool (a4 != a13)), (.bool (a4 != a13)), bf, (.ptr 0 0 5), (iz a5), (.ptr 1 0 5), (iz a14), (.bool (a5 != a14)), (.bool (a5 != a14)), bf, (.ptr 0 0 6), (iz a6), (.ptr 1 0 6), (iz a15), (.bool (a6 != a15)), (.bool (a6 != a15)), bf, (.ptr 0 0 7), (iz a7), (.ptr 1 0 7), (iz a16), (.bool (a7 != a16)), (.bool (a7 != a16)), bf, (.ptr 0 0 8), (iz a8), (.ptr 1 0 8), (iz a17), (.bool (a8 != a17)), bf, tz, tz, tz, tz, tz, tz, tz, tz, tz, tz, tz, tz, tz, tz, tz, tz, tz, tz, tz], [some ⟨E24, [(.agg [(.lst a0), (iz a1), (iz a2), (iz a3), (iz a4), (iz a5), (iz a6), (iz a7), (iz a8)])]⟩, some ⟨E24, [(.agg [(.lst a9), (iz a10), (iz a11), (iz a12), (iz a13), (iz a14), (iz a15), (iz a16), (iz a17)])]⟩]⟩ [0] [r19X0_0 C d a0 a1 a2 a3 a4 a5 a6 a7 a8 a9 a10 a11 a12 a13 a14 a15 a16 a17] (r19E0 C d a0 a1 a2 a3 a4 a5 a6 a7 a8 a9 a10 a11 a12 a13 a14 a15 a16 a17)))))))))) := by kernel_rfl
/-- apogee/rules.Same -/
theorem r20 (C : Cb) (d : Nat) (a0 : List AV) (a1 a2 a3 a4 a5 a6 a7 a8 : Int) (a9 : List AV) (a10 a11 a12 a13 a14 a15 a16 a17 : Int) : xcall C M unr d 20 [(.agg [(.lst a0), (iz a1), (iz a2), (iz a3), (iz a4), (iz a5), (iz a6), (iz a7), (iz a8)]), (.agg [(.lst a9), (iz a10), (iz a11), (iz a12), (iz a13), (iz a14), (iz a15), (iz a16), (iz a17)])] =
 C.bool (pcall M d 33 [(.lst a0), (.lst a9), (.fn 34 [] [])]) fun b0 =>
 cnd b0
 (cnd (a1 == a10)
 (cnd (a2 == a11)
 (cnd (a3 == a12)
 (cnd (a4 == a13)
 (cnd (a5 == a14)
 (cnd (a6 == a15)
 (cnd (a7 == a16)
 (some (.bool (a8 == a17)))
 (some bf))
 (some bf))
 (some bf))
 (some bf))
 (some bf))
 (some bf))
 (some bf))
 (some bf) := by kernel_rfl
/-- apogee/rules.within[int] -/
theorem r24 (C : Cb) (d : Nat) (a0 a1 a2 : Int) : xcall C M unr d 24 [(iz a0), (iz a1), (iz a2)] =
 cnd (decide (a0 ≥ a1))
 (some (.bool (decide (a0 ≤ a2))))
 (some bf) := by kernel_rfl
/-- apogee/rules.Wrong$1 -/
theorem r26 (C : Cb) (d : Nat) (a0 : List AV) (a1 a2 a3 a4 : Int) : xcall C M unr d 26 [(.agg [(.lst a0), (iz a1), (iz a2), (iz a3), (iz a4)])] =
 C.bool (pcall M d 16 [(.agg [(.lst a0), (iz a1), (iz a2), (iz a3), (iz a4)])]) fun b0 =>
 some (.bool (!b0)) := by kernel_rfl
/-- apogee/rules.within[int64] -/
theorem r28 (C : Cb) (d : Nat) (a0 a1 a2 : Int) : xcall C M unr d 28 [(iz a0), (iz a1), (iz a2)] =
 cnd (decide (a0 ≥ a1))
 (some (.bool (decide (a0 ≤ a2))))
 (some bf) := by kernel_rfl
def r33f34R0 (C : Cb) (d : Nat) (a0 a1 : List AV) (x2 x5 x8 : Int) : St → (Ex → St → Ans) → Ans := fun s9 k10 =>
 cnd ((List.length s9.env) == 32)
 (C.same s9.env[0]? (.lst a0) <|
 C.same s9.env[1]? (.lst a1) <|
 C.same s9.env[2]? (.fn 34 [] []) <|
 C.same s9.env[3]? tz <|
 C.same s9.env[4]? tz <|
 C.same s9.env[5]? tz <|
 C.bool s9.env[6]? fun b12 =>
 C.any s9.env[7]? fun v13 =>
 C.any s9.env[8]? fun v14 =>
 C.any s9.env[9]? fun v15 =>
 C.same s9.env[10]? (.lst a0) <|
 C.same s9.env[11]? (iz x2) <|
 C.same s9.env[12]? (.lst a1) <|
 C.same s9.env[13]? (iz x5) <|
 C.same s9.env[14]? bf <|
 C.same s9.env[15]? (.lst a0) <|
 C.same s9.env[16]? (iz x8) <|
 C.int .i64 s9.env[17]? fun x16 =>
 C.any s9.env[18]? fun v17 =>
 C.any s9.env[19]? fun v18 =>
 C.any s9.env[20]? fun v19 =>
 C.any s9.env[21]? fun v20 =>
 C.any s9.env[22]? fun v21 =>
 C.any s9.env[23]? fun v22 =>
 C.any s9.env[24]? fun v23 =>
 C.any s9.env[25]? fun v24 =>
 C.any s9.env[26]? fun v25 =>
 C.any s9.env[27]? fun v26 =>
 C.any s9.env[28]? fun v27 =>
 C.any s9.env[29]? fun v28 =>
 C.any s9.env[30]? fun v29 =>
 C.any s9.env[31]? fun v30 =>
 cnd (decide (x16 < x8))
 (C.hop (St.H s9) (.ixAS .any 5 (.v (.lst a0)) (.v (iz x16))) fun v31 h32 =>
 C.hop h32 (.load true 5 (.v v31)) fun v33 h34 =>
 C.agg 5 (some v33) fun l35 =>
 C.any l35[0]? fun v36 =>
 C.int .i64 l35[1]? fun x37 =>
 C.int .i64 l35[2]? fun x38 =>
 C.int .i64 l35[3]? fun x39 =>
 C.int .i64 l35[4]? fun x40 =>
 C.hop h34 (.alloc E30) fun v41 h42 =>
 C.hop h42 (.store 5 (.v v41) (.v (.agg [v36, (iz x37), (iz x38), (iz x39), (iz x40)]))) fun v43 h44 =>
 C.hop h44 (.ixAS .any 5 (.v (.lst a1)) (.v (iz x16))) fun v45 h46 =>
 C.hop h46 (.load true 5 (.v v45)) fun v47 h48 =>
 C.agg 5 (some v47) fun l49 =>
 C.any l49[0]? fun v50 =>
 C.int .i64 l49[1]? fun x51 =>
 C.int .i64 l49[2]? fun x52 =>
 C.int .i64 l49[3]? fun x53 =>
 C.int .i64 l49[4]? fun x54 =>
 C.hop h48 (.alloc E30) fun v55 h56 =>
 C.hop h56 (.store 5 (.v v55) (.v (.agg [v50, (iz x51), (iz x52), (iz x53), (iz x54)]))) fun v57 h58 =>
 C.hop h58 (.load true 5 (.v v41)) fun v59 h60 =>
 C.agg 5 (some v59) fun l61 =>
 C.any l61[0]? fun v62 =>
 C.int .i64 l61[1]? fun x63 =>
 C.int .i64 l61[2]? fun x64 =>
 C.int .i64 l61[3]? fun x65 =>
 C.int .i64 l61[4]? fun x66 =>
 C.hop h60 (.load true 5 (.v v55)) fun v67 h68 =>
 C.agg 5 (some v67) fun l69 =>
 C.any l69[0]? fun v70 =>
 C.int .i64 l69[1]? fun x71 =>
 C.int .i64 l69[2]? fun x72 =>
 C.int .i64 l69[3]? fun x73 =>
 C.int .i64 l69[4]? fun x74 =>
 C.snp h68 [(.agg [v62, (iz x63), (iz x64), (iz x65), (iz x66)]), (.agg [v70, (iz x71), (iz x72), (iz x73), (iz x74)])] fun l75 b76 =>
 C.bool (pcall M d 34 l75) fun b77 =>
 cnd (b76 || true)
 (cnd (!b77)
 (k10 .ret ⟨[(.lst a0), (.lst a1), (.fn 34 [] []), tz, tz, tz, bf, (iz x16), v41, v55, (.lst a0), (iz x2), (.lst a1), (iz x5), bf, (.lst a0), (iz x8), (iz x16), bt, (iz x16), v31, (.agg [v36, (iz x37), (iz x38), (iz x39), (iz x40)]), (.lst a1), (iz x16), v45, (.agg [v50, (iz x51), (iz x52), (iz x53), (iz x54)]), (.fn 34 [] []), (.agg [v62, (iz x63), (iz x64), (iz x65), (iz x66)]), (.agg [v70, (iz x71), (iz x72), (iz x73), (iz x74)]), (.bool b77), bt, v30], h68⟩)
 (k10 .normal ⟨[(.lst a0), (.lst a1), (.fn 34 [] []), tz, tz, tz, (.bool b12), (iz x16), v41, v55, (.lst a0), (iz x2), (.lst a1), (iz x5), bf, (.lst a0), (iz x8), (iz (IntKind.wrap .i64 (x16 + 1))), bt, (iz x16), v31, (.agg [v36, (iz x37), (iz x38), (iz x39), (iz x40)]), (.lst a1), (iz x16), v45, (.agg [v50, (iz x51), (iz x52), (iz x53), (iz x54)]), (.fn 34 [] []), (.agg [v62, (iz x63), (iz x64), (iz x65), (iz x66)]), (.agg [v70, (iz x71), (iz x72), (iz x73), (iz x74)]), (.bool b77), bf, (iz (IntKind.wrap .i64 (x16 + 1)))], h68⟩))
 (none))
 (k10 (.exit 0) ⟨[(.lst a0), (.lst a1), (.fn 34 [] []), tz, tz, tz, (.bool b12), v13, v14, v15, (.lst a0), (iz x2), (.lst a1), (iz x5), bf, (.lst a0), (iz x8), (iz x16), bf, v18, v19, v20, v21, v22, v23, v24, v25, v26, v27, v28, v29, v30], (St.H s9)⟩))
 (none)
def r33f34X0_0 (C : Cb) (d : Nat) (a0 a1 : List AV) (x2 x5 x8 : Int) : St → Ans := fun s78 =>
 cnd ((List.length s78.env) == 32)
 (C.same s78.env[0]? (.lst a0) <|
 C.same s78.env[1]? (.lst a1) <|
 C.same s78.env[2]? (.fn 34 [] []) <|
 C.same s78.env[3]? tz <|
 C.same s78.env[4]? tz <|
 C.same s78.env[5]? tz <|
 C.bool s78.env[6]? fun b79 =>
 C.any s78.env[7]? fun v80 =>
 C.any s78.env[8]? fun v81 =>
 C.any s78.env[9]? fun v82 =>
 C.same s78.env[10]? (.lst a0) <|
 C.same s78.env[11]? (iz x2) <|
 C.same s78.env[12]? (.lst a1) <|
 C.same s78.env[13]? (iz x5) <|
 C.same s78.env[14]? bf <|
 C.same s78.env[15]? (.lst a0) <|
 C.same s78.env[16]? (iz x8) <|
 C.int .i64 s78.env[17]? fun x83 =>
 C.any s78.env[18]? fun v84 =>
 C.any s78.env[19]? fun v85 =>
 C.any s78.env[20]? fun v86 =>
 C.any s78.env[21]? fun v87 =>
 C.any s78.env[22]? fun v88 =>
 C.any s78.env[23]? fun v89 =>
 C.any s78.env[24]? fun v90 =>
 C.any s78.env[25]? fun v91 =>
 C.any s78.env[26]? fun v92 =>
 C.any s78.env[27]? fun v93 =>
 C.any s78.env[28]? fun v94 =>
 C.any s78.env[29]? fun v95 =>
 C.any s78.env[30]? fun v96 =>
 C.any s78.env[31]? fun v97 =>
 C.fin (St.H s78) bt)
 (none)
def r33f34E0 (C : Cb) (d : Nat) (a0 a1 : List AV) (x2 x5 x8 : Int) : St → Ans := fun s11 =>
 cnd ((List.length s11.env) == 32)
 (C.same s11.env[0]? (.lst a0) <|
 C.same s11.env[1]? (.lst a1) <|
 C.same s11.env[2]? (.fn 34 [] []) <|
 C.same s11.env[3]? tz <|
 C.same s11.env[4]? tz <|
 C.same s11.env[5]? tz <|
 C.bool s11.env[6]? fun b98 =>
 C.int .i64 s11.env[7]? fun x99 =>
 C.any s11.env[8]? fun v100 =>
 C.any s11.env[9]? fun v101 =>
 C.same s11.env[10]? (.lst a0) <|
 C.same s11.env[11]? (iz x2) <|
 C.same s11.env[12]? (.lst a1) <|
 C.same s11.env[13]? (iz x5) <|
 C.same s11.env[14]? bf <|
 C.same s11.env[15]? (.lst a0) <|
 C.same s11.env[16]? (iz x8) <|
 C.int .i64 s11.env[17]? fun x102 =>
 C.any s11.env[18]? fun v103 =>
 C.int .i64 s11.env[19]? fun x104 =>
 C.any s11.env[20]? fun v105 =>
 C.agg 5 s11.env[21]? fun l106 =>
 C.any l106[0]? fun v107 =>
 C.int .i64 l106[1]? fun x108 =>
 C.int .i64 l106[2]? fun x109 =>
 C.int .i64 l106[3]? fun x110 =>
 C.int .i64 l106[4]? fun x111 =>
 C.any s11.env[22]? fun v112 =>
 C.int .i64 s11.env[23]? fun x113 =>
 C.any s11.env[24]? fun v114 =>
 C.agg 5 s11.env[25]? fun l115 =>
 C.any l115[0]? fun v116 =>
 C.int .i64 l115[1]? fun x117 =>
 C.int .i64 l115[2]? fun x118 =>
 C.int .i64 l115[3]? fun x119 =>
 C.int .i64 l115[4]? fun x120 =>
 C.any s11.env[26]? fun v121 =>
 C.agg 5 s11.env[27]? fun l122 =>
 C.any l122[0]? fun v123 =>
 C.int .i64 l122[1]? fun x124 =>
 C.int .i64 l122[2]? fun x125 =>
 C.int .i64 l122[3]? fun x126 =>
 C.int .i64 l122[4]? fun x127 =>
 C.agg 5 s11.env[28]? fun l128 =>
 C.any l128[0]? fun v129 =>
 C.int .i64 l128[1]? fun x130 =>
 C.int .i64 l128[2]? fun x131 =>
 C.int .i64 l128[3]? fun x132 =>
 C.int .i64 l128[4]? fun x133 =>
 C.bool s11.env[29]? fun b134 =>
 C.bool s11.env[30]? fun b135 =>
 C.any s11.env[31]? fun v136 =>
 C.fin (St.H s11) (.bool b98))
 (none)
/-- slices.EqualFunc[[]apogee/api.Phase,[]apogee/api.Phase,apogee/api.Phase,apogee/api.Phase] -/
theorem r33f34 (C : Cb) (d : Nat) (a0 a1 : List AV) (a2 : AV) : xcall C M unr d 33 [(.lst a0), (.lst a1), (.fn 34 [] [])] =
 C.hop [] (.bk .lenV [(.v (.lst a0))]) fun v0 h1 =>
 C.int .i64 (some v0) fun x2 =>
 C.hop h1 (.bk .lenV [(.v (.lst a1))]) fun v3 h4 =>
 C.int .i64 (some v3) fun x5 =>
 cnd (x2 != x5)
 (C.fin h4 bf)
 (C.hop h4 (.bk .lenV [(.v (.lst a0))]) fun v6 h7 =>
 C.int .i64 (some v6) fun x8 =>
 C.iter (r33f34R0 C d a0 a1 x2 x5 x8) 10000000000000000000 ⟨[(.lst a0), (.lst a1), (.fn 34 [] []), tz, tz, tz, bf, tz, tz, tz, (.lst a0), (iz x2), (.lst a1), (iz x5), bf, (.lst a0), (iz x8), (iz 0), tz, tz, tz, tz, tz, tz, tz, tz, tz, tz, tz, tz, tz, tz], h7⟩ [0] [r33f34X0_0 C d a0 a1 x2 x5 x8] (r33f34E0 C d a0 a1 x2 x5 x8)) := by kernel_rfl
/-- apogee/rules.samePhase -/
theorem r34 (C : Cb) (d : Nat) (a0 : List AV) (a1 a2 a3 a4 : Int) (a5 : List AV) (a6 a7 a8 a9 : Int) : xcall C M unr d 34 [(.agg [(.lst a0), (iz a1), (iz a2), (iz a3), (iz a4)]), (.agg [(.lst a5), (iz a6), (iz a7), (iz a8), (iz a9)])] =
 C.bool (pcall M d 40 [(.lst a0), (.lst a5)]) fun b0 =>
 cnd b0
 (cnd (a1 == a6)
 (cnd (a2 == a7)
 (cnd (a3 == a8)
 (some (.bool (a4 == a9)))
 (some bf))
 (some bf))
 (some bf))
 (some bf) := by kernel_rfl
end Go.Proofs.Ytffiilnmfmkpmaa.AE

namespace Go.Proofs.Ytffiilnmfmkpmaa.AE
set_option linter.unusedVariables false
set_option linter.unusedSimpArgs false
set_option linter.constructorNameAsVariable false
open Go
set_option maxRecDepth 100000
set_option maxHeartbeats 0
noncomputable def X9_0_0 (d : Nat) (a0 : List AV)  : Ans :=
  some (.bool (decide ((((List.length a0) : Nat) : Int) ≤ 8)))
theorem X9_0_0_ok (d : Nat) (a0 : List AV) (a1 a2 a3 a4 a5 a6 a7 a8 : Int) (b32 : Bool) (x33 x34 : Int) (v35 v36 : AV) (x37 : Int) (b38 : Bool) (v39 v40 v41 v42 v43 v44 v45 v46 v47 v48 : AV) : r9X0_0 C0 d a0 a1 a2 a3 a4 a5 a6 a7 a8 ⟨[(.agg [(.lst a0), (iz a1), (iz a2), (iz a3), (iz a4), (iz a5), (iz a6), (iz a7), (iz a8)]), (.ptr 0 0 0), (.bool b32), (iz x33), (iz x34), v35, v36, (iz x37), (.bool b38), v39, v40, v41, v42, v43, v44, v45, v46, v47, v48, tz, tz, tz, tz], [some ⟨E24, [(.agg [(.lst a0), (iz a1), (iz a2), (iz a3), (iz a4), (iz a5), (iz a6), (iz a7), (iz a8)])]⟩]⟩ = X9_0_0 d a0  := by
  unfold r9X0_0; refine Eq.trans (pl_len (by rfl)) ?_; (iterate 2 (refine yt yS ?_)); refine yt yB ?_; (iterate 2 (refine yt yI ?_)); (iterate 2 (refine yt yA ?_)); refine yt yI ?_; refine yt yB ?_; (iterate 10 (refine yt yA ?_)); (iterate 4 (refine yt yS ?_)); refine Eq.trans (pl_sameH) ?_
  rfl
noncomputable def E9_0 (d : Nat) (a0 : List AV) (b49 : Bool) : Ans :=
  some (.bool b49)
theorem E9_0_ok (d : Nat) (a0 : List AV) (a1 a2 a3 a4 a5 a6 a7 a8 : Int) (b49 : Bool) (x50 x51 : Int) (v52 v53 : AV) (x54 : Int) (b55 : Bool) (v56 v57 v58 v59 : AV) (x60 : Int) (v61 v62 v63 : AV) (x64 : Int) (b65 : Bool) : r9E0 C0 d a0 a1 a2 a3 a4 a5 a6 a7 a8 ⟨[(.agg [(.lst a0), (iz a1), (iz a2), (iz a3), (iz a4), (iz a5), (iz a6), (iz a7), (iz a8)]), (.ptr 0 0 0), (.bool b49), (iz x50), (iz x51), v52, v53, (iz x54), (.bool b55), v56, v57, v58, v59, (iz x60), v61, v62, v63, (iz x64), (.bool b65), tz, tz, tz, tz], [some ⟨E24, [(.agg [(.lst a0), (iz a1), (iz a2), (iz a3), (iz a4), (iz a5), (iz a6), (iz a7), (iz a8)])]⟩]⟩ = E9_0 d a0 b49 := by
  unfold r9E0; refine Eq.trans (pl_len (by rfl)) ?_; (iterate 2 (refine yt yS ?_)); refine yt yB ?_; (iterate 2 (refine yt yI ?_)); (iterate 2 (refine yt yA ?_)); refine yt yI ?_; refine yt yB ?_; (iterate 4 (refine yt yA ?_)); refine yt yI ?_; (iterate 3 (refine yt yA ?_)); refine yt yI ?_; refine yt yB ?_; (iterate 4 (refine yt yS ?_)); refine Eq.trans (pl_sameH) ?_
  rfl
noncomputable def L9_0 (d : Nat) (a0 : List AV) : Nat → Int → Ans
  | 0, _ => none
  | n + 1, x4 =>
  cnd (decide (x4 < (((List.length a0) : Nat) : Int)))
   (cnd (decide ((0 : Int) ≤ x4))
   (C0.agg 5 a0[(Int.toNat x4)]? fun l20 =>
   C0.lst l20[0]? (fun l21 =>
   C0.int .i64 l20[1]? fun x23 =>
   C0.int .i64 l20[2]? fun x24 =>
   C0.int .i64 l20[3]? fun x25 =>
   C0.int .i64 l20[4]? fun x26 =>
   cnd (decide ((((List.length l21) : Nat) : Int) > 12))
   (E9_0 d a0 false)
   (L9_0 d a0 n (IntKind.wrap .i64 (x4 + 1))))
        (fun z22 =>
   C0.int .i64 l20[1]? fun x27 =>
   C0.int .i64 l20[2]? fun x28 =>
   C0.int .i64 l20[3]? fun x29 =>
   C0.int .i64 l20[4]? fun x30 =>
   L9_0 d a0 n (IntKind.wrap .i64 (x4 + 1))))
   (none))
   (X9_0_0 d a0)
theorem L9_0_s (d : Nat) (a0 : List AV) (n : Nat) (x4 : Int) : L9_0 d a0 (n + 1) x4 = (cnd (decide (x4 < (((List.length a0) : Nat) : Int)))
   (cnd (decide ((0 : Int) ≤ x4))
   (C0.agg 5 a0[(Int.toNat x4)]? fun l20 =>
   C0.lst l20[0]? (fun l21 =>
   C0.int .i64 l20[1]? fun x23 =>
   C0.int .i64 l20[2]? fun x24 =>
   C0.int .i64 l20[3]? fun x25 =>
   C0.int .i64 l20[4]? fun x26 =>
   cnd (decide ((((List.length l21) : Nat) : Int) > 12))
   (E9_0 d a0 false)
   (L9_0 d a0 n (IntKind.wrap .i64 (x4 + 1))))
        (fun z22 =>
   C0.int .i64 l20[1]? fun x27 =>
   C0.int .i64 l20[2]? fun x28 =>
   C0.int .i64 l20[3]? fun x29 =>
   C0.int .i64 l20[4]? fun x30 =>
   L9_0 d a0 n (IntKind.wrap .i64 (x4 + 1))))
   (none))
   (X9_0_0 d a0)) := by kernel_rfl
theorem it9_0 (d : Nat) (a0 : List AV) (a1 a2 a3 a4 a5 a6 a7 a8 : Int)   : ∀ (n : Nat) (b3 : Bool) (x4 : Int) (v5 v6 v7 v8 v9 v10 v11 v12 v13 v14 v15 v16 v17 v18 v19 : AV), C0.iter (r9R0 C0 d a0 a1 a2 a3 a4 a5 a6 a7 a8) n ⟨[(.agg [(.lst a0), (iz a1), (iz a2), (iz a3), (iz a4), (iz a5), (iz a6), (iz a7), (iz a8)]), (.ptr 0 0 0), (.bool b3), (iz x4), v5, v6, v7, v8, v9, v10, v11, v12, v13, v14, v15, v16, v17, v18, v19, tz, tz, tz, tz], [some ⟨E24, [(.agg [(.lst a0), (iz a1), (iz a2), (iz a3), (iz a4), (iz a5), (iz a6), (iz a7), (iz a8)])]⟩]⟩ [0] [r9X0_0 C0 d a0 a1 a2 a3 a4 a5 a6 a7 a8] (r9E0 C0 d a0 a1 a2 a3 a4 a5 a6 a7 a8) = L9_0 d a0 n x4 := by
  generalize hR : r9R0 C0 d a0 a1 a2 a3 a4 a5 a6 a7 a8 = R
  intro n
  induction n with
  | zero => intros; rfl
  | succ n ih =>
    intro b3 x4 v5 v6 v7 v8 v9 v10 v11 v12 v13 v14 v15 v16 v17 v18 v19
    simp only [it_ret] at ih
    rw [it_ret, xiter_s]
    refine Eq.trans (congrFun (congrFun hR.symm _) _) ?_
    unfold r9R0
    refine Eq.trans (pl_len (by rfl)) ?_; (iterate 2 (refine yt yS ?_)); refine yt yB ?_; refine yt yI ?_; (iterate 15 (refine yt yA ?_)); (iterate 4 (refine yt yS ?_)); refine Eq.trans (pl_sameH) ?_
    simp only [kIter_n, kIter_x, kIter_r, kOut_x, kOut_r, xgo_hit, xgo_miss, ih, X9_0_0_ok d a0 a1 a2 a3 a4 a5 a6 a7 a8  , E9_0_ok d a0 a1 a2 a3 a4 a5 a6 a7 a8  ]
    exact (L9_0_s d a0 n x4).symm
/-- apogee/apogeeref13.Few -/
theorem q9 (d : Nat) (a0 : List AV) (a1 a2 a3 a4 a5 a6 a7 a8 : Int) : xcall C0 M unr d 9 [(.agg [(.lst a0), (iz a1), (iz a2), (iz a3), (iz a4), (iz a5), (iz a6), (iz a7), (iz a8)])] =
  L9_0 d a0 10000000000000000000 0 := (r9 C0 d a0 a1 a2 a3 a4 a5 a6 a7 a8).trans (by simp only [it9_0])
noncomputable def X18_0_0 (d : Nat) (n0 : Nat) (K0 : AV → Heap → Ans) (v0 v2 : AV) (x19 : Int) (H : Heap) : Ans :=
  C0.hop H (.load true 9 (.v v0)) fun v81 h82 =>
   C0.agg 9 (some v81) fun l83 =>
   C0.any l83[0]? fun v84 =>
   C0.int .i64 l83[1]? fun x85 =>
   C0.int .i64 l83[2]? fun x86 =>
   C0.int .i64 l83[3]? fun x87 =>
   C0.int .i64 l83[4]? fun x88 =>
   C0.int .i64 l83[5]? fun x89 =>
   C0.int .i64 l83[6]? fun x90 =>
   C0.int .i64 l83[7]? fun x91 =>
   C0.int .i64 l83[8]? fun x92 =>
   C0.hop h82 (.store 9 (.v v2) (.v (.agg [v84, (iz x85), (iz x86), (iz x87), (iz x88), (iz x89), (iz x90), (iz x91), (iz x92)]))) fun v93 h94 =>
   C0.hop h94 (.load true 9 (.v v2)) fun v95 h96 =>
    K0 v95 h94
theorem X18_0_0_ok (d : Nat) (a0 : AV) (a1 a2 a3 a4 a5 a6 a7 a8 : Int) (n0 : Nat) (K0 : AV → Heap → Ans) (v0 v2 v4 v6 v9 v13 v15 : AV) (x19 : Int) (v64 : AV) (x65 : Int) (v66 v67 v68 v69 v70 v71 v72 v73 v74 v75 v76 v77 v78 v79 v80 : AV) (H : Heap) : r18X0_0 C0 d a0 a1 a2 a3 a4 a5 a6 a7 a8 n0 K0 v0 v2 v4 v6 v9 v13 v15 x19 ⟨[(.agg [a0, (iz a1), (iz a2), (iz a3), (iz a4), (iz a5), (iz a6), (iz a7), (iz a8)]), v0, v2, v64, v4, v6, (.lst []), v9, v13, v15, (iz x19), (iz x65), v66, v67, v68, v69, v70, v71, v72, v73, v74, v75, v76, v77, v78, v79, v80, tz], H⟩ = X18_0_0 d n0 K0 v0 v2 x19 H := by
  unfold r18X0_0; refine Eq.trans (pl_len (by rfl)) ?_; (iterate 3 (refine yt yS ?_)); refine yt yA ?_; (iterate 7 (refine yt yS ?_)); refine yt yI ?_; (iterate 15 (refine yt yA ?_)); refine yt yS ?_
  rfl
noncomputable def L18_0 (d : Nat) (n0 : Nat) (K0 : AV → Heap → Ans) (v0 v2 : AV) (x19 : Int) : Nat → Int → Heap → Ans
  | 0, _, _ => none
  | n + 1, x24, H =>
  cnd (decide (x24 < x19))
   (C0.hop H (.fldA 0 (.v v0)) fun v40 h41 =>
   C0.hop h41 (.load false 1 (.v v40)) fun v42 h43 =>
   C0.hop h43 (.fldA 0 (.v v0)) fun v44 h45 =>
   C0.hop h45 (.load false 1 (.v v44)) fun v46 h47 =>
   C0.hop h47 (.ixAS .any 5 (.v v46) (.v (iz x24))) fun v48 h49 =>
   C0.hop h49 (.fldA 0 (.v v48)) fun v50 h51 =>
   C0.hop h51 (.load false 1 (.v v50)) fun v52 h53 =>
   C0.cal M (pcall M d) (n0 + 8) false 23 [v52] h53 fun v54 h55 =>
   C0.any (some v54) fun v56 =>
   C0.hop h55 (.ixAS .any 5 (.v v42) (.v (iz x24))) fun v57 h58 =>
   C0.hop h58 (.fldA 0 (.v v57)) fun v59 h60 =>
   C0.hop h60 (.store 1 (.v v59) (.v v56)) fun v61 h62 =>
   L18_0 d n0 K0 v0 v2 x19 n (IntKind.wrap .i64 (x24 + 1)) h62)
   (X18_0_0 d n0 K0 v0 v2 x19 H)
theorem L18_0_s (d : Nat) (n0 : Nat) (K0 : AV → Heap → Ans) (v0 v2 : AV) (x19 : Int) (n : Nat) (x24 : Int) (H : Heap) : L18_0 d n0 K0 v0 v2 x19 (n + 1) x24 H = (cnd (decide (x24 < x19))
   (C0.hop H (.fldA 0 (.v v0)) fun v40 h41 =>
   C0.hop h41 (.load false 1 (.v v40)) fun v42 h43 =>
   C0.hop h43 (.fldA 0 (.v v0)) fun v44 h45 =>
   C0.hop h45 (.load false 1 (.v v44)) fun v46 h47 =>
   C0.hop h47 (.ixAS .any 5 (.v v46) (.v (iz x24))) fun v48 h49 =>
   C0.hop h49 (.fldA 0 (.v v48)) fun v50 h51 =>
   C0.hop h51 (.load false 1 (.v v50)) fun v52 h53 =>
   C0.cal M (pcall M d) (n0 + 8) false 23 [v52] h53 fun v54 h55 =>
   C0.any (some v54) fun v56 =>
   C0.hop h55 (.ixAS .any 5 (.v v42) (.v (iz x24))) fun v57 h58 =>
   C0.hop h58 (.fldA 0 (.v v57)) fun v59 h60 =>
   C0.hop h60 (.store 1 (.v v59) (.v v56)) fun v61 h62 =>
   L18_0 d n0 K0 v0 v2 x19 n (IntKind.wrap .i64 (x24 + 1)) h62)
   (X18_0_0 d n0 K0 v0 v2 x19 H)) := by kernel_rfl
theorem it18_0 (d : Nat) (a0 : AV) (a1 a2 a3 a4 a5 a6 a7 a8 : Int) (n0 : Nat) (K0 : AV → Heap → Ans) (v0 v2 v4 v6 v9 v13 v15 : AV) (x19 : Int)   : ∀ (n : Nat) (v23 : AV) (x24 : Int) (v25 v26 v27 v28 v29 v30 v31 v32 v33 v34 v35 v36 v37 v38 v39 : AV) (H : Heap), C0.iter (r18R0 C0 d a0 a1 a2 a3 a4 a5 a6 a7 a8 n0 K0 v0 v2 v4 v6 v9 v13 v15 x19) n ⟨[(.agg [a0, (iz a1), (iz a2), (iz a3), (iz a4), (iz a5), (iz a6), (iz a7), (iz a8)]), v0, v2, v23, v4, v6, (.lst []), v9, v13, v15, (iz x19), (iz x24), v25, v26, v27, v28, v29, v30, v31, v32, v33, v34, v35, v36, v37, v38, v39, tz], H⟩ [0] [r18X0_0 C0 d a0 a1 a2 a3 a4 a5 a6 a7 a8 n0 K0 v0 v2 v4 v6 v9 v13 v15 x19] (r18E0 C0 d a0 a1 a2 a3 a4 a5 a6 a7 a8 n0 K0 v0 v2 v4 v6 v9 v13 v15 x19) = L18_0 d n0 K0 v0 v2 x19 n x24 H := by
  generalize hR : r18R0 C0 d a0 a1 a2 a3 a4 a5 a6 a7 a8 n0 K0 v0 v2 v4 v6 v9 v13 v15 x19 = R
  intro n
  induction n with
  | zero => intros; rfl
  | succ n ih =>
    intro v23 x24 v25 v26 v27 v28 v29 v30 v31 v32 v33 v34 v35 v36 v37 v38 v39 H
    simp only [it_ret] at ih
    rw [it_ret, xiter_s]
    refine Eq.trans (congrFun (congrFun hR.symm _) _) ?_
    unfold r18R0
    refine Eq.trans (pl_len (by rfl)) ?_; (iterate 3 (refine yt yS ?_)); refine yt yA ?_; (iterate 7 (refine yt yS ?_)); refine yt yI ?_; (iterate 15 (refine yt yA ?_)); refine yt yS ?_
    simp only [kIter_n, kIter_x, kIter_r, kOut_x, kOut_r, xgo_hit, xgo_miss, ih, X18_0_0_ok d a0 a1 a2 a3 a4 a5 a6 a7 a8 n0 K0 v0 v2 v4 v6 v9 v13 v15 x19  ]
    exact (L18_0_s d n0 K0 v0 v2 x19 n x24 H).symm
noncomputable def X18_2_0 (d : Nat) (n0 : Nat) (K0 : AV → Heap → Ans) (v0 v2 : AV) (x129 : Int) (H : Heap) : Ans :=
  C0.hop H (.load true 9 (.v v0)) fun v191 h192 =>
   C0.agg 9 (some v191) fun l193 =>
   C0.any l193[0]? fun v194 =>
   C0.int .i64 l193[1]? fun x195 =>
   C0.int .i64 l193[2]? fun x196 =>
   C0.int .i64 l193[3]? fun x197 =>
   C0.int .i64 l193[4]? fun x198 =>
   C0.int .i64 l193[5]? fun x199 =>
   C0.int .i64 l193[6]? fun x200 =>
   C0.int .i64 l193[7]? fun x201 =>
   C0.int .i64 l193[8]? fun x202 =>
   C0.hop h192 (.store 9 (.v v2) (.v (.agg [v194, (iz x195), (iz x196), (iz x197), (iz x198), (iz x199), (iz x200), (iz x201), (iz x202)]))) fun v203 h204 =>
   C0.hop h204 (.load true 9 (.v v2)) fun v205 h206 =>
    K0 v205 h204
theorem X18_2_0_ok (d : Nat) (a0 : AV) (a1 a2 a3 a4 a5 a6 a7 a8 : Int) (n0 : Nat) (K0 : AV → Heap → Ans) (v0 v2 v4 v6 v119 v123 v125 : AV) (x129 : Int) (v174 : AV) (x175 : Int) (v176 v177 v178 v179 v180 v181 v182 v183 v184 v185 v186 v187 v188 v189 v190 : AV) (H : Heap) : r18X2_0 C0 d a0 a1 a2 a3 a4 a5 a6 a7 a8 n0 K0 v0 v2 v4 v6 v119 v123 v125 x129 ⟨[(.agg [a0, (iz a1), (iz a2), (iz a3), (iz a4), (iz a5), (iz a6), (iz a7), (iz a8)]), v0, v2, v174, v4, v6, (.zsl true), v119, v123, v125, (iz x129), (iz x175), v176, v177, v178, v179, v180, v181, v182, v183, v184, v185, v186, v187, v188, v189, v190, tz], H⟩ = X18_2_0 d n0 K0 v0 v2 x129 H := by
  unfold r18X2_0; refine Eq.trans (pl_len (by rfl)) ?_; (iterate 3 (refine yt yS ?_)); refine yt yA ?_; (iterate 7 (refine yt yS ?_)); refine yt yI ?_; (iterate 15 (refine yt yA ?_)); refine yt yS ?_
  rfl
noncomputable def L18_2 (d : Nat) (n0 : Nat) (K0 : AV → Heap → Ans) (v0 v2 : AV) (x129 : Int) : Nat → Int → Heap → Ans
  | 0, _, _ => none
  | n + 1, x134, H =>
  cnd (decide (x134 < x129))
   (C0.hop H (.fldA 0 (.v v0)) fun v150 h151 =>
   C0.hop h151 (.load false 1 (.v v150)) fun v152 h153 =>
   C0.hop h153 (.fldA 0 (.v v0)) fun v154 h155 =>
   C0.hop h155 (.load false 1 (.v v154)) fun v156 h157 =>
   C0.hop h157 (.ixAS .any 5 (.v v156) (.v (iz x134))) fun v158 h159 =>
   C0.hop h159 (.fldA 0 (.v v158)) fun v160 h161 =>
   C0.hop h161 (.load false 1 (.v v160)) fun v162 h163 =>
   C0.cal M (pcall M d) (n0 + 8) false 23 [v162] h163 fun v164 h165 =>
   C0.any (some v164) fun v166 =>
   C0.hop h165 (.ixAS .any 5 (.v v152) (.v (iz x134))) fun v167 h168 =>
   C0.hop h168 (.fldA 0 (.v v167)) fun v169 h170 =>
   C0.hop h170 (.store 1 (.v v169) (.v v166)) fun v171 h172 =>
   L18_2 d n0 K0 v0 v2 x129 n (IntKind.wrap .i64 (x134 + 1)) h172)
   (X18_2_0 d n0 K0 v0 v2 x129 H)
theorem L18_2_s (d : Nat) (n0 : Nat) (K0 : AV → Heap → Ans) (v0 v2 : AV) (x129 : Int) (n : Nat) (x134 : Int) (H : Heap) : L18_2 d n0 K0 v0 v2 x129 (n + 1) x134 H = (cnd (decide (x134 < x129))
   (C0.hop H (.fldA 0 (.v v0)) fun v150 h151 =>
   C0.hop h151 (.load false 1 (.v v150)) fun v152 h153 =>
   C0.hop h153 (.fldA 0 (.v v0)) fun v154 h155 =>
   C0.hop h155 (.load false 1 (.v v154)) fun v156 h157 =>
   C0.hop h157 (.ixAS .any 5 (.v v156) (.v (iz x134))) fun v158 h159 =>
   C0.hop h159 (.fldA 0 (.v v158)) fun v160 h161 =>
   C0.hop h161 (.load false 1 (.v v160)) fun v162 h163 =>
   C0.cal M (pcall M d) (n0 + 8) false 23 [v162] h163 fun v164 h165 =>
   C0.any (some v164) fun v166 =>
   C0.hop h165 (.ixAS .any 5 (.v v152) (.v (iz x134))) fun v167 h168 =>
   C0.hop h168 (.fldA 0 (.v v167)) fun v169 h170 =>
   C0.hop h170 (.store 1 (.v v169) (.v v166)) fun v171 h172 =>
   L18_2 d n0 K0 v0 v2 x129 n (IntKind.wrap .i64 (x134 + 1)) h172)
   (X18_2_0 d n0 K0 v0 v2 x129 H)) := by kernel_rfl
theorem it18_2 (d : Nat) (a0 : AV) (a1 a2 a3 a4 a5 a6 a7 a8 : Int) (n0 : Nat) (K0 : AV → Heap → Ans) (v0 v2 v4 v6 v119 v123 v125 : AV) (x129 : Int)   : ∀ (n : Nat) (v133 : AV) (x134 : Int) (v135 v136 v137 v138 v139 v140 v141 v142 v143 v144 v145 v146 v147 v148 v149 : AV) (H : Heap), C0.iter (r18R2 C0 d a0 a1 a2 a3 a4 a5 a6 a7 a8 n0 K0 v0 v2 v4 v6 v119 v123 v125 x129) n ⟨[(.agg [a0, (iz a1), (iz a2), (iz a3), (iz a4), (iz a5), (iz a6), (iz a7), (iz a8)]), v0, v2, v133, v4, v6, (.zsl true), v119, v123, v125, (iz x129), (iz x134), v135, v136, v137, v138, v139, v140, v141, v142, v143, v144, v145, v146, v147, v148, v149, tz], H⟩ [0] [r18X2_0 C0 d a0 a1 a2 a3 a4 a5 a6 a7 a8 n0 K0 v0 v2 v4 v6 v119 v123 v125 x129] (r18E2 C0 d a0 a1 a2 a3 a4 a5 a6 a7 a8 n0 K0 v0 v2 v4 v6 v119 v123 v125 x129) = L18_2 d n0 K0 v0 v2 x129 n x134 H := by
  generalize hR : r18R2 C0 d a0 a1 a2 a3 a4 a5 a6 a7 a8 n0 K0 v0 v2 v4 v6 v119 v123 v125 x129 = R
  intro n
  induction n with
  | zero => intros; rfl
  | succ n ih =>
    intro v133 x134 v135 v136 v137 v138 v139 v140 v141 v142 v143 v144 v145 v146 v147 v148 v149 H
    simp only [it_ret] at ih
    rw [it_ret, xiter_s]
    refine Eq.trans (congrFun (congrFun hR.symm _) _) ?_
    unfold r18R2
    refine Eq.trans (pl_len (by rfl)) ?_; (iterate 3 (refine yt yS ?_)); refine yt yA ?_; (iterate 7 (refine yt yS ?_)); refine yt yI ?_; (iterate 15 (refine yt yA ?_)); refine yt yS ?_
    simp only [kIter_n, kIter_x, kIter_r, kOut_x, kOut_r, xgo_hit, xgo_miss, ih, X18_2_0_ok d a0 a1 a2 a3 a4 a5 a6 a7 a8 n0 K0 v0 v2 v4 v6 v119 v123 v125 x129  ]
    exact (L18_2_s d n0 K0 v0 v2 x129 n x134 H).symm
noncomputable def X18_4_0 (d : Nat) (n0 : Nat) (K0 : AV → Heap → Ans) (v0 v2 : AV) (x240 : Int) (H : Heap) : Ans :=
  C0.hop H (.load true 9 (.v v0)) fun v302 h303 =>
   C0.agg 9 (some v302) fun l304 =>
   C0.any l304[0]? fun v305 =>
   C0.int .i64 l304[1]? fun x306 =>
   C0.int .i64 l304[2]? fun x307 =>
   C0.int .i64 l304[3]? fun x308 =>
   C0.int .i64 l304[4]? fun x309 =>
   C0.int .i64 l304[5]? fun x310 =>
   C0.int .i64 l304[6]? fun x311 =>
   C0.int .i64 l304[7]? fun x312 =>
   C0.int .i64 l304[8]? fun x313 =>
   C0.hop h303 (.store 9 (.v v2) (.v (.agg [v305, (iz x306), (iz x307), (iz x308), (iz x309), (iz x310), (iz x311), (iz x312), (iz x313)]))) fun v314 h315 =>
   C0.hop h315 (.load true 9 (.v v2)) fun v316 h317 =>
    K0 v316 h315
theorem X18_4_0_ok (d : Nat) (a0 : AV) (a1 a2 a3 a4 a5 a6 a7 a8 : Int) (n0 : Nat) (K0 : AV → Heap → Ans) (v0 v2 v4 v6 v228 v230 v234 v236 : AV) (x240 : Int) (v285 : AV) (x286 : Int) (v287 v288 v289 v290 v291 v292 v293 v294 v295 v296 v297 v298 v299 v300 v301 : AV) (H : Heap) : r18X4_0 C0 d a0 a1 a2 a3 a4 a5 a6 a7 a8 n0 K0 v0 v2 v4 v6 v228 v230 v234 v236 x240 ⟨[(.agg [a0, (iz a1), (iz a2), (iz a3), (iz a4), (iz a5), (iz a6), (iz a7), (iz a8)]), v0, v2, v285, v4, v6, v228, v230, v234, v236, (iz x240), (iz x286), v287, v288, v289, v290, v291, v292, v293, v294, v295, v296, v297, v298, v299, v300, v301, tz], H⟩ = X18_4_0 d n0 K0 v0 v2 x240 H := by
  unfold r18X4_0; refine Eq.trans (pl_len (by rfl)) ?_; (iterate 3 (refine yt yS ?_)); refine yt yA ?_; (iterate 7 (refine yt yS ?_)); refine yt yI ?_; (iterate 15 (refine yt yA ?_)); refine yt yS ?_
  rfl
noncomputable def L18_4 (d : Nat) (n0 : Nat) (K0 : AV → Heap → Ans) (v0 v2 : AV) (x240 : Int) : Nat → Int → Heap → Ans
  | 0, _, _ => none
  | n + 1, x245, H =>
  cnd (decide (x245 < x240))
   (C0.hop H (.fldA 0 (.v v0)) fun v261 h262 =>
   C0.hop h262 (.load false 1 (.v v261)) fun v263 h264 =>
   C0.hop h264 (.fldA 0 (.v v0)) fun v265 h266 =>
   C0.hop h266 (.load false 1 (.v v265)) fun v267 h268 =>
   C0.hop h268 (.ixAS .any 5 (.v v267) (.v (iz x245))) fun v269 h270 =>
   C0.hop h270 (.fldA 0 (.v v269)) fun v271 h272 =>
   C0.hop h272 (.load false 1 (.v v271)) fun v273 h274 =>
   C0.cal M (pcall M d) (n0 + 8) false 23 [v273] h274 fun v275 h276 =>
   C0.any (some v275) fun v277 =>
   C0.hop h276 (.ixAS .any 5 (.v v263) (.v (iz x245))) fun v278 h279 =>
   C0.hop h279 (.fldA 0 (.v v278)) fun v280 h281 =>
   C0.hop h281 (.store 1 (.v v280) (.v v277)) fun v282 h283 =>
   L18_4 d n0 K0 v0 v2 x240 n (IntKind.wrap .i64 (x245 + 1)) h283)
   (X18_4_0 d n0 K0 v0 v2 x240 H)
theorem L18_4_s (d : Nat) (n0 : Nat) (K0 : AV → Heap → Ans) (v0 v2 : AV) (x240 : Int) (n : Nat) (x245 : Int) (H : Heap) : L18_4 d n0 K0 v0 v2 x240 (n + 1) x245 H = (cnd (decide (x245 < x240))
   (C0.hop H (.fldA 0 (.v v0)) fun v261 h262 =>
   C0.hop h262 (.load false 1 (.v v261)) fun v263 h264 =>
   C0.hop h264 (.fldA 0 (.v v0)) fun v265 h266 =>
   C0.hop h266 (.load false 1 (.v v265)) fun v267 h268 =>
   C0.hop h268 (.ixAS .any 5 (.v v267) (.v (iz x245))) fun v269 h270 =>
   C0.hop h270 (.fldA 0 (.v v269)) fun v271 h272 =>
   C0.hop h272 (.load false 1 (.v v271)) fun v273 h274 =>
   C0.cal M (pcall M d) (n0 + 8) false 23 [v273] h274 fun v275 h276 =>
   C0.any (some v275) fun v277 =>
   C0.hop h276 (.ixAS .any 5 (.v v263) (.v (iz x245))) fun v278 h279 =>
   C0.hop h279 (.fldA 0 (.v v278)) fun v280 h281 =>
   C0.hop h281 (.store 1 (.v v280) (.v v277)) fun v282 h283 =>
   L18_4 d n0 K0 v0 v2 x240 n (IntKind.wrap .i64 (x245 + 1)) h283)
   (X18_4_0 d n0 K0 v0 v2 x240 H)) := by kernel_rfl
theorem it18_4 (d : Nat) (a0 : AV) (a1 a2 a3 a4 a5 a6 a7 a8 : Int) (n0 : Nat) (K0 : AV → Heap → Ans) (v0 v2 v4 v6 v228 v230 v234 v236 : AV) (x240 : Int)   : ∀ (n : Nat) (v244 : AV) (x245 : Int) (v246 v247 v248 v249 v250 v251 v252 v253 v254 v255 v256 v257 v258 v259 v260 : AV) (H : Heap), C0.iter (r18R4 C0 d a0 a1 a2 a3 a4 a5 a6 a7 a8 n0 K0 v0 v2 v4 v6 v228 v230 v234 v236 x240) n ⟨[(.agg [a0, (iz a1), (iz a2), (iz a3), (iz a4), (iz a5), (iz a6), (iz a7), (iz a8)]), v0, v2, v244, v4, v6, v228, v230, v234, v236, (iz x240), (iz x245), v246, v247, v248, v249, v250, v251, v252, v253, v254, v255, v256, v257, v258, v259, v260, tz], H⟩ [0] [r18X4_0 C0 d a0 a1 a2 a3 a4 a5 a6 a7 a8 n0 K0 v0 v2 v4 v6 v228 v230 v234 v236 x240] (r18E4 C0 d a0 a1 a2 a3 a4 a5 a6 a7 a8 n0 K0 v0 v2 v4 v6 v228 v230 v234 v236 x240) = L18_4 d n0 K0 v0 v2 x240 n x245 H := by
  generalize hR : r18R4 C0 d a0 a1 a2 a3 a4 a5 a6 a7 a8 n0 K0 v0 v2 v4 v6 v228 v230 v234 v236 x240 = R
  intro n
  induction n with
  | zero => intros; rfl
  | succ n ih =>
    intro v244 x245 v246 v247 v248 v249 v250 v251 v252 v253 v254 v255 v256 v257 v258 v259 v260 H
    simp only [it_ret] at ih
    rw [it_ret, xiter_s]
    refine Eq.trans (congrFun (congrFun hR.symm _) _) ?_
    unfold r18R4
    refine Eq.trans (pl_len (by rfl)) ?_; (iterate 3 (refine yt yS ?_)); refine yt yA ?_; (iterate 7 (refine yt yS ?_)); refine yt yI ?_; (iterate 15 (refine yt yA ?_)); refine yt yS ?_
    simp only [kIter_n, kIter_x, kIter_r, kOut_x, kOut_r, xgo_hit, xgo_miss, ih, X18_4_0_ok d a0 a1 a2 a3 a4 a5 a6 a7 a8 n0 K0 v0 v2 v4 v6 v228 v230 v234 v236 x240  ]
    exact (L18_4_s d n0 K0 v0 v2 x240 n x245 H).symm
/-- apogee/rules.Copy -/
theorem q18 (d : Nat) (a0 : AV) (a1 a2 a3 a4 a5 a6 a7 a8 : Int) (n0 : Nat) (H0 : Heap) (K0 : AV → Heap → Ans) : xmeth C0 M unr d (n0 + 8) 18 [(.agg [a0, (iz a1), (iz a2), (iz a3), (iz a4), (iz a5), (iz a6), (iz a7), (iz a8)])] H0 K0 =
  C0.hop H0 (.box E24 (.v (.agg [a0, (iz a1), (iz a2), (iz a3), (iz a4), (iz a5), (iz a6), (iz a7), (iz a8)]))) fun v0 h1 =>
  C0.hop h1 (.alloc E24) fun v2 h3 =>
  C0.hop h3 (.fldA 0 (.v v0)) fun v4 h5 =>
  C0.hop h5 (.load false 1 (.v v4)) fun v6 h7 =>
  C0.bool (clr v6) fun b8 =>
  cnd b8
   (C0.same (emptyQ (pcall M d) 32) (.lst []) <|
   C0.hop h7 (.fldA 0 (.v v0)) fun v9 h10 =>
   C0.hop h10 (.store 1 (.v v9) (.v (.lst []))) fun v11 h12 =>
   C0.hop h12 (.fldA 0 (.v v0)) fun v13 h14 =>
   C0.hop h14 (.load false 1 (.v v13)) fun v15 h16 =>
   C0.hop h16 (.bk .lenV [(.v v15)]) fun v17 h18 =>
   C0.int .i64 (some v17) fun x19 =>
   L18_0 d n0 K0 v0 v2 x19 10000000000000000000 0 h18)
   (C0.hop h7 (.eqv false 2 [] (.v v6) (.v (.zsl true))) fun v116 h117 =>
   C0.bool (some v116) fun b118 =>
   cnd b118
   (C0.hop h117 (.fldA 0 (.v v0)) fun v119 h120 =>
   C0.hop h120 (.store 1 (.v v119) (.v (.zsl true))) fun v121 h122 =>
   C0.hop h122 (.fldA 0 (.v v0)) fun v123 h124 =>
   C0.hop h124 (.load false 1 (.v v123)) fun v125 h126 =>
   C0.hop h126 (.bk .lenV [(.v v125)]) fun v127 h128 =>
   C0.int .i64 (some v127) fun x129 =>
   L18_2 d n0 K0 v0 v2 x129 10000000000000000000 0 h128)
   (C0.hop h117 (.mkrow E30 0 []) fun v226 h227 =>
   C0.hop h227 (.app E30 (.v v226) (.v v6)) fun v228 h229 =>
   C0.hop h229 (.fldA 0 (.v v0)) fun v230 h231 =>
   C0.hop h231 (.store 1 (.v v230) (.v v228)) fun v232 h233 =>
   C0.hop h233 (.fldA 0 (.v v0)) fun v234 h235 =>
   C0.hop h235 (.load false 1 (.v v234)) fun v236 h237 =>
   C0.hop h237 (.bk .lenV [(.v v236)]) fun v238 h239 =>
   C0.int .i64 (some v238) fun x240 =>
   L18_4 d n0 K0 v0 v2 x240 10000000000000000000 0 h239)) := (r18 C0 d a0 a1 a2 a3 a4 a5 a6 a7 a8 n0 H0 K0).trans (by simp only [it18_0, it18_2, it18_4])
noncomputable def X19_0_0 (d : Nat) (a0 a9 : List AV)  : Ans :=
  some bt
theorem X19_0_0_ok (d : Nat) (a0 : List AV) (a1 a2 a3 a4 a5 a6 a7 a8 : Int) (a9 : List AV) (a10 a11 a12 a13 a14 a15 a16 a17 : Int) (b62 : Bool) (x63 x64 : Int) (v65 v66 : AV) (x67 : Int) (b68 : Bool) (v69 v70 v71 v72 v73 v74 v75 v76 v77 v78 v79 v80 v81 v82 : AV) : r19X0_0 C0 d a0 a1 a2 a3 a4 a5 a6 a7 a8 a9 a10 a11 a12 a13 a14 a15 a16 a17 ⟨[(.agg [(.lst a0), (iz a1), (iz a2), (iz a3), (iz a4), (iz a5), (iz a6), (iz a7), (iz a8)]), (.agg [(.lst a9), (iz a10), (iz a11), (iz a12), (iz a13), (iz a14), (iz a15), (iz a16), (iz a17)]), (.ptr 0 0 0), (.ptr 1 0 0), (.bool b62), (iz x63), (.ptr 0 0 0), (.lst a0), (iz (((List.length a0) : Nat) : Int)), (.ptr 1 0 0), (.lst a9), (iz (((List.length a9) : Nat) : Int)), (.bool ((((List.length a0) : Nat) : Int) != (((List.length a9) : Nat) : Int))), bf, (.ptr 0 0 1), (iz a1), (.ptr 1 0 1), (iz a10), (.bool (a1 != a10)), (.bool (a1 != a10)), bf, (.ptr 0 0 2), (iz a2), (.ptr 1 0 2), (iz a11), (.bool (a2 != a11)), (.bool (a2 != a11)), bf, (.ptr 0 0 3), (iz a3), (.ptr 1 0 3), (iz a12), (.bool (a3 != a12)), (.bool (a3 != a12)), bf, (.ptr 0 0 4), (iz a4), (.ptr 1 0 4), (iz a13), (.bool (a4 != a13)), (.bool (a4 != a13)), bf, (.ptr 0 0 5), (iz a5), (.ptr 1 0 5), (iz a14), (.bool (a5 != a14)), (.bool (a5 != a14)), bf, (.ptr 0 0 6), (iz a6), (.ptr 1 0 6), (iz a15), (.bool (a6 != a15)), (.bool (a6 != a15)), bf, (.ptr 0 0 7), (iz a7), (.ptr 1 0 7), (iz a16), (.bool (a7 != a16)), (.bool (a7 != a16)), bf, (.ptr 0 0 8), (iz a8), (.ptr 1 0 8), (iz a17), (.bool (a8 != a17)), bf, (iz x64), v65, v66, (iz x67), (.bool b68), v69, v70, v71, v72, v73, v74, v75, v76, v77, v78, v79, v80, v81, v82], [some ⟨E24, [(.agg [(.lst a0), (iz a1), (iz a2), (iz a3), (iz a4), (iz a5), (iz a6), (iz a7), (iz a8)])]⟩, some ⟨E24, [(.agg [(.lst a9), (iz a10), (iz a11), (iz a12), (iz a13), (iz a14), (iz a15), (iz a16), (iz a17)])]⟩]⟩ = X19_0_0 d a0 a9  := by
  unfold r19X0_0; refine Eq.trans (pl_len (by rfl)) ?_; (iterate 4 (refine yt yS ?_)); refine yt yB ?_; refine yt yI ?_; (iterate 63 (refine yt yS ?_)); refine yt yI ?_; (iterate 2 (refine yt yA ?_)); refine yt yI ?_; refine yt yB ?_; (iterate 14 (refine yt yA ?_)); refine Eq.trans (pl_sameH) ?_
  rfl
noncomputable def E19_0 (d : Nat) (a0 a9 : List AV) (b83 : Bool) : Ans :=
  some (.bool b83)
theorem E19_0_ok (d : Nat) (a0 : List AV) (a1 a2 a3 a4 a5 a6 a7 a8 : Int) (a9 : List AV) (a10 a11 a12 a13 a14 a15 a16 a17 : Int) (b83 : Bool) (x84 x85 : Int) (v86 v87 : AV) (x88 : Int) (b89 : Bool) (v90 v91 v92 v93 : AV) (x94 : Int) (v95 v97 : AV) (x98 x99 x100 x101 : Int) (v102 v103 : AV) (x104 : Int) (v105 v107 : AV) (x108 x109 x110 x111 : Int) (b112 b113 : Bool) : r19E0 C0 d a0 a1 a2 a3 a4 a5 a6 a7 a8 a9 a10 a11 a12 a13 a14 a15 a16 a17 ⟨[(.agg [(.lst a0), (iz a1), (iz a2), (iz a3), (iz a4), (iz a5), (iz a6), (iz a7), (iz a8)]), (.agg [(.lst a9), (iz a10), (iz a11), (iz a12), (iz a13), (iz a14), (iz a15), (iz a16), (iz a17)]), (.ptr 0 0 0), (.ptr 1 0 0), (.bool b83), (iz x84), (.ptr 0 0 0), (.lst a0), (iz (((List.length a0) : Nat) : Int)), (.ptr 1 0 0), (.lst a9), (iz (((List.length a9) : Nat) : Int)), (.bool ((((List.length a0) : Nat) : Int) != (((List.length a9) : Nat) : Int))), bf, (.ptr 0 0 1), (iz a1), (.ptr 1 0 1), (iz a10), (.bool (a1 != a10)), (.bool (a1 != a10)), bf, (.ptr 0 0 2), (iz a2), (.ptr 1 0 2), (iz a11), (.bool (a2 != a11)), (.bool (a2 != a11)), bf, (.ptr 0 0 3), (iz a3), (.ptr 1 0 3), (iz a12), (.bool (a3 != a12)), (.bool (a3 != a12)), bf, (.ptr 0 0 4), (iz a4), (.ptr 1 0 4), (iz a13), (.bool (a4 != a13)), (.bool (a4 != a13)), bf, (.ptr 0 0 5), (iz a5), (.ptr 1 0 5), (iz a14), (.bool (a5 != a14)), (.bool (a5 != a14)), bf, (.ptr 0 0 6), (iz a6), (.ptr 1 0 6), (iz a15), (.bool (a6 != a15)), (.bool (a6 != a15)), bf, (.ptr 0 0 7), (iz a7), (.ptr 1 0 7), (iz a16), (.bool (a7 != a16)), (.bool (a7 != a16)), bf, (.ptr 0 0 8), (iz a8), (.ptr 1 0 8), (iz a17), (.bool (a8 != a17)), bf, (iz x85), v86, v87, (iz x88), (.bool b89), v90, v91, v92, v93, (iz x94), v95, (.agg [v97, (iz x98), (iz x99), (iz x100), (iz x101)]), v102, v103, (iz x104), v105, (.agg [v107, (iz x108), (iz x109), (iz x110), (iz x111)]), (.bool b112), (.bool b113)], [some ⟨E24, [(.agg [(.lst a0), (iz a1), (iz a2), (iz a3), (iz a4), (iz a5), (iz a6), (iz a7), (iz a8)])]⟩, some ⟨E24, [(.agg [(.lst a9), (iz a10), (iz a11), (iz a12), (iz a13), (iz a14), (iz a15), (iz a16), (iz a17)])]⟩]⟩ = E19_0 d a0 a9 b83 := by
  unfold r19E0; refine Eq.trans (pl_len (by rfl)) ?_; (iterate 4 (refine yt yS ?_)); refine yt yB ?_; refine yt yI ?_; (iterate 63 (refine yt yS ?_)); refine yt yI ?_; (iterate 2 (refine yt yA ?_)); refine yt yI ?_; refine yt yB ?_; (iterate 4 (refine yt yA ?_)); refine yt yI ?_; refine yt yA ?_; refine yt yG ?_; refine yt yA ?_; (iterate 4 (refine yt yI ?_)); (iterate 2 (refine yt yA ?_)); refine yt yI ?_; refine yt yA ?_; refine yt yG ?_; refine yt yA ?_; (iterate 4 (refine yt yI ?_)); (iterate 2 (refine yt yB ?_)); refine Eq.trans (pl_sameH) ?_
  rfl
noncomputable def L19_0 (d : Nat) (a0 a9 : List AV) : Nat → Int → Ans
  | 0, _ => none
  | n + 1, x4 =>
  cnd (decide (x4 < (((List.length a0) : Nat) : Int)))
   (cnd (decide ((0 : Int) ≤ x4))
   (C0.agg 5 a0[(Int.toNat x4)]? fun l24 =>
   C0.lst l24[0]? (fun l25 =>
   C0.int .i64 l24[1]? fun x27 =>
   C0.int .i64 l24[2]? fun x28 =>
   C0.int .i64 l24[3]? fun x29 =>
   C0.int .i64 l24[4]? fun x30 =>
   cnd (decide ((0 : Int) ≤ x4))
   (C0.agg 5 a9[(Int.toNat x4)]? fun l31 =>
   C0.lst l31[0]? (fun l32 =>
   C0.int .i64 l31[1]? fun x34 =>
   C0.int .i64 l31[2]? fun x35 =>
   C0.int .i64 l31[3]? fun x36 =>
   C0.int .i64 l31[4]? fun x37 =>
   C0.bool (pcall M d 15 [(.agg [(.lst l25), (iz x27), (iz x28), (iz x29), (iz x30)]), (.agg [(.lst l32), (iz x34), (iz x35), (iz x36), (iz x37)])]) fun b38 =>
   cnd (!b38)
   (E19_0 d a0 a9 false)
   (L19_0 d a0 a9 n (IntKind.wrap .i64 (x4 + 1))))
           (fun z33 =>
   C0.int .i64 l31[1]? fun x39 =>
   C0.int .i64 l31[2]? fun x40 =>
   C0.int .i64 l31[3]? fun x41 =>
   C0.int .i64 l31[4]? fun x42 =>
   C0.bool (pcall M d 15 [(.agg [(.lst l25), (iz x27), (iz x28), (iz x29), (iz x30)]), (.agg [(.zsl z33), (iz x39), (iz x40), (iz x41), (iz x42)])]) fun b43 =>
   cnd (!b43)
   (E19_0 d a0 a9 false)
   (L19_0 d a0 a9 n (IntKind.wrap .i64 (x4 + 1)))))
   (none))
        (fun z26 =>
   C0.int .i64 l24[1]? fun x44 =>
   C0.int .i64 l24[2]? fun x45 =>
   C0.int .i64 l24[3]? fun x46 =>
   C0.int .i64 l24[4]? fun x47 =>
   cnd (decide ((0 : Int) ≤ x4))
   (C0.agg 5 a9[(Int.toNat x4)]? fun l48 =>
   C0.lst l48[0]? (fun l49 =>
   C0.int .i64 l48[1]? fun x51 =>
   C0.int .i64 l48[2]? fun x52 =>
   C0.int .i64 l48[3]? fun x53 =>
   C0.int .i64 l48[4]? fun x54 =>
   C0.bool (pcall M d 15 [(.agg [(.zsl z26), (iz x44), (iz x45), (iz x46), (iz x47)]), (.agg [(.lst l49), (iz x51), (iz x52), (iz x53), (iz x54)])]) fun b55 =>
   cnd (!b55)
   (E19_0 d a0 a9 false)
   (L19_0 d a0 a9 n (IntKind.wrap .i64 (x4 + 1))))
           (fun z50 =>
   C0.int .i64 l48[1]? fun x56 =>
   C0.int .i64 l48[2]? fun x57 =>
   C0.int .i64 l48[3]? fun x58 =>
   C0.int .i64 l48[4]? fun x59 =>
   C0.bool (pcall M d 15 [(.agg [(.zsl z26), (iz x44), (iz x45), (iz x46), (iz x47)]), (.agg [(.zsl z50), (iz x56), (iz x57), (iz x58), (iz x59)])]) fun b60 =>
   cnd (!b60)
   (E19_0 d a0 a9 false)
   (L19_0 d a0 a9 n (IntKind.wrap .i64 (x4 + 1)))))
   (none)))
   (none))
   (X19_0_0 d a0 a9)
theorem L19_0_s (d : Nat) (a0 a9 : List AV) (n : Nat) (x4 : Int) : L19_0 d a0 a9 (n + 1) x4 = (cnd (decide (x4 < (((List.length a0) : Nat) : Int)))
   (cnd (decide ((0 : Int) ≤ x4))
   (C0.agg 5 a0[(Int.toNat x4)]? fun l24 =>
   C0.lst l24[0]? (fun l25 =>
   C0.int .i64 l24[1]? fun x27 =>
   C0.int .i64 l24[2]? fun x28 =>
   C0.int .i64 l24[3]? fun x29 =>
   C0.int .i64 l24[4]? fun x30 =>
   cnd (decide ((0 : Int) ≤ x4))
   (C0.agg 5 a9[(Int.toNat x4)]? fun l31 =>
   C0.lst l31[0]? (fun l32 =>
   C0.int .i64 l31[1]? fun x34 =>
   C0.int .i64 l31[2]? fun x35 =>
   C0.int .i64 l31[3]? fun x36 =>
   C0.int .i64 l31[4]? fun x37 =>
   C0.bool (pcall M d 15 [(.agg [(.lst l25), (iz x27), (iz x28), (iz x29), (iz x30)]), (.agg [(.lst l32), (iz x34), (iz x35), (iz x36), (iz x37)])]) fun b38 =>
   cnd (!b38)
   (E19_0 d a0 a9 false)
   (L19_0 d a0 a9 n (IntKind.wrap .i64 (x4 + 1))))
           (fun z33 =>
   C0.int .i64 l31[1]? fun x39 =>
   C0.int .i64 l31[2]? fun x40 =>
   C0.int .i64 l31[3]? fun x41 =>
   C0.int .i64 l31[4]? fun x42 =>
   C0.bool (pcall M d 15 [(.agg [(.lst l25), (iz x27), (iz x28), (iz x29), (iz x30)]), (.agg [(.zsl z33), (iz x39), (iz x40), (iz x41), (iz x42)])]) fun b43 =>
   cnd (!b43)
   (E19_0 d a0 a9 false)
   (L19_0 d a0 a9 n (IntKind.wrap .i64 (x4 + 1)))))
   (none))
        (fun z26 =>
   C0.int .i64 l24[1]? fun x44 =>
   C0.int .i64 l24[2]? fun x45 =>
   C0.int .i64 l24[3]? fun x46 =>
   C0.int .i64 l24[4]? fun x47 =>
   cnd (decide ((0 : Int) ≤ x4))
   (C0.agg 5 a9[(Int.toNat x4)]? fun l48 =>
   C0.lst l48[0]? (fun l49 =>
   C0.int .i64 l48[1]? fun x51 =>
   C0.int .i64 l48[2]? fun x52 =>
   C0.int .i64 l48[3]? fun x53 =>
   C0.int .i64 l48[4]? fun x54 =>
   C0.bool (pcall M d 15 [(.agg [(.zsl z26), (iz x44), (iz x45), (iz x46), (iz x47)]), (.agg [(.lst l49), (iz x51), (iz x52), (iz x53), (iz x54)])]) fun b55 =>
   cnd (!b55)
   (E19_0 d a0 a9 false)
   (L19_0 d a0 a9 n (IntKind.wrap .i64 (x4 + 1))))
           (fun z50 =>
   C0.int .i64 l48[1]? fun x56 =>
   C0.int .i64 l48[2]? fun x57 =>
   C0.int .i64 l48[3]? fun x58 =>
   C0.int .i64 l48[4]? fun x59 =>
   C0.bool (pcall M d 15 [(.agg [(.zsl z26), (iz x44), (iz x45), (iz x46), (iz x47)]), (.agg [(.zsl z50), (iz x56), (iz x57), (iz x58), (iz x59)])]) fun b60 =>
   cnd (!b60)
   (E19_0 d a0 a9 false)
   (L19_0 d a0 a9 n (IntKind.wrap .i64 (x4 + 1)))))
   (none)))
   (none))
   (X19_0_0 d a0 a9)) := by kernel_rfl
theorem it19_0 (d : Nat) (a0 : List AV) (a1 a2 a3 a4 a5 a6 a7 a8 : Int) (a9 : List AV) (a10 a11 a12 a13 a14 a15 a16 a17 : Int)   : ∀ (n : Nat) (b3 : Bool) (x4 : Int) (v5 v6 v7 v8 v9 v10 v11 v12 v13 v14 v15 v16 v17 v18 v19 v20 v21 v22 v23 : AV), C0.iter (r19R0 C0 d a0 a1 a2 a3 a4 a5 a6 a7 a8 a9 a10 a11 a12 a13 a14 a15 a16 a17) n ⟨[(.agg [(.lst a0), (iz a1), (iz a2), (iz a3), (iz a4), (iz a5), (iz a6), (iz a7), (iz a8)]), (.agg [(.lst a9), (iz a10), (iz a11), (iz a12), (iz a13), (iz a14), (iz a15), (iz a16), (iz a17)]), (.ptr 0 0 0), (.ptr 1 0 0), (.bool b3), (iz x4), (.ptr 0 0 0), (.lst a0), (iz (((List.length a0) : Nat) : Int)), (.ptr 1 0 0), (.lst a9), (iz (((List.length a9) : Nat) : Int)), (.bool ((((List.length a0) : Nat) : Int) != (((List.length a9) : Nat) : Int))), bf, (.ptr 0 0 1), (iz a1), (.ptr 1 0 1), (iz a10), (.bool (a1 != a10)), (.bool (a1 != a10)), bf, (.ptr 0 0 2), (iz a2), (.ptr 1 0 2), (iz a11), (.bool (a2 != a11)), (.bool (a2 != a11)), bf, (.ptr 0 0 3), (iz a3), (.ptr 1 0 3), (iz a12), (.bool (a3 != a12)), (.bool (a3 != a12)), bf, (.ptr 0 0 4), (iz a4), (.ptr 1 0 4), (iz a13), (.bool (a4 != a13)), (.bool (a4 != a13)), bf, (.ptr 0 0 5), (iz a5), (.ptr 1 0 5), (iz a14), (.bool (a5 != a14)), (.bool (a5 != a14)), bf, (.ptr 0 0 6), (iz a6), (.ptr 1 0 6), (iz a15), (.bool (a6 != a15)), (.bool (a6 != a15)), bf, (.ptr 0 0 7), (iz a7), (.ptr 1 0 7), (iz a16), (.bool (a7 != a16)), (.bool (a7 != a16)), bf, (.ptr 0 0 8), (iz a8), (.ptr 1 0 8), (iz a17), (.bool (a8 != a17)), bf, v5, v6, v7, v8, v9, v10, v11, v12, v13, v14, v15, v16, v17, v18, v19, v20, v21, v22, v23], [some ⟨E24, [(.agg [(.lst a0), (iz a1), (iz a2), (iz a3), (iz a4), (iz a5), (iz a6), (iz a7), (iz a8)])]⟩, some ⟨E24, [(.agg [(.lst a9), (iz a10), (iz a11), (iz a12), (iz a13), (iz a14), (iz a15), (iz a16), (iz a17)])]⟩]⟩ [0] [r19X0_0 C0 d a0 a1 a2 a3 a4 a5 a6 a7 a8 a9 a10 a11 a12 a13 a14 a15 a16 a17] (r19E0 C0 d a0 a1 a2 a3 a4 a5 a6 a7 a8 a9 a10 a11 a12 a13 a14 a15 a16 a17) = L19_0 d a0 a9 n x4 := by
  generalize hR : r19R0 C0 d a0 a1 a2 a3 a4 a5 a6 a7 a8 a9 a10 a11 a12 a13 a14 a15 a16 a17 = R
  intro n
  induction n with
  | zero => intros; rfl
  | succ n ih =>
    intro b3 x4 v5 v6 v7 v8 v9 v10 v11 v12 v13 v14 v15 v16 v17 v18 v19 v20 v21 v22 v23
    simp only [it_ret] at ih
    rw [it_ret, xiter_s]
    refine Eq.trans (congrFun (congrFun hR.symm _) _) ?_
    unfold r19R0
    refine Eq.trans (pl_len (by rfl)) ?_; (iterate 4 (refine yt yS ?_)); refine yt yB ?_; refine yt yI ?_; (iterate 63 (refine yt yS ?_)); (iterate 19 (refine yt yA ?_)); refine Eq.trans (pl_sameH) ?_
    simp only [kIter_n, kIter_x, kIter_r, kOut_x, kOut_r, xgo_hit, xgo_miss, ih, X19_0_0_ok d a0 a1 a2 a3 a4 a5 a6 a7 a8 a9 a10 a11 a12 a13 a14 a15 a16 a17  , E19_0_ok d a0 a1 a2 a3 a4 a5 a6 a7 a8 a9 a10 a11 a12 a13 a14 a15 a16 a17  ]
    exact (L19_0_s d a0 a9 n x4).symm
/-- apogee/apogeeref13.Same -/
theorem q19 (d : Nat) (a0 : List AV) (a1 a2 a3 a4 a5 a6 a7 a8 : Int) (a9 : List AV) (a10 a11 a12 a13 a14 a15 a16 a17 : Int) : xcall C0 M unr d 19 [(.agg [(.lst a0), (iz a1), (iz a2), (iz a3), (iz a4), (iz a5), (iz a6), (iz a7), (iz a8)]), (.agg [(.lst a9), (iz a10), (iz a11), (iz a12), (iz a13), (iz a14), (iz a15), (iz a16), (iz a17)])] =
  cnd ((((List.length a0) : Nat) : Int) != (((List.length a9) : Nat) : Int))
   (some bf)
   (cnd (a1 != a10)
   (some bf)
   (cnd (a2 != a11)
   (some bf)
   (cnd (a3 != a12)
   (some bf)
   (cnd (a4 != a13)
   (some bf)
   (cnd (a5 != a14)
   (some bf)
   (cnd (a6 != a15)
   (some bf)
   (cnd (a7 != a16)
   (some bf)
   (cnd (a8 != a17)
   (some bf)
   (L19_0 d a0 a9 10000000000000000000 0))))))))) := (r19 C0 d a0 a1 a2 a3 a4 a5 a6 a7 a8 a9 a10 a11 a12 a13 a14 a15 a16 a17).trans (by simp only [it19_0])
noncomputable def X33f34_0_0 (d : Nat) (a0 a1 : List AV) (x8 : Int) (H : Heap) : Ans :=
  C0.fin H bt
theorem X33f34_0_0_ok (d : Nat) (a0 a1 : List AV) (x2 x5 x8 : Int) (b79 : Bool) (v80 v81 v82 : AV) (x83 : Int) (v84 v85 v86 v87 v88 v89 v90 v91 v92 v93 v94 v95 v96 v97 : AV) (H : Heap) : r33f34X0_0 C0 d a0 a1 x2 x5 x8 ⟨[(.lst a0), (.lst a1), (.fn 34 [] []), tz, tz, tz, (.bool b79), v80, v81, v82, (.lst a0), (iz x2), (.lst a1), (iz x5), bf, (.lst a0), (iz x8), (iz x83), v84, v85, v86, v87, v88, v89, v90, v91, v92, v93, v94, v95, v96, v97], H⟩ = X33f34_0_0 d a0 a1 x8 H := by
  unfold r33f34X0_0; refine Eq.trans (pl_len (by rfl)) ?_; (iterate 6 (refine yt yS ?_)); refine yt yB ?_; (iterate 3 (refine yt yA ?_)); (iterate 7 (refine yt yS ?_)); refine yt yI ?_; (iterate 14 (refine yt yA ?_))
  rfl
noncomputable def E33f34_0 (d : Nat) (a0 a1 : List AV) (x8 : Int) (b98 : Bool) (H : Heap) : Ans :=
  C0.fin H (.bool b98)
theorem E33f34_0_ok (d : Nat) (a0 a1 : List AV) (x2 x5 x8 : Int) (b98 : Bool) (x99 : Int) (v100 v101 : AV) (x102 : Int) (v103 : AV) (x104 : Int) (v105 v107 : AV) (x108 x109 x110 x111 : Int) (v112 : AV) (x113 : Int) (v114 v116 : AV) (x117 x118 x119 x120 : Int) (v121 v123 : AV) (x124 x125 x126 x127 : Int) (v129 : AV) (x130 x131 x132 x133 : Int) (b134 b135 : Bool) (v136 : AV) (H : Heap) : r33f34E0 C0 d a0 a1 x2 x5 x8 ⟨[(.lst a0), (.lst a1), (.fn 34 [] []), tz, tz, tz, (.bool b98), (iz x99), v100, v101, (.lst a0), (iz x2), (.lst a1), (iz x5), bf, (.lst a0), (iz x8), (iz x102), v103, (iz x104), v105, (.agg [v107, (iz x108), (iz x109), (iz x110), (iz x111)]), v112, (iz x113), v114, (.agg [v116, (iz x117), (iz x118), (iz x119), (iz x120)]), v121, (.agg [v123, (iz x124), (iz x125), (iz x126), (iz x127)]), (.agg [v129, (iz x130), (iz x131), (iz x132), (iz x133)]), (.bool b134), (.bool b135), v136], H⟩ = E33f34_0 d a0 a1 x8 b98 H := by
  unfold r33f34E0; refine Eq.trans (pl_len (by rfl)) ?_; (iterate 6 (refine yt yS ?_)); refine yt yB ?_; refine yt yI ?_; (iterate 2 (refine yt yA ?_)); (iterate 7 (refine yt yS ?_)); refine yt yI ?_; refine yt yA ?_; refine yt yI ?_; refine yt yA ?_; refine yt yG ?_; refine yt yA ?_; (iterate 4 (refine yt yI ?_)); refine yt yA ?_; refine yt yI ?_; refine yt yA ?_; refine yt yG ?_; refine yt yA ?_; (iterate 4 (refine yt yI ?_)); refine yt yA ?_; refine yt yG ?_; refine yt yA ?_; (iterate 4 (refine yt yI ?_)); refine yt yG ?_; refine yt yA ?_; (iterate 4 (refine yt yI ?_)); (iterate 2 (refine yt yB ?_)); refine yt yA ?_
  rfl
noncomputable def L33f34_0 (d : Nat) (a0 a1 : List AV) (x8 : Int) : Nat → Int → Heap → Ans
  | 0, _, _ => none
  | n + 1, x16, H =>
  cnd (decide (x16 < x8))
   (C0.hop H (.ixAS .any 5 (.v (.lst a0)) (.v (iz x16))) fun v31 h32 =>
   C0.hop h32 (.load true 5 (.v v31)) fun v33 h34 =>
   C0.agg 5 (some v33) fun l35 =>
   C0.any l35[0]? fun v36 =>
   C0.int .i64 l35[1]? fun x37 =>
   C0.int .i64 l35[2]? fun x38 =>
   C0.int .i64 l35[3]? fun x39 =>
   C0.int .i64 l35[4]? fun x40 =>
   C0.hop h34 (.alloc E30) fun v41 h42 =>
   C0.hop h42 (.store 5 (.v v41) (.v (.agg [v36, (iz x37), (iz x38), (iz x39), (iz x40)]))) fun v43 h44 =>
   C0.hop h44 (.ixAS .any 5 (.v (.lst a1)) (.v (iz x16))) fun v45 h46 =>
   C0.hop h46 (.load true 5 (.v v45)) fun v47 h48 =>
   C0.agg 5 (some v47) fun l49 =>
   C0.any l49[0]? fun v50 =>
   C0.int .i64 l49[1]? fun x51 =>
   C0.int .i64 l49[2]? fun x52 =>
   C0.int .i64 l49[3]? fun x53 =>
   C0.int .i64 l49[4]? fun x54 =>
   C0.hop h48 (.alloc E30) fun v55 h56 =>
   C0.hop h56 (.store 5 (.v v55) (.v (.agg [v50, (iz x51), (iz x52), (iz x53), (iz x54)]))) fun v57 h58 =>
   C0.hop h58 (.load true 5 (.v v41)) fun v59 h60 =>
   C0.agg 5 (some v59) fun l61 =>
   C0.any l61[0]? fun v62 =>
   C0.int .i64 l61[1]? fun x63 =>
   C0.int .i64 l61[2]? fun x64 =>
   C0.int .i64 l61[3]? fun x65 =>
   C0.int .i64 l61[4]? fun x66 =>
   C0.hop h60 (.load true 5 (.v v55)) fun v67 h68 =>
   C0.agg 5 (some v67) fun l69 =>
   C0.any l69[0]? fun v70 =>
   C0.int .i64 l69[1]? fun x71 =>
   C0.int .i64 l69[2]? fun x72 =>
   C0.int .i64 l69[3]? fun x73 =>
   C0.int .i64 l69[4]? fun x74 =>
   C0.snp h68 [(.agg [v62, (iz x63), (iz x64), (iz x65), (iz x66)]), (.agg [v70, (iz x71), (iz x72), (iz x73), (iz x74)])] fun l75 b76 =>
   C0.bool (pcall M d 34 l75) fun b77 =>
   cnd (b76 || true)
   (cnd (!b77)
   (E33f34_0 d a0 a1 x8 false h68)
   (L33f34_0 d a0 a1 x8 n (IntKind.wrap .i64 (x16 + 1)) h68))
   (none))
   (X33f34_0_0 d a0 a1 x8 H)
theorem L33f34_0_s (d : Nat) (a0 a1 : List AV) (x8 : Int) (n : Nat) (x16 : Int) (H : Heap) : L33f34_0 d a0 a1 x8 (n + 1) x16 H = (cnd (decide (x16 < x8))
   (C0.hop H (.ixAS .any 5 (.v (.lst a0)) (.v (iz x16))) fun v31 h32 =>
   C0.hop h32 (.load true 5 (.v v31)) fun v33 h34 =>
   C0.agg 5 (some v33) fun l35 =>
   C0.any l35[0]? fun v36 =>
   C0.int .i64 l35[1]? fun x37 =>
   C0.int .i64 l35[2]? fun x38 =>
   C0.int .i64 l35[3]? fun x39 =>
   C0.int .i64 l35[4]? fun x40 =>
   C0.hop h34 (.alloc E30) fun v41 h42 =>
   C0.hop h42 (.store 5 (.v v41) (.v (.agg [v36, (iz x37), (iz x38), (iz x39), (iz x40)]))) fun v43 h44 =>
   C0.hop h44 (.ixAS .any 5 (.v (.lst a1)) (.v (iz x16))) fun v45 h46 =>
   C0.hop h46 (.load true 5 (.v v45)) fun v47 h48 =>
   C0.agg 5 (some v47) fun l49 =>
   C0.any l49[0]? fun v50 =>
   C0.int .i64 l49[1]? fun x51 =>
   C0.int .i64 l49[2]? fun x52 =>
   C0.int .i64 l49[3]? fun x53 =>
   C0.int .i64 l49[4]? fun x54 =>
   C0.hop h48 (.alloc E30) fun v55 h56 =>
   C0.hop h56 (.store 5 (.v v55) (.v (.agg [v50, (iz x51), (iz x52), (iz x53), (iz x54)]))) fun v57 h58 =>
   C0.hop h58 (.load true 5 (.v v41)) fun v59 h60 =>
   C0.agg 5 (some v59) fun l61 =>
   C0.any l61[0]? fun v62 =>
   C0.int .i64 l61[1]? fun x63 =>
   C0.int .i64 l61[2]? fun x64 =>
   C0.int .i64 l61[3]? fun x65 =>
   C0.int .i64 l61[4]? fun x66 =>
   C0.hop h60 (.load true 5 (.v v55)) fun v67 h68 =>
   C0.agg 5 (some v67) fun l69 =>
   C0.any l69[0]? fun v70 =>
   C0.int .i64 l69[1]? fun x71 =>
   C0.int .i64 l69[2]? fun x72 =>
   C0.int .i64 l69[3]? fun x73 =>
   C0.int .i64 l69[4]? fun x74 =>
   C0.snp h68 [(.agg [v62, (iz x63), (iz x64), (iz x65), (iz x66)]), (.agg [v70, (iz x71), (iz x72), (iz x73), (iz x74)])] fun l75 b76 =>
   C0.bool (pcall M d 34 l75) fun b77 =>
   cnd (b76 || true)
   (cnd (!b77)
   (E33f34_0 d a0 a1 x8 false h68)
   (L33f34_0 d a0 a1 x8 n (IntKind.wrap .i64 (x16 + 1)) h68))
   (none))
   (X33f34_0_0 d a0 a1 x8 H)) := by kernel_rfl
theorem it33f34_0 (d : Nat) (a0 a1 : List AV) (x2 x5 x8 : Int)   : ∀ (n : Nat) (b12 : Bool) (v13 v14 v15 : AV) (x16 : Int) (v17 v18 v19 v20 v21 v22 v23 v24 v25 v26 v27 v28 v29 v30 : AV) (H : Heap), C0.iter (r33f34R0 C0 d a0 a1 x2 x5 x8) n ⟨[(.lst a0), (.lst a1), (.fn 34 [] []), tz, tz, tz, (.bool b12), v13, v14, v15, (.lst a0), (iz x2), (.lst a1), (iz x5), bf, (.lst a0), (iz x8), (iz x16), v17, v18, v19, v20, v21, v22, v23, v24, v25, v26, v27, v28, v29, v30], H⟩ [0] [r33f34X0_0 C0 d a0 a1 x2 x5 x8] (r33f34E0 C0 d a0 a1 x2 x5 x8) = L33f34_0 d a0 a1 x8 n x16 H := by
  generalize hR : r33f34R0 C0 d a0 a1 x2 x5 x8 = R
  intro n
  induction n with
  | zero => intros; rfl
  | succ n ih =>
    intro b12 v13 v14 v15 x16 v17 v18 v19 v20 v21 v22 v23 v24 v25 v26 v27 v28 v29 v30 H
    simp only [it_ret] at ih
    rw [it_ret, xiter_s]
    refine Eq.trans (congrFun (congrFun hR.symm _) _) ?_
    unfold r33f34R0
    refine Eq.trans (pl_len (by rfl)) ?_; (iterate 6 (refine yt yS ?_)); refine yt yB ?_; (iterate 3 (refine yt yA ?_)); (iterate 7 (refine yt yS ?_)); refine yt yI ?_; (iterate 14 (refine yt yA ?_))
    simp only [kIter_n, kIter_x, kIter_r, kOut_x, kOut_r, xgo_hit, xgo_miss, ih, X33f34_0_0_ok d a0 a1 x2 x5 x8  , E33f34_0_ok d a0 a1 x2 x5 x8  ]
    exact (L33f34_0_s d a0 a1 x8 n x16 H).symm
/-- slices.EqualFunc[[]apogee/api.Phase,[]apogee/api.Phase,apogee/api.Phase,apogee/api.Phase] -/
theorem q33f34 (d : Nat) (a0 a1 : List AV) (a2 : AV) : xcall C0 M unr d 33 [(.lst a0), (.lst a1), (.fn 34 [] [])] =
  C0.hop [] (.bk .lenV [(.v (.lst a0))]) fun v0 h1 =>
  C0.int .i64 (some v0) fun x2 =>
  C0.hop h1 (.bk .lenV [(.v (.lst a1))]) fun v3 h4 =>
  C0.int .i64 (some v3) fun x5 =>
  cnd (x2 != x5)
   (C0.fin h4 bf)
   (C0.hop h4 (.bk .lenV [(.v (.lst a0))]) fun v6 h7 =>
   C0.int .i64 (some v6) fun x8 =>
   L33f34_0 d a0 a1 x8 10000000000000000000 0 h7) := (r33f34 C0 d a0 a1 a2).trans (by simp only [it33f34_0])
end Go.Proofs.Ytffiilnmfmkpmaa.AE

namespace Go.Proofs.Ytffiilnmfmkpmaa.AE
set_option linter.unusedVariables false
set_option linter.unusedSimpArgs false
set_option linter.constructorNameAsVariable false
open Go Go.Proofs.Ytffiilnmfmkpmaa.Geo
attribute [local irreducible] pcall C0
set_option maxRecDepth 100000
structure Phs where
  ps : List Pt
  g : Int
  v : Int
  m : Int
  u : Int
abbrev phA (p : Phs) : AV := .agg [.lst (p.ps.map pt), .int .i64 p.g, .int .i64 p.v, .int .i64 p.m, .int .i64 p.u]
structure Rul where
  phs : List Phs
  n : Int
  d : Int
  gr : Int
  eps : Int
  st : Int
  age : Int
  lift : Int
  saf : Int
abbrev rl (r : Rul) : AV := .agg [.lst (r.phs.map phA), .int .i64 r.n, .int .i64 r.d, .int .i64 r.gr, .int .i64 r.eps, .int .i64 r.st, .int .i64 r.age, .int .i64 r.lift, .int .i64 r.saf]
theorem rows_phs : ∀ l : List AV, (∀ x ∈ l, ∃ cs, x = .agg cs ∧ CTall [(.sl true [(.i .i64), (.i .i64)]), (.i .i64), (.i .i64), (.i .i64), (.i .i64)] cs) → ∃ ps : List Phs, l = ps.map phA
  | [], _ => ⟨[], rfl⟩
  | x :: l, h => by
    obtain ⟨ps, rfl⟩ := rows_phs l fun y hy => h y (List.mem_cons_of_mem _ hy)
    obtain ⟨_, rfl, _, _, rfl, ⟨r, rfl, hl, hx⟩, _, _, rfl, ⟨g, rfl, _⟩, _, _, rfl, ⟨w, rfl, _⟩, _, _, rfl, ⟨m, rfl, _⟩, _, _, rfl, ⟨u, rfl, _⟩, rfl⟩ := h x (List.mem_cons_self ..)
    obtain ⟨qs, rfl⟩ := rows_pts r hx
    exact ⟨⟨qs, g, w, m, u⟩ :: ps, rfl⟩
theorem ty_rul {v : AV} (h : TyOK true [(.sl true [(.sl true [(.i .i64), (.i .i64)]), (.i .i64), (.i .i64), (.i .i64), (.i .i64)]), (.i .i64), (.i .i64), (.i .i64), (.i .i64), (.i .i64), (.i .i64), (.i .i64), (.i .i64)] v) : ∃ r, v = rl r ∧ r.phs.length ≤ 9223372036854775807 := by
  obtain ⟨l, rfl, _, _, rfl, ⟨r, rfl, hl, hx⟩, _, _, rfl, ⟨a, rfl, _⟩, _, _, rfl, ⟨b, rfl, _⟩, _, _, rfl, ⟨c, rfl, _⟩, _, _, rfl, ⟨d, rfl, _⟩, _, _, rfl, ⟨e, rfl, _⟩, _, _, rfl, ⟨f, rfl, _⟩, _, _, rfl, ⟨g, rfl, _⟩, _, _, rfl, ⟨i, rfl, _⟩, rfl⟩ := h
  obtain ⟨ps, rfl⟩ := rows_phs r hx
  exact ⟨⟨ps, a, b, c, d, e, f, g, i⟩, rfl, by rw [← maxLen_eq]; simpa using hl⟩
theorem phs_at {l : List Phs} {i : Nat} (h : i < l.length) : (l.map phA)[i]? = some (phA l[i]) := by simp [List.getElem?_map, List.getElem?_eq_getElem h]
def fewX (l : List Phs) : Bool := l.all (fun p => decide (p.ps.length ≤ 12)) && decide (l.length ≤ 8)
theorem few_go (d : Nat) (l : List Phs) (hl : l.length ≤ 9223372036854775807) : ∀ (k i : Nat), i + k = l.length → ∀ f, k < f →
    L9_0 d (l.map phA) f (i : Nat) = some (.bool ((l.drop i).all (fun p => decide (p.ps.length ≤ 12)) && decide (l.length ≤ 8)))
  | 0, i, h, f + 1, _ => by
    rw [L9_0, decide_eq_false (by simp; omega), cnd_f, List.drop_of_length_le (by omega)]
    unfold X9_0_0
    simp
    omega
  | k + 1, i, h, f + 1, hf => by
    have hi : i < l.length := by omega
    rw [L9_0, decide_eq_true (by simp; omega), cnd_t, decide_eq_true (by omega), cnd_t, show (((i : Nat) : Int)).toNat = i by omega, phs_at hi]
    repeat with_reducible first | refine tt sh_ptr ?_ | refine tt sh_fptr ?_ | refine tt w2 ?_ | refine tt w3 ?_ | refine tt w8 ?_ | refine tt w9 ?_ | refine tt wf ?_ | refine tt wg ?_ | refine tt wh ?_ | refine tt wi ?_ | refine tt wj ?_ | refine tt wk ?_ | refine tt wl ?_ | refine tt wn ?_ | refine tt c_ort ?_ | refine tt c_nt ?_ | refine tt c_nf ?_ | refine tt (cnd_t _ _) ?_ | refine tt (cnd_f _ _) ?_ | refine tt w6 ?_ | refine tt w4 ?_ | refine tt w5 ?_ | refine tt w7 ?_ | refine tt wm ?_ | refine tt wo ?_ | refine tt wx ?_ | refine tt nil_ptr ?_ | refine tt len_lst ?_ | refine tt len_zsl ?_
    rw [List.drop_eq_getElem_cons hi, List.all_cons, List.length_map]
    by_cases c : l[i].ps.length ≤ 12
    · rw [decide_eq_false (show ¬ ((l[i].ps.length : Nat) : Int) > 12 by omega), cnd_f, decide_eq_true c, Bool.true_and, show IntKind.wrap .i64 (((i : Nat) : Int) + 1) = ((i + 1 : Nat) : Int) by rw [i64w]; omega]
      exact few_go d l hl k (i + 1) (by omega) f (by omega)
    · rw [decide_eq_true (show ((l[i].ps.length : Nat) : Int) > 12 by omega), cnd_t, decide_eq_false c]; rfl
theorem s9 (d : Nat) (r : Rul) (hl : r.phs.length ≤ 9223372036854775807) : pcall M (d + 1) 9 [rl r] = some (.bool (fewX r.phs)) := told (q9 d _ _ _ _ _ _ _ _ _) (by
  have := few_go d r.phs hl r.phs.length 0 (by omega) 10000000000000000000 (by omega)
  rw [List.drop_zero] at this
  exact this)
theorem few_t {l : List Phs} (h : fewX l = true) : (∀ p ∈ l, p.ps.length ≤ 12) ∧ l.length ≤ 8 := by
  unfold fewX at h
  simp only [Bool.and_eq_true, List.all_eq_true, decide_eq_true_iff] at h
  exact h
theorem s24 (d : Nat) (n a b : Int) : pcall M (d + 1) 24 [.int .i64 n, .int .i64 a, .int .i64 b] = some (.bool (decide (a ≤ n ∧ n ≤ b))) := told (r24 C0 d _ _ _) (by
  by_cases h : n ≥ a
  · rw [decide_eq_true h, cnd_t]; congr 2; rw [decide_eq_decide]; omega
  · rw [decide_eq_false h, cnd_f, decide_eq_false (by omega)])
theorem s28 (d : Nat) (n a b : Int) : pcall M (d + 1) 28 [.int .i64 n, .int .i64 a, .int .i64 b] = some (.bool (decide (a ≤ n ∧ n ≤ b))) := told (r28 C0 d _ _ _) (by
  by_cases h : n ≥ a
  · rw [decide_eq_true h, cnd_t]; congr 2; rw [decide_eq_decide]; omega
  · rw [decide_eq_false h, cnd_f, decide_eq_false (by omega)])
def RightPh (p : Phs) : Prop := rightB p.ps = true ∧ (1 ≤ p.g ∧ p.g ≤ 100) ∧ (1 ≤ p.v ∧ p.v ≤ 65536) ∧ (1 ≤ p.m ∧ p.m ≤ 1000000) ∧ (0 ≤ p.u ∧ p.u ≤ 1073741824)
instance (p : Phs) : Decidable (RightPh p) := by unfold RightPh; infer_instance
theorem s16 (d : Nat) (p : Phs) (hl : p.ps.length ≤ 140737488355328) : pcall M (d + 13) 16 [phA p] = some (.bool (decide (RightPh p))) := told (r16 C0 (d + 12) _ _ _ _ _) (by
  refine Eq.trans (pl_bool (s30 d p.ps hl)) ?_
  by_cases h : rightB p.ps = true
  rotate_left
  · refine Eq.trans (pl_f (Bool.eq_false_iff.mpr h)) ?_
    rw [decide_eq_false (fun k => h k.1)]
  · refine Eq.trans (pl_len h) ?_
    refine Eq.trans (pl_bool (s28 (d + 11) _ _ _)) ?_
    by_cases h1 : 1 ≤ p.g ∧ p.g ≤ 100
    rotate_left
    · rw [decide_eq_false h1, cnd_f, decide_eq_false (fun h => h1 h.2.1)]
    rw [decide_eq_true h1, cnd_t]
    refine Eq.trans (pl_bool (s28 (d + 11) _ _ _)) ?_
    by_cases h2 : 1 ≤ p.v ∧ p.v ≤ 65536
    rotate_left
    · rw [decide_eq_false h2, cnd_f, decide_eq_false (fun h => h2 h.2.2.1)]
    rw [decide_eq_true h2, cnd_t]
    refine Eq.trans (pl_bool (s24 (d + 11) _ _ _)) ?_
    by_cases h3 : 1 ≤ p.m ∧ p.m ≤ 1000000
    rotate_left
    · rw [decide_eq_false h3, cnd_f, decide_eq_false (fun h => h3 h.2.2.2.1)]
    rw [decide_eq_true h3, cnd_t]
    refine Eq.trans (pl_bool (s28 (d + 11) _ _ _)) ?_
    by_cases h4 : 0 ≤ p.u ∧ p.u ≤ 1073741824
    · rw [decide_eq_true h4, decide_eq_true ⟨h, h1, h2, h3, h4⟩]
    · rw [decide_eq_false h4, decide_eq_false (fun h => h4 h.2.2.2.2)])
end Go.Proofs.Ytffiilnmfmkpmaa.AE

namespace Go.Proofs.Ytffiilnmfmkpmaa.AE
set_option linter.unusedVariables false
set_option linter.unusedSimpArgs false
set_option linter.constructorNameAsVariable false
open Go Go.Proofs.Ytffiilnmfmkpmaa.Geo
attribute [local irreducible] pcall C0
set_option maxRecDepth 100000
def badX (p : Phs) : Bool := !decide (RightPh p)
theorem s26 (d : Nat) (p : Phs) (hl : p.ps.length ≤ 140737488355328) : pcall M (d + 14) 26 [phA p] = some (.bool (badX p)) := told (r26 C0 (d + 13) _ _ _ _ _) (by
  exact pl_bool (s16 d p hl))
end Go.Proofs.Ytffiilnmfmkpmaa.AE

namespace Go.Proofs.Ytffiilnmfmkpmaa.AE
set_option linter.unusedVariables false
set_option linter.unusedSimpArgs false
set_option linter.constructorNameAsVariable false
open Go Go.Proofs.Ytffiilnmfmkpmaa.Geo
theorem drop_vv {ps : List Pt} {i : Nat} (h : i < ps.length) : ps.drop i = vv ps i :: ps.drop (i + 1) := by
  rw [List.drop_eq_getElem_cons h]; unfold vv; rw [List.getD_eq_getElem?_getD, List.getElem?_eq_getElem h]; rfl
end Go.Proofs.Ytffiilnmfmkpmaa.AE

namespace Go.Proofs.Ytffiilnmfmkpmaa.AE
set_option linter.unusedVariables false
set_option linter.unusedSimpArgs false
set_option linter.constructorNameAsVariable false
open Go Go.Proofs.Ytffiilnmfmkpmaa.Geo
theorem pt_bne (p q : Pt) : (xor true ((p.1 == q.1) && ((p.2 == q.2) && true))) = !decide (p = q) := by
  have := pt_beq p q
  rw [← this]; cases ((p.1 == q.1) && ((p.2 == q.2) && true)) <;> rfl
theorem same0 (d : Nat) (ps qs : List Pt) (hl : ps.length ≤ 140737488355328) (he : ps.length = qs.length) : ∀ (m i f : Nat), i + m = ps.length → m < f →
    L29_0 d (ps.map pt) (qs.map pt) f (i : Nat) = some (.bool (decide (ps.drop i = qs.drop i))) := by
  intro m
  induction m with
  | zero =>
    intro i f hi hf
    obtain ⟨f, rfl⟩ : ∃ g, f = g + 1 := ⟨f - 1, by omega⟩
    rw [L29_0, decide_eq_false (by rw [pmap_len]; omega), cnd_f, List.drop_eq_nil_of_le (by omega), List.drop_eq_nil_of_le (by omega)]; rfl
  | succ m ih =>
    intro i f hi hf
    obtain ⟨f, rfl⟩ : ∃ g, f = g + 1 := ⟨f - 1, by omega⟩
    rw [L29_0, decide_eq_true (by rw [pmap_len]; omega), cnd_t, decide_eq_true (by omega), cnd_t, vv_at (by omega)]
    refine Eq.trans (pl_agg (by rfl) (by rfl)) ?_; refine Eq.trans (pl_int (by rfl)) ?_; refine Eq.trans (pl_int (by rfl)) ?_
    rw [cnd_t, vv_at (show i < qs.length by omega)]
    refine Eq.trans (pl_agg (by rfl) (by rfl)) ?_; refine Eq.trans (pl_int (by rfl)) ?_; refine Eq.trans (pl_int (by rfl)) ?_
    rw [pt_bne, drop_vv (show i < ps.length by omega), drop_vv (show i < qs.length by omega)]
    by_cases h : vv ps i = vv qs i
    · rw [decide_eq_true h]
      refine Eq.trans (pl_f (by rfl)) ?_
      rw [show IntKind.wrap .i64 ((i : Int) + 1) = ((i + 1 : Nat) : Int) by rw [IntKind.wrap_i64]; omega, ih (i + 1) f (by omega) (by omega), h]
      simp
    · rw [decide_eq_false h]
      refine Eq.trans (pl_len (by rfl)) ?_
      rw [decide_eq_false (by simp [h])]; rfl
theorem s29 (d : Nat) (ps qs : List Pt) (hl : ps.length ≤ 140737488355328) (hq : qs.length ≤ 140737488355328) : pcall M (d + 1) 29 [.lst (ps.map pt), .lst (qs.map pt)] = some (.bool (decide (ps = qs))) := told (q29 d _ _) (by
  rw [pmap_len, pmap_len]
  by_cases h : ps.length = qs.length
  · rw [h, show (((qs.length : Nat) : Int) != ((qs.length : Nat) : Int)) = false by simp, cnd_f]
    exact same0 d ps qs hl h ps.length 0 10000000000000000000 (by omega) (by omega)
  · rw [show (((ps.length : Nat) : Int) != ((qs.length : Nat) : Int)) = true by simp; omega, cnd_t, decide_eq_false (fun e => h (by rw [e]))])
end Go.Proofs.Ytffiilnmfmkpmaa.AE

namespace Go.Proofs.Ytffiilnmfmkpmaa.AE
set_option linter.unusedVariables false
set_option linter.unusedSimpArgs false
set_option linter.constructorNameAsVariable false
open Go Go.Proofs.Ytffiilnmfmkpmaa.Geo
attribute [local irreducible] pcall C0
set_option maxRecDepth 100000
theorem clonePQ (d : Nat) : emptyQ (pcall M (d + 1)) 23 = some (.lst []) := by
  unfold emptyQ
  rw [show pcall M (d + 1) 23 [.zsl true] = some (.lst []) by kernel_rfl, show pcall M (d + 1) 23 [.emp] = some (.lst []) by kernel_rfl]
theorem cloneHQ (d : Nat) : emptyQ (pcall M (d + 1)) 32 = some (.lst []) := by
  unfold emptyQ
  rw [show pcall M (d + 1) 32 [.zsl true] = some (.lst []) by kernel_rfl, show pcall M (d + 1) 32 [.emp] = some (.lst []) by kernel_rfl]
theorem xmeth_ok2 {M : Mod} {U : FuncId → XU} {d n : Nat} {g : FuncId} {args : List AV} {H H' : Heap} {v : AV} (he : M.ext g = none) (hi : M.inl g = true) (hem : emptyR M (pcall M d) g args = none) (h : ∀ K, xmeth C0 M U d n g args H K = K v H') : callB M (pcall M d) (n + 1) true g args H = some (v, H') := by
  classical
  have hk := h fun v' H1 => if v' = v ∧ H1 = H' then some .undef else none
  rw [if_pos ⟨rfl, rfl⟩] at hk
  unfold xmeth at hk
  simp only [callB, he, hi, hem, if_true]
  cases hc : M.code g args.length with
  | none => simp [hc] at hk
  | some fn =>
    simp only [hc] at hk ⊢
    obtain ⟨v', H1, h1, h2⟩ := xrunFn_ok (xcallB_ok M U (pcall M d) n true) (xcallB_ok M U (pcall M d) n false) hk
    split at h2
    · rename_i hh
      obtain ⟨rfl, rfl⟩ := hh
      exact h1
    · cases h2
theorem padH_ok : ∀ (n : Nat) (S : Heap), padOk n (padH n ++ S) = true
  | 0, _ => rfl
  | n + 1, S => by
    change (Nat.beq junk.e.es 0 && !junk.els.isEmpty && padOk n (padH n ++ S)) = true
    rw [padH_ok n S]; rfl
theorem padH_l : ∀ n, (padH n).length = n
  | 0 => rfl
  | n + 1 => by change (padH n).length + 1 = _; rw [padH_l n]
theorem fr_of {g : FuncId} {args : List AV} {d n : Nat} {v : Nat → AV} {S : Nat → Heap} (he : M.ext g = none) (hi : M.inl g = true) (hf : M.fr g = true) (ha : args.all (noId DEPTH) = true)
    (h : ∀ H, callB M (pcall M d) (n + 1) true g args H = some (v H.length, H ++ S H.length)) (H : Heap) : callB M (pcall M d) (n + 1) false g args H = some (v H.length, H ++ S H.length) := by
  have h1 := h H
  have h2 := h (padH H.length)
  simp only [callB, he, hi, if_true] at h1 h2 ⊢
  cases hem : emptyR M (pcall M d) g args with
  | some w => rw [hem] at h1; exact h1
  | none =>
    rw [hem] at h2
    simp only [hf, ha, Bool.and_self] at h2 ⊢
    cases hc : M.code g args.length with
    | none => rw [hc] at h2; cases h2
    | some fn =>
      rw [hc] at h2
      simp only at h2 ⊢
      unfold freshRun
      rw [h2, padH_l]
      simp only [padH_ok]
      rw [List.drop_append_of_le_length (by rw [padH_l]; exact Nat.le_refl _), List.drop_of_length_le (by rw [padH_l]; exact Nat.le_refl _), List.nil_append]
theorem mk_n {H : Heap} {e : ETy} {K : AV → Heap → Ans} : C0.hop H (.mkrow e 0 []) K = K (.slc (H.length + 0) 0 0) (H ++ [some ⟨e, []⟩]) := hop_eq rfl
theorem mk_s {H S : Heap} {e : ETy} {K : AV → Heap → Ans} : C0.hop (H ++ S) (.mkrow e 0 []) K = K (.slc (H.length + S.length) 0 0) (H ++ (S ++ [some ⟨e, []⟩])) := by
  refine (hop_eq (v := .slc (H ++ S).length 0 0) (H' := (H ++ S) ++ [some ⟨e, []⟩]) rfl).trans ?_
  rw [List.length_append, List.append_assoc]
theorem ap_s {H S : Heap} {k : Nat} {e : ETy} {xs : List AV} {K : AV → Heap → Ans} (h : S[k]? = some (some ⟨e, []⟩)) (hx : xs.all (elOk e) = true) (hs : xs.length * e.bytes ≤ 140737488355328) (hs2 : xs.length ≤ 9223372036854775807) :
    C0.hop (H ++ S) (.app e (.v (.slc (H.length + k) 0 0)) (.v (.lst xs))) K = K (.slc (H.length + S.length) 0 xs.length) (H ++ (S.set k none ++ [some ⟨e, xs⟩])) := by
  refine (hop_eq (v := .slc (H ++ S).length 0 xs.length) (H' := (H ++ S).set (H.length + k) none ++ [some ⟨e, xs⟩]) ?_).trans ?_
  · simp only [aop, evO, elsOf, aApp]
    rw [hget_s h]
    simp only
    rw [if_pos ⟨rfl, by simpa using hs, by simpa using hs2, trivial, trivial, hx⟩]
    simp
  · rw [List.length_append, set_s, List.append_assoc]
theorem ix_s {H S : Heap} {k n es : Nat} {b : Blk} {q : Int} {K : AV → Heap → Ans} (h : S[k]? = some (some b)) (h0 : 0 ≤ q) (h1 : q < (n : Int)) (he : b.e.es = es) :
    C0.hop (H ++ S) (.ixAS .any es (.v (.slc (H.length + k) 0 n)) (.v (.int .i64 q))) K = K (.ptr (H.length + k) (0 + q.toNat) 0) (H ++ S) := ix_slc (hget_s h) h0 h1 he
theorem ln_s {H S : Heap} {k n : Nat} {b : Blk} {K : AV → Heap → Ans} (h : S[k]? = some (some b)) : C0.hop (H ++ S) (.bk .lenV [.v (.slc (H.length + k) 0 n)]) K = K (.int .i64 n) (H ++ S) := hop_eq (by simp only [aop, evO, lenOf]; rw [hget_s h])
def arV (L : Nat) (ps : List Pt) : AV := match ps with
  | [] => .lst []
  | p :: l => .slc (L + 1) 0 (p :: l).length
def arS (ps : List Pt) : Heap := match ps with
  | [] => []
  | p :: l => [none, some ⟨E39, (p :: l).map pt⟩]
theorem all_ptE (ps : List Pt) : (ps.map pt).all (elOk E39) = true := by
  rw [List.all_eq_true]; intro x hx; obtain ⟨p, _, rfl⟩ := List.mem_map.mp hx; rfl
theorem all_phE (ps : List Phs) : (ps.map phA).all (elOk E30) = true := by
  rw [List.all_eq_true]; intro x hx; obtain ⟨p, _, rfl⟩ := List.mem_map.mp hx; rfl
theorem cloneI (d n0 : Nat) (ps : List Pt) (hl : ps.length ≤ 1000000) (H : Heap) : callB M (pcall M (d + 1)) (n0 + 9) true 23 [.lst (ps.map pt)] H = some (arV H.length ps, H ++ arS ps) := by
  cases ps with
  | nil =>
    have he : M.ext 23 = none := rfl
    have hi : M.inl 23 = true := rfl
    have hem : emptyR M (pcall M (d + 1)) 23 [.lst (List.map pt [])] = some (.lst []) := by
      have hc : M.cl 23 = true := rfl
      simp only [emptyR, hc]
      change emptyQ (pcall M (d + 1)) 23 = _
      exact clonePQ d
    simp only [callB, he, hi, hem, if_true]
    simp [arV, arS]
  | cons p l =>
    refine xmeth_ok2 (U := unr) (n := n0 + 8) rfl rfl (by rw [emptyR, show M.cl 23 = true from rfl]; rfl) fun K => ?_
    refine (r23 C0 (d + 1) _ n0 _ K).trans ?_
    refine Eq.trans (hop_eq (v := .bool false) (H' := H) (by rfl)) ?_
    refine Eq.trans (pl_bool rfl) ?_
    rw [cnd_f]
    refine Eq.trans mk_n ?_
    refine Eq.trans (ap_s (by rfl) (all_ptE _) (by rw [List.length_map, show (E39).bytes = 16 from rfl]; omega) (by rw [List.length_map]; omega)) ?_
    rw [List.length_map]; rfl
theorem cloneF (d n0 : Nat) (ps : List Pt) (hl : ps.length ≤ 1000000) (H : Heap) : callB M (pcall M (d + 1)) (n0 + 9) false 23 [.lst (ps.map pt)] H = some (arV H.length ps, H ++ arS ps) :=
  fr_of (v := fun L => arV L ps) (S := fun _ => arS ps) rfl rfl rfl rfl (cloneI d n0 ps hl) H
end Go.Proofs.Ytffiilnmfmkpmaa.AE

namespace Go.Proofs.Ytffiilnmfmkpmaa.AE
set_option linter.unusedVariables false
set_option linter.unusedSimpArgs false
set_option linter.constructorNameAsVariable false
open Go Go.Proofs.Ytffiilnmfmkpmaa.Geo
attribute [local irreducible] pcall C0
set_option maxRecDepth 100000
abbrev phX (v : AV) (p : Phs) : AV := .agg [v, .int .i64 p.g, .int .i64 p.v, .int .i64 p.m, .int .i64 p.u]
abbrev rlX (v : AV) (r : Rul) : AV := .agg [v, .int .i64 r.n, .int .i64 r.d, .int .i64 r.gr, .int .i64 r.eps, .int .i64 r.st, .int .i64 r.age, .int .i64 r.lift, .int .i64 r.saf]
def arsC : List Phs → Heap
  | [] => []
  | p :: l => arS p.ps ++ arsC l
def elsC : Nat → List Phs → List AV
  | _, [] => []
  | L, p :: l => phX (arV L p.ps) p :: elsC (L + (arS p.ps).length) l
theorem arsC_app : ∀ a b, arsC (a ++ b) = arsC a ++ arsC b
  | [], b => rfl
  | p :: l, b => by rw [List.cons_append, arsC, arsC, arsC_app l b, List.append_assoc]
theorem elsC_snoc : ∀ (l : List Phs) (L : Nat) (p : Phs), elsC L (l ++ [p]) = elsC L l ++ [phX (arV (L + (arsC l).length) p.ps) p]
  | [], L, p => rfl
  | q :: l, L, p => by
    rw [List.cons_append, elsC, elsC, elsC_snoc l, arsC, List.length_append, List.cons_append, Nat.add_assoc]
theorem elsC_len : ∀ (l : List Phs) (L : Nat), (elsC L l).length = l.length
  | [], L => rfl
  | q :: l, L => by rw [elsC, List.length_cons, elsC_len l, List.length_cons]
theorem arV_sc (L : Nat) (ps : List Pt) : (arV L ps).cells = [arV L ps] ∧ isSc (arV L ps) = true := by cases ps <;> exact ⟨rfl, rfl⟩
def phV (L : Nat) (r : Rul) : AV := match r.phs with
  | [] => .lst []
  | p :: l => .slc (L + 3) 0 (p :: l).length
def cpS (L : Nat) (r : Rul) : Heap := match r.phs with
  | [] => [some ⟨E24, [rlX (.lst []) r]⟩, some ⟨E24, [rlX (.lst []) r]⟩]
  | p :: l => [some ⟨E24, [rlX (.slc (L + 3) 0 (p :: l).length) r]⟩, some ⟨E24, [rlX (.slc (L + 3) 0 (p :: l).length) r]⟩, none, some ⟨E30, elsC (L + 4) (p :: l)⟩] ++ arsC (p :: l)
theorem take_snoc {l : List Phs} {i : Nat} (h : i < l.length) : l.take (i + 1) = l.take i ++ [l[i]] := by rw [List.take_add_one, List.getElem?_eq_getElem h]; rfl
theorem els_at {L i : Nat} {l : List Phs} (h : i < l.length) : (elsC L (l.take i) ++ (l.drop i).map phA)[i]? = some (phA l[i]) := by
  rw [List.getElem?_append_right (by rw [elsC_len, List.length_take]; omega), elsC_len, List.length_take, show i - min i l.length = 0 by omega, List.drop_eq_getElem_cons h]; rfl
theorem els_set {L i : Nat} {l : List Phs} (h : i < l.length) : (elsC L (l.take i) ++ (l.drop i).map phA).set i (phX (arV (L + (arsC (l.take i)).length) l[i].ps) l[i]) = elsC L (l.take (i + 1)) ++ (l.drop (i + 1)).map phA := by
  have e : i = (elsC L (l.take i)).length := by rw [elsC_len, List.length_take]; omega
  rw [List.set_append_right _ _ (by omega), show i - (elsC L (l.take i)).length = 0 by omega, List.drop_eq_getElem_cons h, take_snoc h, elsC_snoc]
  simp only [List.map_cons, List.set_cons_zero, List.append_assoc, List.singleton_append]
theorem put_ar {x y : AV} {p : Phs} (h1 : x.cells = [x]) (h2 : isSc x = true) : putSub 1 (0 + 0) x (phX y p) = some (phX x p) := by
  simp only [putSub]
  rw [if_pos ⟨by simp, by rw [h1]; rfl, by rw [h1]; simp [h2]⟩, h1]; rfl
theorem copy_go (d n0 : Nat) (H : Heap) (K : AV → Heap → Ans) (r : Rul) (hl : r.phs.length ≤ 1000000) (ha : ∀ p ∈ r.phs, p.ps.length ≤ 1000000) (B1 : Blk) (hB1 : ∃ v, B1 = ⟨E24, [rlX v ⟨[], 0, 0, 0, 0, 0, 0, 0, 0⟩]⟩) : ∀ (k i : Nat), i + k = r.phs.length → ∀ f, k < f →
    L18_4 (d + 1) (n0 + 1) K (.ptr (H.length + 0) 0 0) (.ptr (H.length + 1) 0 0) (r.phs.length : Nat) f (i : Nat)
      (H ++ ([some ⟨E24, [rlX (.slc (H.length + 3) 0 r.phs.length) r]⟩, some B1, none, some ⟨E30, elsC (H.length + 4) (r.phs.take i) ++ (r.phs.drop i).map phA⟩] ++ arsC (r.phs.take i))) =
    K (rlX (.slc (H.length + 3) 0 r.phs.length) r) (H ++ ([some ⟨E24, [rlX (.slc (H.length + 3) 0 r.phs.length) r]⟩, some ⟨E24, [rlX (.slc (H.length + 3) 0 r.phs.length) r]⟩, none, some ⟨E30, elsC (H.length + 4) r.phs⟩] ++ arsC r.phs))
  | 0, i, h, f + 1, _ => by
    obtain ⟨bv, rfl⟩ := hB1
    rw [L18_4_s, decide_eq_false (by omega), cnd_f]
    rw [List.take_of_length_le (by omega), List.drop_of_length_le (by omega), List.map_nil, List.append_nil]
    unfold X18_4_0
    refine Eq.trans (ld_s (by rfl) (by rfl) (by rfl)) ?_; refine Eq.trans (pl_agg (by rfl) (by rfl)) ?_; refine Eq.trans (pl_any (by rfl)) ?_; refine Eq.trans (pl_int (by rfl)) ?_; refine Eq.trans (pl_int (by rfl)) ?_; refine Eq.trans (pl_int (by rfl)) ?_; refine Eq.trans (pl_int (by rfl)) ?_; refine Eq.trans (pl_int (by rfl)) ?_; refine Eq.trans (pl_int (by rfl)) ?_; refine Eq.trans (pl_int (by rfl)) ?_; refine Eq.trans (pl_int (by rfl)) ?_; refine Eq.trans (st_s (by rfl) (by rfl) (by rfl)) ?_; refine Eq.trans (ld_s (by rfl) (by rfl) (by rfl)) ?_
    rfl
  | k + 1, i, h, f + 1, hf => by
    have hi : i < r.phs.length := by omega
    have hp := ha _ (List.getElem_mem hi)
    rw [L18_4_s, decide_eq_true (by omega), cnd_t]
    refine Eq.trans sh_ptr ?_; refine Eq.trans (ld_s (by rfl) (by rfl) (by rfl)) ?_; refine Eq.trans sh_ptr ?_; refine Eq.trans (ld_s (by rfl) (by rfl) (by rfl)) ?_
    refine Eq.trans (ix_s (by rfl) (by omega) (by omega) (by rfl)) ?_
    refine Eq.trans sh_ptr ?_
    refine Eq.trans (ld_s (v := .lst (r.phs[i].ps.map pt)) (by rfl) (show (elsC (H.length + 4) (r.phs.take i) ++ (r.phs.drop i).map phA)[0 + ((i : Nat) : Int).toNat]? = some (phA r.phs[i]) by rw [Nat.zero_add, Int.toNat_natCast]; exact els_at hi) (by rfl)) ?_
    refine Eq.trans (cal_eq (cloneF d n0 r.phs[i].ps hp _)) ?_
    refine Eq.trans (pl_any (by rfl)) ?_
    rw [List.append_assoc]
    refine Eq.trans (ix_s (by rfl) (by omega) (by omega) (by rfl)) ?_
    refine Eq.trans sh_ptr ?_
    have hsc := arV_sc (H ++ ([some ⟨E24, [rlX (.slc (H.length + 3) 0 r.phs.length) r]⟩, some B1, none, some ⟨E30, elsC (H.length + 4) (r.phs.take i) ++ (r.phs.drop i).map phA⟩] ++ arsC (r.phs.take i))).length r.phs[i].ps
    refine Eq.trans (st_s (el' := phX _ r.phs[i]) (by rfl) (show (elsC (H.length + 4) (r.phs.take i) ++ (r.phs.drop i).map phA)[0 + ((i : Nat) : Int).toNat]? = some (phA r.phs[i]) by rw [Nat.zero_add, Int.toNat_natCast]; exact els_at hi) (put_ar hsc.1 hsc.2)) ?_
    rw [Nat.zero_add, Int.toNat_natCast]
    rw [show (H ++ ([some ⟨E24, [rlX (.slc (H.length + 3) 0 r.phs.length) r]⟩, some B1, none, some ⟨E30, elsC (H.length + 4) (r.phs.take i) ++ (r.phs.drop i).map phA⟩] ++ arsC (r.phs.take i))).length = H.length + 4 + (arsC (r.phs.take i)).length by simp; omega]
    have ih := copy_go d n0 H K r hl ha B1 hB1 k (i + 1) (by omega) f (by omega)
    rw [← els_set hi, take_snoc hi, arsC_app] at ih
    rw [show IntKind.wrap .i64 (((i : Nat) : Int) + 1) = ((i + 1 : Nat) : Int) by rw [i64w]; omega]
    refine Eq.trans (congrArg _ ?_) ih
    simp [arsC]
theorem copyI (d n0 : Nat) (r : Rul) (hl : r.phs.length ≤ 1000000) (ha : ∀ p ∈ r.phs, p.ps.length ≤ 1000000) (H : Heap) : callB M (pcall M (d + 1)) (n0 + 10) true 18 [rl r] H = some (rlX (phV H.length r) r, H ++ cpS H.length r) := by
  refine xmeth_ok (U := unr) (n := n0 + 9) rfl rfl rfl fun K => ?_
  refine (q18 (d + 1) _ _ _ _ _ _ _ _ _ (n0 + 1) _ K).trans ?_
  refine Eq.trans (bx_n (by rfl)) ?_
  refine Eq.trans al_s ?_; refine Eq.trans sh_ptr ?_; refine Eq.trans (ld_s (by rfl) (by rfl) (by rfl)) ?_
  obtain ⟨phs, n, dd, gr, eps, st, age, lift, saf⟩ := r
  cases phs with
  | nil =>
    refine Eq.trans (pl_bool (n := true) (by rfl)) ?_
    rw [cnd_t]
    refine Eq.trans (pl_same (cloneHQ d)) ?_
    refine Eq.trans sh_ptr ?_; refine Eq.trans (st_s (by rfl) (by rfl) (by rfl)) ?_; refine Eq.trans sh_ptr ?_; refine Eq.trans (ld_s (by rfl) (by rfl) (by rfl)) ?_
    refine Eq.trans len_lst ?_
    refine Eq.trans (pl_int (by rfl)) ?_
    rw [show 10000000000000000000 = (9999999999999999999) + 1 from rfl, L18_0_s, decide_eq_false (by simp), cnd_f]
    unfold X18_0_0
    refine Eq.trans (ld_s (by rfl) (by rfl) (by rfl)) ?_; refine Eq.trans (pl_agg (by rfl) (by rfl)) ?_; refine Eq.trans (pl_any (by rfl)) ?_; refine Eq.trans (pl_int (by rfl)) ?_; refine Eq.trans (pl_int (by rfl)) ?_; refine Eq.trans (pl_int (by rfl)) ?_; refine Eq.trans (pl_int (by rfl)) ?_; refine Eq.trans (pl_int (by rfl)) ?_; refine Eq.trans (pl_int (by rfl)) ?_; refine Eq.trans (pl_int (by rfl)) ?_; refine Eq.trans (pl_int (by rfl)) ?_; refine Eq.trans (st_s (by rfl) (by rfl) (by rfl)) ?_; refine Eq.trans (ld_s (by rfl) (by rfl) (by rfl)) ?_
    rfl
  | cons q l =>
    refine Eq.trans (pl_bool (n := false) (by rfl)) ?_
    rw [cnd_f]
    refine Eq.trans (hop_eq (by rfl)) ?_; refine Eq.trans (pl_bool (by rfl)) ?_
    refine Eq.trans (pl_f (by rfl)) ?_
    refine Eq.trans mk_s ?_
    refine Eq.trans (ap_s (by rfl) (all_phE _) (by change (q :: l).length ≤ _ at hl; rw [List.length_map, show (E30).bytes = 56 from rfl]; change (q :: l).length * 56 ≤ _; omega) (by change (q :: l).length ≤ _ at hl; rw [List.length_map]; change (q :: l).length ≤ _; omega)) ?_
    rw [List.length_map]
    refine Eq.trans sh_ptr ?_; refine Eq.trans (st_s (by rfl) (by rfl) (by rfl)) ?_; refine Eq.trans sh_ptr ?_; refine Eq.trans (ld_s (by rfl) (by rfl) (by rfl)) ?_
    refine Eq.trans (ln_s (by rfl)) ?_
    refine Eq.trans (pl_int (by rfl)) ?_
    have := copy_go d n0 H K ⟨q :: l, n, dd, gr, eps, st, age, lift, saf⟩ hl ha ⟨E24, [(E24).zero]⟩ ⟨.zsl true, rfl⟩ (q :: l).length 0 (by simp) 10000000000000000000 (by change (q :: l).length ≤ _ at hl; omega)
    refine Eq.trans ?_ this
    rfl
theorem copyF (d n0 : Nat) (r : Rul) (hl : r.phs.length ≤ 1000000) (ha : ∀ p ∈ r.phs, p.ps.length ≤ 1000000) (H : Heap) : callB M (pcall M (d + 1)) (n0 + 10) false 18 [rl r] H = some (rlX (phV H.length r) r, H ++ cpS H.length r) :=
  fr_of (v := fun L => rlX (phV L r) r) (S := fun L => cpS L r) rfl rfl rfl rfl (copyI d n0 r hl ha) H
end Go.Proofs.Ytffiilnmfmkpmaa.AE

namespace Go.Proofs.Ytffiilnmfmkpmaa.AE
set_option linter.unusedVariables false
set_option linter.unusedSimpArgs false
set_option linter.constructorNameAsVariable false
open Go Go.Proofs.Ytffiilnmfmkpmaa.Geo
attribute [local irreducible] pcall C0
set_option maxRecDepth 100000
/-- A copied row of places, in memory from lo on, ahead of hi. -/
def ArOf (H : Heap) (lo hi : Nat) (av : AV) (ps : List Pt) : Prop := (ps = [] ∧ av = .lst []) ∨ ∃ id, lo ≤ id ∧ id < hi ∧ av = .slc id 0 ps.length ∧ hget H id = some ⟨E39, ps.map pt⟩
/-- Copied phases. -/
def CpOf (H : Heap) (lo hi : Nat) (v : AV) (l : List Phs) : Prop := (l = [] ∧ v = .lst []) ∨ ∃ id els, lo ≤ id ∧ id < hi ∧ v = .slc id 0 l.length ∧ hget H id = some ⟨E30, els⟩ ∧ els.length = l.length ∧
  ∀ (i : Nat) (p : Phs), l[i]? = some p → ∃ av, els[i]? = some (phX av p) ∧ ArOf H (id + 1) hi av p.ps
theorem ar_mono {H H' : Heap} {lo lo' hi hi' : Nat} {av : AV} {ps : List Pt} (h : ArOf H lo hi av ps) (h1 : lo' ≤ lo) (h2 : hi ≤ hi') (hk : ∀ id b, lo ≤ id → id < hi → hget H id = some b → hget H' id = some b) : ArOf H' lo' hi' av ps := by
  rcases h with h | ⟨id, a, b, c, d⟩
  · exact .inl h
  · exact .inr ⟨id, by omega, by omega, c, hk _ _ a b d⟩
theorem cp_mono {H H' : Heap} {lo lo' hi hi' : Nat} {v : AV} {l : List Phs} (h : CpOf H lo hi v l) (h1 : lo' ≤ lo) (h2 : hi ≤ hi') (hk : ∀ id b, lo ≤ id → id < hi → hget H id = some b → hget H' id = some b) : CpOf H' lo' hi' v l := by
  rcases h with h | ⟨id, els, a, b, c, d, e, f⟩
  · exact .inl h
  · refine .inr ⟨id, els, by omega, by omega, c, hk _ _ a b d, e, fun i p hp => ?_⟩
    obtain ⟨av, g1, g2⟩ := f i p hp
    exact ⟨av, g1, ar_mono g2 (Nat.le_refl _) h2 fun id' b' x y z => hk id' b' (by omega) y z⟩
theorem els_all : ∀ (l : List Phs) (pre : Heap) (i : Nat) (p : Phs), l[i]? = some p → ∃ av, (elsC pre.length l)[i]? = some (phX av p) ∧ ArOf (pre ++ arsC l) pre.length (pre ++ arsC l).length av p.ps
  | [], _, _, _, h => by simp at h
  | q :: l, pre, 0, p, h => by
    simp only [List.getElem?_cons_zero, Option.some.injEq] at h
    subst h
    refine ⟨arV pre.length q.ps, rfl, ?_⟩
    cases hq : q.ps with
    | nil => exact .inl ⟨rfl, rfl⟩
    | cons a b =>
      refine .inr ⟨pre.length + 1, by omega, ?_, rfl, ?_⟩
      · rw [arsC, hq]; simp [arS]
      · rw [arsC, hq]; exact hget_s rfl
  | q :: l, pre, i + 1, p, h => by
    simp only [List.getElem?_cons_succ] at h
    obtain ⟨av, h1, h2⟩ := els_all l (pre ++ arS q.ps) i p h
    refine ⟨av, ?_, ?_⟩
    · rw [elsC, List.getElem?_cons_succ, ← h1, List.length_append]
    · rw [arsC, ← List.append_assoc]
      exact ar_mono h2 (by simp) (Nat.le_refl _) fun _ _ _ _ x => x
theorem cp_copy (H : Heap) (r : Rul) : CpOf (H ++ cpS H.length r) H.length (H ++ cpS H.length r).length (phV H.length r) r.phs := by
  obtain ⟨phs, n, dd, gr, eps, st, age, lift, saf⟩ := r
  cases phs with
  | nil => exact .inl ⟨rfl, rfl⟩
  | cons q l =>
    refine .inr ⟨H.length + 3, elsC (H.length + 4) (q :: l), by omega, by simp [cpS], rfl, hget_s rfl, elsC_len _ _, fun i p hp => ?_⟩
    have := els_all (q :: l) (H ++ [some ⟨E24, [rlX (.slc (H.length + 3) 0 (q :: l).length) ⟨q :: l, n, dd, gr, eps, st, age, lift, saf⟩]⟩, some ⟨E24, [rlX (.slc (H.length + 3) 0 (q :: l).length) ⟨q :: l, n, dd, gr, eps, st, age, lift, saf⟩]⟩, none, some ⟨E30, elsC (H.length + 4) (q :: l)⟩]) i p hp
    rw [List.append_assoc] at this
    obtain ⟨av, h1, h2⟩ := this
    refine ⟨av, ?_, ar_mono h2 (by simp) (Nat.le_refl _) fun _ _ _ _ x => x⟩
    rw [← h1]; simp
theorem snap_agg (k : Nat) (H : Heap) (cs : List AV) : snap (k + 1) H (.agg cs) = .agg (cs.map (snap k H)) := rfl
theorem snap_int (k : Nat) (H : Heap) (a : IntKind) (b : Int) : snap (k + 1) H (.int a b) = .int a b := rfl
theorem snap_slc {H : Heap} {id k : Nat} {e : ETy} {els l : List AV} (h : hget H id = some ⟨e, els⟩) (hl : els.map (snap (k + 1) H) = l) : snap (k + 2) H (.slc id 0 els.length) = .lst l := by
  simp only [snap, h]
  rw [if_neg (by omega), if_pos (by simp)]
  simp only [List.drop_zero, List.take_length]
  exact congrArg AV.lst hl
theorem snap_pts (k : Nat) (H : Heap) (ps : List Pt) : (ps.map pt).map (snap (k + 2) H) = ps.map pt := by
  rw [List.map_map]; rfl
theorem snap_ar {H : Heap} {lo hi k : Nat} {av : AV} {ps : List Pt} (h : ArOf H lo hi av ps) : snap (k + 3) H av = .lst (ps.map pt) := by
  rcases h with ⟨rfl, rfl⟩ | ⟨id, _, _, rfl, h⟩
  · rfl
  · have := snap_slc (k := k + 1) h (snap_pts k H ps)
    rwa [List.length_map] at this
theorem snap_cp {H : Heap} {lo hi k : Nat} {v : AV} {l : List Phs} (h : CpOf H lo hi v l) : snap (k + 5) H v = .lst (l.map phA) := by
  rcases h with ⟨rfl, rfl⟩ | ⟨id, els, _, _, rfl, h, hl, hf⟩
  · rfl
  · rw [← hl]
    refine snap_slc (k := k + 3) h ?_
    apply List.ext_getElem?
    intro i
    rw [List.getElem?_map, List.getElem?_map]
    cases hp : l[i]? with
    | none => rw [List.getElem?_eq_none (by rw [hl]; exact List.getElem?_eq_none_iff.mp hp)]; rfl
    | some p =>
      obtain ⟨av, h1, h2⟩ := hf i p hp
      rw [h1]
      rw [Option.map_some, Option.map_some, snap_agg]
      simp only [List.map_cons, List.map_nil, snap_int]
      rw [snap_ar h2]
theorem snap_rl {H : Heap} {lo hi : Nat} {v : AV} {r : Rul} (h : CpOf H lo hi v r.phs) : snap 12 H (rlX v r) = rl r := by
  rw [snap_agg]
  simp only [List.map_cons, List.map_nil, snap_int]
  rw [snap_cp (k := 6) h]
theorem snap_rl0 {H : Heap} {r : Rul} : snap 12 H (rl r) = rl r := rfl
theorem no_cp {H : Heap} {lo hi k : Nat} {v : AV} {l : List Phs} (h : CpOf H lo hi v l) : v = .lst [] ∧ l = [] ∨ noId (k + 1) v = false := by
  rcases h with ⟨h1, h2⟩ | ⟨id, els, _, _, rfl, _⟩
  · exact .inl ⟨h2, h1⟩
  · exact .inr rfl
theorem finB {H : Heap} {b : Bool} : C0.fin H (.bool b) = some (.bool b) := by rw [C0_fin]; rfl
theorem al_st {G : Heap} {e : ETy} {n : Nat} {x : AV} {K : AV → AV → Heap → Ans} (h : putSub n 0 x e.zero = some x) : (C0.hop G (.alloc e) fun p h => C0.hop h (.store n (.v p) (.v x)) fun u h' => K p u h') = K (.ptr G.length 0 0) .undef (G ++ [some ⟨e, [x]⟩]) := by
  refine Eq.trans (hop_eq rfl) ?_
  refine Eq.trans (st_ptr hget_new rfl h) ?_
  rw [List.set_append_right _ _ (Nat.le_refl _)]
  simp
theorem len_cp {H : Heap} {lo hi : Nat} {v : AV} {l : List Phs} {K : AV → Heap → Ans} (h : CpOf H lo hi v l) : C0.hop H (.bk .lenV [.v v]) K = K (.int .i64 l.length) H := by
  rcases h with ⟨rfl, rfl⟩ | ⟨id, els, _, _, rfl, h, _⟩
  · exact len_lst
  · exact hop_eq (by simp only [aop, evO, lenOf]; rw [h])
theorem snp_cp2 {H : Heap} {lo hi : Nat} {v : AV} {r q : Rul} (h : CpOf H lo hi v r.phs) : ∃ b, ∀ K : List AV → Bool → Ans, C0.snp H [rlX v r, rl q] K = K [rl r, rl q] b := by
  rcases no_cp (k := 10) h with ⟨h1, h2⟩ | h1
  · refine ⟨true, fun K => ?_⟩
    rw [h1]
    rw [snp_free (by rfl)]
    obtain ⟨phs, n, dd, gr, eps, st, age, lift, saf⟩ := r
    change phs = [] at h2
    subst h2; rfl
  · refine ⟨false, fun K => ?_⟩
    rw [snp_id (by change ((noId 11 v && _) && _) = false; rw [h1]; rfl)]
    simp only [List.map_cons, List.map_nil]
    rw [show DEPTH = 12 from rfl, snap_rl h, snap_rl0]
theorem snp_cp3 {H : Heap} {lo hi : Nat} {v : AV} {r q : Rul} (h : CpOf H lo hi v r.phs) : ∃ b, ∀ K : List AV → Bool → Ans, C0.snp H [rl q, rlX v r] K = K [rl q, rl r] b := by
  rcases no_cp (k := 10) h with ⟨h1, h2⟩ | h1
  · refine ⟨true, fun K => ?_⟩
    rw [h1]
    rw [snp_free (by rfl)]
    obtain ⟨phs, n, dd, gr, eps, st, age, lift, saf⟩ := r
    change phs = [] at h2
    subst h2; rfl
  · refine ⟨false, fun K => ?_⟩
    rw [snp_id (by change (_ && ((noId 11 v && _) && true)) = false; rw [h1]; simp)]
    simp only [List.map_cons, List.map_nil]
    rw [show DEPTH = 12 from rfl, snap_rl h, snap_rl0]
end Go.Proofs.Ytffiilnmfmkpmaa.AE

namespace Go.Proofs.Ytffiilnmfmkpmaa.AE
set_option linter.unusedVariables false
set_option linter.unusedSimpArgs false
set_option linter.constructorNameAsVariable false
open Go Go.Proofs.Ytffiilnmfmkpmaa.Geo
attribute [local irreducible] pcall C0
set_option maxRecDepth 100000
def sameP (p q : Phs) : Bool := decide (p.ps = q.ps) && (p.g == q.g && (p.v == q.v && (p.m == q.m && p.u == q.u)))
def sameL : List Phs → List Phs → Bool
  | [], [] => true
  | p :: l, q :: m => sameP p q && sameL l m
  | _, _ => false
def sameI (a b : Rul) : Bool := a.n == b.n && (a.d == b.d && (a.gr == b.gr && (a.eps == b.eps && (a.st == b.st && (a.age == b.age && (a.lift == b.lift && a.saf == b.saf))))))
def sameX (a b : Rul) : Bool := sameL a.phs b.phs && sameI a b
theorem sameP_r (p : Phs) : sameP p p = true := by simp [sameP]
theorem sameL_r : ∀ l, sameL l l = true
  | [] => rfl
  | p :: l => by rw [sameL, sameP_r, sameL_r l]; rfl
theorem sameI_r (a : Rul) : sameI a a = true := by simp [sameI]
theorem sameX_r (a : Rul) : sameX a a = true := by rw [sameX, sameL_r, sameI_r]; rfl
theorem beq_c (a b : Int) : (a == b) = (b == a) := by
  by_cases h : a = b
  · rw [h]
  · rw [beq_eq_false_iff_ne.mpr h, beq_eq_false_iff_ne.mpr (Ne.symm h)]
theorem sameP_c (p q : Phs) : sameP p q = sameP q p := by
  unfold sameP
  rw [beq_c p.g, beq_c p.v, beq_c p.m, beq_c p.u]
  congr 1
  rw [decide_eq_decide]
  exact ⟨Eq.symm, Eq.symm⟩
theorem sameL_c : ∀ l m, sameL l m = sameL m l
  | [], [] => rfl
  | [], _ :: _ => rfl
  | _ :: _, [] => rfl
  | p :: l, q :: m => by rw [sameL, sameL, sameP_c, sameL_c l m]
theorem sameX_c (a b : Rul) : sameX a b = sameX b a := by
  unfold sameX sameI
  rw [sameL_c, beq_c a.n, beq_c a.d, beq_c a.gr, beq_c a.eps, beq_c a.st, beq_c a.age, beq_c a.lift, beq_c a.saf]
theorem sameL_len : ∀ {l m : List Phs}, l.length ≠ m.length → sameL l m = false
  | [], [], h => absurd rfl h
  | [], _ :: _, _ => rfl
  | _ :: _, [], _ => rfl
  | p :: l, q :: m, h => by
    rw [sameL, sameL_len (l := l) (m := m) (fun e => h (by simp [e]))]; simp
theorem sequ0 (d : Nat) (ps qs : List Pt) (hl : ps.length ≤ 140737488355328) (he : ps.length = qs.length) : ∀ (m i f : Nat), i + m = ps.length → m < f →
    L40_0 d (ps.map pt) (qs.map pt) f (i : Nat) = some (.bool (decide (ps.drop i = qs.drop i))) := by
  intro m
  induction m with
  | zero =>
    intro i f hi hf
    obtain ⟨f, rfl⟩ : ∃ g, f = g + 1 := ⟨f - 1, by omega⟩
    rw [L40_0, decide_eq_false (by rw [pmap_len]; omega), cnd_f, List.drop_eq_nil_of_le (by omega), List.drop_eq_nil_of_le (by omega)]; rfl
  | succ m ih =>
    intro i f hi hf
    obtain ⟨f, rfl⟩ : ∃ g, f = g + 1 := ⟨f - 1, by omega⟩
    rw [L40_0, decide_eq_true (by rw [pmap_len]; omega), cnd_t, decide_eq_true (by omega), cnd_t, vv_at (by omega)]
    refine Eq.trans (pl_agg (by rfl) (by rfl)) ?_; refine Eq.trans (pl_int (by rfl)) ?_; refine Eq.trans (pl_int (by rfl)) ?_
    rw [cnd_t, vv_at (show i < qs.length by omega)]
    refine Eq.trans (pl_agg (by rfl) (by rfl)) ?_; refine Eq.trans (pl_int (by rfl)) ?_; refine Eq.trans (pl_int (by rfl)) ?_
    rw [pt_bne, drop_vv (show i < ps.length by omega), drop_vv (show i < qs.length by omega)]
    by_cases h : vv ps i = vv qs i
    · rw [decide_eq_true h]
      refine Eq.trans (pl_f (by rfl)) ?_
      rw [show IntKind.wrap .i64 ((i : Int) + 1) = ((i + 1 : Nat) : Int) by rw [IntKind.wrap_i64]; omega, ih (i + 1) f (by omega) (by omega), h]
      simp
    · rw [decide_eq_false h]
      refine Eq.trans (pl_len (by rfl)) ?_
      rw [decide_eq_false (by simp [h])]; rfl
theorem s40 (d : Nat) (ps qs : List Pt) (hl : ps.length ≤ 140737488355328) (hq : qs.length ≤ 140737488355328) : pcall M (d + 1) 40 [.lst (ps.map pt), .lst (qs.map pt)] = some (.bool (decide (ps = qs))) := told (q40 d _ _) (by
  rw [pmap_len, pmap_len]
  by_cases h : ps.length = qs.length
  · rw [h, show (((qs.length : Nat) : Int) != ((qs.length : Nat) : Int)) = false by simp, cnd_f]
    exact sequ0 d ps qs hl h ps.length 0 10000000000000000000 (by omega) (by omega)
  · rw [show (((ps.length : Nat) : Int) != ((qs.length : Nat) : Int)) = true by simp; omega, cnd_t, decide_eq_false (fun e => h (by rw [e]))])
theorem samePR (d : Nat) (p q : Phs) (hp : p.ps.length ≤ 140737488355328) (hq : q.ps.length ≤ 140737488355328) : pcall M (d + 2) 15 [phA p, phA q] = some (.bool (sameP p q)) := told (r15 C0 (d + 1) _ _ _ _ _ _ _ _ _ _) (by
  refine Eq.trans (pl_bool (s29 d p.ps q.ps hp hq)) ?_
  unfold sameP
  cases decide (p.ps = q.ps)
  · rfl
  · rw [cnd_t, Bool.true_and]
    cases p.g == q.g
    · rfl
    · rw [cnd_t, Bool.true_and]
      cases p.v == q.v
      · rfl
      · rw [cnd_t, Bool.true_and]
        cases p.m == q.m
        · rfl
        · rfl)
theorem samePQ (d : Nat) (p q : Phs) (hp : p.ps.length ≤ 140737488355328) (hq : q.ps.length ≤ 140737488355328) : pcall M (d + 2) 34 [phA p, phA q] = some (.bool (sameP p q)) := told (r34 C0 (d + 1) _ _ _ _ _ _ _ _ _ _) (by
  refine Eq.trans (pl_bool (s40 d p.ps q.ps hp hq)) ?_
  unfold sameP
  cases decide (p.ps = q.ps)
  · rfl
  · rw [cnd_t, Bool.true_and]
    cases p.g == q.g
    · rfl
    · rw [cnd_t, Bool.true_and]
      cases p.v == q.v
      · rfl
      · rw [cnd_t, Bool.true_and]
        cases p.m == q.m
        · rfl
        · rfl)
theorem same_go (d : Nat) (a b : List Phs) (he : a.length = b.length) (hl : a.length ≤ 1000000) (ha : ∀ p ∈ a, p.ps.length ≤ 140737488355328) (hb : ∀ p ∈ b, p.ps.length ≤ 140737488355328) : ∀ (k i : Nat), i + k = a.length → ∀ f, k < f →
    L19_0 (d + 2) (a.map phA) (b.map phA) f (i : Nat) = some (.bool (sameL (a.drop i) (b.drop i)))
  | 0, i, h, f + 1, _ => by
    rw [L19_0, decide_eq_false (by simp; omega), cnd_f, List.drop_of_length_le (by omega), List.drop_of_length_le (by omega)]; rfl
  | k + 1, i, h, f + 1, hf => by
    have hi : i < a.length := by omega
    have hi' : i < b.length := by omega
    rw [L19_0, decide_eq_true (by simp; omega), cnd_t, decide_eq_true (by omega), cnd_t, show (((i : Nat) : Int)).toNat = i by omega, phs_at hi]
    refine Eq.trans (pl_agg (by rfl) (by rfl)) ?_
    refine Eq.trans (pl_lst (by rfl)) ?_
    refine Eq.trans (pl_int (by rfl)) ?_; refine Eq.trans (pl_int (by rfl)) ?_; refine Eq.trans (pl_int (by rfl)) ?_; refine Eq.trans (pl_int (by rfl)) ?_
    rw [cnd_t, phs_at hi']
    refine Eq.trans (pl_agg (by rfl) (by rfl)) ?_
    refine Eq.trans (pl_lst (by rfl)) ?_
    refine Eq.trans (pl_int (by rfl)) ?_; refine Eq.trans (pl_int (by rfl)) ?_; refine Eq.trans (pl_int (by rfl)) ?_; refine Eq.trans (pl_int (by rfl)) ?_
    refine Eq.trans (pl_bool (samePR d a[i] b[i] (ha _ (List.getElem_mem hi)) (hb _ (List.getElem_mem hi')))) ?_
    rw [List.drop_eq_getElem_cons hi, List.drop_eq_getElem_cons hi', sameL]
    cases sameP a[i] b[i]
    · rfl
    · refine Eq.trans (pl_f (by rfl)) ?_
      rw [show IntKind.wrap .i64 (((i : Nat) : Int) + 1) = ((i + 1 : Nat) : Int) by rw [i64w]; omega, Bool.true_and]
      exact same_go d a b he hl ha hb k (i + 1) (by omega) f (by omega)
theorem s19 (d : Nat) (a b : Rul) (hl : a.phs.length ≤ 1000000) (hm : b.phs.length ≤ 1000000) (ha : ∀ p ∈ a.phs, p.ps.length ≤ 140737488355328) (hb : ∀ p ∈ b.phs, p.ps.length ≤ 140737488355328) : pcall M (d + 3) 19 [rl a, rl b] = some (.bool (sameX a b)) := told (q19 (d + 2) _ _ _ _ _ _ _ _ _ _ _ _ _ _ _ _ _ _) (by
  rw [List.length_map, List.length_map]
  by_cases h : a.phs.length = b.phs.length
  rotate_left
  · refine Eq.trans (pl_len (by simp; omega)) ?_
    unfold sameX; rw [sameL_len h]; rfl
  refine Eq.trans (pl_f (by simp [h])) ?_
  have e := same_go d a.phs b.phs h hl ha hb a.phs.length 0 (by omega) 10000000000000000000 (by omega)
  rw [List.drop_zero, List.drop_zero] at e
  change L19_0 (d + 2) (a.phs.map phA) (b.phs.map phA) 10000000000000000000 0 = _ at e
  generalize L19_0 (d + 2) (a.phs.map phA) (b.phs.map phA) 10000000000000000000 0 = X at e ⊢
  refine Eq.trans (b := cnd (!sameI a b) (some (.bool false)) X) ?_ ?_
  · unfold sameI
    simp only [bne]
    cases a.n == b.n
    · rfl
    cases a.d == b.d
    · rfl
    cases a.gr == b.gr
    · rfl
    cases a.eps == b.eps
    · rfl
    cases a.st == b.st
    · rfl
    cases a.age == b.age
    · rfl
    cases a.lift == b.lift
    · rfl
    cases a.saf == b.saf <;> rfl
  · unfold sameX
    cases sameI a b
    · simp [cnd]
    · rw [Bool.and_true]; exact e)
theorem equal_go (d : Nat) (a b : List Phs) (he : a.length = b.length) (hl : a.length ≤ 1000000) (ha : ∀ p ∈ a, p.ps.length ≤ 140737488355328) (hb : ∀ p ∈ b, p.ps.length ≤ 140737488355328) : ∀ (k i : Nat), i + k = a.length → ∀ f, k < f → ∀ H,
    L33f34_0 (d + 2) (a.map phA) (b.map phA) (a.length : Nat) f (i : Nat) H = some (.bool (sameL (a.drop i) (b.drop i)))
  | 0, i, h, f + 1, _, H => by
    rw [L33f34_0_s, decide_eq_false (by omega), cnd_f, List.drop_of_length_le (by omega), List.drop_of_length_le (by omega)]
    exact finB
  | k + 1, i, h, f + 1, hf, H => by
    have hi : i < a.length := by omega
    have hi' : i < b.length := by omega
    rw [L33f34_0_s, decide_eq_true (by omega), cnd_t]
    refine Eq.trans (ix_lst (x := phA a[i]) (by omega) (by rw [show (((i : Nat) : Int)).toNat = i by omega]; exact phs_at hi) rfl) ?_
    refine Eq.trans (ld_fptr (v := phA a[i]) rfl) ?_
    refine Eq.trans (pl_agg (by rfl) (by rfl)) ?_; refine Eq.trans (pl_any (by rfl)) ?_; refine Eq.trans (pl_int (by rfl)) ?_; refine Eq.trans (pl_int (by rfl)) ?_; refine Eq.trans (pl_int (by rfl)) ?_; refine Eq.trans (pl_int (by rfl)) ?_
    refine Eq.trans (al_st rfl) ?_
    refine Eq.trans (ix_lst (x := phA b[i]) (by omega) (by rw [show (((i : Nat) : Int)).toNat = i by omega]; exact phs_at hi') rfl) ?_
    refine Eq.trans (ld_fptr (v := phA b[i]) rfl) ?_
    refine Eq.trans (pl_agg (by rfl) (by rfl)) ?_; refine Eq.trans (pl_any (by rfl)) ?_; refine Eq.trans (pl_int (by rfl)) ?_; refine Eq.trans (pl_int (by rfl)) ?_; refine Eq.trans (pl_int (by rfl)) ?_; refine Eq.trans (pl_int (by rfl)) ?_
    refine Eq.trans (al_st rfl) ?_
    refine Eq.trans (ld_ptr (hget_app hget_new) rfl rfl) ?_
    refine Eq.trans (pl_agg (by rfl) (by rfl)) ?_; refine Eq.trans (pl_any (by rfl)) ?_; refine Eq.trans (pl_int (by rfl)) ?_; refine Eq.trans (pl_int (by rfl)) ?_; refine Eq.trans (pl_int (by rfl)) ?_; refine Eq.trans (pl_int (by rfl)) ?_
    refine Eq.trans (ld_ptr hget_new rfl rfl) ?_
    refine Eq.trans (pl_agg (by rfl) (by rfl)) ?_; refine Eq.trans (pl_any (by rfl)) ?_; refine Eq.trans (pl_int (by rfl)) ?_; refine Eq.trans (pl_int (by rfl)) ?_; refine Eq.trans (pl_int (by rfl)) ?_; refine Eq.trans (pl_int (by rfl)) ?_
    refine Eq.trans (snp_free (by rfl)) ?_
    refine Eq.trans (pl_bool (samePQ d a[i] b[i] (ha _ (List.getElem_mem hi)) (hb _ (List.getElem_mem hi')))) ?_
    refine Eq.trans (pl_len (by rfl)) ?_
    rw [List.drop_eq_getElem_cons hi, List.drop_eq_getElem_cons hi', sameL]
    cases sameP a[i] b[i]
    · exact finB
    · refine Eq.trans (pl_f (by rfl)) ?_
      rw [show IntKind.wrap .i64 (((i : Nat) : Int) + 1) = ((i + 1 : Nat) : Int) by rw [i64w]; omega, Bool.true_and]
      exact equal_go d a b he hl ha hb k (i + 1) (by omega) f (by omega) _
theorem equalF (d : Nat) (a b : List Phs) (hl : a.length ≤ 1000000) (ha : ∀ p ∈ a, p.ps.length ≤ 140737488355328) (hb : ∀ p ∈ b, p.ps.length ≤ 140737488355328) : pcall M (d + 3) 33 [.lst (a.map phA), .lst (b.map phA), .fn 34 [] []] = some (.bool (sameL a b)) := told (q33f34 (d + 2) _ _ .nilp) (by
  refine Eq.trans len_lst ?_
  refine Eq.trans (pl_int (by rfl)) ?_
  refine Eq.trans len_lst ?_
  refine Eq.trans (pl_int (by rfl)) ?_
  rw [List.length_map, List.length_map]
  by_cases h : a.length = b.length
  rotate_left
  · refine Eq.trans (pl_len (by simp; omega)) ?_
    rw [sameL_len h]; exact finB
  refine Eq.trans (pl_f (by simp [h])) ?_
  refine Eq.trans len_lst ?_
  refine Eq.trans (pl_int (by rfl)) ?_
  rw [List.length_map]
  have e := equal_go d a b h hl ha hb a.length 0 (by omega) 10000000000000000000 (by omega) []
  rwa [List.drop_zero, List.drop_zero] at e)
theorem s20 (d : Nat) (a b : Rul) (hl : a.phs.length ≤ 1000000) (ha : ∀ p ∈ a.phs, p.ps.length ≤ 140737488355328) (hb : ∀ p ∈ b.phs, p.ps.length ≤ 140737488355328) : pcall M (d + 4) 20 [rl a, rl b] = some (.bool (sameX a b)) := told (r20 C0 (d + 3) _ _ _ _ _ _ _ _ _ _ _ _ _ _ _ _ _ _) (by
  refine Eq.trans (pl_bool (equalF d a.phs b.phs hl ha hb)) ?_
  unfold sameX sameI
  cases sameL a.phs b.phs
  · rfl
  rw [cnd_t]
  cases a.n == b.n
  · rfl
  cases a.d == b.d
  · rfl
  cases a.gr == b.gr
  · rfl
  cases a.eps == b.eps
  · rfl
  cases a.st == b.st
  · rfl
  cases a.age == b.age
  · rfl
  cases a.lift == b.lift
  · rfl
  cases a.saf == b.saf <;> rfl)
end Go.Proofs.Ytffiilnmfmkpmaa.AE

namespace Go.Proofs.Ytffiilnmfmkpmaa.AE
set_option linter.unusedVariables false
set_option linter.unusedSimpArgs false
set_option linter.constructorNameAsVariable false
open Go

noncomputable section
variable {α : Type}
def foN (m : Nat) (K : Nat → α) : α := Nat.rec (motive := fun _ => α) (K 0) (fun p _ => K (Nat.succ p)) m
theorem foN_eq (m : Nat) (K : Nat → α) : foN m K = K m := by cases m <;> rfl
def foI (n : Int) (K : Int → α) : α := match n with
  | .ofNat m => foN m fun m => K (.ofNat m)
  | .negSucc m => foN m fun m => K (.negSucc m)
theorem foI_eq (n : Int) (K : Int → α) : foI n K = K n := by cases n <;> simp only [foI, foN_eq]
def foB (b : Bool) (K : Bool → α) : α := match b with
  | true => K true
  | false => K false
theorem foB_eq (b : Bool) (K : Bool → α) : foB b K = K b := by cases b <;> rfl
def foY (b : UInt8) (K : UInt8 → α) : α := foN b.toNat fun n => K (UInt8.ofNat n)
theorem foY_eq (b : UInt8) (K : UInt8 → α) : foY b K = K b := by unfold foY; rw [foN_eq]; congr 1; simp
/-- A list's elements, one by one. -/
def foL {β : Type} (f : β → (β → α) → α) : List β → (List β → α) → α
  | [], K => K []
  | x :: l, K => f x fun x => foL f l fun l => K (x :: l)
theorem foL_eq {β : Type} {f : β → (β → α) → α} (h : ∀ x K, f x K = K x) : ∀ (l : List β) (K : List β → α), foL f l K = K l
  | [], K => rfl
  | x :: l, K => by simp only [foL, h, foL_eq h l]
def foS {β : Type} : List β → (List β → α) → α
  | [], K => K []
  | x :: l, K => foS l fun l => K (x :: l)
theorem foS_eq {β : Type} : ∀ (l : List β) (K : List β → α), foS l K = K l
  | [], K => rfl
  | x :: l, K => by simp only [foS, foS_eq l]
def foV : Nat → AV → (AV → α) → α
  | 0, v, K => K v
  | d + 1, v, K => match v with
    | .int k n => foI n fun n => K (.int k n)
    | .bool b => foB b fun b => K (.bool b)
    | .str s => foL foY s fun s => K (.str s)
    | .zsl b => foB b fun b => K (.zsl b)
    | .ptr a b c => foN a fun a => foN b fun b => foN c fun c => K (.ptr a b c)
    | .slc a b c => foN a fun a => foN b fun b => foN c fun c => K (.slc a b c)
    | .lst l => foL (foV d) l fun l => K (.lst l)
    | .fptr v j => foV d v fun v => foN j fun j => K (.fptr v j)
    | .agg l => foL (foV d) l fun l => K (.agg l)
    | .tup l => foL (foV d) l fun l => K (.tup l)
    | .fn g a b => foN g fun g => foL (foV d) a fun a => foL (foV d) b fun b => K (.fn g a b)
    | v => K v
theorem foV_eq : ∀ (d : Nat) (v : AV) (K : AV → α), foV d v K = K v
  | 0, v, K => rfl
  | d + 1, v, K => by
    have ih : ∀ (v : AV) (K : AV → α), foV d v K = K v := foV_eq d
    cases v <;> simp only [foV, foI_eq, foB_eq, foN_eq, foL_eq foY_eq, foL_eq ih, ih]
def foBlk (b : Option Blk) (K : Option Blk → α) : α := match b with
  | none => K none
  | some ⟨e, els⟩ => foL (foV 2) els fun els => K (some ⟨e, els⟩)
theorem foBlk_eq (b : Option Blk) (K : Option Blk → α) : foBlk b K = K b := by
  match b with
  | none => rfl
  | some ⟨e, els⟩ => simp only [foBlk, foL_eq (foV_eq 2)]
def foH (H : Heap) (K : Heap → α) : α := foL foBlk H K
theorem foH_eq (H : Heap) (K : Heap → α) : foH H K = K H := foL_eq foBlk_eq H K

/-- Operations that may change memory. -/
def wrH : IOp → Bool
  | .box .. | .alloc .. | .mkrow .. | .store .. | .s2b .. | .mkslice .. | .app .. => true
  | _ => false
def foW (o : IOp) (H : Heap) (K : Heap → α) : α := match wrH o with
  | true => foH H K
  | false => K H
theorem foW_eq (o : IOp) (H : Heap) (K : Heap → α) : foW o H K = K H := by unfold foW; cases wrH o <;> simp only [foH_eq]

/-- How deep a value is told after an operation. -/
def depV : IOp → Nat
  | .call .. => 2
  | _ => 1
/-- A list with another element. -/
def foP : List AV → Nat → AV → (List AV → α) → α
  | [], _, _, K => K []
  | x :: l, 0, v, K => K (v :: l)
  | x :: l, n + 1, v, K => foP l n v fun l => K (x :: l)
theorem foP_eq : ∀ (l : List AV) (n : Nat) (v : AV) (K : List AV → α), foP l n v K = K (l.set n v)
  | [], n, v, K => by cases n <;> rfl
  | x :: l, 0, v, K => rfl
  | x :: l, n + 1, v, K => by simp only [foP, foP_eq l, List.set_cons_succ]
def foO (env : List AV) (d : Option Nat) (v : AV) (K : List AV → α) : α := match d with
  | some d => foP env d v K
  | none => K env
theorem foO_eq (env : List AV) (d : Option Nat) (v : AV) (K : List AV → α) : foO env d v K = K (put env d v) := by cases d <;> simp only [foO, put, foP_eq]
def runOpsF (call : CallF) : List IOper → List AV → Heap → Option St
  | [], env, H => some ⟨env, H⟩
  | o :: l, env, H => match want env o.guard with
    | some true => match aop call (evO env) H o.op with
      | some (v, H) => foV (depV o.op) v fun v => foW o.op H fun H => foO env o.dst v fun env => runOpsF call l env H
      | none => none
    | some false => foO env o.dst (.tup []) fun env => runOpsF call l env H
    | none => none
theorem runOpsF_eq (call : CallF) : ∀ (l : List IOper) (env : List AV) (H : Heap), runOpsF call l env H = runOps call l ⟨env, H⟩
  | [], env, H => rfl
  | o :: l, env, H => by
    simp only [runOpsF, runOps, foV_eq, foW_eq, foO_eq, runOpsF_eq call l]
    rfl
def runOpsDF (call callP : CallF) : List (IOper × List Nat) → Nat → List (Nat × Nat) → List AV → Heap → Option St
  | [], _, _, env, H => some ⟨env, H⟩
  | (o, chk) :: l, i, log, env, H => match want env o.guard with
    | some true =>
      foS (touch (evO env) H o.op) fun tc =>
      if log.all (fun p => !(chk.contains p.1) || !(tc.contains p.2)) then
        match aop (bif isFull chk then call else callP) (evO env) H o.op with
        | some (v, H) => foV (depV o.op) v fun v => foW o.op H fun H => foO env o.dst v fun env => foN i fun i => foS (log ++ tc.map fun id => (i, id)) fun log => runOpsDF call callP l (i + 1) log env H
        | none => none
      else none
    | some false => foO env o.dst (.tup []) fun env => runOpsDF call callP l (i + 1) log env H
    | none => none
theorem runOpsDF_eq (call callP : CallF) : ∀ (l : List (IOper × List Nat)) (i : Nat) (log : List (Nat × Nat)) (env : List AV) (H : Heap), runOpsDF call callP l i log env H = runOpsD call callP l i log ⟨env, H⟩
  | [], _, _, env, H => rfl
  | (o, chk) :: l, i, log, env, H => by
    simp only [runOpsDF, runOpsD, foV_eq, foW_eq, foS_eq, foO_eq, foN_eq, runOpsDF_eq call callP l]
    rfl
def execF (call callP : CallF) (fu : Nat) : IC → St → Option (Ex × St)
  | .skip, s => some (.normal, s)
  | .regD ops, s => match s with
    | ⟨env, H⟩ => match runOpsDF call callP ops 0 [] env H with
      | some s' => some (.normal, s')
      | none => none
  | .reg ops, s => match s with
    | ⟨env, H⟩ => match runOpsF call ops env H with
      | some s' => some (.normal, s')
      | none => none
  | .seq a b, s => match execF call callP fu a s with
    | some (.normal, s') => execF call callP fu b s'
    | r => r
  | .cond c a b, s => match evO s.env c with
    | .bool t => bif t then execF call callP fu a s else execF call callP fu b s
    | _ => none
  | .block id a, s => match execF call callP fu a s with
    | some (.exit i, s') => if i = id then some (.normal, s') else some (.exit i, s')
    | r => r
  | .loop a, s => iter (execF call callP fu a) fu s
  | .exit id, s => some (.exit id, s)
  | .ret, s => some (.ret, s)
theorem execF_eq (call callP : CallF) (fu : Nat) : ∀ c, execF call callP fu c = exec call callP fu c
  | .skip => by funext s; rfl
  | .regD ops => by funext ⟨env, H⟩; simp only [execF, exec, runOpsDF_eq]; rfl
  | .reg ops => by funext ⟨env, H⟩; simp only [execF, exec, runOpsF_eq]; rfl
  | .seq a b => by funext s; simp only [execF, exec, execF_eq call callP fu a, execF_eq call callP fu b]; rfl
  | .cond c a b => by funext s; simp only [execF, exec, execF_eq call callP fu a, execF_eq call callP fu b]; rfl
  | .block id a => by funext s; simp only [execF, exec, execF_eq call callP fu a]; rfl
  | .loop a => by funext s; simp only [execF, exec, execF_eq call callP fu a]
  | .exit id => by funext s; rfl
  | .ret => by funext s; rfl
def runFnF (call callP : CallF) (fu : Nat) (fn : AFn) (args : List AV) (H : Heap) : Option (AV × Heap) :=
  foL (foV 12) args fun args => foS (args ++ List.replicate (fn.ntmps - args.length) (.tup [])) fun env => match execF call callP fu fn.body ⟨env, H⟩ with
  | some (.normal, s) | some (.ret, s) => match resAll s fn.results with
    | some vs => some (packRes vs, s.H)
    | none => none
  | _ => none
theorem runFnF_eq : runFnF = runFn := by
  funext call callP fu fn args H
  simp only [runFnF, runFn, foL_eq (foV_eq 12), foS_eq, execF_eq]
  rfl
def freshF (rf : List AV → Heap → Option (AV × Heap)) (args : List AV) (H : Heap) : Option (AV × Heap) :=
  match rf args (padH H.length) with
  | some (v, H1) => match padOk H.length H1 with
    | true => some (v, H ++ H1.drop H.length)
    | false => none
  | none => none
def callBF (M : Mod) (pc : FuncId → List AV → Option AV) : Nat → Bool → CallF
  | 0, _ => callZ M pc
  | n + 1, b => fun g args H =>
    match M.ext g with
    | some e => extCall e g args H
    | none => if M.inl g then (match emptyR M pc g args with
      | some v => some (v, H)
      | none => match b with
        | true => match M.code g args.length with
          | some fn => runFnF (callBF M pc n true) (callBF M pc n false) M.fu fn args H
          | none => none
        | false => match M.fr g && args.all (noId DEPTH) with
          | true => match M.code g args.length with
            | some fn => freshF (runFnF (callBF M pc n true) (callBF M pc n false) M.fu fn) args H
            | none => none
          | false => pureCall pc g args H) else pureCall pc g args H
theorem callBF_eq (M : Mod) (pc : FuncId → List AV → Option AV) : ∀ n b, callBF M pc n b = callB M pc n b
  | 0, _ => rfl
  | n + 1, b => by funext g args H; simp only [callBF, callB, callBF_eq M pc n, runFnF_eq]; rfl
def pcallF (M : Mod) : Nat → FuncId → List AV → Option AV
  | 0 => fun _ _ => none
  | d + 1 => fun g args => match M.code g args.length with
    | none => none
    | some fn => match runFnF (callBF M (pcallF M d) IDEPTH true) (callBF M (pcallF M d) IDEPTH false) M.fu fn args [] with
      | some (v, H') => foV 12 (snap DEPTH H' v) some
      | none => none
theorem pcallF_eq (M : Mod) : ∀ d, pcallF M d = pcall M d
  | 0 => rfl
  | d + 1 => by funext g args; simp only [pcallF, pcall, pcallF_eq M d, runFnF_eq, callBF_eq, foV_eq]; rfl
theorem ran {M : Mod} {d : Nat} {g : FuncId} {args : List AV} {r : AV} (h : pcallF M d g args = some r) : pcall M d g args = some r := by rw [← pcallF_eq]; exact h
end
end Go.Proofs.Ytffiilnmfmkpmaa.AE

namespace Go.Proofs.Ytffiilnmfmkpmaa.AE
set_option maxRecDepth 100000
theorem awake : pcall M 40 8 [] = some (.bool true) := ran (by kernel_rfl)
end Go.Proofs.Ytffiilnmfmkpmaa.AE

namespace Go.Proofs.Ytffiilnmfmkpmaa.AE
set_option linter.unusedVariables false
set_option linter.unusedSimpArgs false
set_option linter.constructorNameAsVariable false
open Go
set_option maxRecDepth 100000
set_option maxHeartbeats 0
def r4R1 (C : Cb) (d : Nat) (a0 : List AV) (a1 a2 a3 a4 a5 a6 a7 a8 : Int) (a9 : List AV) (a10 a11 a12 a13 a14 a15 a16 a17 : Int) (v0 v2 : AV) (b4 : Bool) (v9 : AV) (x10 x11 x12 x13 x14 x15 x16 x17 : Int) (b20 : Bool) (v25 : AV) (x26 x27 x28 x29 x30 x31 x32 x33 : Int) (b36 : Bool) (v41 : AV) (x42 x43 x44 x45 x46 x47 x48 x49 : Int) (v53 : AV) (x54 x55 x56 x57 x58 x59 x60 x61 : Int) (v65 : AV) (x66 x67 x68 x69 x70 x71 x72 x73 : Int) (v77 : AV) (x78 x79 x80 x81 x82 x83 x84 x85 : Int) (v86 v88 v97 : AV) (x98 x99 x100 x101 x102 x103 x104 x105 : Int) (v109 : AV) (x110 x111 x112 x113 x114 x115 x116 x117 : Int) (b120 : Bool) (v124 : AV) (x125 x126 x127 x128 x129 x130 x131 x132 : Int) (v136 : AV) (x137 x138 x139 x140 x141 x142 x143 x144 : Int) (b147 : Bool) (v151 : AV) (x152 x153 x154 x155 x156 x157 x158 x159 : Int) (v163 : AV) (x164 x165 x166 x167 x168 x169 x170 x171 : Int) (b174 : Bool) (v178 : AV) (x179 x180 x181 x182 x183 x184 x185 x186 : Int) (v190 : AV) (x191 x192 x193 x194 x195 x196 x197 x198 : Int) (b201 : Bool) (v205 : AV) (x206 x207 x208 x209 x210 x211 x212 x213 : Int) (v217 : AV) (x218 x219 x220 x221 x222 x223 x224 x225 : Int) (b228 : Bool) (v232 : AV) (x233 x234 x235 x236 x237 x238 x239 x240 : Int) (v244 : AV) (x245 x246 x247 x248 x249 x250 x251 x252 : Int) (b255 : Bool) (v256 v258 : AV) (x262 : Int) (k264 : Ex → St → Ans) (x268 : Int) (v304 v305 v307 v309 v311 : AV) (x315 : Int) (v316 v318 v322 v324 v326 v328 v330 : AV) (x334 : Int) : St → (Ex → St → Ans) → Ans := fun s335 k336 =>
 cnd ((List.length s335.env) == 97)
 (C.same s335.env[0]? (.agg [(.lst a0), (iz a1), (iz a2), (iz a3), (iz a4), (iz a5), (iz a6), (iz a7), (iz a8)]) <|
 C.same s335.env[1]? (.agg [(.lst a9), (iz a10), (iz a11), (iz a12), (iz a13), (iz a14), (iz a15), (iz a16), (iz a17)]) <|
 C.same s335.env[2]? v0 <|
 C.same s335.env[3]? v2 <|
 C.same s335.env[4]? bf <|
 C.same s335.env[5]? v86 <|
 C.same s335.env[6]? v88 <|
 C.same s335.env[7]? (iz x268) <|
 C.any s335.env[8]? fun v338 =>
 C.same s335.env[9]? (.bool b4) <|
 C.same s335.env[10]? (.bool (!b4)) <|
 C.same s335.env[11]? bf <|
 C.same s335.env[12]? (.agg [v9, (iz x10), (iz x11), (iz x12), (iz x13), (iz x14), (iz x15), (iz x16), (iz x17)]) <|
 C.same s335.env[13]? (.bool b20) <|
 C.same s335.env[14]? (.bool (!b20)) <|
 C.same s335.env[15]? (.bool (!b20)) <|
 C.same s335.env[16]? bf <|
 C.same s335.env[17]? (.agg [v25, (iz x26), (iz x27), (iz x28), (iz x29), (iz x30), (iz x31), (iz x32), (iz x33)]) <|
 C.same s335.env[18]? (.bool b36) <|
 C.same s335.env[19]? (.bool (!b36)) <|
 C.same s335.env[20]? bf <|
 C.same s335.env[21]? tz <|
 C.same s335.env[22]? (.agg [v41, (iz x42), (iz x43), (iz x44), (iz x45), (iz x46), (iz x47), (iz x48), (iz x49)]) <|
 C.same s335.env[23]? (.agg [v53, (iz x54), (iz x55), (iz x56), (iz x57), (iz x58), (iz x59), (iz x60), (iz x61)]) <|
 C.same s335.env[24]? (.agg [v65, (iz x66), (iz x67), (iz x68), (iz x69), (iz x70), (iz x71), (iz x72), (iz x73)]) <|
 C.same s335.env[25]? (.agg [v77, (iz x78), (iz x79), (iz x80), (iz x81), (iz x82), (iz x83), (iz x84), (iz x85)]) <|
 C.same s335.env[26]? (.agg [v97, (iz x98), (iz x99), (iz x100), (iz x101), (iz x102), (iz x103), (iz x104), (iz x105)]) <|
 C.same s335.env[27]? (.agg [v109, (iz x110), (iz x111), (iz x112), (iz x113), (iz x114), (iz x115), (iz x116), (iz x117)]) <|
 C.same s335.env[28]? (.bool b120) <|
 C.same s335.env[29]? (.bool (!b120)) <|
 C.same s335.env[30]? bf <|
 C.same s335.env[31]? (.agg [v124, (iz x125), (iz x126), (iz x127), (iz x128), (iz x129), (iz x130), (iz x131), (iz x132)]) <|
 C.same s335.env[32]? (.agg [v136, (iz x137), (iz x138), (iz x139), (iz x140), (iz x141), (iz x142), (iz x143), (iz x144)]) <|
 C.same s335.env[33]? (.bool b147) <|
 C.same s335.env[34]? (.bool (!b147)) <|
 C.same s335.env[35]? (.bool (!b147)) <|
 C.same s335.env[36]? bf <|
 C.same s335.env[37]? (.agg [v151, (iz x152), (iz x153), (iz x154), (iz x155), (iz x156), (iz x157), (iz x158), (iz x159)]) <|
 C.same s335.env[38]? (.agg [v163, (iz x164), (iz x165), (iz x166), (iz x167), (iz x168), (iz x169), (iz x170), (iz x171)]) <|
 C.same s335.env[39]? (.bool b174) <|
 C.same s335.env[40]? (.agg [v178, (iz x179), (iz x180), (iz x181), (iz x182), (iz x183), (iz x184), (iz x185), (iz x186)]) <|
 C.same s335.env[41]? (.agg [v190, (iz x191), (iz x192), (iz x193), (iz x194), (iz x195), (iz x196), (iz x197), (iz x198)]) <|
 C.same s335.env[42]? (.bool b201) <|
 C.same s335.env[43]? (.bool (xor true (b174 == b201))) <|
 C.same s335.env[44]? (.bool (xor true (b174 == b201))) <|
 C.same s335.env[45]? bf <|
 C.same s335.env[46]? (.agg [v205, (iz x206), (iz x207), (iz x208), (iz x209), (iz x210), (iz x211), (iz x212), (iz x213)]) <|
 C.same s335.env[47]? (.agg [v217, (iz x218), (iz x219), (iz x220), (iz x221), (iz x222), (iz x223), (iz x224), (iz x225)]) <|
 C.same s335.env[48]? (.bool b228) <|
 C.same s335.env[49]? (.agg [v232, (iz x233), (iz x234), (iz x235), (iz x236), (iz x237), (iz x238), (iz x239), (iz x240)]) <|
 C.same s335.env[50]? (.agg [v244, (iz x245), (iz x246), (iz x247), (iz x248), (iz x249), (iz x250), (iz x251), (iz x252)]) <|
 C.same s335.env[51]? (.bool b255) <|
 C.same s335.env[52]? (.bool (xor true (b228 == b255))) <|
 C.same s335.env[53]? bf <|
 C.same s335.env[54]? v256 <|
 C.same s335.env[55]? v258 <|
 C.same s335.env[56]? (iz x262) <|
 C.same s335.env[57]? (iz x268) <|
 C.same s335.env[58]? bt <|
 C.same s335.env[59]? (iz x268) <|
 C.same s335.env[60]? v305 <|
 C.same s335.env[61]? v307 <|
 C.same s335.env[62]? (iz x268) <|
 C.same s335.env[63]? v309 <|
 C.same s335.env[64]? v311 <|
 C.same s335.env[65]? (iz x315) <|
 C.same s335.env[66]? (iz (IntKind.wrap .i64 (x315 + 1))) <|
 C.same s335.env[67]? v316 <|
 C.same s335.env[68]? v318 <|
 C.same s335.env[69]? v322 <|
 C.same s335.env[70]? v324 <|
 C.same s335.env[71]? (iz x268) <|
 C.same s335.env[72]? v326 <|
 C.same s335.env[73]? v328 <|
 C.same s335.env[74]? v330 <|
 C.same s335.env[75]? (iz x334) <|
 C.int .i64 s335.env[76]? fun x339 =>
 C.any s335.env[77]? fun v340 =>
 C.any s335.env[78]? fun v341 =>
 C.any s335.env[79]? fun v342 =>
 C.any s335.env[80]? fun v343 =>
 C.any s335.env[81]? fun v344 =>
 C.any s335.env[82]? fun v345 =>
 C.any s335.env[83]? fun v346 =>
 C.any s335.env[84]? fun v347 =>
 C.any s335.env[85]? fun v348 =>
 C.any s335.env[86]? fun v349 =>
 C.any s335.env[87]? fun v350 =>
 C.any s335.env[88]? fun v351 =>
 C.any s335.env[89]? fun v352 =>
 C.any s335.env[90]? fun v353 =>
 C.any s335.env[91]? fun v354 =>
 C.any s335.env[92]? fun v355 =>
 C.same s335.env[93]? v304 <|
 C.same s335.env[94]? tz <|
 C.same s335.env[95]? tz <|
 C.same s335.env[96]? tz <|
 cnd (decide (x339 < x334))
 (C.hop (St.H s335) (.fldA 0 (.v v86)) fun v356 h357 =>
 C.hop h357 (.load false 1 (.v v356)) fun v358 h359 =>
 C.hop h359 (.ixAS .any 5 (.v v358) (.v (iz x268))) fun v360 h361 =>
 C.hop h361 (.fldA 0 (.v v360)) fun v362 h363 =>
 C.hop h363 (.load false 1 (.v v362)) fun v364 h365 =>
 C.hop h365 (.ixAS .any 2 (.v v364) (.v (iz x339))) fun v366 h367 =>
 C.hop h367 (.fldA 0 (.v v366)) fun v368 h369 =>
 C.hop h369 (.load false 1 (.v v368)) fun v370 h371 =>
 C.int .i64 (some v370) fun x372 =>
 C.hop h371 (.ixAS .any 2 (.v v364) (.v (iz x339))) fun v373 h374 =>
 C.hop h374 (.fldA 0 (.v v373)) fun v375 h376 =>
 C.hop h376 (.store 1 (.v v375) (.v (iz (IntKind.wrap .i64 (x372 + 1))))) fun v377 h378 =>
 k336 .normal ⟨[(.agg [(.lst a0), (iz a1), (iz a2), (iz a3), (iz a4), (iz a5), (iz a6), (iz a7), (iz a8)]), (.agg [(.lst a9), (iz a10), (iz a11), (iz a12), (iz a13), (iz a14), (iz a15), (iz a16), (iz a17)]), v0, v2, bf, v86, v88, (iz x268), (iz x339), (.bool b4), (.bool (!b4)), bf, (.agg [v9, (iz x10), (iz x11), (iz x12), (iz x13), (iz x14), (iz x15), (iz x16), (iz x17)]), (.bool b20), (.bool (!b20)), (.bool (!b20)), bf, (.agg [v25, (iz x26), (iz x27), (iz x28), (iz x29), (iz x30), (iz x31), (iz x32), (iz x33)]), (.bool b36), (.bool (!b36)), bf, tz, (.agg [v41, (iz x42), (iz x43), (iz x44), (iz x45), (iz x46), (iz x47), (iz x48), (iz x49)]), (.agg [v53, (iz x54), (iz x55), (iz x56), (iz x57), (iz x58), (iz x59), (iz x60), (iz x61)]), (.agg [v65, (iz x66), (iz x67), (iz x68), (iz x69), (iz x70), (iz x71), (iz x72), (iz x73)]), (.agg [v77, (iz x78), (iz x79), (iz x80), (iz x81), (iz x82), (iz x83), (iz x84), (iz x85)]), (.agg [v97, (iz x98), (iz x99), (iz x100), (iz x101), (iz x102), (iz x103), (iz x104), (iz x105)]), (.agg [v109, (iz x110), (iz x111), (iz x112), (iz x113), (iz x114), (iz x115), (iz x116), (iz x117)]), (.bool b120), (.bool (!b120)), bf, (.agg [v124, (iz x125), (iz x126), (iz x127), (iz x128), (iz x129), (iz x130), (iz x131), (iz x132)]), (.agg [v136, (iz x137), (iz x138), (iz x139), (iz x140), (iz x141), (iz x142), (iz x143), (iz x144)]), (.bool b147), (.bool (!b147)), (.bool (!b147)), bf, (.agg [v151, (iz x152), (iz x153), (iz x154), (iz x155), (iz x156), (iz x157), (iz x158), (iz x159)]), (.agg [v163, (iz x164), (iz x165), (iz x166), (iz x167), (iz x168), (iz x169), (iz x170), (iz x171)]), (.bool b174), (.agg [v178, (iz x179), (iz x180), (iz x181), (iz x182), (iz x183), (iz x184), (iz x185), (iz x186)]), (.agg [v190, (iz x191), (iz x192), (iz x193), (iz x194), (iz x195), (iz x196), (iz x197), (iz x198)]), (.bool b201), (.bool (xor true (b174 == b201))), (.bool (xor true (b174 == b201))), bf, (.agg [v205, (iz x206), (iz x207), (iz x208), (iz x209), (iz x210), (iz x211), (iz x212), (iz x213)]), (.agg [v217, (iz x218), (iz x219), (iz x220), (iz x221), (iz x222), (iz x223), (iz x224), (iz x225)]), (.bool b228), (.agg [v232, (iz x233), (iz x234), (iz x235), (iz x236), (iz x237), (iz x238), (iz x239), (iz x240)]), (.agg [v244, (iz x245), (iz x246), (iz x247), (iz x248), (iz x249), (iz x250), (iz x251), (iz x252)]), (.bool b255), (.bool (xor true (b228 == b255))), bf, v256, v258, (iz x262), (iz x268), bt, (iz x268), v305, v307, (iz x268), v309, v311, (iz x315), (iz (IntKind.wrap .i64 (x315 + 1))), v316, v318, v322, v324, (iz x268), v326, v328, v330, (iz x334), (iz (IntKind.wrap .i64 (x339 + 1))), bt, (iz x339), v356, v358, (iz x268), v360, v362, v364, (iz x339), v366, v368, (iz x372), (iz (IntKind.wrap .i64 (x372 + 1))), v373, v375, (iz (IntKind.wrap .i64 (x339 + 1))), v304, tz, tz, tz], h378⟩)
 (k336 (.exit 2) ⟨[(.agg [(.lst a0), (iz a1), (iz a2), (iz a3), (iz a4), (iz a5), (iz a6), (iz a7), (iz a8)]), (.agg [(.lst a9), (iz a10), (iz a11), (iz a12), (iz a13), (iz a14), (iz a15), (iz a16), (iz a17)]), v0, v2, bf, v86, v88, (iz x268), v338, (.bool b4), (.bool (!b4)), bf, (.agg [v9, (iz x10), (iz x11), (iz x12), (iz x13), (iz x14), (iz x15), (iz x16), (iz x17)]), (.bool b20), (.bool (!b20)), (.bool (!b20)), bf, (.agg [v25, (iz x26), (iz x27), (iz x28), (iz x29), (iz x30), (iz x31), (iz x32), (iz x33)]), (.bool b36), (.bool (!b36)), bf, tz, (.agg [v41, (iz x42), (iz x43), (iz x44), (iz x45), (iz x46), (iz x47), (iz x48), (iz x49)]), (.agg [v53, (iz x54), (iz x55), (iz x56), (iz x57), (iz x58), (iz x59), (iz x60), (iz x61)]), (.agg [v65, (iz x66), (iz x67), (iz x68), (iz x69), (iz x70), (iz x71), (iz x72), (iz x73)]), (.agg [v77, (iz x78), (iz x79), (iz x80), (iz x81), (iz x82), (iz x83), (iz x84), (iz x85)]), (.agg [v97, (iz x98), (iz x99), (iz x100), (iz x101), (iz x102), (iz x103), (iz x104), (iz x105)]), (.agg [v109, (iz x110), (iz x111), (iz x112), (iz x113), (iz x114), (iz x115), (iz x116), (iz x117)]), (.bool b120), (.bool (!b120)), bf, (.agg [v124, (iz x125), (iz x126), (iz x127), (iz x128), (iz x129), (iz x130), (iz x131), (iz x132)]), (.agg [v136, (iz x137), (iz x138), (iz x139), (iz x140), (iz x141), (iz x142), (iz x143), (iz x144)]), (.bool b147), (.bool (!b147)), (.bool (!b147)), bf, (.agg [v151, (iz x152), (iz x153), (iz x154), (iz x155), (iz x156), (iz x157), (iz x158), (iz x159)]), (.agg [v163, (iz x164), (iz x165), (iz x166), (iz x167), (iz x168), (iz x169), (iz x170), (iz x171)]), (.bool b174), (.agg [v178, (iz x179), (iz x180), (iz x181), (iz x182), (iz x183), (iz x184), (iz x185), (iz x186)]), (.agg [v190, (iz x191), (iz x192), (iz x193), (iz x194), (iz x195), (iz x196), (iz x197), (iz x198)]), (.bool b201), (.bool (xor true (b174 == b201))), (.bool (xor true (b174 == b201))), bf, (.agg [v205, (iz x206), (iz x207), (iz x208), (iz x209), (iz x210), (iz x211), (iz x212), (iz x213)]), (.agg [v217, (iz x218), (iz x219), (iz x220), (iz x221), (iz x222), (iz x223), (iz x224), (iz x225)]), (.bool b228), (.agg [v232, (iz x233), (iz x234), (iz x235), (iz x236), (iz x237), (iz x238), (iz x239), (iz x240)]), (.agg [v244, (iz x245), (iz x246), (iz x247), (iz x248), (iz x249), (iz x250), (iz x251), (iz x252)]), (.bool b255), (.bool (xor true (b228 == b255))), bf, v256, v258, (iz x262), (iz x268), bt, (iz x268), v305, v307, (iz x268), v309, v311, (iz x315), (iz (IntKind.wrap .i64 (x315 + 1))), v316, v318, v322, v324, (iz x268), v326, v328, v330, (iz x334), (iz x339), bf, v341, v342, v343, v344, v345, v346, v347, v348, v349, v350, v351, v352, v353, v354, v355, v304, tz, tz, tz], (St.H s335)⟩))
 (none)
def r4X1_0 (C : Cb) (d : Nat) (a0 : List AV) (a1 a2 a3 a4 a5 a6 a7 a8 : Int) (a9 : List AV) (a10 a11 a12 a13 a14 a15 a16 a17 : Int) (v0 v2 : AV) (b4 : Bool) (v9 : AV) (x10 x11 x12 x13 x14 x15 x16 x17 : Int) (b20 : Bool) (v25 : AV) (x26 x27 x28 x29 x30 x31 x32 x33 : Int) (b36 : Bool) (v41 : AV) (x42 x43 x44 x45 x46 x47 x48 x49 : Int) (v53 : AV) (x54 x55 x56 x57 x58 x59 x60 x61 : Int) (v65 : AV) (x66 x67 x68 x69 x70 x71 x72 x73 : Int) (v77 : AV) (x78 x79 x80 x81 x82 x83 x84 x85 : Int) (v86 v88 v97 : AV) (x98 x99 x100 x101 x102 x103 x104 x105 : Int) (v109 : AV) (x110 x111 x112 x113 x114 x115 x116 x117 : Int) (b120 : Bool) (v124 : AV) (x125 x126 x127 x128 x129 x130 x131 x132 : Int) (v136 : AV) (x137 x138 x139 x140 x141 x142 x143 x144 : Int) (b147 : Bool) (v151 : AV) (x152 x153 x154 x155 x156 x157 x158 x159 : Int) (v163 : AV) (x164 x165 x166 x167 x168 x169 x170 x171 : Int) (b174 : Bool) (v178 : AV) (x179 x180 x181 x182 x183 x184 x185 x186 : Int) (v190 : AV) (x191 x192 x193 x194 x195 x196 x197 x198 : Int) (b201 : Bool) (v205 : AV) (x206 x207 x208 x209 x210 x211 x212 x213 : Int) (v217 : AV) (x218 x219 x220 x221 x222 x223 x224 x225 : Int) (b228 : Bool) (v232 : AV) (x233 x234 x235 x236 x237 x238 x239 x240 : Int) (v244 : AV) (x245 x246 x247 x248 x249 x250 x251 x252 : Int) (b255 : Bool) (v256 v258 : AV) (x262 : Int) (k264 : Ex → St → Ans) (x268 : Int) (v304 v305 v307 v309 v311 : AV) (x315 : Int) (v316 v318 v322 v324 v326 v328 v330 : AV) (x334 : Int) : St → Ans := fun s379 =>
 cnd ((List.length s379.env) == 97)
 (C.same s379.env[0]? (.agg [(.lst a0), (iz a1), (iz a2), (iz a3), (iz a4), (iz a5), (iz a6), (iz a7), (iz a8)]) <|
 C.same s379.env[1]? (.agg [(.lst a9), (iz a10), (iz a11), (iz a12), (iz a13), (iz a14), (iz a15), (iz a16), (iz a17)]) <|
 C.same s379.env[2]? v0 <|
 C.same s379.env[3]? v2 <|
 C.same s379.env[4]? bf <|
 C.same s379.env[5]? v86 <|
 C.same s379.env[6]? v88 <|
 C.same s379.env[7]? (iz x268) <|
 C.any s379.env[8]? fun v380 =>
 C.same s379.env[9]? (.bool b4) <|
 C.same s379.env[10]? (.bool (!b4)) <|
 C.same s379.env[11]? bf <|
 C.same s379.env[12]? (.agg [v9, (iz x10), (iz x11), (iz x12), (iz x13), (iz x14), (iz x15), (iz x16), (iz x17)]) <|
 C.same s379.env[13]? (.bool b20) <|
 C.same s379.env[14]? (.bool (!b20)) <|
 C.same s379.env[15]? (.bool (!b20)) <|
 C.same s379.env[16]? bf <|
 C.same s379.env[17]? (.agg [v25, (iz x26), (iz x27), (iz x28), (iz x29), (iz x30), (iz x31), (iz x32), (iz x33)]) <|
 C.same s379.env[18]? (.bool b36) <|
 C.same s379.env[19]? (.bool (!b36)) <|
 C.same s379.env[20]? bf <|
 C.same s379.env[21]? tz <|
 C.same s379.env[22]? (.agg [v41, (iz x42), (iz x43), (iz x44), (iz x45), (iz x46), (iz x47), (iz x48), (iz x49)]) <|
 C.same s379.env[23]? (.agg [v53, (iz x54), (iz x55), (iz x56), (iz x57), (iz x58), (iz x59), (iz x60), (iz x61)]) <|
 C.same s379.env[24]? (.agg [v65, (iz x66), (iz x67), (iz x68), (iz x69), (iz x70), (iz x71), (iz x72), (iz x73)]) <|
 C.same s379.env[25]? (.agg [v77, (iz x78), (iz x79), (iz x80), (iz x81), (iz x82), (iz x83), (iz x84), (iz x85)]) <|
 C.same s379.env[26]? (.agg [v97, (iz x98), (iz x99), (iz x100), (iz x101), (iz x102), (iz x103), (iz x104), (iz x105)]) <|
 C.same s379.env[27]? (.agg [v109, (iz x110), (iz x111), (iz x112), (iz x113), (iz x114), (iz x115), (iz x116), (iz x117)]) <|
 C.same s379.env[28]? (.bool b120) <|
 C.same s379.env[29]? (.bool (!b120)) <|
 C.same s379.env[30]? bf <|
 C.same s379.env[31]? (.agg [v124, (iz x125), (iz x126), (iz x127), (iz x128), (iz x129), (iz x130), (iz x131), (iz x132)]) <|
 C.same s379.env[32]? (.agg [v136, (iz x137), (iz x138), (iz x139), (iz x140), (iz x141), (iz x142), (iz x143), (iz x144)]) <|
 C.same s379.env[33]? (.bool b147) <|
 C.same s379.env[34]? (.bool (!b147)) <|
 C.same s379.env[35]? (.bool (!b147)) <|
 C.same s379.env[36]? bf <|
 C.same s379.env[37]? (.agg [v151, (iz x152), (iz x153), (iz x154), (iz x155), (iz x156), (iz x157), (iz x158), (iz x159)]) <|
 C.same s379.env[38]? (.agg [v163, (iz x164), (iz x165), (iz x166), (iz x167), (iz x168), (iz x169), (iz x170), (iz x171)]) <|
 C.same s379.env[39]? (.bool b174) <|
 C.same s379.env[40]? (.agg [v178, (iz x179), (iz x180), (iz x181), (iz x182), (iz x183), (iz x184), (iz x185), (iz x186)]) <|
 C.same s379.env[41]? (.agg [v190, (iz x191), (iz x192), (iz x193), (iz x194), (iz x195), (iz x196), (iz x197), (iz x198)]) <|
 C.same s379.env[42]? (.bool b201) <|
 C.same s379.env[43]? (.bool (xor true (b174 == b201))) <|
 C.same s379.env[44]? (.bool (xor true (b174 == b201))) <|
 C.same s379.env[45]? bf <|
 C.same s379.env[46]? (.agg [v205, (iz x206), (iz x207), (iz x208), (iz x209), (iz x210), (iz x211), (iz x212), (iz x213)]) <|
 C.same s379.env[47]? (.agg [v217, (iz x218), (iz x219), (iz x220), (iz x221), (iz x222), (iz x223), (iz x224), (iz x225)]) <|
 C.same s379.env[48]? (.bool b228) <|
 C.same s379.env[49]? (.agg [v232, (iz x233), (iz x234), (iz x235), (iz x236), (iz x237), (iz x238), (iz x239), (iz x240)]) <|
 C.same s379.env[50]? (.agg [v244, (iz x245), (iz x246), (iz x247), (iz x248), (iz x249), (iz x250), (iz x251), (iz x252)]) <|
 C.same s379.env[51]? (.bool b255) <|
 C.same s379.env[52]? (.bool (xor true (b228 == b255))) <|
 C.same s379.env[53]? bf <|
 C.same s379.env[54]? v256 <|
 C.same s379.env[55]? v258 <|
 C.same s379.env[56]? (iz x262) <|
 C.same s379.env[57]? (iz x268) <|
 C.same s379.env[58]? bt <|
 C.same s379.env[59]? (iz x268) <|
 C.same s379.env[60]? v305 <|
 C.same s379.env[61]? v307 <|
 C.same s379.env[62]? (iz x268) <|
 C.same s379.env[63]? v309 <|
 C.same s379.env[64]? v311 <|
 C.same s379.env[65]? (iz x315) <|
 C.same s379.env[66]? (iz (IntKind.wrap .i64 (x315 + 1))) <|
 C.same s379.env[67]? v316 <|
 C.same s379.env[68]? v318 <|
 C.same s379.env[69]? v322 <|
 C.same s379.env[70]? v324 <|
 C.same s379.env[71]? (iz x268) <|
 C.same s379.env[72]? v326 <|
 C.same s379.env[73]? v328 <|
 C.same s379.env[74]? v330 <|
 C.same s379.env[75]? (iz x334) <|
 C.int .i64 s379.env[76]? fun x381 =>
 C.any s379.env[77]? fun v382 =>
 C.any s379.env[78]? fun v383 =>
 C.any s379.env[79]? fun v384 =>
 C.any s379.env[80]? fun v385 =>
 C.any s379.env[81]? fun v386 =>
 C.any s379.env[82]? fun v387 =>
 C.any s379.env[83]? fun v388 =>
 C.any s379.env[84]? fun v389 =>
 C.any s379.env[85]? fun v390 =>
 C.any s379.env[86]? fun v391 =>
 C.any s379.env[87]? fun v392 =>
 C.any s379.env[88]? fun v393 =>
 C.any s379.env[89]? fun v394 =>
 C.any s379.env[90]? fun v395 =>
 C.any s379.env[91]? fun v396 =>
 C.any s379.env[92]? fun v397 =>
 C.same s379.env[93]? v304 <|
 C.same s379.env[94]? tz <|
 C.same s379.env[95]? tz <|
 C.same s379.env[96]? tz <|
 k264 .normal ⟨[(.agg [(.lst a0), (iz a1), (iz a2), (iz a3), (iz a4), (iz a5), (iz a6), (iz a7), (iz a8)]), (.agg [(.lst a9), (iz a10), (iz a11), (iz a12), (iz a13), (iz a14), (iz a15), (iz a16), (iz a17)]), v0, v2, bf, v86, v88, (iz x268), v380, (.bool b4), (.bool (!b4)), bf, (.agg [v9, (iz x10), (iz x11), (iz x12), (iz x13), (iz x14), (iz x15), (iz x16), (iz x17)]), (.bool b20), (.bool (!b20)), (.bool (!b20)), bf, (.agg [v25, (iz x26), (iz x27), (iz x28), (iz x29), (iz x30), (iz x31), (iz x32), (iz x33)]), (.bool b36), (.bool (!b36)), bf, tz, (.agg [v41, (iz x42), (iz x43), (iz x44), (iz x45), (iz x46), (iz x47), (iz x48), (iz x49)]), (.agg [v53, (iz x54), (iz x55), (iz x56), (iz x57), (iz x58), (iz x59), (iz x60), (iz x61)]), (.agg [v65, (iz x66), (iz x67), (iz x68), (iz x69), (iz x70), (iz x71), (iz x72), (iz x73)]), (.agg [v77, (iz x78), (iz x79), (iz x80), (iz x81), (iz x82), (iz x83), (iz x84), (iz x85)]), (.agg [v97, (iz x98), (iz x99), (iz x100), (iz x101), (iz x102), (iz x103), (iz x104), (iz x105)]), (.agg [v109, (iz x110), (iz x111), (iz x112), (iz x113), (iz x114), (iz x115), (iz x116), (iz x117)]), (.bool b120), (.bool (!b120)), bf, (.agg [v124, (iz x125), (iz x126), (iz x127), (iz x128), (iz x129), (iz x130), (iz x131), (iz x132)]), (.agg [v136, (iz x137), (iz x138), (iz x139), (iz x140), (iz x141), (iz x142), (iz x143), (iz x144)]), (.bool b147), (.bool (!b147)), (.bool (!b147)), bf, (.agg [v151, (iz x152), (iz x153), (iz x154), (iz x155), (iz x156), (iz x157), (iz x158), (iz x159)]), (.agg [v163, (iz x164), (iz x165), (iz x166), (iz x167), (iz x168), (iz x169), (iz x170), (iz x171)]), (.bool b174), (.agg [v178, (iz x179), (iz x180), (iz x181), (iz x182), (iz x183), (iz x184), (iz x185), (iz x186)]), (.agg [v190, (iz x191), (iz x192), (iz x193), (iz x194), (iz x195), (iz x196), (iz x197), (iz x198)]), (.bool b201), (.bool (xor true (b174 == b201))), (.bool (xor true (b174 == b201))), bf, (.agg [v205, (iz x206), (iz x207), (iz x208), (iz x209), (iz x210), (iz x211), (iz x212), (iz x213)]), (.agg [v217, (iz x218), (iz x219), (iz x220), (iz x221), (iz x222), (iz x223), (iz x224), (iz x225)]), (.bool b228), (.agg [v232, (iz x233), (iz x234), (iz x235), (iz x236), (iz x237), (iz x238), (iz x239), (iz x240)]), (.agg [v244, (iz x245), (iz x246), (iz x247), (iz x248), (iz x249), (iz x250), (iz x251), (iz x252)]), (.bool b255), (.bool (xor true (b228 == b255))), bf, v256, v258, (iz x262), (iz (IntKind.wrap .i64 (x268 + 1))), bt, (iz x268), v305, v307, (iz x268), v309, v311, (iz x315), (iz (IntKind.wrap .i64 (x315 + 1))), v316, v318, v322, v324, (iz x268), v326, v328, v330, (iz x334), (iz x381), v382, v383, v384, v385, v386, v387, v388, v389, v390, v391, v392, v393, v394, v395, v396, v397, (iz (IntKind.wrap .i64 (x268 + 1))), tz, tz, tz], (St.H s379)⟩)
 (none)
def r4E1 (C : Cb) (d : Nat) (a0 : List AV) (a1 a2 a3 a4 a5 a6 a7 a8 : Int) (a9 : List AV) (a10 a11 a12 a13 a14 a15 a16 a17 : Int) (v0 v2 : AV) (b4 : Bool) (v9 : AV) (x10 x11 x12 x13 x14 x15 x16 x17 : Int) (b20 : Bool) (v25 : AV) (x26 x27 x28 x29 x30 x31 x32 x33 : Int) (b36 : Bool) (v41 : AV) (x42 x43 x44 x45 x46 x47 x48 x49 : Int) (v53 : AV) (x54 x55 x56 x57 x58 x59 x60 x61 : Int) (v65 : AV) (x66 x67 x68 x69 x70 x71 x72 x73 : Int) (v77 : AV) (x78 x79 x80 x81 x82 x83 x84 x85 : Int) (v86 v88 v97 : AV) (x98 x99 x100 x101 x102 x103 x104 x105 : Int) (v109 : AV) (x110 x111 x112 x113 x114 x115 x116 x117 : Int) (b120 : Bool) (v124 : AV) (x125 x126 x127 x128 x129 x130 x131 x132 : Int) (v136 : AV) (x137 x138 x139 x140 x141 x142 x143 x144 : Int) (b147 : Bool) (v151 : AV) (x152 x153 x154 x155 x156 x157 x158 x159 : Int) (v163 : AV) (x164 x165 x166 x167 x168 x169 x170 x171 : Int) (b174 : Bool) (v178 : AV) (x179 x180 x181 x182 x183 x184 x185 x186 : Int) (v190 : AV) (x191 x192 x193 x194 x195 x196 x197 x198 : Int) (b201 : Bool) (v205 : AV) (x206 x207 x208 x209 x210 x211 x212 x213 : Int) (v217 : AV) (x218 x219 x220 x221 x222 x223 x224 x225 : Int) (b228 : Bool) (v232 : AV) (x233 x234 x235 x236 x237 x238 x239 x240 : Int) (v244 : AV) (x245 x246 x247 x248 x249 x250 x251 x252 : Int) (b255 : Bool) (v256 v258 : AV) (x262 : Int) (k264 : Ex → St → Ans) (x268 : Int) (v304 v305 v307 v309 v311 : AV) (x315 : Int) (v316 v318 v322 v324 v326 v328 v330 : AV) (x334 : Int) : St → Ans := fun s337 =>
 cnd ((List.length s337.env) == 97)
 (C.same s337.env[0]? (.agg [(.lst a0), (iz a1), (iz a2), (iz a3), (iz a4), (iz a5), (iz a6), (iz a7), (iz a8)]) <|
 C.same s337.env[1]? (.agg [(.lst a9), (iz a10), (iz a11), (iz a12), (iz a13), (iz a14), (iz a15), (iz a16), (iz a17)]) <|
 C.same s337.env[2]? v0 <|
 C.same s337.env[3]? v2 <|
 C.same s337.env[4]? bf <|
 C.same s337.env[5]? v86 <|
 C.same s337.env[6]? v88 <|
 C.same s337.env[7]? (iz x268) <|
 C.any s337.env[8]? fun v398 =>
 C.same s337.env[9]? (.bool b4) <|
 C.same s337.env[10]? (.bool (!b4)) <|
 C.same s337.env[11]? bf <|
 C.same s337.env[12]? (.agg [v9, (iz x10), (iz x11), (iz x12), (iz x13), (iz x14), (iz x15), (iz x16), (iz x17)]) <|
 C.same s337.env[13]? (.bool b20) <|
 C.same s337.env[14]? (.bool (!b20)) <|
 C.same s337.env[15]? (.bool (!b20)) <|
 C.same s337.env[16]? bf <|
 C.same s337.env[17]? (.agg [v25, (iz x26), (iz x27), (iz x28), (iz x29), (iz x30), (iz x31), (iz x32), (iz x33)]) <|
 C.same s337.env[18]? (.bool b36) <|
 C.same s337.env[19]? (.bool (!b36)) <|
 C.same s337.env[20]? bf <|
 C.same s337.env[21]? tz <|
 C.same s337.env[22]? (.agg [v41, (iz x42), (iz x43), (iz x44), (iz x45), (iz x46), (iz x47), (iz x48), (iz x49)]) <|
 C.same s337.env[23]? (.agg [v53, (iz x54), (iz x55), (iz x56), (iz x57), (iz x58), (iz x59), (iz x60), (iz x61)]) <|
 C.same s337.env[24]? (.agg [v65, (iz x66), (iz x67), (iz x68), (iz x69), (iz x70), (iz x71), (iz x72), (iz x73)]) <|
 C.same s337.env[25]? (.agg [v77, (iz x78), (iz x79), (iz x80), (iz x81), (iz x82), (iz x83), (iz x84), (iz x85)]) <|
 C.same s337.env[26]? (.agg [v97, (iz x98), (iz x99), (iz x100), (iz x101), (iz x102), (iz x103), (iz x104), (iz x105)]) <|
 C.same s337.env[27]? (.agg [v109, (iz x110), (iz x111), (iz x112), (iz x113), (iz x114), (iz x115), (iz x116), (iz x117)]) <|
 C.same s337.env[28]? (.bool b120) <|
 C.same s337.env[29]? (.bool (!b120)) <|
 C.same s337.env[30]? bf <|
 C.same s337.env[31]? (.agg [v124, (iz x125), (iz x126), (iz x127), (iz x128), (iz x129), (iz x130), (iz x131), (iz x132)]) <|
 C.same s337.env[32]? (.agg [v136, (iz x137), (iz x138), (iz x139), (iz x140), (iz x141), (iz x142), (iz x143), (iz x144)]) <|
 C.same s337.env[33]? (.bool b147) <|
 C.same s337.env[34]? (.bool (!b147)) <|
 C.same s337.env[35]? (.bool (!b147)) <|
 C.same s337.env[36]? bf <|
 C.same s337.env[37]? (.agg [v151, (iz x152), (iz x153), (iz x154), (iz x155), (iz x156), (iz x157), (iz x158), (iz x159)]) <|
 C.same s337.env[38]? (.agg [v163, (iz x164), (iz x165), (iz x166), (iz x167), (iz x168), (iz x169), (iz x170), (iz x171)]) <|
 C.same s337.env[39]? (.bool b174) <|
 C.same s337.env[40]? (.agg [v178, (iz x179), (iz x180), (iz x181), (iz x182), (iz x183), (iz x184), (iz x185), (iz x186)]) <|
 C.same s337.env[41]? (.agg [v190, (iz x191), (iz x192), (iz x193), (iz x194), (iz x195), (iz x196), (iz x197), (iz x198)]) <|
 C.same s337.env[42]? (.bool b201) <|
 C.same s337.env[43]? (.bool (xor true (b174 == b201))) <|
 C.same s337.env[44]? (.bool (xor true (b174 == b201))) <|
 C.same s337.env[45]? bf <|
 C.same s337.env[46]? (.agg [v205, (iz x206), (iz x207), (iz x208), (iz x209), (iz x210), (iz x211), (iz x212), (iz x213)]) <|
 C.same s337.env[47]? (.agg [v217, (iz x218), (iz x219), (iz x220), (iz x221), (iz x222), (iz x223), (iz x224), (iz x225)]) <|
 C.same s337.env[48]? (.bool b228) <|
 C.same s337.env[49]? (.agg [v232, (iz x233), (iz x234), (iz x235), (iz x236), (iz x237), (iz x238), (iz x239), (iz x240)]) <|
 C.same s337.env[50]? (.agg [v244, (iz x245), (iz x246), (iz x247), (iz x248), (iz x249), (iz x250), (iz x251), (iz x252)]) <|
 C.same s337.env[51]? (.bool b255) <|
 C.same s337.env[52]? (.bool (xor true (b228 == b255))) <|
 C.same s337.env[53]? bf <|
 C.same s337.env[54]? v256 <|
 C.same s337.env[55]? v258 <|
 C.same s337.env[56]? (iz x262) <|
 C.same s337.env[57]? (iz x268) <|
 C.same s337.env[58]? bt <|
 C.same s337.env[59]? (iz x268) <|
 C.same s337.env[60]? v305 <|
 C.same s337.env[61]? v307 <|
 C.same s337.env[62]? (iz x268) <|
 C.same s337.env[63]? v309 <|
 C.same s337.env[64]? v311 <|
 C.same s337.env[65]? (iz x315) <|
 C.same s337.env[66]? (iz (IntKind.wrap .i64 (x315 + 1))) <|
 C.same s337.env[67]? v316 <|
 C.same s337.env[68]? v318 <|
 C.same s337.env[69]? v322 <|
 C.same s337.env[70]? v324 <|
 C.same s337.env[71]? (iz x268) <|
 C.same s337.env[72]? v326 <|
 C.same s337.env[73]? v328 <|
 C.same s337.env[74]? v330 <|
 C.same s337.env[75]? (iz x334) <|
 C.int .i64 s337.env[76]? fun x399 =>
 C.any s337.env[77]? fun v400 =>
 C.any s337.env[78]? fun v401 =>
 C.any s337.env[79]? fun v402 =>
 C.any s337.env[80]? fun v403 =>
 C.any s337.env[81]? fun v404 =>
 C.any s337.env[82]? fun v405 =>
 C.any s337.env[83]? fun v406 =>
 C.any s337.env[84]? fun v407 =>
 C.any s337.env[85]? fun v408 =>
 C.any s337.env[86]? fun v409 =>
 C.any s337.env[87]? fun v410 =>
 C.any s337.env[88]? fun v411 =>
 C.any s337.env[89]? fun v412 =>
 C.any s337.env[90]? fun v413 =>
 C.any s337.env[91]? fun v414 =>
 C.any s337.env[92]? fun v415 =>
 C.same s337.env[93]? v304 <|
 C.same s337.env[94]? tz <|
 C.same s337.env[95]? tz <|
 C.same s337.env[96]? tz <|
 k264 .ret ⟨[(.agg [(.lst a0), (iz a1), (iz a2), (iz a3), (iz a4), (iz a5), (iz a6), (iz a7), (iz a8)]), (.agg [(.lst a9), (iz a10), (iz a11), (iz a12), (iz a13), (iz a14), (iz a15), (iz a16), (iz a17)]), v0, v2, bf, v86, v88, (iz x268), v398, (.bool b4), (.bool (!b4)), bf, (.agg [v9, (iz x10), (iz x11), (iz x12), (iz x13), (iz x14), (iz x15), (iz x16), (iz x17)]), (.bool b20), (.bool (!b20)), (.bool (!b20)), bf, (.agg [v25, (iz x26), (iz x27), (iz x28), (iz x29), (iz x30), (iz x31), (iz x32), (iz x33)]), (.bool b36), (.bool (!b36)), bf, tz, (.agg [v41, (iz x42), (iz x43), (iz x44), (iz x45), (iz x46), (iz x47), (iz x48), (iz x49)]), (.agg [v53, (iz x54), (iz x55), (iz x56), (iz x57), (iz x58), (iz x59), (iz x60), (iz x61)]), (.agg [v65, (iz x66), (iz x67), (iz x68), (iz x69), (iz x70), (iz x71), (iz x72), (iz x73)]), (.agg [v77, (iz x78), (iz x79), (iz x80), (iz x81), (iz x82), (iz x83), (iz x84), (iz x85)]), (.agg [v97, (iz x98), (iz x99), (iz x100), (iz x101), (iz x102), (iz x103), (iz x104), (iz x105)]), (.agg [v109, (iz x110), (iz x111), (iz x112), (iz x113), (iz x114), (iz x115), (iz x116), (iz x117)]), (.bool b120), (.bool (!b120)), bf, (.agg [v124, (iz x125), (iz x126), (iz x127), (iz x128), (iz x129), (iz x130), (iz x131), (iz x132)]), (.agg [v136, (iz x137), (iz x138), (iz x139), (iz x140), (iz x141), (iz x142), (iz x143), (iz x144)]), (.bool b147), (.bool (!b147)), (.bool (!b147)), bf, (.agg [v151, (iz x152), (iz x153), (iz x154), (iz x155), (iz x156), (iz x157), (iz x158), (iz x159)]), (.agg [v163, (iz x164), (iz x165), (iz x166), (iz x167), (iz x168), (iz x169), (iz x170), (iz x171)]), (.bool b174), (.agg [v178, (iz x179), (iz x180), (iz x181), (iz x182), (iz x183), (iz x184), (iz x185), (iz x186)]), (.agg [v190, (iz x191), (iz x192), (iz x193), (iz x194), (iz x195), (iz x196), (iz x197), (iz x198)]), (.bool b201), (.bool (xor true (b174 == b201))), (.bool (xor true (b174 == b201))), bf, (.agg [v205, (iz x206), (iz x207), (iz x208), (iz x209), (iz x210), (iz x211), (iz x212), (iz x213)]), (.agg [v217, (iz x218), (iz x219), (iz x220), (iz x221), (iz x222), (iz x223), (iz x224), (iz x225)]), (.bool b228), (.agg [v232, (iz x233), (iz x234), (iz x235), (iz x236), (iz x237), (iz x238), (iz x239), (iz x240)]), (.agg [v244, (iz x245), (iz x246), (iz x247), (iz x248), (iz x249), (iz x250), (iz x251), (iz x252)]), (.bool b255), (.bool (xor true (b228 == b255))), bf, v256, v258, (iz x262), (iz x268), bt, (iz x268), v305, v307, (iz x268), v309, v311, (iz x315), (iz (IntKind.wrap .i64 (x315 + 1))), v316, v318, v322, v324, (iz x268), v326, v328, v330, (iz x334), (iz x399), v400, v401, v402, v403, v404, v405, v406, v407, v408, v409, v410, v411, v412, v413, v414, v415, v304, tz, tz, tz], (St.H s337)⟩)
 (none)
def r4R0 (C : Cb) (d : Nat) (a0 : List AV) (a1 a2 a3 a4 a5 a6 a7 a8 : Int) (a9 : List AV) (a10 a11 a12 a13 a14 a15 a16 a17 : Int) (v0 v2 : AV) (b4 : Bool) (v9 : AV) (x10 x11 x12 x13 x14 x15 x16 x17 : Int) (b20 : Bool) (v25 : AV) (x26 x27 x28 x29 x30 x31 x32 x33 : Int) (b36 : Bool) (v41 : AV) (x42 x43 x44 x45 x46 x47 x48 x49 : Int) (v53 : AV) (x54 x55 x56 x57 x58 x59 x60 x61 : Int) (v65 : AV) (x66 x67 x68 x69 x70 x71 x72 x73 : Int) (v77 : AV) (x78 x79 x80 x81 x82 x83 x84 x85 : Int) (v86 v88 v97 : AV) (x98 x99 x100 x101 x102 x103 x104 x105 : Int) (v109 : AV) (x110 x111 x112 x113 x114 x115 x116 x117 : Int) (b120 : Bool) (v124 : AV) (x125 x126 x127 x128 x129 x130 x131 x132 : Int) (v136 : AV) (x137 x138 x139 x140 x141 x142 x143 x144 : Int) (b147 : Bool) (v151 : AV) (x152 x153 x154 x155 x156 x157 x158 x159 : Int) (v163 : AV) (x164 x165 x166 x167 x168 x169 x170 x171 : Int) (b174 : Bool) (v178 : AV) (x179 x180 x181 x182 x183 x184 x185 x186 : Int) (v190 : AV) (x191 x192 x193 x194 x195 x196 x197 x198 : Int) (b201 : Bool) (v205 : AV) (x206 x207 x208 x209 x210 x211 x212 x213 : Int) (v217 : AV) (x218 x219 x220 x221 x222 x223 x224 x225 : Int) (b228 : Bool) (v232 : AV) (x233 x234 x235 x236 x237 x238 x239 x240 : Int) (v244 : AV) (x245 x246 x247 x248 x249 x250 x251 x252 : Int) (b255 : Bool) (v256 v258 : AV) (x262 : Int) : St → (Ex → St → Ans) → Ans := fun s263 k264 =>
 cnd ((List.length s263.env) == 97)
 (C.same s263.env[0]? (.agg [(.lst a0), (iz a1), (iz a2), (iz a3), (iz a4), (iz a5), (iz a6), (iz a7), (iz a8)]) <|
 C.same s263.env[1]? (.agg [(.lst a9), (iz a10), (iz a11), (iz a12), (iz a13), (iz a14), (iz a15), (iz a16), (iz a17)]) <|
 C.same s263.env[2]? v0 <|
 C.same s263.env[3]? v2 <|
 C.same s263.env[4]? bf <|
 C.same s263.env[5]? v86 <|
 C.same s263.env[6]? v88 <|
 C.any s263.env[7]? fun v266 =>
 C.any s263.env[8]? fun v267 =>
 C.same s263.env[9]? (.bool b4) <|
 C.same s263.env[10]? (.bool (!b4)) <|
 C.same s263.env[11]? bf <|
 C.same s263.env[12]? (.agg [v9, (iz x10), (iz x11), (iz x12), (iz x13), (iz x14), (iz x15), (iz x16), (iz x17)]) <|
 C.same s263.env[13]? (.bool b20) <|
 C.same s263.env[14]? (.bool (!b20)) <|
 C.same s263.env[15]? (.bool (!b20)) <|
 C.same s263.env[16]? bf <|
 C.same s263.env[17]? (.agg [v25, (iz x26), (iz x27), (iz x28), (iz x29), (iz x30), (iz x31), (iz x32), (iz x33)]) <|
 C.same s263.env[18]? (.bool b36) <|
 C.same s263.env[19]? (.bool (!b36)) <|
 C.same s263.env[20]? bf <|
 C.same s263.env[21]? tz <|
 C.same s263.env[22]? (.agg [v41, (iz x42), (iz x43), (iz x44), (iz x45), (iz x46), (iz x47), (iz x48), (iz x49)]) <|
 C.same s263.env[23]? (.agg [v53, (iz x54), (iz x55), (iz x56), (iz x57), (iz x58), (iz x59), (iz x60), (iz x61)]) <|
 C.same s263.env[24]? (.agg [v65, (iz x66), (iz x67), (iz x68), (iz x69), (iz x70), (iz x71), (iz x72), (iz x73)]) <|
 C.same s263.env[25]? (.agg [v77, (iz x78), (iz x79), (iz x80), (iz x81), (iz x82), (iz x83), (iz x84), (iz x85)]) <|
 C.same s263.env[26]? (.agg [v97, (iz x98), (iz x99), (iz x100), (iz x101), (iz x102), (iz x103), (iz x104), (iz x105)]) <|
 C.same s263.env[27]? (.agg [v109, (iz x110), (iz x111), (iz x112), (iz x113), (iz x114), (iz x115), (iz x116), (iz x117)]) <|
 C.same s263.env[28]? (.bool b120) <|
 C.same s263.env[29]? (.bool (!b120)) <|
 C.same s263.env[30]? bf <|
 C.same s263.env[31]? (.agg [v124, (iz x125), (iz x126), (iz x127), (iz x128), (iz x129), (iz x130), (iz x131), (iz x132)]) <|
 C.same s263.env[32]? (.agg [v136, (iz x137), (iz x138), (iz x139), (iz x140), (iz x141), (iz x142), (iz x143), (iz x144)]) <|
 C.same s263.env[33]? (.bool b147) <|
 C.same s263.env[34]? (.bool (!b147)) <|
 C.same s263.env[35]? (.bool (!b147)) <|
 C.same s263.env[36]? bf <|
 C.same s263.env[37]? (.agg [v151, (iz x152), (iz x153), (iz x154), (iz x155), (iz x156), (iz x157), (iz x158), (iz x159)]) <|
 C.same s263.env[38]? (.agg [v163, (iz x164), (iz x165), (iz x166), (iz x167), (iz x168), (iz x169), (iz x170), (iz x171)]) <|
 C.same s263.env[39]? (.bool b174) <|
 C.same s263.env[40]? (.agg [v178, (iz x179), (iz x180), (iz x181), (iz x182), (iz x183), (iz x184), (iz x185), (iz x186)]) <|
 C.same s263.env[41]? (.agg [v190, (iz x191), (iz x192), (iz x193), (iz x194), (iz x195), (iz x196), (iz x197), (iz x198)]) <|
 C.same s263.env[42]? (.bool b201) <|
 C.same s263.env[43]? (.bool (xor true (b174 == b201))) <|
 C.same s263.env[44]? (.bool (xor true (b174 == b201))) <|
 C.same s263.env[45]? bf <|
 C.same s263.env[46]? (.agg [v205, (iz x206), (iz x207), (iz x208), (iz x209), (iz x210), (iz x211), (iz x212), (iz x213)]) <|
 C.same s263.env[47]? (.agg [v217, (iz x218), (iz x219), (iz x220), (iz x221), (iz x222), (iz x223), (iz x224), (iz x225)]) <|
 C.same s263.env[48]? (.bool b228) <|
 C.same s263.env[49]? (.agg [v232, (iz x233), (iz x234), (iz x235), (iz x236), (iz x237), (iz x238), (iz x239), (iz x240)]) <|
 C.same s263.env[50]? (.agg [v244, (iz x245), (iz x246), (iz x247), (iz x248), (iz x249), (iz x250), (iz x251), (iz x252)]) <|
 C.same s263.env[51]? (.bool b255) <|
 C.same s263.env[52]? (.bool (xor true (b228 == b255))) <|
 C.same s263.env[53]? bf <|
 C.same s263.env[54]? v256 <|
 C.same s263.env[55]? v258 <|
 C.same s263.env[56]? (iz x262) <|
 C.int .i64 s263.env[57]? fun x268 =>
 C.any s263.env[58]? fun v269 =>
 C.any s263.env[59]? fun v270 =>
 C.any s263.env[60]? fun v271 =>
 C.any s263.env[61]? fun v272 =>
 C.any s263.env[62]? fun v273 =>
 C.any s263.env[63]? fun v274 =>
 C.any s263.env[64]? fun v275 =>
 C.any s263.env[65]? fun v276 =>
 C.any s263.env[66]? fun v277 =>
 C.any s263.env[67]? fun v278 =>
 C.any s263.env[68]? fun v279 =>
 C.any s263.env[69]? fun v280 =>
 C.any s263.env[70]? fun v281 =>
 C.any s263.env[71]? fun v282 =>
 C.any s263.env[72]? fun v283 =>
 C.any s263.env[73]? fun v284 =>
 C.any s263.env[74]? fun v285 =>
 C.any s263.env[75]? fun v286 =>
 C.any s263.env[76]? fun v287 =>
 C.any s263.env[77]? fun v288 =>
 C.any s263.env[78]? fun v289 =>
 C.any s263.env[79]? fun v290 =>
 C.any s263.env[80]? fun v291 =>
 C.any s263.env[81]? fun v292 =>
 C.any s263.env[82]? fun v293 =>
 C.any s263.env[83]? fun v294 =>
 C.any s263.env[84]? fun v295 =>
 C.any s263.env[85]? fun v296 =>
 C.any s263.env[86]? fun v297 =>
 C.any s263.env[87]? fun v298 =>
 C.any s263.env[88]? fun v299 =>
 C.any s263.env[89]? fun v300 =>
 C.any s263.env[90]? fun v301 =>
 C.any s263.env[91]? fun v302 =>
 C.any s263.env[92]? fun v303 =>
 C.any s263.env[93]? fun v304 =>
 C.same s263.env[94]? tz <|
 C.same s263.env[95]? tz <|
 C.same s263.env[96]? tz <|
 cnd (decide (x268 < x262))
 (C.hop (St.H s263) (.fldA 0 (.v v86)) fun v305 h306 =>
 C.hop h306 (.load false 1 (.v v305)) fun v307 h308 =>
 C.hop h308 (.ixAS .any 5 (.v v307) (.v (iz x268))) fun v309 h310 =>
 C.hop h310 (.fldA 1 (.v v309)) fun v311 h312 =>
 C.hop h312 (.load false 1 (.v v311)) fun v313 h314 =>
 C.int .i64 (some v313) fun x315 =>
 C.hop h314 (.ixAS .any 5 (.v v307) (.v (iz x268))) fun v316 h317 =>
 C.hop h317 (.fldA 1 (.v v316)) fun v318 h319 =>
 C.hop h319 (.store 1 (.v v318) (.v (iz (IntKind.wrap .i64 (x315 + 1))))) fun v320 h321 =>
 C.hop h321 (.fldA 0 (.v v86)) fun v322 h323 =>
 C.hop h323 (.load false 1 (.v v322)) fun v324 h325 =>
 C.hop h325 (.ixAS .any 5 (.v v324) (.v (iz x268))) fun v326 h327 =>
 C.hop h327 (.fldA 0 (.v v326)) fun v328 h329 =>
 C.hop h329 (.load false 1 (.v v328)) fun v330 h331 =>
 C.hop h331 (.bk .lenV [(.v v330)]) fun v332 h333 =>
 C.int .i64 (some v332) fun x334 =>
 C.iter (r4R1 C d a0 a1 a2 a3 a4 a5 a6 a7 a8 a9 a10 a11 a12 a13 a14 a15 a16 a17 v0 v2 b4 v9 x10 x11 x12 x13 x14 x15 x16 x17 b20 v25 x26 x27 x28 x29 x30 x31 x32 x33 b36 v41 x42 x43 x44 x45 x46 x47 x48 x49 v53 x54 x55 x56 x57 x58 x59 x60 x61 v65 x66 x67 x68 x69 x70 x71 x72 x73 v77 x78 x79 x80 x81 x82 x83 x84 x85 v86 v88 v97 x98 x99 x100 x101 x102 x103 x104 x105 v109 x110 x111 x112 x113 x114 x115 x116 x117 b120 v124 x125 x126 x127 x128 x129 x130 x131 x132 v136 x137 x138 x139 x140 x141 x142 x143 x144 b147 v151 x152 x153 x154 x155 x156 x157 x158 x159 v163 x164 x165 x166 x167 x168 x169 x170 x171 b174 v178 x179 x180 x181 x182 x183 x184 x185 x186 v190 x191 x192 x193 x194 x195 x196 x197 x198 b201 v205 x206 x207 x208 x209 x210 x211 x212 x213 v217 x218 x219 x220 x221 x222 x223 x224 x225 b228 v232 x233 x234 x235 x236 x237 x238 x239 x240 v244 x245 x246 x247 x248 x249 x250 x251 x252 b255 v256 v258 x262 k264 x268 v304 v305 v307 v309 v311 x315 v316 v318 v322 v324 v326 v328 v330 x334) 10000000000000000000 ⟨[(.agg [(.lst a0), (iz a1), (iz a2), (iz a3), (iz a4), (iz a5), (iz a6), (iz a7), (iz a8)]), (.agg [(.lst a9), (iz a10), (iz a11), (iz a12), (iz a13), (iz a14), (iz a15), (iz a16), (iz a17)]), v0, v2, bf, v86, v88, (iz x268), v267, (.bool b4), (.bool (!b4)), bf, (.agg [v9, (iz x10), (iz x11), (iz x12), (iz x13), (iz x14), (iz x15), (iz x16), (iz x17)]), (.bool b20), (.bool (!b20)), (.bool (!b20)), bf, (.agg [v25, (iz x26), (iz x27), (iz x28), (iz x29), (iz x30), (iz x31), (iz x32), (iz x33)]), (.bool b36), (.bool (!b36)), bf, tz, (.agg [v41, (iz x42), (iz x43), (iz x44), (iz x45), (iz x46), (iz x47), (iz x48), (iz x49)]), (.agg [v53, (iz x54), (iz x55), (iz x56), (iz x57), (iz x58), (iz x59), (iz x60), (iz x61)]), (.agg [v65, (iz x66), (iz x67), (iz x68), (iz x69), (iz x70), (iz x71), (iz x72), (iz x73)]), (.agg [v77, (iz x78), (iz x79), (iz x80), (iz x81), (iz x82), (iz x83), (iz x84), (iz x85)]), (.agg [v97, (iz x98), (iz x99), (iz x100), (iz x101), (iz x102), (iz x103), (iz x104), (iz x105)]), (.agg [v109, (iz x110), (iz x111), (iz x112), (iz x113), (iz x114), (iz x115), (iz x116), (iz x117)]), (.bool b120), (.bool (!b120)), bf, (.agg [v124, (iz x125), (iz x126), (iz x127), (iz x128), (iz x129), (iz x130), (iz x131), (iz x132)]), (.agg [v136, (iz x137), (iz x138), (iz x139), (iz x140), (iz x141), (iz x142), (iz x143), (iz x144)]), (.bool b147), (.bool (!b147)), (.bool (!b147)), bf, (.agg [v151, (iz x152), (iz x153), (iz x154), (iz x155), (iz x156), (iz x157), (iz x158), (iz x159)]), (.agg [v163, (iz x164), (iz x165), (iz x166), (iz x167), (iz x168), (iz x169), (iz x170), (iz x171)]), (.bool b174), (.agg [v178, (iz x179), (iz x180), (iz x181), (iz x182), (iz x183), (iz x184), (iz x185), (iz x186)]), (.agg [v190, (iz x191), (iz x192), (iz x193), (iz x194), (iz x195), (iz x196), (iz x197), (iz x198)]), (.bool b201), (.bool (xor true (b174 == b201))), (.bool (xor true (b174 == b201))), bf, (.agg [v205, (iz x206), (iz x207), (iz x208), (iz x209), (iz x210), (iz x211), (iz x212), (iz x213)]), (.agg [v217, (iz x218), (iz x219), (iz x220), (iz x221), (iz x222), (iz x223), (iz x224), (iz x225)]), (.bool b228), (.agg [v232, (iz x233), (iz x234), (iz x235), (iz x236), (iz x237), (iz x238), (iz x239), (iz x240)]), (.agg [v244, (iz x245), (iz x246), (iz x247), (iz x248), (iz x249), (iz x250), (iz x251), (iz x252)]), (.bool b255), (.bool (xor true (b228 == b255))), bf, v256, v258, (iz x262), (iz x268), bt, (iz x268), v305, v307, (iz x268), v309, v311, (iz x315), (iz (IntKind.wrap .i64 (x315 + 1))), v316, v318, v322, v324, (iz x268), v326, v328, v330, (iz x334), (iz 0), v288, v289, v290, v291, v292, v293, v294, v295, v296, v297, v298, v299, v300, v301, v302, v303, v304, tz, tz, tz], h333⟩ [2] [r4X1_0 C d a0 a1 a2 a3 a4 a5 a6 a7 a8 a9 a10 a11 a12 a13 a14 a15 a16 a17 v0 v2 b4 v9 x10 x11 x12 x13 x14 x15 x16 x17 b20 v25 x26 x27 x28 x29 x30 x31 x32 x33 b36 v41 x42 x43 x44 x45 x46 x47 x48 x49 v53 x54 x55 x56 x57 x58 x59 x60 x61 v65 x66 x67 x68 x69 x70 x71 x72 x73 v77 x78 x79 x80 x81 x82 x83 x84 x85 v86 v88 v97 x98 x99 x100 x101 x102 x103 x104 x105 v109 x110 x111 x112 x113 x114 x115 x116 x117 b120 v124 x125 x126 x127 x128 x129 x130 x131 x132 v136 x137 x138 x139 x140 x141 x142 x143 x144 b147 v151 x152 x153 x154 x155 x156 x157 x158 x159 v163 x164 x165 x166 x167 x168 x169 x170 x171 b174 v178 x179 x180 x181 x182 x183 x184 x185 x186 v190 x191 x192 x193 x194 x195 x196 x197 x198 b201 v205 x206 x207 x208 x209 x210 x211 x212 x213 v217 x218 x219 x220 x221 x222 x223 x224 x225 b228 v232 x233 x234 x235 x236 x237 x238 x239 x240 v244 x245 x246 x247 x248 x249 x250 x251 x252 b255 v256 v258 x262 k264 x268 v304 v305 v307 v309 v311 x315 v316 v318 v322 v324 v326 v328 v330 x334] (r4E1 C d a0 a1 a2 a3 a4 a5 a6 a7 a8 a9 a10 a11 a12 a13 a14 a15 a16 a17 v0 v2 b4 v9 x10 x11 x12 x13 x14 x15 x16 x17 b20 v25 x26 x27 x28 x29 x30 x31 x32 x33 b36 v41 x42 x43 x44 x45 x46 x47 x48 x49 v53 x54 x55 x56 x57 x58 x59 x60 x61 v65 x66 x67 x68 x69 x70 x71 x72 x73 v77 x78 x79 x80 x81 x82 x83 x84 x85 v86 v88 v97 x98 x99 x100 x101 x102 x103 x104 x105 v109 x110 x111 x112 x113 x114 x115 x116 x117 b120 v124 x125 x126 x127 x128 x129 x130 x131 x132 v136 x137 x138 x139 x140 x141 x142 x143 x144 b147 v151 x152 x153 x154 x155 x156 x157 x158 x159 v163 x164 x165 x166 x167 x168 x169 x170 x171 b174 v178 x179 x180 x181 x182 x183 x184 x185 x186 v190 x191 x192 x193 x194 x195 x196 x197 x198 b201 v205 x206 x207 x208 x209 x210 x211 x212 x213 v217 x218 x219 x220 x221 x222 x223 x224 x225 b228 v232 x233 x234 x235 x236 x237 x238 x239 x240 v244 x245 x246 x247 x248 x249 x250 x251 x252 b255 v256 v258 x262 k264 x268 v304 v305 v307 v309 v311 x315 v316 v318 v322 v324 v326 v328 v330 x334))
 (k264 (.exit 0) ⟨[(.agg [(.lst a0), (iz a1), (iz a2), (iz a3), (iz a4), (iz a5), (iz a6), (iz a7), (iz a8)]), (.agg [(.lst a9), (iz a10), (iz a11), (iz a12), (iz a13), (iz a14), (iz a15), (iz a16), (iz a17)]), v0, v2, bf, v86, v88, v266, v267, (.bool b4), (.bool (!b4)), bf, (.agg [v9, (iz x10), (iz x11), (iz x12), (iz x13), (iz x14), (iz x15), (iz x16), (iz x17)]), (.bool b20), (.bool (!b20)), (.bool (!b20)), bf, (.agg [v25, (iz x26), (iz x27), (iz x28), (iz x29), (iz x30), (iz x31), (iz x32), (iz x33)]), (.bool b36), (.bool (!b36)), bf, tz, (.agg [v41, (iz x42), (iz x43), (iz x44), (iz x45), (iz x46), (iz x47), (iz x48), (iz x49)]), (.agg [v53, (iz x54), (iz x55), (iz x56), (iz x57), (iz x58), (iz x59), (iz x60), (iz x61)]), (.agg [v65, (iz x66), (iz x67), (iz x68), (iz x69), (iz x70), (iz x71), (iz x72), (iz x73)]), (.agg [v77, (iz x78), (iz x79), (iz x80), (iz x81), (iz x82), (iz x83), (iz x84), (iz x85)]), (.agg [v97, (iz x98), (iz x99), (iz x100), (iz x101), (iz x102), (iz x103), (iz x104), (iz x105)]), (.agg [v109, (iz x110), (iz x111), (iz x112), (iz x113), (iz x114), (iz x115), (iz x116), (iz x117)]), (.bool b120), (.bool (!b120)), bf, (.agg [v124, (iz x125), (iz x126), (iz x127), (iz x128), (iz x129), (iz x130), (iz x131), (iz x132)]), (.agg [v136, (iz x137), (iz x138), (iz x139), (iz x140), (iz x141), (iz x142), (iz x143), (iz x144)]), (.bool b147), (.bool (!b147)), (.bool (!b147)), bf, (.agg [v151, (iz x152), (iz x153), (iz x154), (iz x155), (iz x156), (iz x157), (iz x158), (iz x159)]), (.agg [v163, (iz x164), (iz x165), (iz x166), (iz x167), (iz x168), (iz x169), (iz x170), (iz x171)]), (.bool b174), (.agg [v178, (iz x179), (iz x180), (iz x181), (iz x182), (iz x183), (iz x184), (iz x185), (iz x186)]), (.agg [v190, (iz x191), (iz x192), (iz x193), (iz x194), (iz x195), (iz x196), (iz x197), (iz x198)]), (.bool b201), (.bool (xor true (b174 == b201))), (.bool (xor true (b174 == b201))), bf, (.agg [v205, (iz x206), (iz x207), (iz x208), (iz x209), (iz x210), (iz x211), (iz x212), (iz x213)]), (.agg [v217, (iz x218), (iz x219), (iz x220), (iz x221), (iz x222), (iz x223), (iz x224), (iz x225)]), (.bool b228), (.agg [v232, (iz x233), (iz x234), (iz x235), (iz x236), (iz x237), (iz x238), (iz x239), (iz x240)]), (.agg [v244, (iz x245), (iz x246), (iz x247), (iz x248), (iz x249), (iz x250), (iz x251), (iz x252)]), (.bool b255), (.bool (xor true (b228 == b255))), bf, v256, v258, (iz x262), (iz x268), bf, v270, v271, v272, v273, v274, v275, v276, v277, v278, v279, v280, v281, v282, v283, v284, v285, v286, v287, v288, v289, v290, v291, v292, v293, v294, v295, v296, v297, v298, v299, v300, v301, v302, v303, v304, tz, tz, tz], (St.H s263)⟩))
 (none)
def r4X0_0 (C : Cb) (d : Nat) (a0 : List AV) (a1 a2 a3 a4 a5 a6 a7 a8 : Int) (a9 : List AV) (a10 a11 a12 a13 a14 a15 a16 a17 : Int) (v0 v2 : AV) (b4 : Bool) (v9 : AV) (x10 x11 x12 x13 x14 x15 x16 x17 : Int) (b20 : Bool) (v25 : AV) (x26 x27 x28 x29 x30 x31 x32 x33 : Int) (b36 : Bool) (v41 : AV) (x42 x43 x44 x45 x46 x47 x48 x49 : Int) (v53 : AV) (x54 x55 x56 x57 x58 x59 x60 x61 : Int) (v65 : AV) (x66 x67 x68 x69 x70 x71 x72 x73 : Int) (v77 : AV) (x78 x79 x80 x81 x82 x83 x84 x85 : Int) (v86 v88 v97 : AV) (x98 x99 x100 x101 x102 x103 x104 x105 : Int) (v109 : AV) (x110 x111 x112 x113 x114 x115 x116 x117 : Int) (b120 : Bool) (v124 : AV) (x125 x126 x127 x128 x129 x130 x131 x132 : Int) (v136 : AV) (x137 x138 x139 x140 x141 x142 x143 x144 : Int) (b147 : Bool) (v151 : AV) (x152 x153 x154 x155 x156 x157 x158 x159 : Int) (v163 : AV) (x164 x165 x166 x167 x168 x169 x170 x171 : Int) (b174 : Bool) (v178 : AV) (x179 x180 x181 x182 x183 x184 x185 x186 : Int) (v190 : AV) (x191 x192 x193 x194 x195 x196 x197 x198 : Int) (b201 : Bool) (v205 : AV) (x206 x207 x208 x209 x210 x211 x212 x213 : Int) (v217 : AV) (x218 x219 x220 x221 x222 x223 x224 x225 : Int) (b228 : Bool) (v232 : AV) (x233 x234 x235 x236 x237 x238 x239 x240 : Int) (v244 : AV) (x245 x246 x247 x248 x249 x250 x251 x252 : Int) (b255 : Bool) (v256 v258 : AV) (x262 : Int) : St → Ans := fun s416 =>
 cnd ((List.length s416.env) == 97)
 (C.same s416.env[0]? (.agg [(.lst a0), (iz a1), (iz a2), (iz a3), (iz a4), (iz a5), (iz a6), (iz a7), (iz a8)]) <|
 C.same s416.env[1]? (.agg [(.lst a9), (iz a10), (iz a11), (iz a12), (iz a13), (iz a14), (iz a15), (iz a16), (iz a17)]) <|
 C.same s416.env[2]? v0 <|
 C.same s416.env[3]? v2 <|
 C.same s416.env[4]? bf <|
 C.same s416.env[5]? v86 <|
 C.same s416.env[6]? v88 <|
 C.any s416.env[7]? fun v417 =>
 C.any s416.env[8]? fun v418 =>
 C.same s416.env[9]? (.bool b4) <|
 C.same s416.env[10]? (.bool (!b4)) <|
 C.same s416.env[11]? bf <|
 C.same s416.env[12]? (.agg [v9, (iz x10), (iz x11), (iz x12), (iz x13), (iz x14), (iz x15), (iz x16), (iz x17)]) <|
 C.same s416.env[13]? (.bool b20) <|
 C.same s416.env[14]? (.bool (!b20)) <|
 C.same s416.env[15]? (.bool (!b20)) <|
 C.same s416.env[16]? bf <|
 C.same s416.env[17]? (.agg [v25, (iz x26), (iz x27), (iz x28), (iz x29), (iz x30), (iz x31), (iz x32), (iz x33)]) <|
 C.same s416.env[18]? (.bool b36) <|
 C.same s416.env[19]? (.bool (!b36)) <|
 C.same s416.env[20]? bf <|
 C.same s416.env[21]? tz <|
 C.same s416.env[22]? (.agg [v41, (iz x42), (iz x43), (iz x44), (iz x45), (iz x46), (iz x47), (iz x48), (iz x49)]) <|
 C.same s416.env[23]? (.agg [v53, (iz x54), (iz x55), (iz x56), (iz x57), (iz x58), (iz x59), (iz x60), (iz x61)]) <|
 C.same s416.env[24]? (.agg [v65, (iz x66), (iz x67), (iz x68), (iz x69), (iz x70), (iz x71), (iz x72), (iz x73)]) <|
 C.same s416.env[25]? (.agg [v77, (iz x78), (iz x79), (iz x80), (iz x81), (iz x82), (iz x83), (iz x84), (iz x85)]) <|
 C.same s416.env[26]? (.agg [v97, (iz x98), (iz x99), (iz x100), (iz x101), (iz x102), (iz x103), (iz x104), (iz x105)]) <|
 C.same s416.env[27]? (.agg [v109, (iz x110), (iz x111), (iz x112), (iz x113), (iz x114), (iz x115), (iz x116), (iz x117)]) <|
 C.same s416.env[28]? (.bool b120) <|
 C.same s416.env[29]? (.bool (!b120)) <|
 C.same s416.env[30]? bf <|
 C.same s416.env[31]? (.agg [v124, (iz x125), (iz x126), (iz x127), (iz x128), (iz x129), (iz x130), (iz x131), (iz x132)]) <|
 C.same s416.env[32]? (.agg [v136, (iz x137), (iz x138), (iz x139), (iz x140), (iz x141), (iz x142), (iz x143), (iz x144)]) <|
 C.same s416.env[33]? (.bool b147) <|
 C.same s416.env[34]? (.bool (!b147)) <|
 C.same s416.env[35]? (.bool (!b147)) <|
 C.same s416.env[36]? bf <|
 C.same s416.env[37]? (.agg [v151, (iz x152), (iz x153), (iz x154), (iz x155), (iz x156), (iz x157), (iz x158), (iz x159)]) <|
 C.same s416.env[38]? (.agg [v163, (iz x164), (iz x165), (iz x166), (iz x167), (iz x168), (iz x169), (iz x170), (iz x171)]) <|
 C.same s416.env[39]? (.bool b174) <|
 C.same s416.env[40]? (.agg [v178, (iz x179), (iz x180), (iz x181), (iz x182), (iz x183), (iz x184), (iz x185), (iz x186)]) <|
 C.same s416.env[41]? (.agg [v190, (iz x191), (iz x192), (iz x193), (iz x194), (iz x195), (iz x196), (iz x197), (iz x198)]) <|
 C.same s416.env[42]? (.bool b201) <|
 C.same s416.env[43]? (.bool (xor true (b174 == b201))) <|
 C.same s416.env[44]? (.bool (xor true (b174 == b201))) <|
 C.same s416.env[45]? bf <|
 C.same s416.env[46]? (.agg [v205, (iz x206), (iz x207), (iz x208), (iz x209), (iz x210), (iz x211), (iz x212), (iz x213)]) <|
 C.same s416.env[47]? (.agg [v217, (iz x218), (iz x219), (iz x220), (iz x221), (iz x222), (iz x223), (iz x224), (iz x225)]) <|
 C.same s416.env[48]? (.bool b228) <|
 C.same s416.env[49]? (.agg [v232, (iz x233), (iz x234), (iz x235), (iz x236), (iz x237), (iz x238), (iz x239), (iz x240)]) <|
 C.same s416.env[50]? (.agg [v244, (iz x245), (iz x246), (iz x247), (iz x248), (iz x249), (iz x250), (iz x251), (iz x252)]) <|
 C.same s416.env[51]? (.bool b255) <|
 C.same s416.env[52]? (.bool (xor true (b228 == b255))) <|
 C.same s416.env[53]? bf <|
 C.same s416.env[54]? v256 <|
 C.same s416.env[55]? v258 <|
 C.same s416.env[56]? (iz x262) <|
 C.int .i64 s416.env[57]? fun x419 =>
 C.any s416.env[58]? fun v420 =>
 C.any s416.env[59]? fun v421 =>
 C.any s416.env[60]? fun v422 =>
 C.any s416.env[61]? fun v423 =>
 C.any s416.env[62]? fun v424 =>
 C.any s416.env[63]? fun v425 =>
 C.any s416.env[64]? fun v426 =>
 C.any s416.env[65]? fun v427 =>
 C.any s416.env[66]? fun v428 =>
 C.any s416.env[67]? fun v429 =>
 C.any s416.env[68]? fun v430 =>
 C.any s416.env[69]? fun v431 =>
 C.any s416.env[70]? fun v432 =>
 C.any s416.env[71]? fun v433 =>
 C.any s416.env[72]? fun v434 =>
 C.any s416.env[73]? fun v435 =>
 C.any s416.env[74]? fun v436 =>
 C.any s416.env[75]? fun v437 =>
 C.any s416.env[76]? fun v438 =>
 C.any s416.env[77]? fun v439 =>
 C.any s416.env[78]? fun v440 =>
 C.any s416.env[79]? fun v441 =>
 C.any s416.env[80]? fun v442 =>
 C.any s416.env[81]? fun v443 =>
 C.any s416.env[82]? fun v444 =>
 C.any s416.env[83]? fun v445 =>
 C.any s416.env[84]? fun v446 =>
 C.any s416.env[85]? fun v447 =>
 C.any s416.env[86]? fun v448 =>
 C.any s416.env[87]? fun v449 =>
 C.any s416.env[88]? fun v450 =>
 C.any s416.env[89]? fun v451 =>
 C.any s416.env[90]? fun v452 =>
 C.any s416.env[91]? fun v453 =>
 C.any s416.env[92]? fun v454 =>
 C.any s416.env[93]? fun v455 =>
 C.same s416.env[94]? tz <|
 C.same s416.env[95]? tz <|
 C.same s416.env[96]? tz <|
 C.hop (St.H s416) (.load true 9 (.v v0)) fun v456 h457 =>
 C.agg 9 (some v456) fun l458 =>
 C.any l458[0]? fun v459 =>
 C.int .i64 l458[1]? fun x460 =>
 C.int .i64 l458[2]? fun x461 =>
 C.int .i64 l458[3]? fun x462 =>
 C.int .i64 l458[4]? fun x463 =>
 C.int .i64 l458[5]? fun x464 =>
 C.int .i64 l458[6]? fun x465 =>
 C.int .i64 l458[7]? fun x466 =>
 C.int .i64 l458[8]? fun x467 =>
 C.hop h457 (.load true 9 (.v v88)) fun v468 h469 =>
 C.agg 9 (some v468) fun l470 =>
 C.any l470[0]? fun v471 =>
 C.int .i64 l470[1]? fun x472 =>
 C.int .i64 l470[2]? fun x473 =>
 C.int .i64 l470[3]? fun x474 =>
 C.int .i64 l470[4]? fun x475 =>
 C.int .i64 l470[5]? fun x476 =>
 C.int .i64 l470[6]? fun x477 =>
 C.int .i64 l470[7]? fun x478 =>
 C.int .i64 l470[8]? fun x479 =>
 C.snp h469 [(.agg [v459, (iz x460), (iz x461), (iz x462), (iz x463), (iz x464), (iz x465), (iz x466), (iz x467)]), (.agg [v471, (iz x472), (iz x473), (iz x474), (iz x475), (iz x476), (iz x477), (iz x478), (iz x479)])] fun l480 b481 =>
 C.bool (pcall M d 19 l480) fun b482 =>
 cnd (b481 || true)
 (C.fin h469 (.bool b482))
 (none))
 (none)
def r4E0 (C : Cb) (d : Nat) (a0 : List AV) (a1 a2 a3 a4 a5 a6 a7 a8 : Int) (a9 : List AV) (a10 a11 a12 a13 a14 a15 a16 a17 : Int) (v0 v2 : AV) (b4 : Bool) (v9 : AV) (x10 x11 x12 x13 x14 x15 x16 x17 : Int) (b20 : Bool) (v25 : AV) (x26 x27 x28 x29 x30 x31 x32 x33 : Int) (b36 : Bool) (v41 : AV) (x42 x43 x44 x45 x46 x47 x48 x49 : Int) (v53 : AV) (x54 x55 x56 x57 x58 x59 x60 x61 : Int) (v65 : AV) (x66 x67 x68 x69 x70 x71 x72 x73 : Int) (v77 : AV) (x78 x79 x80 x81 x82 x83 x84 x85 : Int) (v86 v88 v97 : AV) (x98 x99 x100 x101 x102 x103 x104 x105 : Int) (v109 : AV) (x110 x111 x112 x113 x114 x115 x116 x117 : Int) (b120 : Bool) (v124 : AV) (x125 x126 x127 x128 x129 x130 x131 x132 : Int) (v136 : AV) (x137 x138 x139 x140 x141 x142 x143 x144 : Int) (b147 : Bool) (v151 : AV) (x152 x153 x154 x155 x156 x157 x158 x159 : Int) (v163 : AV) (x164 x165 x166 x167 x168 x169 x170 x171 : Int) (b174 : Bool) (v178 : AV) (x179 x180 x181 x182 x183 x184 x185 x186 : Int) (v190 : AV) (x191 x192 x193 x194 x195 x196 x197 x198 : Int) (b201 : Bool) (v205 : AV) (x206 x207 x208 x209 x210 x211 x212 x213 : Int) (v217 : AV) (x218 x219 x220 x221 x222 x223 x224 x225 : Int) (b228 : Bool) (v232 : AV) (x233 x234 x235 x236 x237 x238 x239 x240 : Int) (v244 : AV) (x245 x246 x247 x248 x249 x250 x251 x252 : Int) (b255 : Bool) (v256 v258 : AV) (x262 : Int) : St → Ans := fun s265 =>
 cnd ((List.length s265.env) == 97)
 (C.same s265.env[0]? (.agg [(.lst a0), (iz a1), (iz a2), (iz a3), (iz a4), (iz a5), (iz a6), (iz a7), (iz a8)]) <|
 C.same s265.env[1]? (.agg [(.lst a9), (iz a10), (iz a11), (iz a12), (iz a13), (iz a14), (iz a15), (iz a16), (iz a17)]) <|
 C.same s265.env[2]? v0 <|
 C.same s265.env[3]? v2 <|
 C.same s265.env[4]? bf <|
 C.same s265.env[5]? v86 <|
 C.same s265.env[6]? v88 <|
 C.any s265.env[7]? fun v483 =>
 C.any s265.env[8]? fun v484 =>
 C.same s265.env[9]? (.bool b4) <|
 C.same s265.env[10]? (.bool (!b4)) <|
 C.same s265.env[11]? bf <|
 C.same s265.env[12]? (.agg [v9, (iz x10), (iz x11), (iz x12), (iz x13), (iz x14), (iz x15), (iz x16), (iz x17)]) <|
 C.same s265.env[13]? (.bool b20) <|
 C.same s265.env[14]? (.bool (!b20)) <|
 C.same s265.env[15]? (.bool (!b20)) <|
 C.same s265.env[16]? bf <|
 C.same s265.env[17]? (.agg [v25, (iz x26), (iz x27), (iz x28), (iz x29), (iz x30), (iz x31), (iz x32), (iz x33)]) <|
 C.same s265.env[18]? (.bool b36) <|
 C.same s265.env[19]? (.bool (!b36)) <|
 C.same s265.env[20]? bf <|
 C.same s265.env[21]? tz <|
 C.same s265.env[22]? (.agg [v41, (iz x42), (iz x43), (iz x44), (iz x45), (iz x46), (iz x47), (iz x48), (iz x49)]) <|
 C.same s265.env[23]? (.agg [v53, (iz x54), (iz x55), (iz x56), (iz x57), (iz x58), (iz x59), (iz x60), (iz x61)]) <|
 C.same s265.env[24]? (.agg [v65, (iz x66), (iz x67), (iz x68), (iz x69), (iz x70), (iz x71), (iz x72), (iz x73)]) <|
 C.same s265.env[25]? (.agg [v77, (iz x78), (iz x79), (iz x80), (iz x81), (iz x82), (iz x83), (iz x84), (iz x85)]) <|
 C.same s265.env[26]? (.agg [v97, (iz x98), (iz x99), (iz x100), (iz x101), (iz x102), (iz x103), (iz x104), (iz x105)]) <|
 C.same s265.env[27]? (.agg [v109, (iz x110), (iz x111), (iz x112), (iz x113), (iz x114), (iz x115), (iz x116), (iz x117)]) <|
 C.same s265.env[28]? (.bool b120) <|
 C.same s265.env[29]? (.bool (!b120)) <|
 C.same s265.env[30]? bf <|
 C.same s265.env[31]? (.agg [v124, (iz x125), (iz x126), (iz x127), (iz x128), (iz x129), (iz x130), (iz x131), (iz x132)]) <|
 C.same s265.env[32]? (.agg [v136, (iz x137), (iz x138), (iz x139), (iz x140), (iz x141), (iz x142), (iz x143), (iz x144)]) <|
 C.same s265.env[33]? (.bool b147) <|
 C.same s265.env[34]? (.bool (!b147)) <|
 C.same s265.env[35]? (.bool (!b147)) <|
 C.same s265.env[36]? bf <|
 C.same s265.env[37]? (.agg [v151, (iz x152), (iz x153), (iz x154), (iz x155), (iz x156), (iz x157), (iz x158), (iz x159)]) <|
 C.same s265.env[38]? (.agg [v163, (iz x164), (iz x165), (iz x166), (iz x167), (iz x168), (iz x169), (iz x170), (iz x171)]) <|
 C.same s265.env[39]? (.bool b174) <|
 C.same s265.env[40]? (.agg [v178, (iz x179), (iz x180), (iz x181), (iz x182), (iz x183), (iz x184), (iz x185), (iz x186)]) <|
 C.same s265.env[41]? (.agg [v190, (iz x191), (iz x192), (iz x193), (iz x194), (iz x195), (iz x196), (iz x197), (iz x198)]) <|
 C.same s265.env[42]? (.bool b201) <|
 C.same s265.env[43]? (.bool (xor true (b174 == b201))) <|
 C.same s265.env[44]? (.bool (xor true (b174 == b201))) <|
 C.same s265.env[45]? bf <|
 C.same s265.env[46]? (.agg [v205, (iz x206), (iz x207), (iz x208), (iz x209), (iz x210), (iz x211), (iz x212), (iz x213)]) <|
 C.same s265.env[47]? (.agg [v217, (iz x218), (iz x219), (iz x220), (iz x221), (iz x222), (iz x223), (iz x224), (iz x225)]) <|
 C.same s265.env[48]? (.bool b228) <|
 C.same s265.env[49]? (.agg [v232, (iz x233), (iz x234), (iz x235), (iz x236), (iz x237), (iz x238), (iz x239), (iz x240)]) <|
 C.same s265.env[50]? (.agg [v244, (iz x245), (iz x246), (iz x247), (iz x248), (iz x249), (iz x250), (iz x251), (iz x252)]) <|
 C.same s265.env[51]? (.bool b255) <|
 C.same s265.env[52]? (.bool (xor true (b228 == b255))) <|
 C.same s265.env[53]? bf <|
 C.same s265.env[54]? v256 <|
 C.same s265.env[55]? v258 <|
 C.same s265.env[56]? (iz x262) <|
 C.int .i64 s265.env[57]? fun x485 =>
 C.any s265.env[58]? fun v486 =>
 C.any s265.env[59]? fun v487 =>
 C.any s265.env[60]? fun v488 =>
 C.any s265.env[61]? fun v489 =>
 C.any s265.env[62]? fun v490 =>
 C.any s265.env[63]? fun v491 =>
 C.any s265.env[64]? fun v492 =>
 C.any s265.env[65]? fun v493 =>
 C.any s265.env[66]? fun v494 =>
 C.any s265.env[67]? fun v495 =>
 C.any s265.env[68]? fun v496 =>
 C.any s265.env[69]? fun v497 =>
 C.any s265.env[70]? fun v498 =>
 C.any s265.env[71]? fun v499 =>
 C.any s265.env[72]? fun v500 =>
 C.any s265.env[73]? fun v501 =>
 C.any s265.env[74]? fun v502 =>
 C.any s265.env[75]? fun v503 =>
 C.any s265.env[76]? fun v504 =>
 C.any s265.env[77]? fun v505 =>
 C.any s265.env[78]? fun v506 =>
 C.any s265.env[79]? fun v507 =>
 C.any s265.env[80]? fun v508 =>
 C.any s265.env[81]? fun v509 =>
 C.any s265.env[82]? fun v510 =>
 C.any s265.env[83]? fun v511 =>
 C.any s265.env[84]? fun v512 =>
 C.any s265.env[85]? fun v513 =>
 C.any s265.env[86]? fun v514 =>
 C.any s265.env[87]? fun v515 =>
 C.any s265.env[88]? fun v516 =>
 C.any s265.env[89]? fun v517 =>
 C.any s265.env[90]? fun v518 =>
 C.any s265.env[91]? fun v519 =>
 C.any s265.env[92]? fun v520 =>
 C.any s265.env[93]? fun v521 =>
 C.same s265.env[94]? tz <|
 C.same s265.env[95]? tz <|
 C.same s265.env[96]? tz <|
 C.fin (St.H s265) bf)
 (none)
/-- apogee/apogeelaw13.RulesSame -/
theorem r4 (C : Cb) (d : Nat) (a0 : List AV) (a1 a2 a3 a4 a5 a6 a7 a8 : Int) (a9 : List AV) (a10 a11 a12 a13 a14 a15 a16 a17 : Int) : xcall C M unr d 4 [(.agg [(.lst a0), (iz a1), (iz a2), (iz a3), (iz a4), (iz a5), (iz a6), (iz a7), (iz a8)]), (.agg [(.lst a9), (iz a10), (iz a11), (iz a12), (iz a13), (iz a14), (iz a15), (iz a16), (iz a17)])] =
 C.hop [] (.box E24 (.v (.agg [(.lst a0), (iz a1), (iz a2), (iz a3), (iz a4), (iz a5), (iz a6), (iz a7), (iz a8)]))) fun v0 h1 =>
 C.hop h1 (.box E24 (.v (.agg [(.lst a9), (iz a10), (iz a11), (iz a12), (iz a13), (iz a14), (iz a15), (iz a16), (iz a17)]))) fun v2 h3 =>
 C.bool (pcall M d 8 []) fun b4 =>
 cnd (!b4)
 (C.bool (pcall M d 8 []) fun b5 =>
 C.fin h3 (.bool b5))
 (C.hop h3 (.load true 9 (.v v0)) fun v6 h7 =>
 C.agg 9 (some v6) fun l8 =>
 C.any l8[0]? fun v9 =>
 C.int .i64 l8[1]? fun x10 =>
 C.int .i64 l8[2]? fun x11 =>
 C.int .i64 l8[3]? fun x12 =>
 C.int .i64 l8[4]? fun x13 =>
 C.int .i64 l8[5]? fun x14 =>
 C.int .i64 l8[6]? fun x15 =>
 C.int .i64 l8[7]? fun x16 =>
 C.int .i64 l8[8]? fun x17 =>
 C.snp h7 [(.agg [v9, (iz x10), (iz x11), (iz x12), (iz x13), (iz x14), (iz x15), (iz x16), (iz x17)])] fun l18 b19 =>
 C.bool (pcall M d 9 l18) fun b20 =>
 cnd (b19 || true)
 (cnd (!b20)
 (C.bool (pcall M d 8 []) fun b21 =>
 C.fin h7 (.bool b21))
 (C.hop h7 (.load true 9 (.v v2)) fun v22 h23 =>
 C.agg 9 (some v22) fun l24 =>
 C.any l24[0]? fun v25 =>
 C.int .i64 l24[1]? fun x26 =>
 C.int .i64 l24[2]? fun x27 =>
 C.int .i64 l24[3]? fun x28 =>
 C.int .i64 l24[4]? fun x29 =>
 C.int .i64 l24[5]? fun x30 =>
 C.int .i64 l24[6]? fun x31 =>
 C.int .i64 l24[7]? fun x32 =>
 C.int .i64 l24[8]? fun x33 =>
 C.snp h23 [(.agg [v25, (iz x26), (iz x27), (iz x28), (iz x29), (iz x30), (iz x31), (iz x32), (iz x33)])] fun l34 b35 =>
 C.bool (pcall M d 9 l34) fun b36 =>
 cnd (b35 || true)
 (cnd (!b36)
 (C.bool (pcall M d 8 []) fun b37 =>
 C.fin h23 (.bool b37))
 (C.hop h23 (.load true 9 (.v v0)) fun v38 h39 =>
 C.agg 9 (some v38) fun l40 =>
 C.any l40[0]? fun v41 =>
 C.int .i64 l40[1]? fun x42 =>
 C.int .i64 l40[2]? fun x43 =>
 C.int .i64 l40[3]? fun x44 =>
 C.int .i64 l40[4]? fun x45 =>
 C.int .i64 l40[5]? fun x46 =>
 C.int .i64 l40[6]? fun x47 =>
 C.int .i64 l40[7]? fun x48 =>
 C.int .i64 l40[8]? fun x49 =>
 C.cal M (pcall M d) 12 false 18 [(.agg [v41, (iz x42), (iz x43), (iz x44), (iz x45), (iz x46), (iz x47), (iz x48), (iz x49)])] h39 fun v50 h51 =>
 C.agg 9 (some v50) fun l52 =>
 C.any l52[0]? fun v53 =>
 C.int .i64 l52[1]? fun x54 =>
 C.int .i64 l52[2]? fun x55 =>
 C.int .i64 l52[3]? fun x56 =>
 C.int .i64 l52[4]? fun x57 =>
 C.int .i64 l52[5]? fun x58 =>
 C.int .i64 l52[6]? fun x59 =>
 C.int .i64 l52[7]? fun x60 =>
 C.int .i64 l52[8]? fun x61 =>
 C.hop h51 (.load true 9 (.v v0)) fun v62 h63 =>
 C.agg 9 (some v62) fun l64 =>
 C.any l64[0]? fun v65 =>
 C.int .i64 l64[1]? fun x66 =>
 C.int .i64 l64[2]? fun x67 =>
 C.int .i64 l64[3]? fun x68 =>
 C.int .i64 l64[4]? fun x69 =>
 C.int .i64 l64[5]? fun x70 =>
 C.int .i64 l64[6]? fun x71 =>
 C.int .i64 l64[7]? fun x72 =>
 C.int .i64 l64[8]? fun x73 =>
 C.cal M (pcall M d) 12 false 18 [(.agg [v65, (iz x66), (iz x67), (iz x68), (iz x69), (iz x70), (iz x71), (iz x72), (iz x73)])] h63 fun v74 h75 =>
 C.agg 9 (some v74) fun l76 =>
 C.any l76[0]? fun v77 =>
 C.int .i64 l76[1]? fun x78 =>
 C.int .i64 l76[2]? fun x79 =>
 C.int .i64 l76[3]? fun x80 =>
 C.int .i64 l76[4]? fun x81 =>
 C.int .i64 l76[5]? fun x82 =>
 C.int .i64 l76[6]? fun x83 =>
 C.int .i64 l76[7]? fun x84 =>
 C.int .i64 l76[8]? fun x85 =>
 C.hop h75 (.alloc E24) fun v86 h87 =>
 C.hop h87 (.alloc E24) fun v88 h89 =>
 C.hop h89 (.store 9 (.v v86) (.v (.agg [v53, (iz x54), (iz x55), (iz x56), (iz x57), (iz x58), (iz x59), (iz x60), (iz x61)]))) fun v90 h91 =>
 C.hop h91 (.store 9 (.v v88) (.v (.agg [v77, (iz x78), (iz x79), (iz x80), (iz x81), (iz x82), (iz x83), (iz x84), (iz x85)]))) fun v92 h93 =>
 C.hop h93 (.load true 9 (.v v86)) fun v94 h95 =>
 C.agg 9 (some v94) fun l96 =>
 C.any l96[0]? fun v97 =>
 C.int .i64 l96[1]? fun x98 =>
 C.int .i64 l96[2]? fun x99 =>
 C.int .i64 l96[3]? fun x100 =>
 C.int .i64 l96[4]? fun x101 =>
 C.int .i64 l96[5]? fun x102 =>
 C.int .i64 l96[6]? fun x103 =>
 C.int .i64 l96[7]? fun x104 =>
 C.int .i64 l96[8]? fun x105 =>
 C.hop h95 (.load true 9 (.v v0)) fun v106 h107 =>
 C.agg 9 (some v106) fun l108 =>
 C.any l108[0]? fun v109 =>
 C.int .i64 l108[1]? fun x110 =>
 C.int .i64 l108[2]? fun x111 =>
 C.int .i64 l108[3]? fun x112 =>
 C.int .i64 l108[4]? fun x113 =>
 C.int .i64 l108[5]? fun x114 =>
 C.int .i64 l108[6]? fun x115 =>
 C.int .i64 l108[7]? fun x116 =>
 C.int .i64 l108[8]? fun x117 =>
 C.snp h107 [(.agg [v97, (iz x98), (iz x99), (iz x100), (iz x101), (iz x102), (iz x103), (iz x104), (iz x105)]), (.agg [v109, (iz x110), (iz x111), (iz x112), (iz x113), (iz x114), (iz x115), (iz x116), (iz x117)])] fun l118 b119 =>
 C.bool (pcall M d 19 l118) fun b120 =>
 cnd (b119 || true)
 (cnd (!b120)
 (C.fin h107 bf)
 (C.hop h107 (.load true 9 (.v v86)) fun v121 h122 =>
 C.agg 9 (some v121) fun l123 =>
 C.any l123[0]? fun v124 =>
 C.int .i64 l123[1]? fun x125 =>
 C.int .i64 l123[2]? fun x126 =>
 C.int .i64 l123[3]? fun x127 =>
 C.int .i64 l123[4]? fun x128 =>
 C.int .i64 l123[5]? fun x129 =>
 C.int .i64 l123[6]? fun x130 =>
 C.int .i64 l123[7]? fun x131 =>
 C.int .i64 l123[8]? fun x132 =>
 C.hop h122 (.load true 9 (.v v0)) fun v133 h134 =>
 C.agg 9 (some v133) fun l135 =>
 C.any l135[0]? fun v136 =>
 C.int .i64 l135[1]? fun x137 =>
 C.int .i64 l135[2]? fun x138 =>
 C.int .i64 l135[3]? fun x139 =>
 C.int .i64 l135[4]? fun x140 =>
 C.int .i64 l135[5]? fun x141 =>
 C.int .i64 l135[6]? fun x142 =>
 C.int .i64 l135[7]? fun x143 =>
 C.int .i64 l135[8]? fun x144 =>
 C.snp h134 [(.agg [v124, (iz x125), (iz x126), (iz x127), (iz x128), (iz x129), (iz x130), (iz x131), (iz x132)]), (.agg [v136, (iz x137), (iz x138), (iz x139), (iz x140), (iz x141), (iz x142), (iz x143), (iz x144)])] fun l145 b146 =>
 C.bool (pcall M d 20 l145) fun b147 =>
 cnd (b146 || true)
 (cnd (!b147)
 (C.fin h134 bf)
 (C.hop h134 (.load true 9 (.v v0)) fun v148 h149 =>
 C.agg 9 (some v148) fun l150 =>
 C.any l150[0]? fun v151 =>
 C.int .i64 l150[1]? fun x152 =>
 C.int .i64 l150[2]? fun x153 =>
 C.int .i64 l150[3]? fun x154 =>
 C.int .i64 l150[4]? fun x155 =>
 C.int .i64 l150[5]? fun x156 =>
 C.int .i64 l150[6]? fun x157 =>
 C.int .i64 l150[7]? fun x158 =>
 C.int .i64 l150[8]? fun x159 =>
 C.hop h149 (.load true 9 (.v v2)) fun v160 h161 =>
 C.agg 9 (some v160) fun l162 =>
 C.any l162[0]? fun v163 =>
 C.int .i64 l162[1]? fun x164 =>
 C.int .i64 l162[2]? fun x165 =>
 C.int .i64 l162[3]? fun x166 =>
 C.int .i64 l162[4]? fun x167 =>
 C.int .i64 l162[5]? fun x168 =>
 C.int .i64 l162[6]? fun x169 =>
 C.int .i64 l162[7]? fun x170 =>
 C.int .i64 l162[8]? fun x171 =>
 C.snp h161 [(.agg [v151, (iz x152), (iz x153), (iz x154), (iz x155), (iz x156), (iz x157), (iz x158), (iz x159)]), (.agg [v163, (iz x164), (iz x165), (iz x166), (iz x167), (iz x168), (iz x169), (iz x170), (iz x171)])] fun l172 b173 =>
 C.bool (pcall M d 20 l172) fun b174 =>
 cnd (b173 || true)
 (C.hop h161 (.load true 9 (.v v0)) fun v175 h176 =>
 C.agg 9 (some v175) fun l177 =>
 C.any l177[0]? fun v178 =>
 C.int .i64 l177[1]? fun x179 =>
 C.int .i64 l177[2]? fun x180 =>
 C.int .i64 l177[3]? fun x181 =>
 C.int .i64 l177[4]? fun x182 =>
 C.int .i64 l177[5]? fun x183 =>
 C.int .i64 l177[6]? fun x184 =>
 C.int .i64 l177[7]? fun x185 =>
 C.int .i64 l177[8]? fun x186 =>
 C.hop h176 (.load true 9 (.v v2)) fun v187 h188 =>
 C.agg 9 (some v187) fun l189 =>
 C.any l189[0]? fun v190 =>
 C.int .i64 l189[1]? fun x191 =>
 C.int .i64 l189[2]? fun x192 =>
 C.int .i64 l189[3]? fun x193 =>
 C.int .i64 l189[4]? fun x194 =>
 C.int .i64 l189[5]? fun x195 =>
 C.int .i64 l189[6]? fun x196 =>
 C.int .i64 l189[7]? fun x197 =>
 C.int .i64 l189[8]? fun x198 =>
 C.snp h188 [(.agg [v178, (iz x179), (iz x180), (iz x181), (iz x182), (iz x183), (iz x184), (iz x185), (iz x186)]), (.agg [v190, (iz x191), (iz x192), (iz x193), (iz x194), (iz x195), (iz x196), (iz x197), (iz x198)])] fun l199 b200 =>
 C.bool (pcall M d 19 l199) fun b201 =>
 cnd (b200 || true)
 (cnd (xor true (b174 == b201))
 (C.fin h188 bf)
 (C.hop h188 (.load true 9 (.v v0)) fun v202 h203 =>
 C.agg 9 (some v202) fun l204 =>
 C.any l204[0]? fun v205 =>
 C.int .i64 l204[1]? fun x206 =>
 C.int .i64 l204[2]? fun x207 =>
 C.int .i64 l204[3]? fun x208 =>
 C.int .i64 l204[4]? fun x209 =>
 C.int .i64 l204[5]? fun x210 =>
 C.int .i64 l204[6]? fun x211 =>
 C.int .i64 l204[7]? fun x212 =>
 C.int .i64 l204[8]? fun x213 =>
 C.hop h203 (.load true 9 (.v v2)) fun v214 h215 =>
 C.agg 9 (some v214) fun l216 =>
 C.any l216[0]? fun v217 =>
 C.int .i64 l216[1]? fun x218 =>
 C.int .i64 l216[2]? fun x219 =>
 C.int .i64 l216[3]? fun x220 =>
 C.int .i64 l216[4]? fun x221 =>
 C.int .i64 l216[5]? fun x222 =>
 C.int .i64 l216[6]? fun x223 =>
 C.int .i64 l216[7]? fun x224 =>
 C.int .i64 l216[8]? fun x225 =>
 C.snp h215 [(.agg [v205, (iz x206), (iz x207), (iz x208), (iz x209), (iz x210), (iz x211), (iz x212), (iz x213)]), (.agg [v217, (iz x218), (iz x219), (iz x220), (iz x221), (iz x222), (iz x223), (iz x224), (iz x225)])] fun l226 b227 =>
 C.bool (pcall M d 20 l226) fun b228 =>
 cnd (b227 || true)
 (C.hop h215 (.load true 9 (.v v2)) fun v229 h230 =>
 C.agg 9 (some v229) fun l231 =>
 C.any l231[0]? fun v232 =>
 C.int .i64 l231[1]? fun x233 =>
 C.int .i64 l231[2]? fun x234 =>
 C.int .i64 l231[3]? fun x235 =>
 C.int .i64 l231[4]? fun x236 =>
 C.int .i64 l231[5]? fun x237 =>
 C.int .i64 l231[6]? fun x238 =>
 C.int .i64 l231[7]? fun x239 =>
 C.int .i64 l231[8]? fun x240 =>
 C.hop h230 (.load true 9 (.v v0)) fun v241 h242 =>
 C.agg 9 (some v241) fun l243 =>
 C.any l243[0]? fun v244 =>
 C.int .i64 l243[1]? fun x245 =>
 C.int .i64 l243[2]? fun x246 =>
 C.int .i64 l243[3]? fun x247 =>
 C.int .i64 l243[4]? fun x248 =>
 C.int .i64 l243[5]? fun x249 =>
 C.int .i64 l243[6]? fun x250 =>
 C.int .i64 l243[7]? fun x251 =>
 C.int .i64 l243[8]? fun x252 =>
 C.snp h242 [(.agg [v232, (iz x233), (iz x234), (iz x235), (iz x236), (iz x237), (iz x238), (iz x239), (iz x240)]), (.agg [v244, (iz x245), (iz x246), (iz x247), (iz x248), (iz x249), (iz x250), (iz x251), (iz x252)])] fun l253 b254 =>
 C.bool (pcall M d 20 l253) fun b255 =>
 cnd (b254 || true)
 (cnd (xor true (b228 == b255))
 (C.fin h242 bf)
 (C.hop h242 (.fldA 0 (.v v86)) fun v256 h257 =>
 C.hop h257 (.load false 1 (.v v256)) fun v258 h259 =>
 C.hop h259 (.bk .lenV [(.v v258)]) fun v260 h261 =>
 C.int .i64 (some v260) fun x262 =>
 C.iter (r4R0 C d a0 a1 a2 a3 a4 a5 a6 a7 a8 a9 a10 a11 a12 a13 a14 a15 a16 a17 v0 v2 b4 v9 x10 x11 x12 x13 x14 x15 x16 x17 b20 v25 x26 x27 x28 x29 x30 x31 x32 x33 b36 v41 x42 x43 x44 x45 x46 x47 x48 x49 v53 x54 x55 x56 x57 x58 x59 x60 x61 v65 x66 x67 x68 x69 x70 x71 x72 x73 v77 x78 x79 x80 x81 x82 x83 x84 x85 v86 v88 v97 x98 x99 x100 x101 x102 x103 x104 x105 v109 x110 x111 x112 x113 x114 x115 x116 x117 b120 v124 x125 x126 x127 x128 x129 x130 x131 x132 v136 x137 x138 x139 x140 x141 x142 x143 x144 b147 v151 x152 x153 x154 x155 x156 x157 x158 x159 v163 x164 x165 x166 x167 x168 x169 x170 x171 b174 v178 x179 x180 x181 x182 x183 x184 x185 x186 v190 x191 x192 x193 x194 x195 x196 x197 x198 b201 v205 x206 x207 x208 x209 x210 x211 x212 x213 v217 x218 x219 x220 x221 x222 x223 x224 x225 b228 v232 x233 x234 x235 x236 x237 x238 x239 x240 v244 x245 x246 x247 x248 x249 x250 x251 x252 b255 v256 v258 x262) 10000000000000000000 ⟨[(.agg [(.lst a0), (iz a1), (iz a2), (iz a3), (iz a4), (iz a5), (iz a6), (iz a7), (iz a8)]), (.agg [(.lst a9), (iz a10), (iz a11), (iz a12), (iz a13), (iz a14), (iz a15), (iz a16), (iz a17)]), v0, v2, bf, v86, v88, tz, tz, (.bool b4), (.bool (!b4)), bf, (.agg [v9, (iz x10), (iz x11), (iz x12), (iz x13), (iz x14), (iz x15), (iz x16), (iz x17)]), (.bool b20), (.bool (!b20)), (.bool (!b20)), bf, (.agg [v25, (iz x26), (iz x27), (iz x28), (iz x29), (iz x30), (iz x31), (iz x32), (iz x33)]), (.bool b36), (.bool (!b36)), bf, tz, (.agg [v41, (iz x42), (iz x43), (iz x44), (iz x45), (iz x46), (iz x47), (iz x48), (iz x49)]), (.agg [v53, (iz x54), (iz x55), (iz x56), (iz x57), (iz x58), (iz x59), (iz x60), (iz x61)]), (.agg [v65, (iz x66), (iz x67), (iz x68), (iz x69), (iz x70), (iz x71), (iz x72), (iz x73)]), (.agg [v77, (iz x78), (iz x79), (iz x80), (iz x81), (iz x82), (iz x83), (iz x84), (iz x85)]), (.agg [v97, (iz x98), (iz x99), (iz x100), (iz x101), (iz x102), (iz x103), (iz x104), (iz x105)]), (.agg [v109, (iz x110), (iz x111), (iz x112), (iz x113), (iz x114), (iz x115), (iz x116), (iz x117)]), (.bool b120), (.bool (!b120)), bf, (.agg [v124, (iz x125), (iz x126), (iz x127), (iz x128), (iz x129), (iz x130), (iz x131), (iz x132)]), (.agg [v136, (iz x137), (iz x138), (iz x139), (iz x140), (iz x141), (iz x142), (iz x143), (iz x144)]), (.bool b147), (.bool (!b147)), (.bool (!b147)), bf, (.agg [v151, (iz x152), (iz x153), (iz x154), (iz x155), (iz x156), (iz x157), (iz x158), (iz x159)]), (.agg [v163, (iz x164), (iz x165), (iz x166), (iz x167), (iz x168), (iz x169), (iz x170), (iz x171)]), (.bool b174), (.agg [v178, (iz x179), (iz x180), (iz x181), (iz x182), (iz x183), (iz x184), (iz x185), (iz x186)]), (.agg [v190, (iz x191), (iz x192), (iz x193), (iz x194), (iz x195), (iz x196), (iz x197), (iz x198)]), (.bool b201), (.bool (xor true (b174 == b201))), (.bool (xor true (b174 == b201))), bf, (.agg [v205, (iz x206), (iz x207), (iz x208), (iz x209), (iz x210), (iz x211), (iz x212), (iz x213)]), (.agg [v217, (iz x218), (iz x219), (iz x220), (iz x221), (iz x222), (iz x223), (iz x224), (iz x225)]), (.bool b228), (.agg [v232, (iz x233), (iz x234), (iz x235), (iz x236), (iz x237), (iz x238), (iz x239), (iz x240)]), (.agg [v244, (iz x245), (iz x246), (iz x247), (iz x248), (iz x249), (iz x250), (iz x251), (iz x252)]), (.bool b255), (.bool (xor true (b228 == b255))), bf, v256, v258, (iz x262), (iz 0), tz, tz, tz, tz, tz, tz, tz, tz, tz, tz, tz, tz, tz, tz, tz, tz, tz, tz, tz, tz, tz, tz, tz, tz, tz, tz, tz, tz, tz, tz, tz, tz, tz, tz, tz, tz, tz, tz, tz], h261⟩ [0] [r4X0_0 C d a0 a1 a2 a3 a4 a5 a6 a7 a8 a9 a10 a11 a12 a13 a14 a15 a16 a17 v0 v2 b4 v9 x10 x11 x12 x13 x14 x15 x16 x17 b20 v25 x26 x27 x28 x29 x30 x31 x32 x33 b36 v41 x42 x43 x44 x45 x46 x47 x48 x49 v53 x54 x55 x56 x57 x58 x59 x60 x61 v65 x66 x67 x68 x69 x70 x71 x72 x73 v77 x78 x79 x80 x81 x82 x83 x84 x85 v86 v88 v97 x98 x99 x100 x101 x102 x103 x104 x105 v109 x110 x111 x112 x113 x114 x115 x116 x117 b120 v124 x125 x126 x127 x128 x129 x130 x131 x132 v136 x137 x138 x139 x140 x141 x142 x143 x144 b147 v151 x152 x153 x154 x155 x156 x157 x158 x159 v163 x164 x165 x166 x167 x168 x169 x170 x171 b174 v178 x179 x180 x181 x182 x183 x184 x185 x186 v190 x191 x192 x193 x194 x195 x196 x197 x198 b201 v205 x206 x207 x208 x209 x210 x211 x212 x213 v217 x218 x219 x220 x221 x222 x223 x224 x225 b228 v232 x233 x234 x235 x236 x237 x238 x239 x240 v244 x245 x246 x247 x248 x249 x250 x251 x252 b255 v256 v258 x262] (r4E0 C d a0 a1 a2 a3 a4 a5 a6 a7 a8 a9 a10 a11 a12 a13 a14 a15 a16 a17 v0 v2 b4 v9 x10 x11 x12 x13 x14 x15 x16 x17 b20 v25 x26 x27 x28 x29 x30 x31 x32 x33 b36 v41 x42 x43 x44 x45 x46 x47 x48 x49 v53 x54 x55 x56 x57 x58 x59 x60 x61 v65 x66 x67 x68 x69 x70 x71 x72 x73 v77 x78 x79 x80 x81 x82 x83 x84 x85 v86 v88 v97 x98 x99 x100 x101 x102 x103 x104 x105 v109 x110 x111 x112 x113 x114 x115 x116 x117 b120 v124 x125 x126 x127 x128 x129 x130 x131 x132 v136 x137 x138 x139 x140 x141 x142 x143 x144 b147 v151 x152 x153 x154 x155 x156 x157 x158 x159 v163 x164 x165 x166 x167 x168 x169 x170 x171 b174 v178 x179 x180 x181 x182 x183 x184 x185 x186 v190 x191 x192 x193 x194 x195 x196 x197 x198 b201 v205 x206 x207 x208 x209 x210 x211 x212 x213 v217 x218 x219 x220 x221 x222 x223 x224 x225 b228 v232 x233 x234 x235 x236 x237 x238 x239 x240 v244 x245 x246 x247 x248 x249 x250 x251 x252 b255 v256 v258 x262)))
 (none))
 (none)))
 (none))
 (none)))
 (none)))
 (none)))
 (none)))
 (none)) := by kernel_rfl
end Go.Proofs.Ytffiilnmfmkpmaa.AE
