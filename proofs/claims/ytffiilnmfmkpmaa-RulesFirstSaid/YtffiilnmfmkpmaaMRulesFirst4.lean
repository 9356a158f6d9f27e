/- The texts that the law RulesFirst needs, part 4. No conditions. -/
import Derived.Test.YtffiilnmfmkpmaaMRulesFirst3
namespace Go.Proofs.Ytffiilnmfmkpmaa.AE
set_option linter.unusedVariables false
set_option linter.unusedSimpArgs false
set_option linter.constructorNameAsVariable false
open Go
set_option maxRecDepth 100000
def r9R0 (C : Cb) (d : Nat) (a0 : List AV) (a1 a2 a3 a4 a5 a6 a7 a8 : Int) : St → (Ex → St → Ans) → Ans := fun s0 k1 =>
 cnd ((List.length s0.env) == 23)
 (C.same s0.env[0]? (.agg [(.lst a0), (iz a1), (iz a2), (iz a3), (iz a4), (iz a5), (iz a6), (iz a7), (iz a8)]) <|
 C.same s0.env[1]? (.ptr 0 0 0) <|
 C.bool s0.env[2]? fun b3 =>
 C.int .i64 s0.env[3]? fun x4 =>
 C.any s0.env[4]? fun v5 =>
 C.any s0.env[5]? fun v6 =>
 C.any s0.env[6]? fun v7 =>
 C.any s0.env[7]? fun v8 =>
 C.any s0.env[8]? fun v9 =>
 C.any s0.env[9]? fun v10 =>
 C.any s0.env[10]? fun v11 =>
 C.any s0.env[11]? fun v12 =>
 C.any s0.env[12]? fun v13 =>
 C.any s0.env[13]? fun v14 =>
 C.any s0.env[14]? fun v15 =>
 C.any s0.env[15]? fun v16 =>
 C.any s0.env[16]? fun v17 =>
 C.any s0.env[17]? fun v18 =>
 C.any s0.env[18]? fun v19 =>
 C.same s0.env[19]? tz <|
 C.same s0.env[20]? tz <|
 C.same s0.env[21]? tz <|
 C.same s0.env[22]? tz <|
 C.sameH (St.H s0) [some ⟨E24, [(.agg [(.lst a0), (iz a1), (iz a2), (iz a3), (iz a4), (iz a5), (iz a6), (iz a7), (iz a8)])]⟩] <|
 cnd (decide (x4 < (((List.length a0) : Nat) : Int)))
 (cnd (decide ((0 : Int) ≤ x4))
 (C.agg 5 a0[(Int.toNat x4)]? fun l20 =>
 C.lst l20[0]? (fun l21 =>
 C.int .i64 l20[1]? fun x23 =>
 C.int .i64 l20[2]? fun x24 =>
 C.int .i64 l20[3]? fun x25 =>
 C.int .i64 l20[4]? fun x26 =>
 cnd (decide ((((List.length l21) : Nat) : Int) > 12))
 (k1 .ret ⟨[(.agg [(.lst a0), (iz a1), (iz a2), (iz a3), (iz a4), (iz a5), (iz a6), (iz a7), (iz a8)]), (.ptr 0 0 0), bf, (iz x4), (iz x4), (.ptr 0 0 0), (.lst a0), (iz (((List.length a0) : Nat) : Int)), bt, v10, v11, (.ptr 0 0 0), (.lst a0), (iz x4), (.fptr (.agg [(.lst l21), (iz x23), (iz x24), (iz x25), (iz x26)]) 0), (.fptr (.agg [(.lst l21), (iz x23), (iz x24), (iz x25), (iz x26)]) 0), (.lst l21), (iz (((List.length l21) : Nat) : Int)), bt, tz, tz, tz, tz], [some ⟨E24, [(.agg [(.lst a0), (iz a1), (iz a2), (iz a3), (iz a4), (iz a5), (iz a6), (iz a7), (iz a8)])]⟩]⟩)
 (k1 .normal ⟨[(.agg [(.lst a0), (iz a1), (iz a2), (iz a3), (iz a4), (iz a5), (iz a6), (iz a7), (iz a8)]), (.ptr 0 0 0), (.bool b3), (iz (IntKind.wrap .i64 (x4 + 1))), (iz x4), (.ptr 0 0 0), (.lst a0), (iz (((List.length a0) : Nat) : Int)), bt, (iz x4), (iz (IntKind.wrap .i64 (x4 + 1))), (.ptr 0 0 0), (.lst a0), (iz x4), (.fptr (.agg [(.lst l21), (iz x23), (iz x24), (iz x25), (iz x26)]) 0), (.fptr (.agg [(.lst l21), (iz x23), (iz x24), (iz x25), (iz x26)]) 0), (.lst l21), (iz (((List.length l21) : Nat) : Int)), bf, tz, tz, tz, tz], [some ⟨E24, [(.agg [(.lst a0), (iz a1), (iz a2), (iz a3), (iz a4), (iz a5), (iz a6), (iz a7), (iz a8)])]⟩]⟩))
 (fun z22 =>
 C.int .i64 l20[1]? fun x27 =>
 C.int .i64 l20[2]? fun x28 =>
 C.int .i64 l20[3]? fun x29 =>
 C.int .i64 l20[4]? fun x30 =>
 k1 .normal ⟨[(.agg [(.lst a0), (iz a1), (iz a2), (iz a3), (iz a4), (iz a5), (iz a6), (iz a7), (iz a8)]), (.ptr 0 0 0), (.bool b3), (iz (IntKind.wrap .i64 (x4 + 1))), (iz x4), (.ptr 0 0 0), (.lst a0), (iz (((List.length a0) : Nat) : Int)), bt, (iz x4), (iz (IntKind.wrap .i64 (x4 + 1))), (.ptr 0 0 0), (.lst a0), (iz x4), (.fptr (.agg [(.zsl z22), (iz x27), (iz x28), (iz x29), (iz x30)]) 0), (.fptr (.agg [(.zsl z22), (iz x27), (iz x28), (iz x29), (iz x30)]) 0), (.zsl z22), (iz ((0 : Nat) : Int)), bf, tz, tz, tz, tz], [some ⟨E24, [(.agg [(.lst a0), (iz a1), (iz a2), (iz a3), (iz a4), (iz a5), (iz a6), (iz a7), (iz a8)])]⟩]⟩))
 (none))
 (k1 (.exit 0) ⟨[(.agg [(.lst a0), (iz a1), (iz a2), (iz a3), (iz a4), (iz a5), (iz a6), (iz a7), (iz a8)]), (.ptr 0 0 0), (.bool b3), (iz x4), (iz x4), (.ptr 0 0 0), (.lst a0), (iz (((List.length a0) : Nat) : Int)), bf, v10, v11, v12, v13, v14, v15, v16, v17, v18, v19, tz, tz, tz, tz], [some ⟨E24, [(.agg [(.lst a0), (iz a1), (iz a2), (iz a3), (iz a4), (iz a5), (iz a6), (iz a7), (iz a8)])]⟩]⟩))
 (none)
def r9X0_0 (C : Cb) (d : Nat) (a0 : List AV) (a1 a2 a3 a4 a5 a6 a7 a8 : Int) : St → Ans := fun s31 =>
 cnd ((List.length s31.env) == 23)
 (C.same s31.env[0]? (.agg [(.lst a0), (iz a1), (iz a2), (iz a3), (iz a4), (iz a5), (iz a6), (iz a7), (iz a8)]) <|
 C.same s31.env[1]? (.ptr 0 0 0) <|
 C.bool s31.env[2]? fun b32 =>
 C.int .i64 s31.env[3]? fun x33 =>
 C.int .i64 s31.env[4]? fun x34 =>
 C.any s31.env[5]? fun v35 =>
 C.any s31.env[6]? fun v36 =>
 C.int .i64 s31.env[7]? fun x37 =>
 C.bool s31.env[8]? fun b38 =>
 C.any s31.env[9]? fun v39 =>
 C.any s31.env[10]? fun v40 =>
 C.any s31.env[11]? fun v41 =>
 C.any s31.env[12]? fun v42 =>
 C.any s31.env[13]? fun v43 =>
 C.any s31.env[14]? fun v44 =>
 C.any s31.env[15]? fun v45 =>
 C.any s31.env[16]? fun v46 =>
 C.any s31.env[17]? fun v47 =>
 C.any s31.env[18]? fun v48 =>
 C.same s31.env[19]? tz <|
 C.same s31.env[20]? tz <|
 C.same s31.env[21]? tz <|
 C.same s31.env[22]? tz <|
 C.sameH (St.H s31) [some ⟨E24, [(.agg [(.lst a0), (iz a1), (iz a2), (iz a3), (iz a4), (iz a5), (iz a6), (iz a7), (iz a8)])]⟩] <|
 some (.bool (decide ((((List.length a0) : Nat) : Int) ≤ 8))))
 (none)
def r9E0 (C : Cb) (d : Nat) (a0 : List AV) (a1 a2 a3 a4 a5 a6 a7 a8 : Int) : St → Ans := fun s2 =>
 cnd ((List.length s2.env) == 23)
 (C.same s2.env[0]? (.agg [(.lst a0), (iz a1), (iz a2), (iz a3), (iz a4), (iz a5), (iz a6), (iz a7), (iz a8)]) <|
 C.same s2.env[1]? (.ptr 0 0 0) <|
 C.bool s2.env[2]? fun b49 =>
 C.int .i64 s2.env[3]? fun x50 =>
 C.int .i64 s2.env[4]? fun x51 =>
 C.any s2.env[5]? fun v52 =>
 C.any s2.env[6]? fun v53 =>
 C.int .i64 s2.env[7]? fun x54 =>
 C.bool s2.env[8]? fun b55 =>
 C.any s2.env[9]? fun v56 =>
 C.any s2.env[10]? fun v57 =>
 C.any s2.env[11]? fun v58 =>
 C.any s2.env[12]? fun v59 =>
 C.int .i64 s2.env[13]? fun x60 =>
 C.any s2.env[14]? fun v61 =>
 C.any s2.env[15]? fun v62 =>
 C.any s2.env[16]? fun v63 =>
 C.int .i64 s2.env[17]? fun x64 =>
 C.bool s2.env[18]? fun b65 =>
 C.same s2.env[19]? tz <|
 C.same s2.env[20]? tz <|
 C.same s2.env[21]? tz <|
 C.same s2.env[22]? tz <|
 C.sameH (St.H s2) [some ⟨E24, [(.agg [(.lst a0), (iz a1), (iz a2), (iz a3), (iz a4), (iz a5), (iz a6), (iz a7), (iz a8)])]⟩] <|
 some (.bool b49))
 (none)
/-- apogee/apogeeref13.Few -/
theorem r9 (C : Cb) (d : Nat) (a0 : List AV) (a1 a2 a3 a4 a5 a6 a7 a8 : Int) : xcall C M unr d 9 [(.agg [(.lst a0), (iz a1), (iz a2), (iz a3), (iz a4), (iz a5), (iz a6), (iz a7), (iz a8)])] =
 C.iter (r9R0 C d a0 a1 a2 a3 a4 a5 a6 a7 a8) 10000000000000000000 ⟨[(.agg [(.lst a0), (iz a1), (iz a2), (iz a3), (iz a4), (iz a5), (iz a6), (iz a7), (iz a8)]), (.ptr 0 0 0), bf, (iz 0), tz, tz, tz, tz, tz, tz, tz, tz, tz, tz, tz, tz, tz, tz, tz, tz, tz, tz, tz], [some ⟨E24, [(.agg [(.lst a0), (iz a1), (iz a2), (iz a3), (iz a4), (iz a5), (iz a6), (iz a7), (iz a8)])]⟩]⟩ [0] [r9X0_0 C d a0 a1 a2 a3 a4 a5 a6 a7 a8] (r9E0 C d a0 a1 a2 a3 a4 a5 a6 a7 a8) := by kernel_rfl
def r10R0 (C : Cb) (d : Nat) (a0 : List AV) (a1 a2 a3 a4 a5 a6 a7 a8 : Int) : St → (Ex → St → Ans) → Ans := fun s0 k1 =>
 cnd ((List.length s0.env) == 73)
 (C.same s0.env[0]? (.agg [(.lst a0), (iz a1), (iz a2), (iz a3), (iz a4), (iz a5), (iz a6), (iz a7), (iz a8)]) <|
 C.same s0.env[1]? (.ptr 0 0 0) <|
 C.int .i64 s0.env[2]? fun x3 =>
 C.int .i64 s0.env[3]? fun x4 =>
 C.same s0.env[4]? (.ptr 0 0 0) <|
 C.same s0.env[5]? (.lst a0) <|
 C.same s0.env[6]? (iz (((List.length a0) : Nat) : Int)) <|
 C.same s0.env[7]? (.bool (decide ((((List.length a0) : Nat) : Int) < 1))) <|
 C.same s0.env[8]? bf <|
 C.same s0.env[9]? (.ptr 0 0 0) <|
 C.same s0.env[10]? (.lst a0) <|
 C.same s0.env[11]? (iz (((List.length a0) : Nat) : Int)) <|
 C.same s0.env[12]? (.bool (decide ((((List.length a0) : Nat) : Int) > 4))) <|
 C.same s0.env[13]? bf <|
 C.any s0.env[14]? fun v5 =>
 C.any s0.env[15]? fun v6 =>
 C.any s0.env[16]? fun v7 =>
 C.any s0.env[17]? fun v8 =>
 C.any s0.env[18]? fun v9 =>
 C.any s0.env[19]? fun v10 =>
 C.any s0.env[20]? fun v11 =>
 C.any s0.env[21]? fun v12 =>
 C.any s0.env[22]? fun v13 =>
 C.any s0.env[23]? fun v14 =>
 C.any s0.env[24]? fun v15 =>
 C.any s0.env[25]? fun v16 =>
 C.any s0.env[26]? fun v17 =>
 C.any s0.env[27]? fun v18 =>
 C.same s0.env[28]? tz <|
 C.same s0.env[29]? tz <|
 C.same s0.env[30]? tz <|
 C.same s0.env[31]? tz <|
 C.same s0.env[32]? tz <|
 C.same s0.env[33]? tz <|
 C.same s0.env[34]? tz <|
 C.same s0.env[35]? tz <|
 C.same s0.env[36]? tz <|
 C.same s0.env[37]? tz <|
 C.same s0.env[38]? tz <|
 C.same s0.env[39]? tz <|
 C.same s0.env[40]? tz <|
 C.same s0.env[41]? tz <|
 C.same s0.env[42]? tz <|
 C.same s0.env[43]? tz <|
 C.same s0.env[44]? tz <|
 C.same s0.env[45]? tz <|
 C.same s0.env[46]? tz <|
 C.same s0.env[47]? tz <|
 C.same s0.env[48]? tz <|
 C.same s0.env[49]? tz <|
 C.same s0.env[50]? tz <|
 C.same s0.env[51]? tz <|
 C.same s0.env[52]? tz <|
 C.same s0.env[53]? tz <|
 C.same s0.env[54]? tz <|
 C.same s0.env[55]? tz <|
 C.same s0.env[56]? tz <|
 C.same s0.env[57]? tz <|
 C.same s0.env[58]? tz <|
 C.same s0.env[59]? tz <|
 C.same s0.env[60]? tz <|
 C.same s0.env[61]? tz <|
 C.same s0.env[62]? tz <|
 C.same s0.env[63]? tz <|
 C.same s0.env[64]? tz <|
 C.same s0.env[65]? tz <|
 C.same s0.env[66]? tz <|
 C.same s0.env[67]? tz <|
 C.same s0.env[68]? tz <|
 C.same s0.env[69]? tz <|
 C.same s0.env[70]? tz <|
 C.same s0.env[71]? tz <|
 C.same s0.env[72]? tz <|
 C.sameH (St.H s0) [some ⟨E24, [(.agg [(.lst a0), (iz a1), (iz a2), (iz a3), (iz a4), (iz a5), (iz a6), (iz a7), (iz a8)])]⟩] <|
 cnd (decide (x4 < (((List.length a0) : Nat) : Int)))
 (cnd (decide ((0 : Int) ≤ x4))
 (C.agg 5 a0[(Int.toNat x4)]? fun l19 =>
 C.lst l19[0]? (fun l20 =>
 C.int .i64 l19[1]? fun x22 =>
 C.int .i64 l19[2]? fun x23 =>
 C.int .i64 l19[3]? fun x24 =>
 C.int .i64 l19[4]? fun x25 =>
 C.bool (pcall M d 17 [(.agg [(.lst l20), (iz x22), (iz x23), (iz x24), (iz x25)])]) fun b26 =>
 cnd (!b26)
 (k1 .ret ⟨[(.agg [(.lst a0), (iz a1), (iz a2), (iz a3), (iz a4), (iz a5), (iz a6), (iz a7), (iz a8)]), (.ptr 0 0 0), (iz 2), (iz x4), (.ptr 0 0 0), (.lst a0), (iz (((List.length a0) : Nat) : Int)), (.bool (decide ((((List.length a0) : Nat) : Int) < 1))), bf, (.ptr 0 0 0), (.lst a0), (iz (((List.length a0) : Nat) : Int)), (.bool (decide ((((List.length a0) : Nat) : Int) > 4))), bf, (iz x4), (.ptr 0 0 0), (.lst a0), (iz (((List.length a0) : Nat) : Int)), bt, v10, v11, (.ptr 0 0 0), (.lst a0), (iz x4), (.fptr (.agg [(.lst l20), (iz x22), (iz x23), (iz x24), (iz x25)]) 0), (.agg [(.lst l20), (iz x22), (iz x23), (iz x24), (iz x25)]), (.bool b26), bt, tz, tz, tz, tz, tz, tz, tz, tz, tz, tz, tz, tz, tz, tz, tz, tz, tz, tz, tz, tz, tz, tz, tz, tz, tz, tz, tz, tz, tz, tz, tz, tz, tz, tz, tz, tz, tz, tz, tz, tz, tz, tz, tz, tz, tz], [some ⟨E24, [(.agg [(.lst a0), (iz a1), (iz a2), (iz a3), (iz a4), (iz a5), (iz a6), (iz a7), (iz a8)])]⟩]⟩)
 (k1 .normal ⟨[(.agg [(.lst a0), (iz a1), (iz a2), (iz a3), (iz a4), (iz a5), (iz a6), (iz a7), (iz a8)]), (.ptr 0 0 0), (iz x3), (iz (IntKind.wrap .i64 (x4 + 1))), (.ptr 0 0 0), (.lst a0), (iz (((List.length a0) : Nat) : Int)), (.bool (decide ((((List.length a0) : Nat) : Int) < 1))), bf, (.ptr 0 0 0), (.lst a0), (iz (((List.length a0) : Nat) : Int)), (.bool (decide ((((List.length a0) : Nat) : Int) > 4))), bf, (iz x4), (.ptr 0 0 0), (.lst a0), (iz (((List.length a0) : Nat) : Int)), bt, (iz x4), (iz (IntKind.wrap .i64 (x4 + 1))), (.ptr 0 0 0), (.lst a0), (iz x4), (.fptr (.agg [(.lst l20), (iz x22), (iz x23), (iz x24), (iz x25)]) 0), (.agg [(.lst l20), (iz x22), (iz x23), (iz x24), (iz x25)]), (.bool b26), bf, tz, tz, tz, tz, tz, tz, tz, tz, tz, tz, tz, tz, tz, tz, tz, tz, tz, tz, tz, tz, tz, tz, tz, tz, tz, tz, tz, tz, tz, tz, tz, tz, tz, tz, tz, tz, tz, tz, tz, tz, tz, tz, tz, tz, tz], [some ⟨E24, [(.agg [(.lst a0), (iz a1), (iz a2), (iz a3), (iz a4), (iz a5), (iz a6), (iz a7), (iz a8)])]⟩]⟩))
 (fun z21 =>
 C.int .i64 l19[1]? fun x27 =>
 C.int .i64 l19[2]? fun x28 =>
 C.int .i64 l19[3]? fun x29 =>
 C.int .i64 l19[4]? fun x30 =>
 C.bool (pcall M d 17 [(.agg [(.zsl z21), (iz x27), (iz x28), (iz x29), (iz x30)])]) fun b31 =>
 cnd (!b31)
 (k1 .ret ⟨[(.agg [(.lst a0), (iz a1), (iz a2), (iz a3), (iz a4), (iz a5), (iz a6), (iz a7), (iz a8)]), (.ptr 0 0 0), (iz 2), (iz x4), (.ptr 0 0 0), (.lst a0), (iz (((List.length a0) : Nat) : Int)), (.bool (decide ((((List.length a0) : Nat) : Int) < 1))), bf, (.ptr 0 0 0), (.lst a0), (iz (((List.length a0) : Nat) : Int)), (.bool (decide ((((List.length a0) : Nat) : Int) > 4))), bf, (iz x4), (.ptr 0 0 0), (.lst a0), (iz (((List.length a0) : Nat) : Int)), bt, v10, v11, (.ptr 0 0 0), (.lst a0), (iz x4), (.fptr (.agg [(.zsl z21), (iz x27), (iz x28), (iz x29), (iz x30)]) 0), (.agg [(.zsl z21), (iz x27), (iz x28), (iz x29), (iz x30)]), (.bool b31), bt, tz, tz, tz, tz, tz, tz, tz, tz, tz, tz, tz, tz, tz, tz, tz, tz, tz, tz, tz, tz, tz, tz, tz, tz, tz, tz, tz, tz, tz, tz, tz, tz, tz, tz, tz, tz, tz, tz, tz, tz, tz, tz, tz, tz, tz], [some ⟨E24, [(.agg [(.lst a0), (iz a1), (iz a2), (iz a3), (iz a4), (iz a5), (iz a6), (iz a7), (iz a8)])]⟩]⟩)
 (k1 .normal ⟨[(.agg [(.lst a0), (iz a1), (iz a2), (iz a3), (iz a4), (iz a5), (iz a6), (iz a7), (iz a8)]), (.ptr 0 0 0), (iz x3), (iz (IntKind.wrap .i64 (x4 + 1))), (.ptr 0 0 0), (.lst a0), (iz (((List.length a0) : Nat) : Int)), (.bool (decide ((((List.length a0) : Nat) : Int) < 1))), bf, (.ptr 0 0 0), (.lst a0), (iz (((List.length a0) : Nat) : Int)), (.bool (decide ((((List.length a0) : Nat) : Int) > 4))), bf, (iz x4), (.ptr 0 0 0), (.lst a0), (iz (((List.length a0) : Nat) : Int)), bt, (iz x4), (iz (IntKind.wrap .i64 (x4 + 1))), (.ptr 0 0 0), (.lst a0), (iz x4), (.fptr (.agg [(.zsl z21), (iz x27), (iz x28), (iz x29), (iz x30)]) 0), (.agg [(.zsl z21), (iz x27), (iz x28), (iz x29), (iz x30)]), (.bool b31), bf, tz, tz, tz, tz, tz, tz, tz, tz, tz, tz, tz, tz, tz, tz, tz, tz, tz, tz, tz, tz, tz, tz, tz, tz, tz, tz, tz, tz, tz, tz, tz, tz, tz, tz, tz, tz, tz, tz, tz, tz, tz, tz, tz, tz, tz], [some ⟨E24, [(.agg [(.lst a0), (iz a1), (iz a2), (iz a3), (iz a4), (iz a5), (iz a6), (iz a7), (iz a8)])]⟩]⟩)))
 (none))
 (k1 (.exit 0) ⟨[(.agg [(.lst a0), (iz a1), (iz a2), (iz a3), (iz a4), (iz a5), (iz a6), (iz a7), (iz a8)]), (.ptr 0 0 0), (iz x3), (iz x4), (.ptr 0 0 0), (.lst a0), (iz (((List.length a0) : Nat) : Int)), (.bool (decide ((((List.length a0) : Nat) : Int) < 1))), bf, (.ptr 0 0 0), (.lst a0), (iz (((List.length a0) : Nat) : Int)), (.bool (decide ((((List.length a0) : Nat) : Int) > 4))), bf, (iz x4), (.ptr 0 0 0), (.lst a0), (iz (((List.length a0) : Nat) : Int)), bf, v10, v11, v12, v13, v14, v15, v16, v17, v18, tz, tz, tz, tz, tz, tz, tz, tz, tz, tz, tz, tz, tz, tz, tz, tz, tz, tz, tz, tz, tz, tz, tz, tz, tz, tz, tz, tz, tz, tz, tz, tz, tz, tz, tz, tz, tz, tz, tz, tz, tz, tz, tz, tz, tz], [some ⟨E24, [(.agg [(.lst a0), (iz a1), (iz a2), (iz a3), (iz a4), (iz a5), (iz a6), (iz a7), (iz a8)])]⟩]⟩))
 (none)
def r10X0_0 (C : Cb) (d : Nat) (a0 : List AV) (a1 a2 a3 a4 a5 a6 a7 a8 : Int) : St → Ans := fun s32 =>
 cnd ((List.length s32.env) == 73)
 (C.same s32.env[0]? (.agg [(.lst a0), (iz a1), (iz a2), (iz a3), (iz a4), (iz a5), (iz a6), (iz a7), (iz a8)]) <|
 C.same s32.env[1]? (.ptr 0 0 0) <|
 C.int .i64 s32.env[2]? fun x33 =>
 C.int .i64 s32.env[3]? fun x34 =>
 C.same s32.env[4]? (.ptr 0 0 0) <|
 C.same s32.env[5]? (.lst a0) <|
 C.same s32.env[6]? (iz (((List.length a0) : Nat) : Int)) <|
 C.same s32.env[7]? (.bool (decide ((((List.length a0) : Nat) : Int) < 1))) <|
 C.same s32.env[8]? bf <|
 C.same s32.env[9]? (.ptr 0 0 0) <|
 C.same s32.env[10]? (.lst a0) <|
 C.same s32.env[11]? (iz (((List.length a0) : Nat) : Int)) <|
 C.same s32.env[12]? (.bool (decide ((((List.length a0) : Nat) : Int) > 4))) <|
 C.same s32.env[13]? bf <|
 C.int .i64 s32.env[14]? fun x35 =>
 C.any s32.env[15]? fun v36 =>
 C.any s32.env[16]? fun v37 =>
 C.int .i64 s32.env[17]? fun x38 =>
 C.bool s32.env[18]? fun b39 =>
 C.any s32.env[19]? fun v40 =>
 C.any s32.env[20]? fun v41 =>
 C.any s32.env[21]? fun v42 =>
 C.any s32.env[22]? fun v43 =>
 C.any s32.env[23]? fun v44 =>
 C.any s32.env[24]? fun v45 =>
 C.any s32.env[25]? fun v46 =>
 C.any s32.env[26]? fun v47 =>
 C.any s32.env[27]? fun v48 =>
 C.same s32.env[28]? tz <|
 C.same s32.env[29]? tz <|
 C.same s32.env[30]? tz <|
 C.same s32.env[31]? tz <|
 C.same s32.env[32]? tz <|
 C.same s32.env[33]? tz <|
 C.same s32.env[34]? tz <|
 C.same s32.env[35]? tz <|
 C.same s32.env[36]? tz <|
 C.same s32.env[37]? tz <|
 C.same s32.env[38]? tz <|
 C.same s32.env[39]? tz <|
 C.same s32.env[40]? tz <|
 C.same s32.env[41]? tz <|
 C.same s32.env[42]? tz <|
 C.same s32.env[43]? tz <|
 C.same s32.env[44]? tz <|
 C.same s32.env[45]? tz <|
 C.same s32.env[46]? tz <|
 C.same s32.env[47]? tz <|
 C.same s32.env[48]? tz <|
 C.same s32.env[49]? tz <|
 C.same s32.env[50]? tz <|
 C.same s32.env[51]? tz <|
 C.same s32.env[52]? tz <|
 C.same s32.env[53]? tz <|
 C.same s32.env[54]? tz <|
 C.same s32.env[55]? tz <|
 C.same s32.env[56]? tz <|
 C.same s32.env[57]? tz <|
 C.same s32.env[58]? tz <|
 C.same s32.env[59]? tz <|
 C.same s32.env[60]? tz <|
 C.same s32.env[61]? tz <|
 C.same s32.env[62]? tz <|
 C.same s32.env[63]? tz <|
 C.same s32.env[64]? tz <|
 C.same s32.env[65]? tz <|
 C.same s32.env[66]? tz <|
 C.same s32.env[67]? tz <|
 C.same s32.env[68]? tz <|
 C.same s32.env[69]? tz <|
 C.same s32.env[70]? tz <|
 C.same s32.env[71]? tz <|
 C.same s32.env[72]? tz <|
 C.sameH (St.H s32) [some ⟨E24, [(.agg [(.lst a0), (iz a1), (iz a2), (iz a3), (iz a4), (iz a5), (iz a6), (iz a7), (iz a8)])]⟩] <|
 C.bool (pcall M d 22 [(iz a1), (iz 1), (iz 50)]) fun b49 =>
 cnd (!b49)
 (some (iz 3))
 (C.bool (pcall M d 22 [(iz a2), (iz 1), (iz 50)]) fun b50 =>
 cnd (!b50)
 (some (iz 3))
 (C.bool (pcall M d 22 [(iz a3), (iz 1), (iz 50)]) fun b51 =>
 cnd (!b51)
 (some (iz 3))
 (C.bool (pcall M d 22 [(iz a4), (iz 0), (iz 1024)]) fun b52 =>
 cnd (!b52)
 (some (iz 4))
 (C.bool (pcall M d 22 [(iz a5), (iz 1), (iz 65536)]) fun b53 =>
 cnd (!b53)
 (some (iz 5))
 (C.bool (pcall M d 22 [(iz a6), (iz 1), (iz 50)]) fun b54 =>
 cnd (!b54)
 (some (iz 6))
 (C.bool (pcall M d 22 [(iz a7), (iz 1), (iz 1073741824)]) fun b55 =>
 cnd (!b55)
 (some (iz 7))
 (C.bool (pcall M d 22 [(iz a8), (iz 0), (iz (((List.length a0) : Nat) : Int))]) fun b56 =>
 cnd (!b56)
 (some (iz 8))
 (some (iz 0))))))))))
 (none)
def r10E0 (C : Cb) (d : Nat) (a0 : List AV) (a1 a2 a3 a4 a5 a6 a7 a8 : Int) : St → Ans := fun s2 =>
 cnd ((List.length s2.env) == 73)
 (C.same s2.env[0]? (.agg [(.lst a0), (iz a1), (iz a2), (iz a3), (iz a4), (iz a5), (iz a6), (iz a7), (iz a8)]) <|
 C.same s2.env[1]? (.ptr 0 0 0) <|
 C.int .i64 s2.env[2]? fun x57 =>
 C.int .i64 s2.env[3]? fun x58 =>
 C.same s2.env[4]? (.ptr 0 0 0) <|
 C.same s2.env[5]? (.lst a0) <|
 C.same s2.env[6]? (iz (((List.length a0) : Nat) : Int)) <|
 C.same s2.env[7]? (.bool (decide ((((List.length a0) : Nat) : Int) < 1))) <|
 C.same s2.env[8]? bf <|
 C.same s2.env[9]? (.ptr 0 0 0) <|
 C.same s2.env[10]? (.lst a0) <|
 C.same s2.env[11]? (iz (((List.length a0) : Nat) : Int)) <|
 C.same s2.env[12]? (.bool (decide ((((List.length a0) : Nat) : Int) > 4))) <|
 C.same s2.env[13]? bf <|
 C.int .i64 s2.env[14]? fun x59 =>
 C.any s2.env[15]? fun v60 =>
 C.any s2.env[16]? fun v61 =>
 C.int .i64 s2.env[17]? fun x62 =>
 C.bool s2.env[18]? fun b63 =>
 C.any s2.env[19]? fun v64 =>
 C.any s2.env[20]? fun v65 =>
 C.any s2.env[21]? fun v66 =>
 C.any s2.env[22]? fun v67 =>
 C.int .i64 s2.env[23]? fun x68 =>
 C.any s2.env[24]? fun v69 =>
 C.agg 5 s2.env[25]? fun l70 =>
 C.any l70[0]? fun v71 =>
 C.int .i64 l70[1]? fun x72 =>
 C.int .i64 l70[2]? fun x73 =>
 C.int .i64 l70[3]? fun x74 =>
 C.int .i64 l70[4]? fun x75 =>
 C.bool s2.env[26]? fun b76 =>
 C.bool s2.env[27]? fun b77 =>
 C.same s2.env[28]? tz <|
 C.same s2.env[29]? tz <|
 C.same s2.env[30]? tz <|
 C.same s2.env[31]? tz <|
 C.same s2.env[32]? tz <|
 C.same s2.env[33]? tz <|
 C.same s2.env[34]? tz <|
 C.same s2.env[35]? tz <|
 C.same s2.env[36]? tz <|
 C.same s2.env[37]? tz <|
 C.same s2.env[38]? tz <|
 C.same s2.env[39]? tz <|
 C.same s2.env[40]? tz <|
 C.same s2.env[41]? tz <|
 C.same s2.env[42]? tz <|
 C.same s2.env[43]? tz <|
 C.same s2.env[44]? tz <|
 C.same s2.env[45]? tz <|
 C.same s2.env[46]? tz <|
 C.same s2.env[47]? tz <|
 C.same s2.env[48]? tz <|
 C.same s2.env[49]? tz <|
 C.same s2.env[50]? tz <|
 C.same s2.env[51]? tz <|
 C.same s2.env[52]? tz <|
 C.same s2.env[53]? tz <|
 C.same s2.env[54]? tz <|
 C.same s2.env[55]? tz <|
 C.same s2.env[56]? tz <|
 C.same s2.env[57]? tz <|
 C.same s2.env[58]? tz <|
 C.same s2.env[59]? tz <|
 C.same s2.env[60]? tz <|
 C.same s2.env[61]? tz <|
 C.same s2.env[62]? tz <|
 C.same s2.env[63]? tz <|
 C.same s2.env[64]? tz <|
 C.same s2.env[65]? tz <|
 C.same s2.env[66]? tz <|
 C.same s2.env[67]? tz <|
 C.same s2.env[68]? tz <|
 C.same s2.env[69]? tz <|
 C.same s2.env[70]? tz <|
 C.same s2.env[71]? tz <|
 C.same s2.env[72]? tz <|
 C.sameH (St.H s2) [some ⟨E24, [(.agg [(.lst a0), (iz a1), (iz a2), (iz a3), (iz a4), (iz a5), (iz a6), (iz a7), (iz a8)])]⟩] <|
 some (iz x57))
 (none)
/-- apogee/apogeeref13.Wrong -/
theorem r10 (C : Cb) (d : Nat) (a0 : List AV) (a1 a2 a3 a4 a5 a6 a7 a8 : Int) : xcall C M unr d 10 [(.agg [(.lst a0), (iz a1), (iz a2), (iz a3), (iz a4), (iz a5), (iz a6), (iz a7), (iz a8)])] =
 cnd (decide ((((List.length a0) : Nat) : Int) < 1))
 (some (iz 1))
 (cnd (decide ((((List.length a0) : Nat) : Int) > 4))
 (some (iz 1))
 (C.iter (r10R0 C d a0 a1 a2 a3 a4 a5 a6 a7 a8) 10000000000000000000 ⟨[(.agg [(.lst a0), (iz a1), (iz a2), (iz a3), (iz a4), (iz a5), (iz a6), (iz a7), (iz a8)]), (.ptr 0 0 0), (iz 0), (iz 0), (.ptr 0 0 0), (.lst a0), (iz (((List.length a0) : Nat) : Int)), (.bool (decide ((((List.length a0) : Nat) : Int) < 1))), bf, (.ptr 0 0 0), (.lst a0), (iz (((List.length a0) : Nat) : Int)), (.bool (decide ((((List.length a0) : Nat) : Int) > 4))), bf, tz, tz, tz, tz, tz, tz, tz, tz, tz, tz, tz, tz, tz, tz, tz, tz, tz, tz, tz, tz, tz, tz, tz, tz, tz, tz, tz, tz, tz, tz, tz, tz, tz, tz, tz, tz, tz, tz, tz, tz, tz, tz, tz, tz, tz, tz, tz, tz, tz, tz, tz, tz, tz, tz, tz, tz, tz, tz, tz], [some ⟨E24, [(.agg [(.lst a0), (iz a1), (iz a2), (iz a3), (iz a4), (iz a5), (iz a6), (iz a7), (iz a8)])]⟩]⟩ [0] [r10X0_0 C d a0 a1 a2 a3 a4 a5 a6 a7 a8] (r10E0 C d a0 a1 a2 a3 a4 a5 a6 a7 a8))) := by kernel_rfl
/-- apogee/rules.Wrong -/
theorem r12 (C : Cb) (d : Nat) (a0 : List AV) (a1 a2 a3 a4 a5 a6 a7 a8 : Int) : xcall C M unr d 12 [(.agg [(.lst a0), (iz a1), (iz a2), (iz a3), (iz a4), (iz a5), (iz a6), (iz a7), (iz a8)])] =
 C.bool (pcall M d 24 [(iz (((List.length a0) : Nat) : Int)), (iz 1), (iz 4)]) fun b0 =>
 cnd (!b0)
 (some (iz 1))
 (C.bool (pcall M d 25 [(.lst a0), (.fn 26 [] [])]) fun b1 =>
 cnd b1
 (some (iz 2))
 (C.bool (pcall M d 27 [(.fptr (.agg [(.lst a0), (iz a1), (iz a2), (iz a3), (iz a4), (iz a5), (iz a6), (iz a7), (iz a8)]) 0)]) fun b2 =>
 cnd (!b2)
 (some (iz 3))
 (C.bool (pcall M d 28 [(iz a4), (iz 0), (iz 1024)]) fun b3 =>
 cnd (!b3)
 (some (iz 4))
 (C.bool (pcall M d 28 [(iz a5), (iz 1), (iz 65536)]) fun b4 =>
 cnd (!b4)
 (some (iz 5))
 (C.bool (pcall M d 24 [(iz a6), (iz 1), (iz 50)]) fun b5 =>
 cnd (!b5)
 (some (iz 6))
 (C.bool (pcall M d 28 [(iz a7), (iz 1), (iz 1073741824)]) fun b6 =>
 cnd (!b6)
 (some (iz 7))
 (C.bool (pcall M d 24 [(iz a8), (iz 0), (iz (((List.length a0) : Nat) : Int))]) fun b7 =>
 cnd (!b7)
 (some (iz 8))
 (some (iz 0))))))))) := by kernel_rfl
/-- apogee/rules.Right -/
theorem r13 (C : Cb) (d : Nat) (a0 : List AV) (a1 a2 a3 a4 a5 a6 a7 a8 : Int) : xcall C M unr d 13 [(.agg [(.lst a0), (iz a1), (iz a2), (iz a3), (iz a4), (iz a5), (iz a6), (iz a7), (iz a8)])] =
 C.int .i64 (pcall M d 12 [(.agg [(.lst a0), (iz a1), (iz a2), (iz a3), (iz a4), (iz a5), (iz a6), (iz a7), (iz a8)])]) fun x0 =>
 some (.bool (x0 == 0)) := by kernel_rfl
/-- apogee/rules.RightPhase -/
theorem r16 (C : Cb) (d : Nat) (a0 : List AV) (a1 a2 a3 a4 : Int) : xcall C M unr d 16 [(.agg [(.lst a0), (iz a1), (iz a2), (iz a3), (iz a4)])] =
 C.bool (pcall M d 30 [(.lst a0)]) fun b0 =>
 cnd b0
 (C.bool (pcall M d 28 [(iz a1), (iz 1), (iz 100)]) fun b1 =>
 cnd b1
 (C.bool (pcall M d 28 [(iz a2), (iz 1), (iz 65536)]) fun b2 =>
 cnd b2
 (C.bool (pcall M d 24 [(iz a3), (iz 1), (iz 1000000)]) fun b3 =>
 cnd b3
 (C.bool (pcall M d 28 [(iz a4), (iz 0), (iz 1073741824)]) fun b4 =>
 some (.bool b4))
 (some bf))
 (some bf))
 (some bf))
 (some bf) := by kernel_rfl
/-- apogee/apogeeref13.RightPhase -/
theorem r17 (C : Cb) (d : Nat) (a0 : List AV) (a1 a2 a3 a4 : Int) : xcall C M unr d 17 [(.agg [(.lst a0), (iz a1), (iz a2), (iz a3), (iz a4)])] =
 C.bool (pcall M d 31 [(.lst a0)]) fun b0 =>
 cnd b0
 (C.bool (pcall M d 22 [(iz a1), (iz 1), (iz 100)]) fun b1 =>
 cnd b1
 (C.bool (pcall M d 22 [(iz a2), (iz 1), (iz 65536)]) fun b2 =>
 cnd b2
 (C.bool (pcall M d 22 [(iz a3), (iz 1), (iz 1000000)]) fun b3 =>
 cnd b3
 (C.bool (pcall M d 22 [(iz a4), (iz 0), (iz 1073741824)]) fun b4 =>
 some (.bool b4))
 (some bf))
 (some bf))
 (some bf))
 (some bf) := by kernel_rfl
def r18R0 (C : Cb) (d : Nat) (a0 : AV) (a1 a2 a3 a4 a5 a6 a7 a8 : Int) (n0 : Nat) (K0 : AV → Heap → Ans) (v0 v2 v4 v6 v9 v13 v15 : AV) (x19 : Int) : St → (Ex → St → Ans) → Ans := fun s20 k21 =>
 cnd ((List.length s20.env) == 28)
 (C.same s20.env[0]? (.agg [a0, (iz a1), (iz a2), (iz a3), (iz a4), (iz a5), (iz a6), (iz a7), (iz a8)]) <|
 C.same s20.env[1]? v0 <|
 C.same s20.env[2]? v2 <|
 C.any s20.env[3]? fun v23 =>
 C.same s20.env[4]? v4 <|
 C.same s20.env[5]? v6 <|
 C.same s20.env[6]? (.lst []) <|
 C.same s20.env[7]? v9 <|
 C.same s20.env[8]? v13 <|
 C.same s20.env[9]? v15 <|
 C.same s20.env[10]? (iz x19) <|
 C.int .i64 s20.env[11]? fun x24 =>
 C.any s20.env[12]? fun v25 =>
 C.any s20.env[13]? fun v26 =>
 C.any s20.env[14]? fun v27 =>
 C.any s20.env[15]? fun v28 =>
 C.any s20.env[16]? fun v29 =>
 C.any s20.env[17]? fun v30 =>
 C.any s20.env[18]? fun v31 =>
 C.any s20.env[19]? fun v32 =>
 C.any s20.env[20]? fun v33 =>
 C.any s20.env[21]? fun v34 =>
 C.any s20.env[22]? fun v35 =>
 C.any s20.env[23]? fun v36 =>
 C.any s20.env[24]? fun v37 =>
 C.any s20.env[25]? fun v38 =>
 C.any s20.env[26]? fun v39 =>
 C.same s20.env[27]? tz <|
 cnd (decide (x24 < x19))
 (C.hop (St.H s20) (.fldA 0 (.v v0)) fun v40 h41 =>
 C.hop h41 (.load false 1 (.v v40)) fun v42 h43 =>
 C.hop h43 (.fldA 0 (.v v0)) fun v44 h45 =>
 C.hop h45 (.load false 1 (.v v44)) fun v46 h47 =>
 C.hop h47 (.ixAS .any 5 (.v v46) (.v (iz x24))) fun v48 h49 =>
 C.hop h49 (.fldA 0 (.v v48)) fun v50 h51 =>
 C.hop h51 (.load false 1 (.v v50)) fun v52 h53 =>
 C.cal M (pcall M d) (n0 + 8) false 23 [v52] h53 fun v54 h55 =>
 C.any (some v54) fun v56 =>
 C.hop h55 (.ixAS .any 5 (.v v42) (.v (iz x24))) fun v57 h58 =>
 C.hop h58 (.fldA 0 (.v v57)) fun v59 h60 =>
 C.hop h60 (.store 1 (.v v59) (.v v56)) fun v61 h62 =>
 k21 .normal ⟨[(.agg [a0, (iz a1), (iz a2), (iz a3), (iz a4), (iz a5), (iz a6), (iz a7), (iz a8)]), v0, v2, (iz x24), v4, v6, (.lst []), v9, v13, v15, (iz x19), (iz (IntKind.wrap .i64 (x24 + 1))), bt, (iz x24), v40, v42, (iz x24), v44, v46, (iz x24), v48, v50, v52, v56, v57, v59, (iz (IntKind.wrap .i64 (x24 + 1))), tz], h62⟩)
 (k21 (.exit 0) ⟨[(.agg [a0, (iz a1), (iz a2), (iz a3), (iz a4), (iz a5), (iz a6), (iz a7), (iz a8)]), v0, v2, v23, v4, v6, (.lst []), v9, v13, v15, (iz x19), (iz x24), bf, v26, v27, v28, v29, v30, v31, v32, v33, v34, v35, v36, v37, v38, v39, tz], (St.H s20)⟩))
 (none)
def r18X0_0 (C : Cb) (d : Nat) (a0 : AV) (a1 a2 a3 a4 a5 a6 a7 a8 : Int) (n0 : Nat) (K0 : AV → Heap → Ans) (v0 v2 v4 v6 v9 v13 v15 : AV) (x19 : Int) : St → Ans := fun s63 =>
 cnd ((List.length s63.env) == 28)
 (C.same s63.env[0]? (.agg [a0, (iz a1), (iz a2), (iz a3), (iz a4), (iz a5), (iz a6), (iz a7), (iz a8)]) <|
 C.same s63.env[1]? v0 <|
 C.same s63.env[2]? v2 <|
 C.any s63.env[3]? fun v64 =>
 C.same s63.env[4]? v4 <|
 C.same s63.env[5]? v6 <|
 C.same s63.env[6]? (.lst []) <|
 C.same s63.env[7]? v9 <|
 C.same s63.env[8]? v13 <|
 C.same s63.env[9]? v15 <|
 C.same s63.env[10]? (iz x19) <|
 C.int .i64 s63.env[11]? fun x65 =>
 C.any s63.env[12]? fun v66 =>
 C.any s63.env[13]? fun v67 =>
 C.any s63.env[14]? fun v68 =>
 C.any s63.env[15]? fun v69 =>
 C.any s63.env[16]? fun v70 =>
 C.any s63.env[17]? fun v71 =>
 C.any s63.env[18]? fun v72 =>
 C.any s63.env[19]? fun v73 =>
 C.any s63.env[20]? fun v74 =>
 C.any s63.env[21]? fun v75 =>
 C.any s63.env[22]? fun v76 =>
 C.any s63.env[23]? fun v77 =>
 C.any s63.env[24]? fun v78 =>
 C.any s63.env[25]? fun v79 =>
 C.any s63.env[26]? fun v80 =>
 C.same s63.env[27]? tz <|
 C.hop (St.H s63) (.load true 9 (.v v0)) fun v81 h82 =>
 C.agg 9 (some v81) fun l83 =>
 C.any l83[0]? fun v84 =>
 C.int .i64 l83[1]? fun x85 =>
 C.int .i64 l83[2]? fun x86 =>
 C.int .i64 l83[3]? fun x87 =>
 C.int .i64 l83[4]? fun x88 =>
 C.int .i64 l83[5]? fun x89 =>
 C.int .i64 l83[6]? fun x90 =>
 C.int .i64 l83[7]? fun x91 =>
 C.int .i64 l83[8]? fun x92 =>
 C.hop h82 (.store 9 (.v v2) (.v (.agg [v84, (iz x85), (iz x86), (iz x87), (iz x88), (iz x89), (iz x90), (iz x91), (iz x92)]))) fun v93 h94 =>
 C.hop h94 (.load true 9 (.v v2)) fun v95 h96 =>
 K0 v95 h94)
 (none)
def r18E0 (C : Cb) (d : Nat) (a0 : AV) (a1 a2 a3 a4 a5 a6 a7 a8 : Int) (n0 : Nat) (K0 : AV → Heap → Ans) (v0 v2 v4 v6 v9 v13 v15 : AV) (x19 : Int) : St → Ans := fun s22 =>
 cnd ((List.length s22.env) == 28)
 (C.same s22.env[0]? (.agg [a0, (iz a1), (iz a2), (iz a3), (iz a4), (iz a5), (iz a6), (iz a7), (iz a8)]) <|
 C.same s22.env[1]? v0 <|
 C.same s22.env[2]? v2 <|
 C.any s22.env[3]? fun v97 =>
 C.same s22.env[4]? v4 <|
 C.same s22.env[5]? v6 <|
 C.same s22.env[6]? (.lst []) <|
 C.same s22.env[7]? v9 <|
 C.same s22.env[8]? v13 <|
 C.same s22.env[9]? v15 <|
 C.same s22.env[10]? (iz x19) <|
 C.int .i64 s22.env[11]? fun x98 =>
 C.any s22.env[12]? fun v99 =>
 C.any s22.env[13]? fun v100 =>
 C.any s22.env[14]? fun v101 =>
 C.any s22.env[15]? fun v102 =>
 C.any s22.env[16]? fun v103 =>
 C.any s22.env[17]? fun v104 =>
 C.any s22.env[18]? fun v105 =>
 C.any s22.env[19]? fun v106 =>
 C.any s22.env[20]? fun v107 =>
 C.any s22.env[21]? fun v108 =>
 C.any s22.env[22]? fun v109 =>
 C.any s22.env[23]? fun v110 =>
 C.any s22.env[24]? fun v111 =>
 C.any s22.env[25]? fun v112 =>
 C.any s22.env[26]? fun v113 =>
 C.same s22.env[27]? tz <|
 C.hop (St.H s22) (.load true 9 (.v v2)) fun v114 h115 =>
 K0 v114 (St.H s22))
 (none)
def r18R2 (C : Cb) (d : Nat) (a0 : AV) (a1 a2 a3 a4 a5 a6 a7 a8 : Int) (n0 : Nat) (K0 : AV → Heap → Ans) (v0 v2 v4 v6 v119 v123 v125 : AV) (x129 : Int) : St → (Ex → St → Ans) → Ans := fun s130 k131 =>
 cnd ((List.length s130.env) == 28)
 (C.same s130.env[0]? (.agg [a0, (iz a1), (iz a2), (iz a3), (iz a4), (iz a5), (iz a6), (iz a7), (iz a8)]) <|
 C.same s130.env[1]? v0 <|
 C.same s130.env[2]? v2 <|
 C.any s130.env[3]? fun v133 =>
 C.same s130.env[4]? v4 <|
 C.same s130.env[5]? v6 <|
 C.same s130.env[6]? (.zsl true) <|
 C.same s130.env[7]? v119 <|
 C.same s130.env[8]? v123 <|
 C.same s130.env[9]? v125 <|
 C.same s130.env[10]? (iz x129) <|
 C.int .i64 s130.env[11]? fun x134 =>
 C.any s130.env[12]? fun v135 =>
 C.any s130.env[13]? fun v136 =>
 C.any s130.env[14]? fun v137 =>
 C.any s130.env[15]? fun v138 =>
 C.any s130.env[16]? fun v139 =>
 C.any s130.env[17]? fun v140 =>
 C.any s130.env[18]? fun v141 =>
 C.any s130.env[19]? fun v142 =>
 C.any s130.env[20]? fun v143 =>
 C.any s130.env[21]? fun v144 =>
 C.any s130.env[22]? fun v145 =>
 C.any s130.env[23]? fun v146 =>
 C.any s130.env[24]? fun v147 =>
 C.any s130.env[25]? fun v148 =>
 C.any s130.env[26]? fun v149 =>
 C.same s130.env[27]? tz <|
 cnd (decide (x134 < x129))
 (C.hop (St.H s130) (.fldA 0 (.v v0)) fun v150 h151 =>
 C.hop h151 (.load false 1 (.v v150)) fun v152 h153 =>
 C.hop h153 (.fldA 0 (.v v0)) fun v154 h155 =>
 C.hop h155 (.load false 1 (.v v154)) fun v156 h157 =>
 C.hop h157 (.ixAS .any 5 (.v v156) (.v (iz x134))) fun v158 h159 =>
 C.hop h159 (.fldA 0 (.v v158)) fun v160 h161 =>
 C.hop h161 (.load false 1 (.v v160)) fun v162 h163 =>
 C.cal M (pcall M d) (n0 + 8) false 23 [v162] h163 fun v164 h165 =>
 C.any (some v164) fun v166 =>
 C.hop h165 (.ixAS .any 5 (.v v152) (.v (iz x134))) fun v167 h168 =>
 C.hop h168 (.fldA 0 (.v v167)) fun v169 h170 =>
 C.hop h170 (.store 1 (.v v169) (.v v166)) fun v171 h172 =>
 k131 .normal ⟨[(.agg [a0, (iz a1), (iz a2), (iz a3), (iz a4), (iz a5), (iz a6), (iz a7), (iz a8)]), v0, v2, (iz x134), v4, v6, (.zsl true), v119, v123, v125, (iz x129), (iz (IntKind.wrap .i64 (x134 + 1))), bt, (iz x134), v150, v152, (iz x134), v154, v156, (iz x134), v158, v160, v162, v166, v167, v169, (iz (IntKind.wrap .i64 (x134 + 1))), tz], h172⟩)
 (k131 (.exit 0) ⟨[(.agg [a0, (iz a1), (iz a2), (iz a3), (iz a4), (iz a5), (iz a6), (iz a7), (iz a8)]), v0, v2, v133, v4, v6, (.zsl true), v119, v123, v125, (iz x129), (iz x134), bf, v136, v137, v138, v139, v140, v141, v142, v143, v144, v145, v146, v147, v148, v149, tz], (St.H s130)⟩))
 (none)
def r18X2_0 (C : Cb) (d : Nat) (a0 : AV) (a1 a2 a3 a4 a5 a6 a7 a8 : Int) (n0 : Nat) (K0 : AV → Heap → Ans) (v0 v2 v4 v6 v119 v123 v125 : AV) (x129 : Int) : St → Ans := fun s173 =>
 cnd ((List.length s173.env) == 28)
 (C.same s173.env[0]? (.agg [a0, (iz a1), (iz a2), (iz a3), (iz a4), (iz a5), (iz a6), (iz a7), (iz a8)]) <|
 C.same s173.env[1]? v0 <|
 C.same s173.env[2]? v2 <|
 C.any s173.env[3]? fun v174 =>
 C.same s173.env[4]? v4 <|
 C.same s173.env[5]? v6 <|
 C.same s173.env[6]? (.zsl true) <|
 C.same s173.env[7]? v119 <|
 C.same s173.env[8]? v123 <|
 C.same s173.env[9]? v125 <|
 C.same s173.env[10]? (iz x129) <|
 C.int .i64 s173.env[11]? fun x175 =>
 C.any s173.env[12]? fun v176 =>
 C.any s173.env[13]? fun v177 =>
 C.any s173.env[14]? fun v178 =>
 C.any s173.env[15]? fun v179 =>
 C.any s173.env[16]? fun v180 =>
 C.any s173.env[17]? fun v181 =>
 C.any s173.env[18]? fun v182 =>
 C.any s173.env[19]? fun v183 =>
 C.any s173.env[20]? fun v184 =>
 C.any s173.env[21]? fun v185 =>
 C.any s173.env[22]? fun v186 =>
 C.any s173.env[23]? fun v187 =>
 C.any s173.env[24]? fun v188 =>
 C.any s173.env[25]? fun v189 =>
 C.any s173.env[26]? fun v190 =>
 C.same s173.env[27]? tz <|
 C.hop (St.H s173) (.load true 9 (.v v0)) fun v191 h192 =>
 C.agg 9 (some v191) fun l193 =>
 C.any l193[0]? fun v194 =>
 C.int .i64 l193[1]? fun x195 =>
 C.int .i64 l193[2]? fun x196 =>
 C.int .i64 l193[3]? fun x197 =>
 C.int .i64 l193[4]? fun x198 =>
 C.int .i64 l193[5]? fun x199 =>
 C.int .i64 l193[6]? fun x200 =>
 C.int .i64 l193[7]? fun x201 =>
 C.int .i64 l193[8]? fun x202 =>
 C.hop h192 (.store 9 (.v v2) (.v (.agg [v194, (iz x195), (iz x196), (iz x197), (iz x198), (iz x199), (iz x200), (iz x201), (iz x202)]))) fun v203 h204 =>
 C.hop h204 (.load true 9 (.v v2)) fun v205 h206 =>
 K0 v205 h204)
 (none)
def r18E2 (C : Cb) (d : Nat) (a0 : AV) (a1 a2 a3 a4 a5 a6 a7 a8 : Int) (n0 : Nat) (K0 : AV → Heap → Ans) (v0 v2 v4 v6 v119 v123 v125 : AV) (x129 : Int) : St → Ans := fun s132 =>
 cnd ((List.length s132.env) == 28)
 (C.same s132.env[0]? (.agg [a0, (iz a1), (iz a2), (iz a3), (iz a4), (iz a5), (iz a6), (iz a7), (iz a8)]) <|
 C.same s132.env[1]? v0 <|
 C.same s132.env[2]? v2 <|
 C.any s132.env[3]? fun v207 =>
 C.same s132.env[4]? v4 <|
 C.same s132.env[5]? v6 <|
 C.same s132.env[6]? (.zsl true) <|
 C.same s132.env[7]? v119 <|
 C.same s132.env[8]? v123 <|
 C.same s132.env[9]? v125 <|
 C.same s132.env[10]? (iz x129) <|
 C.int .i64 s132.env[11]? fun x208 =>
 C.any s132.env[12]? fun v209 =>
 C.any s132.env[13]? fun v210 =>
 C.any s132.env[14]? fun v211 =>
 C.any s132.env[15]? fun v212 =>
 C.any s132.env[16]? fun v213 =>
 C.any s132.env[17]? fun v214 =>
 C.any s132.env[18]? fun v215 =>
 C.any s132.env[19]? fun v216 =>
 C.any s132.env[20]? fun v217 =>
 C.any s132.env[21]? fun v218 =>
 C.any s132.env[22]? fun v219 =>
 C.any s132.env[23]? fun v220 =>
 C.any s132.env[24]? fun v221 =>
 C.any s132.env[25]? fun v222 =>
 C.any s132.env[26]? fun v223 =>
 C.same s132.env[27]? tz <|
 C.hop (St.H s132) (.load true 9 (.v v2)) fun v224 h225 =>
 K0 v224 (St.H s132))
 (none)
def r18R4 (C : Cb) (d : Nat) (a0 : AV) (a1 a2 a3 a4 a5 a6 a7 a8 : Int) (n0 : Nat) (K0 : AV → Heap → Ans) (v0 v2 v4 v6 v228 v230 v234 v236 : AV) (x240 : Int) : St → (Ex → St → Ans) → Ans := fun s241 k242 =>
 cnd ((List.length s241.env) == 28)
 (C.same s241.env[0]? (.agg [a0, (iz a1), (iz a2), (iz a3), (iz a4), (iz a5), (iz a6), (iz a7), (iz a8)]) <|
 C.same s241.env[1]? v0 <|
 C.same s241.env[2]? v2 <|
 C.any s241.env[3]? fun v244 =>
 C.same s241.env[4]? v4 <|
 C.same s241.env[5]? v6 <|
 C.same s241.env[6]? v228 <|
 C.same s241.env[7]? v230 <|
 C.same s241.env[8]? v234 <|
 C.same s241.env[9]? v236 <|
 C.same s241.env[10]? (iz x240) <|
 C.int .i64 s241.env[11]? fun x245 =>
 C.any s241.env[12]? fun v246 =>
 C.any s241.env[13]? fun v247 =>
 C.any s241.env[14]? fun v248 =>
 C.any s241.env[15]? fun v249 =>
 C.any s241.env[16]? fun v250 =>
 C.any s241.env[17]? fun v251 =>
 C.any s241.env[18]? fun v252 =>
 C.any s241.env[19]? fun v253 =>
 C.any s241.env[20]? fun v254 =>
 C.any s241.env[21]? fun v255 =>
 C.any s241.env[22]? fun v256 =>
 C.any s241.env[23]? fun v257 =>
 C.any s241.env[24]? fun v258 =>
 C.any s241.env[25]? fun v259 =>
 C.any s241.env[26]? fun v260 =>
 C.same s241.env[27]? tz <|
 cnd (decide (x245 < x240))
 (C.hop (St.H s241) (.fldA 0 (.v v0)) fun v261 h262 =>
 C.hop h262 (.load false 1 (.v v261)) fun v263 h264 =>
 C.hop h264 (.fldA 0 (.v v0)) fun v265 h266 =>
 C.hop h266 (.load false 1 (.v v265)) fun v267 h268 =>
 C.hop h268 (.ixAS .any 5 (.v v267) (.v (iz x245))) fun v269 h270 =>
 C.hop h270 (.fldA 0 (.v v269)) fun v271 h272 =>
 C.hop h272 (.load false 1 (.v v271)) fun v273 h274 =>
 C.cal M (pcall M d) (n0 + 8) false 23 [v273] h274 fun v275 h276 =>
 C.any (some v275) fun v277 =>
 C.hop h276 (.ixAS .any 5 (.v v263) (.v (iz x245))) fun v278 h279 =>
 C.hop h279 (.fldA 0 (.v v278)) fun v280 h281 =>
 C.hop h281 (.store 1 (.v v280) (.v v277)) fun v282 h283 =>
 k242 .normal ⟨[(.agg [a0, (iz a1), (iz a2), (iz a3), (iz a4), (iz a5), (iz a6), (iz a7), (iz a8)]), v0, v2, (iz x245), v4, v6, v228, v230, v234, v236, (iz x240), (iz (IntKind.wrap .i64 (x245 + 1))), bt, (iz x245), v261, v263, (iz x245), v265, v267, (iz x245), v269, v271, v273, v277, v278, v280, (iz (IntKind.wrap .i64 (x245 + 1))), tz], h283⟩)
 (k242 (.exit 0) ⟨[(.agg [a0, (iz a1), (iz a2), (iz a3), (iz a4), (iz a5), (iz a6), (iz a7), (iz a8)]), v0, v2, v244, v4, v6, v228, v230, v234, v236, (iz x240), (iz x245), bf, v247, v248, v249, v250, v251, v252, v253, v254, v255, v256, v257, v258, v259, v260, tz], (St.H s241)⟩))
 (none)
def r18X4_0 (C : Cb) (d : Nat) (a0 : AV) (a1 a2 a3 a4 a5 a6 a7 a8 : Int) (n0 : Nat) (K0 : AV → Heap → Ans) (v0 v2 v4 v6 v228 v230 v234 v236 : AV) (x240 : Int) : St → Ans := fun s284 =>
 cnd ((List.length s284.env) == 28)
 (C.same s284.env[0]? (.agg [a0, (iz a1), (iz a2), (iz a3), (iz a4), (iz a5), (iz a6), (iz a7), (iz a8)]) <|
 C.same s284.env[1]? v0 <|
 C.same s284.env[2]? v2 <|
 C.any s284.env[3]? fun v285 =>
 C.same s284.env[4]? v4 <|
 C.same s284.env[5]? v6 <|
 C.same s284.env[6]? v228 <|
 C.same s284.env[7]? v230 <|
 C.same s284.env[8]? v234 <|
 C.same s284.env[9]? v236 <|
 C.same s284.env[10]? (iz x240) <|
 C.int .i64 s284.env[11]? fun x286 =>
 C.any s284.env[12]? fun v287 =>
 C.any s284.env[13]? fun v288 =>
 C.any s284.env[14]? fun v289 =>
 C.any s284.env[15]? fun v290 =>
 C.any s284.env[16]? fun v291 =>
 C.any s284.env[17]? fun v292 =>
 C.any s284.env[18]? fun v293 =>
 C.any s284.env[19]? fun v294 =>
 C.any s284.env[20]? fun v295 =>
 C.any s284.env[21]? fun v296 =>
 C.any s284.env[22]? fun v297 =>
 C.any s284.env[23]? fun v298 =>
 C.any s284.env[24]? fun v299 =>
 C.any s284.env[25]? fun v300 =>
 C.any s284.env[26]? fun v301 =>
 C.same s284.env[27]? tz <|
 C.hop (St.H s284) (.load true 9 (.v v0)) fun v302 h303 =>
 C.agg 9 (some v302) fun l304 =>
 C.any l304[0]? fun v305 =>
 C.int .i64 l304[1]? fun x306 =>
 C.int .i64 l304[2]? fun x307 =>
 C.int .i64 l304[3]? fun x308 =>
 C.int .i64 l304[4]? fun x309 =>
 C.int .i64 l304[5]? fun x310 =>
 C.int .i64 l304[6]? fun x311 =>
 C.int .i64 l304[7]? fun x312 =>
 C.int .i64 l304[8]? fun x313 =>
 C.hop h303 (.store 9 (.v v2) (.v (.agg [v305, (iz x306), (iz x307), (iz x308), (iz x309), (iz x310), (iz x311), (iz x312), (iz x313)]))) fun v314 h315 =>
 C.hop h315 (.load true 9 (.v v2)) fun v316 h317 =>
 K0 v316 h315)
 (none)
def r18E4 (C : Cb) (d : Nat) (a0 : AV) (a1 a2 a3 a4 a5 a6 a7 a8 : Int) (n0 : Nat) (K0 : AV → Heap → Ans) (v0 v2 v4 v6 v228 v230 v234 v236 : AV) (x240 : Int) : St → Ans := fun s243 =>
 cnd ((List.length s243.env) == 28)
 (C.same s243.env[0]? (.agg [a0, (iz a1), (iz a2), (iz a3), (iz a4), (iz a5), (iz a6), (iz a7), (iz a8)]) <|
 C.same s243.env[1]? v0 <|
 C.same s243.env[2]? v2 <|
 C.any s243.env[3]? fun v318 =>
 C.same s243.env[4]? v4 <|
 C.same s243.env[5]? v6 <|
 C.same s243.env[6]? v228 <|
 C.same s243.env[7]? v230 <|
 C.same s243.env[8]? v234 <|
 C.same s243.env[9]? v236 <|
 C.same s243.env[10]? (iz x240) <|
 C.int .i64 s243.env[11]? fun x319 =>
 C.any s243.env[12]? fun v320 =>
 C.any s243.env[13]? fun v321 =>
 C.any s243.env[14]? fun v322 =>
 C.any s243.env[15]? fun v323 =>
 C.any s243.env[16]? fun v324 =>
 C.any s243.env[17]? fun v325 =>
 C.any s243.env[18]? fun v326 =>
 C.any s243.env[19]? fun v327 =>
 C.any s243.env[20]? fun v328 =>
 C.any s243.env[21]? fun v329 =>
 C.any s243.env[22]? fun v330 =>
 C.any s243.env[23]? fun v331 =>
 C.any s243.env[24]? fun v332 =>
 C.any s243.env[25]? fun v333 =>
 C.any s243.env[26]? fun v334 =>
 C.same s243.env[27]? tz <|
 C.hop (St.H s243) (.load true 9 (.v v2)) fun v335 h336 =>
 K0 v335 (St.H s243))
 (none)
/-- apogee/rules.Copy -/
theorem r18 (C : Cb) (d : Nat) (a0 : AV) (a1 a2 a3 a4 a5 a6 a7 a8 : Int) (n0 : Nat) (H0 : Heap) (K0 : AV → Heap → Ans) : xmeth C M unr d (n0 + 8) 18 [(.agg [a0, (iz a1), (iz a2), (iz a3), (iz a4), (iz a5), (iz a6), (iz a7), (iz a8)])] H0 K0 =
 C.hop H0 (.box E24 (.v (.agg [a0, (iz a1), (iz a2), (iz a3), (iz a4), (iz a5), (iz a6), (iz a7), (iz a8)]))) fun v0 h1 =>
 C.hop h1 (.alloc E24) fun v2 h3 =>
 C.hop h3 (.fldA 0 (.v v0)) fun v4 h5 =>
 C.hop h5 (.load false 1 (.v v4)) fun v6 h7 =>
 C.bool (clr v6) fun b8 =>
 cnd b8
 (C.same (emptyQ (pcall M d) 32) (.lst []) <|
 C.hop h7 (.fldA 0 (.v v0)) fun v9 h10 =>
 C.hop h10 (.store 1 (.v v9) (.v (.lst []))) fun v11 h12 =>
 C.hop h12 (.fldA 0 (.v v0)) fun v13 h14 =>
 C.hop h14 (.load false 1 (.v v13)) fun v15 h16 =>
 C.hop h16 (.bk .lenV [(.v v15)]) fun v17 h18 =>
 C.int .i64 (some v17) fun x19 =>
 C.iter (r18R0 C d a0 a1 a2 a3 a4 a5 a6 a7 a8 n0 K0 v0 v2 v4 v6 v9 v13 v15 x19) 10000000000000000000 ⟨[(.agg [a0, (iz a1), (iz a2), (iz a3), (iz a4), (iz a5), (iz a6), (iz a7), (iz a8)]), v0, v2, tz, v4, v6, (.lst []), v9, v13, v15, (iz x19), (iz 0), tz, tz, tz, tz, tz, tz, tz, tz, tz, tz, tz, tz, tz, tz, tz, tz], h18⟩ [0] [r18X0_0 C d a0 a1 a2 a3 a4 a5 a6 a7 a8 n0 K0 v0 v2 v4 v6 v9 v13 v15 x19] (r18E0 C d a0 a1 a2 a3 a4 a5 a6 a7 a8 n0 K0 v0 v2 v4 v6 v9 v13 v15 x19))
 (C.hop h7 (.eqv false 2 [] (.v v6) (.v (.zsl true))) fun v116 h117 =>
 C.bool (some v116) fun b118 =>
 cnd b118
 (C.hop h117 (.fldA 0 (.v v0)) fun v119 h120 =>
 C.hop h120 (.store 1 (.v v119) (.v (.zsl true))) fun v121 h122 =>
 C.hop h122 (.fldA 0 (.v v0)) fun v123 h124 =>
 C.hop h124 (.load false 1 (.v v123)) fun v125 h126 =>
 C.hop h126 (.bk .lenV [(.v v125)]) fun v127 h128 =>
 C.int .i64 (some v127) fun x129 =>
 C.iter (r18R2 C d a0 a1 a2 a3 a4 a5 a6 a7 a8 n0 K0 v0 v2 v4 v6 v119 v123 v125 x129) 10000000000000000000 ⟨[(.agg [a0, (iz a1), (iz a2), (iz a3), (iz a4), (iz a5), (iz a6), (iz a7), (iz a8)]), v0, v2, tz, v4, v6, (.zsl true), v119, v123, v125, (iz x129), (iz 0), tz, tz, tz, tz, tz, tz, tz, tz, tz, tz, tz, tz, tz, tz, tz, tz], h128⟩ [0] [r18X2_0 C d a0 a1 a2 a3 a4 a5 a6 a7 a8 n0 K0 v0 v2 v4 v6 v119 v123 v125 x129] (r18E2 C d a0 a1 a2 a3 a4 a5 a6 a7 a8 n0 K0 v0 v2 v4 v6 v119 v123 v125 x129))
 (C.hop h117 (.mkrow E30 0 []) fun v226 h227 =>
 C.hop h227 (.app E30 (.v v226) (.v v6)) fun v228 h229 =>
 C.hop h229 (.fldA 0 (.v v0)) fun v230 h231 =>
 C.hop h231 (.store 1 (.v v230) (.v v228)) fun v232 h233 =>
 C.hop h233 (.fldA 0 (.v v0)) fun v234 h235 =>
 C.hop h235 (.load false 1 (.v v234)) fun v236 h237 =>
 C.hop h237 (.bk .lenV [(.v v236)]) fun v238 h239 =>
 C.int .i64 (some v238) fun x240 =>
 C.iter (r18R4 C d a0 a1 a2 a3 a4 a5 a6 a7 a8 n0 K0 v0 v2 v4 v6 v228 v230 v234 v236 x240) 10000000000000000000 ⟨[(.agg [a0, (iz a1), (iz a2), (iz a3), (iz a4), (iz a5), (iz a6), (iz a7), (iz a8)]), v0, v2, tz, v4, v6, v228, v230, v234, v236, (iz x240), (iz 0), tz, tz, tz, tz, tz, tz, tz, tz, tz, tz, tz, tz, tz, tz, tz, tz], h239⟩ [0] [r18X4_0 C d a0 a1 a2 a3 a4 a5 a6 a7 a8 n0 K0 v0 v2 v4 v6 v228 v230 v234 v236 x240] (r18E4 C d a0 a1 a2 a3 a4 a5 a6 a7 a8 n0 K0 v0 v2 v4 v6 v228 v230 v234 v236 x240))) := by kernel_rfl
/-- apogee/apogeeref13.within -/
theorem r22 (C : Cb) (d : Nat) (a0 a1 a2 : Int) : xcall C M unr d 22 [(iz a0), (iz a1), (iz a2)] =
 cnd (decide (a0 ≥ a1))
 (some (.bool (decide (a0 ≤ a2))))
 (some bf) := by kernel_rfl
/-- apogee/rules.within[int] -/
theorem r24 (C : Cb) (d : Nat) (a0 a1 a2 : Int) : xcall C M unr d 24 [(iz a0), (iz a1), (iz a2)] =
 cnd (decide (a0 ≥ a1))
 (some (.bool (decide (a0 ≤ a2))))
 (some bf) := by kernel_rfl
/-- slices.ContainsFunc[[]apogee/api.Phase,apogee/api.Phase] -/
theorem r25f26 (C : Cb) (d : Nat) (a0 : List AV) (a1 : AV) : xcall C M unr d 25 [(.lst a0), (.fn 26 [] [])] =
 C.int .i64 (pcall M d 35 [(.lst a0), (.fn 26 [] [])]) fun x0 =>
 some (.bool (decide (x0 ≥ 0))) := by kernel_rfl
/-- apogee/rules.Wrong$1 -/
theorem r26 (C : Cb) (d : Nat) (a0 : List AV) (a1 a2 a3 a4 : Int) : xcall C M unr d 26 [(.agg [(.lst a0), (iz a1), (iz a2), (iz a3), (iz a4)])] =
 C.bool (pcall M d 16 [(.agg [(.lst a0), (iz a1), (iz a2), (iz a3), (iz a4)])]) fun b0 =>
 some (.bool (!b0)) := by kernel_rfl
/-- apogee/rules.limits -/
theorem r27 (C : Cb) (d : Nat) (a0 a1 : AV) (a2 a3 a4 a5 a6 a7 a8 a9 : Int) : xcall C M unr d 27 [(.fptr (.agg [a1, (iz a2), (iz a3), (iz a4), (iz a5), (iz a6), (iz a7), (iz a8), (iz a9)]) 0)] =
 C.bool (pcall M d 24 [(iz (if (a4 < (if (a3 < a2) then a3 else a2)) then a4 else (if (a3 < a2) then a3 else a2))), (iz 1), (iz 50)]) fun b0 =>
 cnd b0
 (C.bool (pcall M d 24 [(iz (if (a4 > (if (a3 > a2) then a3 else a2)) then a4 else (if (a3 > a2) then a3 else a2))), (iz 1), (iz 50)]) fun b1 =>
 some (.bool b1))
 (some bf) := by kernel_rfl
/-- apogee/rules.within[int64] -/
theorem r28 (C : Cb) (d : Nat) (a0 a1 a2 : Int) : xcall C M unr d 28 [(iz a0), (iz a1), (iz a2)] =
 cnd (decide (a0 ≥ a1))
 (some (.bool (decide (a0 ≤ a2))))
 (some bf) := by kernel_rfl
def r35f26R0 (C : Cb) (d : Nat) (a0 : List AV) : St → (Ex → St → Ans) → Ans := fun s0 k1 =>
 cnd ((List.length s0.env) == 19)
 (C.same s0.env[0]? (.lst a0) <|
 C.same s0.env[1]? (.fn 26 [] []) <|
 C.same s0.env[2]? tz <|
 C.same s0.env[3]? tz <|
 C.int .i64 s0.env[4]? fun x3 =>
 C.any s0.env[5]? fun v4 =>
 C.same s0.env[6]? (.lst a0) <|
 C.same s0.env[7]? (iz (((List.length a0) : Nat) : Int)) <|
 C.int .i64 s0.env[8]? fun x5 =>
 C.any s0.env[9]? fun v6 =>
 C.any s0.env[10]? fun v7 =>
 C.any s0.env[11]? fun v8 =>
 C.any s0.env[12]? fun v9 =>
 C.any s0.env[13]? fun v10 =>
 C.any s0.env[14]? fun v11 =>
 C.any s0.env[15]? fun v12 =>
 C.any s0.env[16]? fun v13 =>
 C.any s0.env[17]? fun v14 =>
 C.any s0.env[18]? fun v15 =>
 C.sameH (St.H s0) [] <|
 cnd (decide (x5 < (((List.length a0) : Nat) : Int)))
 (cnd (decide ((0 : Int) ≤ x5))
 (C.agg 5 a0[(Int.toNat x5)]? fun l16 =>
 C.lst l16[0]? (fun l17 =>
 C.int .i64 l16[1]? fun x19 =>
 C.int .i64 l16[2]? fun x20 =>
 C.int .i64 l16[3]? fun x21 =>
 C.int .i64 l16[4]? fun x22 =>
 C.bool (pcall M d 26 [(.agg [(.lst l17), (iz x19), (iz x20), (iz x21), (iz x22)])]) fun b23 =>
 cnd b23
 (k1 .ret ⟨[(.lst a0), (.fn 26 [] []), tz, tz, (iz x5), (iz x5), (.lst a0), (iz (((List.length a0) : Nat) : Int)), (iz x5), bt, (iz x5), (.fn 26 [] []), (.lst a0), (iz x5), (.fptr (.agg [(.lst l17), (iz x19), (iz x20), (iz x21), (iz x22)]) 0), (.agg [(.lst l17), (iz x19), (iz x20), (iz x21), (iz x22)]), bt, (iz x5), v15], []⟩)
 (k1 .normal ⟨[(.lst a0), (.fn 26 [] []), tz, tz, (iz x3), (iz x5), (.lst a0), (iz (((List.length a0) : Nat) : Int)), (iz (IntKind.wrap .i64 (x5 + 1))), bt, (iz x5), (.fn 26 [] []), (.lst a0), (iz x5), (.fptr (.agg [(.lst l17), (iz x19), (iz x20), (iz x21), (iz x22)]) 0), (.agg [(.lst l17), (iz x19), (iz x20), (iz x21), (iz x22)]), bf, v14, (iz (IntKind.wrap .i64 (x5 + 1)))], []⟩))
 (fun z18 =>
 C.int .i64 l16[1]? fun x24 =>
 C.int .i64 l16[2]? fun x25 =>
 C.int .i64 l16[3]? fun x26 =>
 C.int .i64 l16[4]? fun x27 =>
 C.bool (pcall M d 26 [(.agg [(.zsl z18), (iz x24), (iz x25), (iz x26), (iz x27)])]) fun b28 =>
 cnd b28
 (k1 .ret ⟨[(.lst a0), (.fn 26 [] []), tz, tz, (iz x5), (iz x5), (.lst a0), (iz (((List.length a0) : Nat) : Int)), (iz x5), bt, (iz x5), (.fn 26 [] []), (.lst a0), (iz x5), (.fptr (.agg [(.zsl z18), (iz x24), (iz x25), (iz x26), (iz x27)]) 0), (.agg [(.zsl z18), (iz x24), (iz x25), (iz x26), (iz x27)]), bt, (iz x5), v15], []⟩)
 (k1 .normal ⟨[(.lst a0), (.fn 26 [] []), tz, tz, (iz x3), (iz x5), (.lst a0), (iz (((List.length a0) : Nat) : Int)), (iz (IntKind.wrap .i64 (x5 + 1))), bt, (iz x5), (.fn 26 [] []), (.lst a0), (iz x5), (.fptr (.agg [(.zsl z18), (iz x24), (iz x25), (iz x26), (iz x27)]) 0), (.agg [(.zsl z18), (iz x24), (iz x25), (iz x26), (iz x27)]), bf, v14, (iz (IntKind.wrap .i64 (x5 + 1)))], []⟩)))
 (none))
 (k1 (.exit 0) ⟨[(.lst a0), (.fn 26 [] []), tz, tz, (iz x3), v4, (.lst a0), (iz (((List.length a0) : Nat) : Int)), (iz x5), bf, v7, v8, v9, v10, v11, v12, v13, v14, v15], []⟩))
 (none)
def r35f26X0_0 (C : Cb) (d : Nat) (a0 : List AV) : St → Ans := fun s29 =>
 cnd ((List.length s29.env) == 19)
 (C.same s29.env[0]? (.lst a0) <|
 C.same s29.env[1]? (.fn 26 [] []) <|
 C.same s29.env[2]? tz <|
 C.same s29.env[3]? tz <|
 C.int .i64 s29.env[4]? fun x30 =>
 C.any s29.env[5]? fun v31 =>
 C.same s29.env[6]? (.lst a0) <|
 C.same s29.env[7]? (iz (((List.length a0) : Nat) : Int)) <|
 C.int .i64 s29.env[8]? fun x32 =>
 C.any s29.env[9]? fun v33 =>
 C.any s29.env[10]? fun v34 =>
 C.any s29.env[11]? fun v35 =>
 C.any s29.env[12]? fun v36 =>
 C.any s29.env[13]? fun v37 =>
 C.any s29.env[14]? fun v38 =>
 C.any s29.env[15]? fun v39 =>
 C.any s29.env[16]? fun v40 =>
 C.any s29.env[17]? fun v41 =>
 C.any s29.env[18]? fun v42 =>
 C.sameH (St.H s29) [] <|
 some (iz (-1)))
 (none)
def r35f26E0 (C : Cb) (d : Nat) (a0 : List AV) : St → Ans := fun s2 =>
 cnd ((List.length s2.env) == 19)
 (C.same s2.env[0]? (.lst a0) <|
 C.same s2.env[1]? (.fn 26 [] []) <|
 C.same s2.env[2]? tz <|
 C.same s2.env[3]? tz <|
 C.int .i64 s2.env[4]? fun x43 =>
 C.int .i64 s2.env[5]? fun x44 =>
 C.same s2.env[6]? (.lst a0) <|
 C.same s2.env[7]? (iz (((List.length a0) : Nat) : Int)) <|
 C.int .i64 s2.env[8]? fun x45 =>
 C.any s2.env[9]? fun v46 =>
 C.int .i64 s2.env[10]? fun x47 =>
 C.any s2.env[11]? fun v48 =>
 C.any s2.env[12]? fun v49 =>
 C.int .i64 s2.env[13]? fun x50 =>
 C.any s2.env[14]? fun v51 =>
 C.agg 5 s2.env[15]? fun l52 =>
 C.any l52[0]? fun v53 =>
 C.int .i64 l52[1]? fun x54 =>
 C.int .i64 l52[2]? fun x55 =>
 C.int .i64 l52[3]? fun x56 =>
 C.int .i64 l52[4]? fun x57 =>
 C.bool s2.env[16]? fun b58 =>
 C.int .i64 s2.env[17]? fun x59 =>
 C.any s2.env[18]? fun v60 =>
 C.sameH (St.H s2) [] <|
 some (iz x43))
 (none)
/-- slices.IndexFunc[[]apogee/api.Phase,apogee/api.Phase] -/
theorem r35f26 (C : Cb) (d : Nat) (a0 : List AV) (a1 : AV) : xcall C M unr d 35 [(.lst a0), (.fn 26 [] [])] =
 C.iter (r35f26R0 C d a0) 10000000000000000000 ⟨[(.lst a0), (.fn 26 [] []), tz, tz, (iz 0), tz, (.lst a0), (iz (((List.length a0) : Nat) : Int)), (iz 0), tz, tz, tz, tz, tz, tz, tz, tz, tz, tz], []⟩ [0] [r35f26X0_0 C d a0] (r35f26E0 C d a0) := by kernel_rfl
end Go.Proofs.Ytffiilnmfmkpmaa.AE

namespace Go.Proofs.Ytffiilnmfmkpmaa.AE
set_option linter.unusedVariables false
set_option linter.unusedSimpArgs false
set_option linter.constructorNameAsVariable false
open Go
set_option maxRecDepth 100000
set_option maxHeartbeats 0
noncomputable def X9_0_0 (d : Nat) (a0 : List AV)  : Ans :=
  some (.bool (decide ((((List.length a0) : Nat) : Int) ≤ 8)))
theorem X9_0_0_ok (d : Nat) (a0 : List AV) (a1 a2 a3 a4 a5 a6 a7 a8 : Int) (b32 : Bool) (x33 x34 : Int) (v35 v36 : AV) (x37 : Int) (b38 : Bool) (v39 v40 v41 v42 v43 v44 v45 v46 v47 v48 : AV) : r9X0_0 C0 d a0 a1 a2 a3 a4 a5 a6 a7 a8 ⟨[(.agg [(.lst a0), (iz a1), (iz a2), (iz a3), (iz a4), (iz a5), (iz a6), (iz a7), (iz a8)]), (.ptr 0 0 0), (.bool b32), (iz x33), (iz x34), v35, v36, (iz x37), (.bool b38), v39, v40, v41, v42, v43, v44, v45, v46, v47, v48, tz, tz, tz, tz], [some ⟨E24, [(.agg [(.lst a0), (iz a1), (iz a2), (iz a3), (iz a4), (iz a5), (iz a6), (iz a7), (iz a8)])]⟩]⟩ = X9_0_0 d a0  := by
  unfold r9X0_0; refine Eq.trans (pl_len (by rfl)) ?_; (iterate 2 (refine yt yS ?_)); refine yt yB ?_; (iterate 2 (refine yt yI ?_)); (iterate 2 (refine yt yA ?_)); refine yt yI ?_; refine yt yB ?_; (iterate 10 (refine yt yA ?_)); (iterate 4 (refine yt yS ?_)); refine Eq.trans (pl_sameH) ?_
  rfl
noncomputable def E9_0 (d : Nat) (a0 : List AV) (b49 : Bool) : Ans :=
  some (.bool b49)
theorem E9_0_ok (d : Nat) (a0 : List AV) (a1 a2 a3 a4 a5 a6 a7 a8 : Int) (b49 : Bool) (x50 x51 : Int) (v52 v53 : AV) (x54 : Int) (b55 : Bool) (v56 v57 v58 v59 : AV) (x60 : Int) (v61 v62 v63 : AV) (x64 : Int) (b65 : Bool) : r9E0 C0 d a0 a1 a2 a3 a4 a5 a6 a7 a8 ⟨[(.agg [(.lst a0), (iz a1), (iz a2), (iz a3), (iz a4), (iz a5), (iz a6), (iz a7), (iz a8)]), (.ptr 0 0 0), (.bool b49), (iz x50), (iz x51), v52, v53, (iz x54), (.bool b55), v56, v57, v58, v59, (iz x60), v61, v62, v63, (iz x64), (.bool b65), tz, tz, tz, tz], [some ⟨E24, [(.agg [(.lst a0), (iz a1), (iz a2), (iz a3), (iz a4), (iz a5), (iz a6), (iz a7), (iz a8)])]⟩]⟩ = E9_0 d a0 b49 := by
  unfold r9E0; refine Eq.trans (pl_len (by rfl)) ?_; (iterate 2 (refine yt yS ?_)); refine yt yB ?_; (iterate 2 (refine yt yI ?_)); (iterate 2 (refine yt yA ?_)); refine yt yI ?_; refine yt yB ?_; (iterate 4 (refine yt yA ?_)); refine yt yI ?_; (iterate 3 (refine yt yA ?_)); refine yt yI ?_; refine yt yB ?_; (iterate 4 (refine yt yS ?_)); refine Eq.trans (pl_sameH) ?_
  rfl
noncomputable def L9_0 (d : Nat) (a0 : List AV) : Nat → Int → Ans
  | 0, _ => none
  | n + 1, x4 =>
  cnd (decide (x4 < (((List.length a0) : Nat) : Int)))
   (cnd (decide ((0 : Int) ≤ x4))
   (C0.agg 5 a0[(Int.toNat x4)]? fun l20 =>
   C0.lst l20[0]? (fun l21 =>
   C0.int .i64 l20[1]? fun x23 =>
   C0.int .i64 l20[2]? fun x24 =>
   C0.int .i64 l20[3]? fun x25 =>
   C0.int .i64 l20[4]? fun x26 =>
   cnd (decide ((((List.length l21) : Nat) : Int) > 12))
   (E9_0 d a0 false)
   (L9_0 d a0 n (IntKind.wrap .i64 (x4 + 1))))
        (fun z22 =>
   C0.int .i64 l20[1]? fun x27 =>
   C0.int .i64 l20[2]? fun x28 =>
   C0.int .i64 l20[3]? fun x29 =>
   C0.int .i64 l20[4]? fun x30 =>
   L9_0 d a0 n (IntKind.wrap .i64 (x4 + 1))))
   (none))
   (X9_0_0 d a0)
theorem L9_0_s (d : Nat) (a0 : List AV) (n : Nat) (x4 : Int) : L9_0 d a0 (n + 1) x4 = (cnd (decide (x4 < (((List.length a0) : Nat) : Int)))
   (cnd (decide ((0 : Int) ≤ x4))
   (C0.agg 5 a0[(Int.toNat x4)]? fun l20 =>
   C0.lst l20[0]? (fun l21 =>
   C0.int .i64 l20[1]? fun x23 =>
   C0.int .i64 l20[2]? fun x24 =>
   C0.int .i64 l20[3]? fun x25 =>
   C0.int .i64 l20[4]? fun x26 =>
   cnd (decide ((((List.length l21) : Nat) : Int) > 12))
   (E9_0 d a0 false)
   (L9_0 d a0 n (IntKind.wrap .i64 (x4 + 1))))
        (fun z22 =>
   C0.int .i64 l20[1]? fun x27 =>
   C0.int .i64 l20[2]? fun x28 =>
   C0.int .i64 l20[3]? fun x29 =>
   C0.int .i64 l20[4]? fun x30 =>
   L9_0 d a0 n (IntKind.wrap .i64 (x4 + 1))))
   (none))
   (X9_0_0 d a0)) := by kernel_rfl
theorem it9_0 (d : Nat) (a0 : List AV) (a1 a2 a3 a4 a5 a6 a7 a8 : Int)   : ∀ (n : Nat) (b3 : Bool) (x4 : Int) (v5 v6 v7 v8 v9 v10 v11 v12 v13 v14 v15 v16 v17 v18 v19 : AV), C0.iter (r9R0 C0 d a0 a1 a2 a3 a4 a5 a6 a7 a8) n ⟨[(.agg [(.lst a0), (iz a1), (iz a2), (iz a3), (iz a4), (iz a5), (iz a6), (iz a7), (iz a8)]), (.ptr 0 0 0), (.bool b3), (iz x4), v5, v6, v7, v8, v9, v10, v11, v12, v13, v14, v15, v16, v17, v18, v19, tz, tz, tz, tz], [some ⟨E24, [(.agg [(.lst a0), (iz a1), (iz a2), (iz a3), (iz a4), (iz a5), (iz a6), (iz a7), (iz a8)])]⟩]⟩ [0] [r9X0_0 C0 d a0 a1 a2 a3 a4 a5 a6 a7 a8] (r9E0 C0 d a0 a1 a2 a3 a4 a5 a6 a7 a8) = L9_0 d a0 n x4 := by
  generalize hR : r9R0 C0 d a0 a1 a2 a3 a4 a5 a6 a7 a8 = R
  intro n
  induction n with
  | zero => intros; rfl
  | succ n ih =>
    intro b3 x4 v5 v6 v7 v8 v9 v10 v11 v12 v13 v14 v15 v16 v17 v18 v19
    simp only [it_ret] at ih
    rw [it_ret, xiter_s]
    refine Eq.trans (congrFun (congrFun hR.symm _) _) ?_
    unfold r9R0
    refine Eq.trans (pl_len (by rfl)) ?_; (iterate 2 (refine yt yS ?_)); refine yt yB ?_; refine yt yI ?_; (iterate 15 (refine yt yA ?_)); (iterate 4 (refine yt yS ?_)); refine Eq.trans (pl_sameH) ?_
    simp only [kIter_n, kIter_x, kIter_r, kOut_x, kOut_r, xgo_hit, xgo_miss, ih, X9_0_0_ok d a0 a1 a2 a3 a4 a5 a6 a7 a8  , E9_0_ok d a0 a1 a2 a3 a4 a5 a6 a7 a8  ]
    exact (L9_0_s d a0 n x4).symm
/-- apogee/apogeeref13.Few -/
theorem q9 (d : Nat) (a0 : List AV) (a1 a2 a3 a4 a5 a6 a7 a8 : Int) : xcall C0 M unr d 9 [(.agg [(.lst a0), (iz a1), (iz a2), (iz a3), (iz a4), (iz a5), (iz a6), (iz a7), (iz a8)])] =
  L9_0 d a0 10000000000000000000 0 := (r9 C0 d a0 a1 a2 a3 a4 a5 a6 a7 a8).trans (by simp only [it9_0])
noncomputable def X10_0_0 (d : Nat) (a0 : List AV) (a1 a2 a3 a4 a5 a6 a7 a8 : Int)  : Ans :=
  C0.bool (pcall M d 22 [(iz a1), (iz 1), (iz 50)]) fun b49 =>
   cnd (!b49)
   (some (iz 3))
   (C0.bool (pcall M d 22 [(iz a2), (iz 1), (iz 50)]) fun b50 =>
   cnd (!b50)
   (some (iz 3))
   (C0.bool (pcall M d 22 [(iz a3), (iz 1), (iz 50)]) fun b51 =>
   cnd (!b51)
   (some (iz 3))
   (C0.bool (pcall M d 22 [(iz a4), (iz 0), (iz 1024)]) fun b52 =>
   cnd (!b52)
   (some (iz 4))
   (C0.bool (pcall M d 22 [(iz a5), (iz 1), (iz 65536)]) fun b53 =>
   cnd (!b53)
   (some (iz 5))
   (C0.bool (pcall M d 22 [(iz a6), (iz 1), (iz 50)]) fun b54 =>
   cnd (!b54)
   (some (iz 6))
   (C0.bool (pcall M d 22 [(iz a7), (iz 1), (iz 1073741824)]) fun b55 =>
   cnd (!b55)
   (some (iz 7))
   (C0.bool (pcall M d 22 [(iz a8), (iz 0), (iz (((List.length a0) : Nat) : Int))]) fun b56 =>
   cnd (!b56)
   (some (iz 8))
   (some (iz 0)))))))))
theorem X10_0_0_ok (d : Nat) (a0 : List AV) (a1 a2 a3 a4 a5 a6 a7 a8 x33 x34 x35 : Int) (v36 v37 : AV) (x38 : Int) (b39 : Bool) (v40 v41 v42 v43 v44 v45 v46 v47 v48 : AV) : r10X0_0 C0 d a0 a1 a2 a3 a4 a5 a6 a7 a8 ⟨[(.agg [(.lst a0), (iz a1), (iz a2), (iz a3), (iz a4), (iz a5), (iz a6), (iz a7), (iz a8)]), (.ptr 0 0 0), (iz x33), (iz x34), (.ptr 0 0 0), (.lst a0), (iz (((List.length a0) : Nat) : Int)), (.bool (decide ((((List.length a0) : Nat) : Int) < 1))), bf, (.ptr 0 0 0), (.lst a0), (iz (((List.length a0) : Nat) : Int)), (.bool (decide ((((List.length a0) : Nat) : Int) > 4))), bf, (iz x35), v36, v37, (iz x38), (.bool b39), v40, v41, v42, v43, v44, v45, v46, v47, v48, tz, tz, tz, tz, tz, tz, tz, tz, tz, tz, tz, tz, tz, tz, tz, tz, tz, tz, tz, tz, tz, tz, tz, tz, tz, tz, tz, tz, tz, tz, tz, tz, tz, tz, tz, tz, tz, tz, tz, tz, tz, tz, tz, tz, tz], [some ⟨E24, [(.agg [(.lst a0), (iz a1), (iz a2), (iz a3), (iz a4), (iz a5), (iz a6), (iz a7), (iz a8)])]⟩]⟩ = X10_0_0 d a0 a1 a2 a3 a4 a5 a6 a7 a8  := by
  unfold r10X0_0; refine Eq.trans (pl_len (by rfl)) ?_; (iterate 2 (refine yt yS ?_)); (iterate 2 (refine yt yI ?_)); (iterate 10 (refine yt yS ?_)); refine yt yI ?_; (iterate 2 (refine yt yA ?_)); refine yt yI ?_; refine yt yB ?_; (iterate 9 (refine yt yA ?_)); (iterate 45 (refine yt yS ?_)); refine Eq.trans (pl_sameH) ?_
  rfl
noncomputable def E10_0 (d : Nat) (a0 : List AV) (a1 a2 a3 a4 a5 a6 a7 a8 x57 : Int) : Ans :=
  some (iz x57)
theorem E10_0_ok (d : Nat) (a0 : List AV) (a1 a2 a3 a4 a5 a6 a7 a8 x57 x58 x59 : Int) (v60 v61 : AV) (x62 : Int) (b63 : Bool) (v64 v65 v66 v67 : AV) (x68 : Int) (v69 v71 : AV) (x72 x73 x74 x75 : Int) (b76 b77 : Bool) : r10E0 C0 d a0 a1 a2 a3 a4 a5 a6 a7 a8 ⟨[(.agg [(.lst a0), (iz a1), (iz a2), (iz a3), (iz a4), (iz a5), (iz a6), (iz a7), (iz a8)]), (.ptr 0 0 0), (iz x57), (iz x58), (.ptr 0 0 0), (.lst a0), (iz (((List.length a0) : Nat) : Int)), (.bool (decide ((((List.length a0) : Nat) : Int) < 1))), bf, (.ptr 0 0 0), (.lst a0), (iz (((List.length a0) : Nat) : Int)), (.bool (decide ((((List.length a0) : Nat) : Int) > 4))), bf, (iz x59), v60, v61, (iz x62), (.bool b63), v64, v65, v66, v67, (iz x68), v69, (.agg [v71, (iz x72), (iz x73), (iz x74), (iz x75)]), (.bool b76), (.bool b77), tz, tz, tz, tz, tz, tz, tz, tz, tz, tz, tz, tz, tz, tz, tz, tz, tz, tz, tz, tz, tz, tz, tz, tz, tz, tz, tz, tz, tz, tz, tz, tz, tz, tz, tz, tz, tz, tz, tz, tz, tz, tz, tz, tz, tz], [some ⟨E24, [(.agg [(.lst a0), (iz a1), (iz a2), (iz a3), (iz a4), (iz a5), (iz a6), (iz a7), (iz a8)])]⟩]⟩ = E10_0 d a0 a1 a2 a3 a4 a5 a6 a7 a8 x57 := by
  unfold r10E0; refine Eq.trans (pl_len (by rfl)) ?_; (iterate 2 (refine yt yS ?_)); (iterate 2 (refine yt yI ?_)); (iterate 10 (refine yt yS ?_)); refine yt yI ?_; (iterate 2 (refine yt yA ?_)); refine yt yI ?_; refine yt yB ?_; (iterate 4 (refine yt yA ?_)); refine yt yI ?_; refine yt yA ?_; refine yt yG ?_; refine yt yA ?_; (iterate 4 (refine yt yI ?_)); (iterate 2 (refine yt yB ?_)); (iterate 45 (refine yt yS ?_)); refine Eq.trans (pl_sameH) ?_
  rfl
noncomputable def L10_0 (d : Nat) (a0 : List AV) (a1 a2 a3 a4 a5 a6 a7 a8 : Int) : Nat → Int → Ans
  | 0, _ => none
  | n + 1, x4 =>
  cnd (decide (x4 < (((List.length a0) : Nat) : Int)))
   (cnd (decide ((0 : Int) ≤ x4))
   (C0.agg 5 a0[(Int.toNat x4)]? fun l19 =>
   C0.lst l19[0]? (fun l20 =>
   C0.int .i64 l19[1]? fun x22 =>
   C0.int .i64 l19[2]? fun x23 =>
   C0.int .i64 l19[3]? fun x24 =>
   C0.int .i64 l19[4]? fun x25 =>
   C0.bool (pcall M d 17 [(.agg [(.lst l20), (iz x22), (iz x23), (iz x24), (iz x25)])]) fun b26 =>
   cnd (!b26)
   (E10_0 d a0 a1 a2 a3 a4 a5 a6 a7 a8 2)
   (L10_0 d a0 a1 a2 a3 a4 a5 a6 a7 a8 n (IntKind.wrap .i64 (x4 + 1))))
        (fun z21 =>
   C0.int .i64 l19[1]? fun x27 =>
   C0.int .i64 l19[2]? fun x28 =>
   C0.int .i64 l19[3]? fun x29 =>
   C0.int .i64 l19[4]? fun x30 =>
   C0.bool (pcall M d 17 [(.agg [(.zsl z21), (iz x27), (iz x28), (iz x29), (iz x30)])]) fun b31 =>
   cnd (!b31)
   (E10_0 d a0 a1 a2 a3 a4 a5 a6 a7 a8 2)
   (L10_0 d a0 a1 a2 a3 a4 a5 a6 a7 a8 n (IntKind.wrap .i64 (x4 + 1)))))
   (none))
   (X10_0_0 d a0 a1 a2 a3 a4 a5 a6 a7 a8)
theorem L10_0_s (d : Nat) (a0 : List AV) (a1 a2 a3 a4 a5 a6 a7 a8 : Int) (n : Nat) (x4 : Int) : L10_0 d a0 a1 a2 a3 a4 a5 a6 a7 a8 (n + 1) x4 = (cnd (decide (x4 < (((List.length a0) : Nat) : Int)))
   (cnd (decide ((0 : Int) ≤ x4))
   (C0.agg 5 a0[(Int.toNat x4)]? fun l19 =>
   C0.lst l19[0]? (fun l20 =>
   C0.int .i64 l19[1]? fun x22 =>
   C0.int .i64 l19[2]? fun x23 =>
   C0.int .i64 l19[3]? fun x24 =>
   C0.int .i64 l19[4]? fun x25 =>
   C0.bool (pcall M d 17 [(.agg [(.lst l20), (iz x22), (iz x23), (iz x24), (iz x25)])]) fun b26 =>
   cnd (!b26)
   (E10_0 d a0 a1 a2 a3 a4 a5 a6 a7 a8 2)
   (L10_0 d a0 a1 a2 a3 a4 a5 a6 a7 a8 n (IntKind.wrap .i64 (x4 + 1))))
        (fun z21 =>
   C0.int .i64 l19[1]? fun x27 =>
   C0.int .i64 l19[2]? fun x28 =>
   C0.int .i64 l19[3]? fun x29 =>
   C0.int .i64 l19[4]? fun x30 =>
   C0.bool (pcall M d 17 [(.agg [(.zsl z21), (iz x27), (iz x28), (iz x29), (iz x30)])]) fun b31 =>
   cnd (!b31)
   (E10_0 d a0 a1 a2 a3 a4 a5 a6 a7 a8 2)
   (L10_0 d a0 a1 a2 a3 a4 a5 a6 a7 a8 n (IntKind.wrap .i64 (x4 + 1)))))
   (none))
   (X10_0_0 d a0 a1 a2 a3 a4 a5 a6 a7 a8)) := by kernel_rfl
theorem it10_0 (d : Nat) (a0 : List AV) (a1 a2 a3 a4 a5 a6 a7 a8 : Int)   : ∀ (n : Nat) (x3 x4 : Int) (v5 v6 v7 v8 v9 v10 v11 v12 v13 v14 v15 v16 v17 v18 : AV), C0.iter (r10R0 C0 d a0 a1 a2 a3 a4 a5 a6 a7 a8) n ⟨[(.agg [(.lst a0), (iz a1), (iz a2), (iz a3), (iz a4), (iz a5), (iz a6), (iz a7), (iz a8)]), (.ptr 0 0 0), (iz x3), (iz x4), (.ptr 0 0 0), (.lst a0), (iz (((List.length a0) : Nat) : Int)), (.bool (decide ((((List.length a0) : Nat) : Int) < 1))), bf, (.ptr 0 0 0), (.lst a0), (iz (((List.length a0) : Nat) : Int)), (.bool (decide ((((List.length a0) : Nat) : Int) > 4))), bf, v5, v6, v7, v8, v9, v10, v11, v12, v13, v14, v15, v16, v17, v18, tz, tz, tz, tz, tz, tz, tz, tz, tz, tz, tz, tz, tz, tz, tz, tz, tz, tz, tz, tz, tz, tz, tz, tz, tz, tz, tz, tz, tz, tz, tz, tz, tz, tz, tz, tz, tz, tz, tz, tz, tz, tz, tz, tz, tz], [some ⟨E24, [(.agg [(.lst a0), (iz a1), (iz a2), (iz a3), (iz a4), (iz a5), (iz a6), (iz a7), (iz a8)])]⟩]⟩ [0] [r10X0_0 C0 d a0 a1 a2 a3 a4 a5 a6 a7 a8] (r10E0 C0 d a0 a1 a2 a3 a4 a5 a6 a7 a8) = L10_0 d a0 a1 a2 a3 a4 a5 a6 a7 a8 n x4 := by
  generalize hR : r10R0 C0 d a0 a1 a2 a3 a4 a5 a6 a7 a8 = R
  intro n
  induction n with
  | zero => intros; rfl
  | succ n ih =>
    intro x3 x4 v5 v6 v7 v8 v9 v10 v11 v12 v13 v14 v15 v16 v17 v18
    simp only [it_ret] at ih
    rw [it_ret, xiter_s]
    refine Eq.trans (congrFun (congrFun hR.symm _) _) ?_
    unfold r10R0
    refine Eq.trans (pl_len (by rfl)) ?_; (iterate 2 (refine yt yS ?_)); (iterate 2 (refine yt yI ?_)); (iterate 10 (refine yt yS ?_)); (iterate 14 (refine yt yA ?_)); (iterate 45 (refine yt yS ?_)); refine Eq.trans (pl_sameH) ?_
    simp only [kIter_n, kIter_x, kIter_r, kOut_x, kOut_r, xgo_hit, xgo_miss, ih, X10_0_0_ok d a0 a1 a2 a3 a4 a5 a6 a7 a8  , E10_0_ok d a0 a1 a2 a3 a4 a5 a6 a7 a8  ]
    exact (L10_0_s d a0 a1 a2 a3 a4 a5 a6 a7 a8 n x4).symm
/-- apogee/apogeeref13.Wrong -/
theorem q10 (d : Nat) (a0 : List AV) (a1 a2 a3 a4 a5 a6 a7 a8 : Int) : xcall C0 M unr d 10 [(.agg [(.lst a0), (iz a1), (iz a2), (iz a3), (iz a4), (iz a5), (iz a6), (iz a7), (iz a8)])] =
  cnd (decide ((((List.length a0) : Nat) : Int) < 1))
   (some (iz 1))
   (cnd (decide ((((List.length a0) : Nat) : Int) > 4))
   (some (iz 1))
   (L10_0 d a0 a1 a2 a3 a4 a5 a6 a7 a8 10000000000000000000 0)) := (r10 C0 d a0 a1 a2 a3 a4 a5 a6 a7 a8).trans (by simp only [it10_0])
noncomputable def X18_0_0 (d : Nat) (n0 : Nat) (K0 : AV → Heap → Ans) (v0 v2 : AV) (x19 : Int) (H : Heap) : Ans :=
  C0.hop H (.load true 9 (.v v0)) fun v81 h82 =>
   C0.agg 9 (some v81) fun l83 =>
   C0.any l83[0]? fun v84 =>
   C0.int .i64 l83[1]? fun x85 =>
   C0.int .i64 l83[2]? fun x86 =>
   C0.int .i64 l83[3]? fun x87 =>
   C0.int .i64 l83[4]? fun x88 =>
   C0.int .i64 l83[5]? fun x89 =>
   C0.int .i64 l83[6]? fun x90 =>
   C0.int .i64 l83[7]? fun x91 =>
   C0.int .i64 l83[8]? fun x92 =>
   C0.hop h82 (.store 9 (.v v2) (.v (.agg [v84, (iz x85), (iz x86), (iz x87), (iz x88), (iz x89), (iz x90), (iz x91), (iz x92)]))) fun v93 h94 =>
   C0.hop h94 (.load true 9 (.v v2)) fun v95 h96 =>
    K0 v95 h94
theorem X18_0_0_ok (d : Nat) (a0 : AV) (a1 a2 a3 a4 a5 a6 a7 a8 : Int) (n0 : Nat) (K0 : AV → Heap → Ans) (v0 v2 v4 v6 v9 v13 v15 : AV) (x19 : Int) (v64 : AV) (x65 : Int) (v66 v67 v68 v69 v70 v71 v72 v73 v74 v75 v76 v77 v78 v79 v80 : AV) (H : Heap) : r18X0_0 C0 d a0 a1 a2 a3 a4 a5 a6 a7 a8 n0 K0 v0 v2 v4 v6 v9 v13 v15 x19 ⟨[(.agg [a0, (iz a1), (iz a2), (iz a3), (iz a4), (iz a5), (iz a6), (iz a7), (iz a8)]), v0, v2, v64, v4, v6, (.lst []), v9, v13, v15, (iz x19), (iz x65), v66, v67, v68, v69, v70, v71, v72, v73, v74, v75, v76, v77, v78, v79, v80, tz], H⟩ = X18_0_0 d n0 K0 v0 v2 x19 H := by
  unfold r18X0_0; refine Eq.trans (pl_len (by rfl)) ?_; (iterate 3 (refine yt yS ?_)); refine yt yA ?_; (iterate 7 (refine yt yS ?_)); refine yt yI ?_; (iterate 15 (refine yt yA ?_)); refine yt yS ?_
  rfl
noncomputable def L18_0 (d : Nat) (n0 : Nat) (K0 : AV → Heap → Ans) (v0 v2 : AV) (x19 : Int) : Nat → Int → Heap → Ans
  | 0, _, _ => none
  | n + 1, x24, H =>
  cnd (decide (x24 < x19))
   (C0.hop H (.fldA 0 (.v v0)) fun v40 h41 =>
   C0.hop h41 (.load false 1 (.v v40)) fun v42 h43 =>
   C0.hop h43 (.fldA 0 (.v v0)) fun v44 h45 =>
   C0.hop h45 (.load false 1 (.v v44)) fun v46 h47 =>
   C0.hop h47 (.ixAS .any 5 (.v v46) (.v (iz x24))) fun v48 h49 =>
   C0.hop h49 (.fldA 0 (.v v48)) fun v50 h51 =>
   C0.hop h51 (.load false 1 (.v v50)) fun v52 h53 =>
   C0.cal M (pcall M d) (n0 + 8) false 23 [v52] h53 fun v54 h55 =>
   C0.any (some v54) fun v56 =>
   C0.hop h55 (.ixAS .any 5 (.v v42) (.v (iz x24))) fun v57 h58 =>
   C0.hop h58 (.fldA 0 (.v v57)) fun v59 h60 =>
   C0.hop h60 (.store 1 (.v v59) (.v v56)) fun v61 h62 =>
   L18_0 d n0 K0 v0 v2 x19 n (IntKind.wrap .i64 (x24 + 1)) h62)
   (X18_0_0 d n0 K0 v0 v2 x19 H)
theorem L18_0_s (d : Nat) (n0 : Nat) (K0 : AV → Heap → Ans) (v0 v2 : AV) (x19 : Int) (n : Nat) (x24 : Int) (H : Heap) : L18_0 d n0 K0 v0 v2 x19 (n + 1) x24 H = (cnd (decide (x24 < x19))
   (C0.hop H (.fldA 0 (.v v0)) fun v40 h41 =>
   C0.hop h41 (.load false 1 (.v v40)) fun v42 h43 =>
   C0.hop h43 (.fldA 0 (.v v0)) fun v44 h45 =>
   C0.hop h45 (.load false 1 (.v v44)) fun v46 h47 =>
   C0.hop h47 (.ixAS .any 5 (.v v46) (.v (iz x24))) fun v48 h49 =>
   C0.hop h49 (.fldA 0 (.v v48)) fun v50 h51 =>
   C0.hop h51 (.load false 1 (.v v50)) fun v52 h53 =>
   C0.cal M (pcall M d) (n0 + 8) false 23 [v52] h53 fun v54 h55 =>
   C0.any (some v54) fun v56 =>
   C0.hop h55 (.ixAS .any 5 (.v v42) (.v (iz x24))) fun v57 h58 =>
   C0.hop h58 (.fldA 0 (.v v57)) fun v59 h60 =>
   C0.hop h60 (.store 1 (.v v59) (.v v56)) fun v61 h62 =>
   L18_0 d n0 K0 v0 v2 x19 n (IntKind.wrap .i64 (x24 + 1)) h62)
   (X18_0_0 d n0 K0 v0 v2 x19 H)) := by kernel_rfl
theorem it18_0 (d : Nat) (a0 : AV) (a1 a2 a3 a4 a5 a6 a7 a8 : Int) (n0 : Nat) (K0 : AV → Heap → Ans) (v0 v2 v4 v6 v9 v13 v15 : AV) (x19 : Int)   : ∀ (n : Nat) (v23 : AV) (x24 : Int) (v25 v26 v27 v28 v29 v30 v31 v32 v33 v34 v35 v36 v37 v38 v39 : AV) (H : Heap), C0.iter (r18R0 C0 d a0 a1 a2 a3 a4 a5 a6 a7 a8 n0 K0 v0 v2 v4 v6 v9 v13 v15 x19) n ⟨[(.agg [a0, (iz a1), (iz a2), (iz a3), (iz a4), (iz a5), (iz a6), (iz a7), (iz a8)]), v0, v2, v23, v4, v6, (.lst []), v9, v13, v15, (iz x19), (iz x24), v25, v26, v27, v28, v29, v30, v31, v32, v33, v34, v35, v36, v37, v38, v39, tz], H⟩ [0] [r18X0_0 C0 d a0 a1 a2 a3 a4 a5 a6 a7 a8 n0 K0 v0 v2 v4 v6 v9 v13 v15 x19] (r18E0 C0 d a0 a1 a2 a3 a4 a5 a6 a7 a8 n0 K0 v0 v2 v4 v6 v9 v13 v15 x19) = L18_0 d n0 K0 v0 v2 x19 n x24 H := by
  generalize hR : r18R0 C0 d a0 a1 a2 a3 a4 a5 a6 a7 a8 n0 K0 v0 v2 v4 v6 v9 v13 v15 x19 = R
  intro n
  induction n with
  | zero => intros; rfl
  | succ n ih =>
    intro v23 x24 v25 v26 v27 v28 v29 v30 v31 v32 v33 v34 v35 v36 v37 v38 v39 H
    simp only [it_ret] at ih
    rw [it_ret, xiter_s]
    refine Eq.trans (congrFun (congrFun hR.symm _) _) ?_
    unfold r18R0
    refine Eq.trans (pl_len (by rfl)) ?_; (iterate 3 (refine yt yS ?_)); refine yt yA ?_; (iterate 7 (refine yt yS ?_)); refine yt yI ?_; (iterate 15 (refine yt yA ?_)); refine yt yS ?_
    simp only [kIter_n, kIter_x, kIter_r, kOut_x, kOut_r, xgo_hit, xgo_miss, ih, X18_0_0_ok d a0 a1 a2 a3 a4 a5 a6 a7 a8 n0 K0 v0 v2 v4 v6 v9 v13 v15 x19  ]
    exact (L18_0_s d n0 K0 v0 v2 x19 n x24 H).symm
noncomputable def X18_2_0 (d : Nat) (n0 : Nat) (K0 : AV → Heap → Ans) (v0 v2 : AV) (x129 : Int) (H : Heap) : Ans :=
  C0.hop H (.load true 9 (.v v0)) fun v191 h192 =>
   C0.agg 9 (some v191) fun l193 =>
   C0.any l193[0]? fun v194 =>
   C0.int .i64 l193[1]? fun x195 =>
   C0.int .i64 l193[2]? fun x196 =>
   C0.int .i64 l193[3]? fun x197 =>
   C0.int .i64 l193[4]? fun x198 =>
   C0.int .i64 l193[5]? fun x199 =>
   C0.int .i64 l193[6]? fun x200 =>
   C0.int .i64 l193[7]? fun x201 =>
   C0.int .i64 l193[8]? fun x202 =>
   C0.hop h192 (.store 9 (.v v2) (.v (.agg [v194, (iz x195), (iz x196), (iz x197), (iz x198), (iz x199), (iz x200), (iz x201), (iz x202)]))) fun v203 h204 =>
   C0.hop h204 (.load true 9 (.v v2)) fun v205 h206 =>
    K0 v205 h204
theorem X18_2_0_ok (d : Nat) (a0 : AV) (a1 a2 a3 a4 a5 a6 a7 a8 : Int) (n0 : Nat) (K0 : AV → Heap → Ans) (v0 v2 v4 v6 v119 v123 v125 : AV) (x129 : Int) (v174 : AV) (x175 : Int) (v176 v177 v178 v179 v180 v181 v182 v183 v184 v185 v186 v187 v188 v189 v190 : AV) (H : Heap) : r18X2_0 C0 d a0 a1 a2 a3 a4 a5 a6 a7 a8 n0 K0 v0 v2 v4 v6 v119 v123 v125 x129 ⟨[(.agg [a0, (iz a1), (iz a2), (iz a3), (iz a4), (iz a5), (iz a6), (iz a7), (iz a8)]), v0, v2, v174, v4, v6, (.zsl true), v119, v123, v125, (iz x129), (iz x175), v176, v177, v178, v179, v180, v181, v182, v183, v184, v185, v186, v187, v188, v189, v190, tz], H⟩ = X18_2_0 d n0 K0 v0 v2 x129 H := by
  unfold r18X2_0; refine Eq.trans (pl_len (by rfl)) ?_; (iterate 3 (refine yt yS ?_)); refine yt yA ?_; (iterate 7 (refine yt yS ?_)); refine yt yI ?_; (iterate 15 (refine yt yA ?_)); refine yt yS ?_
  rfl
noncomputable def L18_2 (d : Nat) (n0 : Nat) (K0 : AV → Heap → Ans) (v0 v2 : AV) (x129 : Int) : Nat → Int → Heap → Ans
  | 0, _, _ => none
  | n + 1, x134, H =>
  cnd (decide (x134 < x129))
   (C0.hop H (.fldA 0 (.v v0)) fun v150 h151 =>
   C0.hop h151 (.load false 1 (.v v150)) fun v152 h153 =>
   C0.hop h153 (.fldA 0 (.v v0)) fun v154 h155 =>
   C0.hop h155 (.load false 1 (.v v154)) fun v156 h157 =>
   C0.hop h157 (.ixAS .any 5 (.v v156) (.v (iz x134))) fun v158 h159 =>
   C0.hop h159 (.fldA 0 (.v v158)) fun v160 h161 =>
   C0.hop h161 (.load false 1 (.v v160)) fun v162 h163 =>
   C0.cal M (pcall M d) (n0 + 8) false 23 [v162] h163 fun v164 h165 =>
   C0.any (some v164) fun v166 =>
   C0.hop h165 (.ixAS .any 5 (.v v152) (.v (iz x134))) fun v167 h168 =>
   C0.hop h168 (.fldA 0 (.v v167)) fun v169 h170 =>
   C0.hop h170 (.store 1 (.v v169) (.v v166)) fun v171 h172 =>
   L18_2 d n0 K0 v0 v2 x129 n (IntKind.wrap .i64 (x134 + 1)) h172)
   (X18_2_0 d n0 K0 v0 v2 x129 H)
theorem L18_2_s (d : Nat) (n0 : Nat) (K0 : AV → Heap → Ans) (v0 v2 : AV) (x129 : Int) (n : Nat) (x134 : Int) (H : Heap) : L18_2 d n0 K0 v0 v2 x129 (n + 1) x134 H = (cnd (decide (x134 < x129))
   (C0.hop H (.fldA 0 (.v v0)) fun v150 h151 =>
   C0.hop h151 (.load false 1 (.v v150)) fun v152 h153 =>
   C0.hop h153 (.fldA 0 (.v v0)) fun v154 h155 =>
   C0.hop h155 (.load false 1 (.v v154)) fun v156 h157 =>
   C0.hop h157 (.ixAS .any 5 (.v v156) (.v (iz x134))) fun v158 h159 =>
   C0.hop h159 (.fldA 0 (.v v158)) fun v160 h161 =>
   C0.hop h161 (.load false 1 (.v v160)) fun v162 h163 =>
   C0.cal M (pcall M d) (n0 + 8) false 23 [v162] h163 fun v164 h165 =>
   C0.any (some v164) fun v166 =>
   C0.hop h165 (.ixAS .any 5 (.v v152) (.v (iz x134))) fun v167 h168 =>
   C0.hop h168 (.fldA 0 (.v v167)) fun v169 h170 =>
   C0.hop h170 (.store 1 (.v v169) (.v v166)) fun v171 h172 =>
   L18_2 d n0 K0 v0 v2 x129 n (IntKind.wrap .i64 (x134 + 1)) h172)
   (X18_2_0 d n0 K0 v0 v2 x129 H)) := by kernel_rfl
theorem it18_2 (d : Nat) (a0 : AV) (a1 a2 a3 a4 a5 a6 a7 a8 : Int) (n0 : Nat) (K0 : AV → Heap → Ans) (v0 v2 v4 v6 v119 v123 v125 : AV) (x129 : Int)   : ∀ (n : Nat) (v133 : AV) (x134 : Int) (v135 v136 v137 v138 v139 v140 v141 v142 v143 v144 v145 v146 v147 v148 v149 : AV) (H : Heap), C0.iter (r18R2 C0 d a0 a1 a2 a3 a4 a5 a6 a7 a8 n0 K0 v0 v2 v4 v6 v119 v123 v125 x129) n ⟨[(.agg [a0, (iz a1), (iz a2), (iz a3), (iz a4), (iz a5), (iz a6), (iz a7), (iz a8)]), v0, v2, v133, v4, v6, (.zsl true), v119, v123, v125, (iz x129), (iz x134), v135, v136, v137, v138, v139, v140, v141, v142, v143, v144, v145, v146, v147, v148, v149, tz], H⟩ [0] [r18X2_0 C0 d a0 a1 a2 a3 a4 a5 a6 a7 a8 n0 K0 v0 v2 v4 v6 v119 v123 v125 x129] (r18E2 C0 d a0 a1 a2 a3 a4 a5 a6 a7 a8 n0 K0 v0 v2 v4 v6 v119 v123 v125 x129) = L18_2 d n0 K0 v0 v2 x129 n x134 H := by
  generalize hR : r18R2 C0 d a0 a1 a2 a3 a4 a5 a6 a7 a8 n0 K0 v0 v2 v4 v6 v119 v123 v125 x129 = R
  intro n
  induction n with
  | zero => intros; rfl
  | succ n ih =>
    intro v133 x134 v135 v136 v137 v138 v139 v140 v141 v142 v143 v144 v145 v146 v147 v148 v149 H
    simp only [it_ret] at ih
    rw [it_ret, xiter_s]
    refine Eq.trans (congrFun (congrFun hR.symm _) _) ?_
    unfold r18R2
    refine Eq.trans (pl_len (by rfl)) ?_; (iterate 3 (refine yt yS ?_)); refine yt yA ?_; (iterate 7 (refine yt yS ?_)); refine yt yI ?_; (iterate 15 (refine yt yA ?_)); refine yt yS ?_
    simp only [kIter_n, kIter_x, kIter_r, kOut_x, kOut_r, xgo_hit, xgo_miss, ih, X18_2_0_ok d a0 a1 a2 a3 a4 a5 a6 a7 a8 n0 K0 v0 v2 v4 v6 v119 v123 v125 x129  ]
    exact (L18_2_s d n0 K0 v0 v2 x129 n x134 H).symm
noncomputable def X18_4_0 (d : Nat) (n0 : Nat) (K0 : AV → Heap → Ans) (v0 v2 : AV) (x240 : Int) (H : Heap) : Ans :=
  C0.hop H (.load true 9 (.v v0)) fun v302 h303 =>
   C0.agg 9 (some v302) fun l304 =>
   C0.any l304[0]? fun v305 =>
   C0.int .i64 l304[1]? fun x306 =>
   C0.int .i64 l304[2]? fun x307 =>
   C0.int .i64 l304[3]? fun x308 =>
   C0.int .i64 l304[4]? fun x309 =>
   C0.int .i64 l304[5]? fun x310 =>
   C0.int .i64 l304[6]? fun x311 =>
   C0.int .i64 l304[7]? fun x312 =>
   C0.int .i64 l304[8]? fun x313 =>
   C0.hop h303 (.store 9 (.v v2) (.v (.agg [v305, (iz x306), (iz x307), (iz x308), (iz x309), (iz x310), (iz x311), (iz x312), (iz x313)]))) fun v314 h315 =>
   C0.hop h315 (.load true 9 (.v v2)) fun v316 h317 =>
    K0 v316 h315
theorem X18_4_0_ok (d : Nat) (a0 : AV) (a1 a2 a3 a4 a5 a6 a7 a8 : Int) (n0 : Nat) (K0 : AV → Heap → Ans) (v0 v2 v4 v6 v228 v230 v234 v236 : AV) (x240 : Int) (v285 : AV) (x286 : Int) (v287 v288 v289 v290 v291 v292 v293 v294 v295 v296 v297 v298 v299 v300 v301 : AV) (H : Heap) : r18X4_0 C0 d a0 a1 a2 a3 a4 a5 a6 a7 a8 n0 K0 v0 v2 v4 v6 v228 v230 v234 v236 x240 ⟨[(.agg [a0, (iz a1), (iz a2), (iz a3), (iz a4), (iz a5), (iz a6), (iz a7), (iz a8)]), v0, v2, v285, v4, v6, v228, v230, v234, v236, (iz x240), (iz x286), v287, v288, v289, v290, v291, v292, v293, v294, v295, v296, v297, v298, v299, v300, v301, tz], H⟩ = X18_4_0 d n0 K0 v0 v2 x240 H := by
  unfold r18X4_0; refine Eq.trans (pl_len (by rfl)) ?_; (iterate 3 (refine yt yS ?_)); refine yt yA ?_; (iterate 7 (refine yt yS ?_)); refine yt yI ?_; (iterate 15 (refine yt yA ?_)); refine yt yS ?_
  rfl
noncomputable def L18_4 (d : Nat) (n0 : Nat) (K0 : AV → Heap → Ans) (v0 v2 : AV) (x240 : Int) : Nat → Int → Heap → Ans
  | 0, _, _ => none
  | n + 1, x245, H =>
  cnd (decide (x245 < x240))
   (C0.hop H (.fldA 0 (.v v0)) fun v261 h262 =>
   C0.hop h262 (.load false 1 (.v v261)) fun v263 h264 =>
   C0.hop h264 (.fldA 0 (.v v0)) fun v265 h266 =>
   C0.hop h266 (.load false 1 (.v v265)) fun v267 h268 =>
   C0.hop h268 (.ixAS .any 5 (.v v267) (.v (iz x245))) fun v269 h270 =>
   C0.hop h270 (.fldA 0 (.v v269)) fun v271 h272 =>
   C0.hop h272 (.load false 1 (.v v271)) fun v273 h274 =>
   C0.cal M (pcall M d) (n0 + 8) false 23 [v273] h274 fun v275 h276 =>
   C0.any (some v275) fun v277 =>
   C0.hop h276 (.ixAS .any 5 (.v v263) (.v (iz x245))) fun v278 h279 =>
   C0.hop h279 (.fldA 0 (.v v278)) fun v280 h281 =>
   C0.hop h281 (.store 1 (.v v280) (.v v277)) fun v282 h283 =>
   L18_4 d n0 K0 v0 v2 x240 n (IntKind.wrap .i64 (x245 + 1)) h283)
   (X18_4_0 d n0 K0 v0 v2 x240 H)
theorem L18_4_s (d : Nat) (n0 : Nat) (K0 : AV → Heap → Ans) (v0 v2 : AV) (x240 : Int) (n : Nat) (x245 : Int) (H : Heap) : L18_4 d n0 K0 v0 v2 x240 (n + 1) x245 H = (cnd (decide (x245 < x240))
   (C0.hop H (.fldA 0 (.v v0)) fun v261 h262 =>
   C0.hop h262 (.load false 1 (.v v261)) fun v263 h264 =>
   C0.hop h264 (.fldA 0 (.v v0)) fun v265 h266 =>
   C0.hop h266 (.load false 1 (.v v265)) fun v267 h268 =>
   C0.hop h268 (.ixAS .any 5 (.v v267) (.v (iz x245))) fun v269 h270 =>
   C0.hop h270 (.fldA 0 (.v v269)) fun v271 h272 =>
   C0.hop h272 (.load false 1 (.v v271)) fun v273 h274 =>
   C0.cal M (pcall M d) (n0 + 8) false 23 [v273] h274 fun v275 h276 =>
   C0.any (some v275) fun v277 =>
   C0.hop h276 (.ixAS .any 5 (.v v263) (.v (iz x245))) fun v278 h279 =>
   C0.hop h279 (.fldA 0 (.v v278)) fun v280 h281 =>
   C0.hop h281 (.store 1 (.v v280) (.v v277)) fun v282 h283 =>
   L18_4 d n0 K0 v0 v2 x240 n (IntKind.wrap .i64 (x245 + 1)) h283)
   (X18_4_0 d n0 K0 v0 v2 x240 H)) := by kernel_rfl
theorem it18_4 (d : Nat) (a0 : AV) (a1 a2 a3 a4 a5 a6 a7 a8 : Int) (n0 : Nat) (K0 : AV → Heap → Ans) (v0 v2 v4 v6 v228 v230 v234 v236 : AV) (x240 : Int)   : ∀ (n : Nat) (v244 : AV) (x245 : Int) (v246 v247 v248 v249 v250 v251 v252 v253 v254 v255 v256 v257 v258 v259 v260 : AV) (H : Heap), C0.iter (r18R4 C0 d a0 a1 a2 a3 a4 a5 a6 a7 a8 n0 K0 v0 v2 v4 v6 v228 v230 v234 v236 x240) n ⟨[(.agg [a0, (iz a1), (iz a2), (iz a3), (iz a4), (iz a5), (iz a6), (iz a7), (iz a8)]), v0, v2, v244, v4, v6, v228, v230, v234, v236, (iz x240), (iz x245), v246, v247, v248, v249, v250, v251, v252, v253, v254, v255, v256, v257, v258, v259, v260, tz], H⟩ [0] [r18X4_0 C0 d a0 a1 a2 a3 a4 a5 a6 a7 a8 n0 K0 v0 v2 v4 v6 v228 v230 v234 v236 x240] (r18E4 C0 d a0 a1 a2 a3 a4 a5 a6 a7 a8 n0 K0 v0 v2 v4 v6 v228 v230 v234 v236 x240) = L18_4 d n0 K0 v0 v2 x240 n x245 H := by
  generalize hR : r18R4 C0 d a0 a1 a2 a3 a4 a5 a6 a7 a8 n0 K0 v0 v2 v4 v6 v228 v230 v234 v236 x240 = R
  intro n
  induction n with
  | zero => intros; rfl
  | succ n ih =>
    intro v244 x245 v246 v247 v248 v249 v250 v251 v252 v253 v254 v255 v256 v257 v258 v259 v260 H
    simp only [it_ret] at ih
    rw [it_ret, xiter_s]
    refine Eq.trans (congrFun (congrFun hR.symm _) _) ?_
    unfold r18R4
    refine Eq.trans (pl_len (by rfl)) ?_; (iterate 3 (refine yt yS ?_)); refine yt yA ?_; (iterate 7 (refine yt yS ?_)); refine yt yI ?_; (iterate 15 (refine yt yA ?_)); refine yt yS ?_
    simp only [kIter_n, kIter_x, kIter_r, kOut_x, kOut_r, xgo_hit, xgo_miss, ih, X18_4_0_ok d a0 a1 a2 a3 a4 a5 a6 a7 a8 n0 K0 v0 v2 v4 v6 v228 v230 v234 v236 x240  ]
    exact (L18_4_s d n0 K0 v0 v2 x240 n x245 H).symm
/-- apogee/rules.Copy -/
theorem q18 (d : Nat) (a0 : AV) (a1 a2 a3 a4 a5 a6 a7 a8 : Int) (n0 : Nat) (H0 : Heap) (K0 : AV → Heap → Ans) : xmeth C0 M unr d (n0 + 8) 18 [(.agg [a0, (iz a1), (iz a2), (iz a3), (iz a4), (iz a5), (iz a6), (iz a7), (iz a8)])] H0 K0 =
  C0.hop H0 (.box E24 (.v (.agg [a0, (iz a1), (iz a2), (iz a3), (iz a4), (iz a5), (iz a6), (iz a7), (iz a8)]))) fun v0 h1 =>
  C0.hop h1 (.alloc E24) fun v2 h3 =>
  C0.hop h3 (.fldA 0 (.v v0)) fun v4 h5 =>
  C0.hop h5 (.load false 1 (.v v4)) fun v6 h7 =>
  C0.bool (clr v6) fun b8 =>
  cnd b8
   (C0.same (emptyQ (pcall M d) 32) (.lst []) <|
   C0.hop h7 (.fldA 0 (.v v0)) fun v9 h10 =>
   C0.hop h10 (.store 1 (.v v9) (.v (.lst []))) fun v11 h12 =>
   C0.hop h12 (.fldA 0 (.v v0)) fun v13 h14 =>
   C0.hop h14 (.load false 1 (.v v13)) fun v15 h16 =>
   C0.hop h16 (.bk .lenV [(.v v15)]) fun v17 h18 =>
   C0.int .i64 (some v17) fun x19 =>
   L18_0 d n0 K0 v0 v2 x19 10000000000000000000 0 h18)
   (C0.hop h7 (.eqv false 2 [] (.v v6) (.v (.zsl true))) fun v116 h117 =>
   C0.bool (some v116) fun b118 =>
   cnd b118
   (C0.hop h117 (.fldA 0 (.v v0)) fun v119 h120 =>
   C0.hop h120 (.store 1 (.v v119) (.v (.zsl true))) fun v121 h122 =>
   C0.hop h122 (.fldA 0 (.v v0)) fun v123 h124 =>
   C0.hop h124 (.load false 1 (.v v123)) fun v125 h126 =>
   C0.hop h126 (.bk .lenV [(.v v125)]) fun v127 h128 =>
   C0.int .i64 (some v127) fun x129 =>
   L18_2 d n0 K0 v0 v2 x129 10000000000000000000 0 h128)
   (C0.hop h117 (.mkrow E30 0 []) fun v226 h227 =>
   C0.hop h227 (.app E30 (.v v226) (.v v6)) fun v228 h229 =>
   C0.hop h229 (.fldA 0 (.v v0)) fun v230 h231 =>
   C0.hop h231 (.store 1 (.v v230) (.v v228)) fun v232 h233 =>
   C0.hop h233 (.fldA 0 (.v v0)) fun v234 h235 =>
   C0.hop h235 (.load false 1 (.v v234)) fun v236 h237 =>
   C0.hop h237 (.bk .lenV [(.v v236)]) fun v238 h239 =>
   C0.int .i64 (some v238) fun x240 =>
   L18_4 d n0 K0 v0 v2 x240 10000000000000000000 0 h239)) := (r18 C0 d a0 a1 a2 a3 a4 a5 a6 a7 a8 n0 H0 K0).trans (by simp only [it18_0, it18_2, it18_4])
noncomputable def X35f26_0_0 (d : Nat) (a0 : List AV)  : Ans :=
  some (iz (-1))
theorem X35f26_0_0_ok (d : Nat) (a0 : List AV) (x30 : Int) (v31 : AV) (x32 : Int) (v33 v34 v35 v36 v37 v38 v39 v40 v41 v42 : AV) : r35f26X0_0 C0 d a0 ⟨[(.lst a0), (.fn 26 [] []), tz, tz, (iz x30), v31, (.lst a0), (iz (((List.length a0) : Nat) : Int)), (iz x32), v33, v34, v35, v36, v37, v38, v39, v40, v41, v42], []⟩ = X35f26_0_0 d a0  := by
  unfold r35f26X0_0; refine Eq.trans (pl_len (by rfl)) ?_; (iterate 4 (refine yt yS ?_)); refine yt yI ?_; refine yt yA ?_; (iterate 2 (refine yt yS ?_)); refine yt yI ?_; (iterate 10 (refine yt yA ?_)); refine Eq.trans (pl_sameH) ?_
  rfl
noncomputable def E35f26_0 (d : Nat) (a0 : List AV) (x43 : Int) : Ans :=
  some (iz x43)
theorem E35f26_0_ok (d : Nat) (a0 : List AV) (x43 x44 x45 : Int) (v46 : AV) (x47 : Int) (v48 v49 : AV) (x50 : Int) (v51 v53 : AV) (x54 x55 x56 x57 : Int) (b58 : Bool) (x59 : Int) (v60 : AV) : r35f26E0 C0 d a0 ⟨[(.lst a0), (.fn 26 [] []), tz, tz, (iz x43), (iz x44), (.lst a0), (iz (((List.length a0) : Nat) : Int)), (iz x45), v46, (iz x47), v48, v49, (iz x50), v51, (.agg [v53, (iz x54), (iz x55), (iz x56), (iz x57)]), (.bool b58), (iz x59), v60], []⟩ = E35f26_0 d a0 x43 := by
  unfold r35f26E0; refine Eq.trans (pl_len (by rfl)) ?_; (iterate 4 (refine yt yS ?_)); (iterate 2 (refine yt yI ?_)); (iterate 2 (refine yt yS ?_)); refine yt yI ?_; refine yt yA ?_; refine yt yI ?_; (iterate 2 (refine yt yA ?_)); refine yt yI ?_; refine yt yA ?_; refine yt yG ?_; refine yt yA ?_; (iterate 4 (refine yt yI ?_)); refine yt yB ?_; refine yt yI ?_; refine yt yA ?_; refine Eq.trans (pl_sameH) ?_
  rfl
noncomputable def L35f26_0 (d : Nat) (a0 : List AV) : Nat → Int → Ans
  | 0, _ => none
  | n + 1, x5 =>
  cnd (decide (x5 < (((List.length a0) : Nat) : Int)))
   (cnd (decide ((0 : Int) ≤ x5))
   (C0.agg 5 a0[(Int.toNat x5)]? fun l16 =>
   C0.lst l16[0]? (fun l17 =>
   C0.int .i64 l16[1]? fun x19 =>
   C0.int .i64 l16[2]? fun x20 =>
   C0.int .i64 l16[3]? fun x21 =>
   C0.int .i64 l16[4]? fun x22 =>
   C0.bool (pcall M d 26 [(.agg [(.lst l17), (iz x19), (iz x20), (iz x21), (iz x22)])]) fun b23 =>
   cnd b23
   (E35f26_0 d a0 x5)
   (L35f26_0 d a0 n (IntKind.wrap .i64 (x5 + 1))))
        (fun z18 =>
   C0.int .i64 l16[1]? fun x24 =>
   C0.int .i64 l16[2]? fun x25 =>
   C0.int .i64 l16[3]? fun x26 =>
   C0.int .i64 l16[4]? fun x27 =>
   C0.bool (pcall M d 26 [(.agg [(.zsl z18), (iz x24), (iz x25), (iz x26), (iz x27)])]) fun b28 =>
   cnd b28
   (E35f26_0 d a0 x5)
   (L35f26_0 d a0 n (IntKind.wrap .i64 (x5 + 1)))))
   (none))
   (X35f26_0_0 d a0)
theorem L35f26_0_s (d : Nat) (a0 : List AV) (n : Nat) (x5 : Int) : L35f26_0 d a0 (n + 1) x5 = (cnd (decide (x5 < (((List.length a0) : Nat) : Int)))
   (cnd (decide ((0 : Int) ≤ x5))
   (C0.agg 5 a0[(Int.toNat x5)]? fun l16 =>
   C0.lst l16[0]? (fun l17 =>
   C0.int .i64 l16[1]? fun x19 =>
   C0.int .i64 l16[2]? fun x20 =>
   C0.int .i64 l16[3]? fun x21 =>
   C0.int .i64 l16[4]? fun x22 =>
   C0.bool (pcall M d 26 [(.agg [(.lst l17), (iz x19), (iz x20), (iz x21), (iz x22)])]) fun b23 =>
   cnd b23
   (E35f26_0 d a0 x5)
   (L35f26_0 d a0 n (IntKind.wrap .i64 (x5 + 1))))
        (fun z18 =>
   C0.int .i64 l16[1]? fun x24 =>
   C0.int .i64 l16[2]? fun x25 =>
   C0.int .i64 l16[3]? fun x26 =>
   C0.int .i64 l16[4]? fun x27 =>
   C0.bool (pcall M d 26 [(.agg [(.zsl z18), (iz x24), (iz x25), (iz x26), (iz x27)])]) fun b28 =>
   cnd b28
   (E35f26_0 d a0 x5)
   (L35f26_0 d a0 n (IntKind.wrap .i64 (x5 + 1)))))
   (none))
   (X35f26_0_0 d a0)) := by kernel_rfl
theorem it35f26_0 (d : Nat) (a0 : List AV)   : ∀ (n : Nat) (x3 : Int) (v4 : AV) (x5 : Int) (v6 v7 v8 v9 v10 v11 v12 v13 v14 v15 : AV), C0.iter (r35f26R0 C0 d a0) n ⟨[(.lst a0), (.fn 26 [] []), tz, tz, (iz x3), v4, (.lst a0), (iz (((List.length a0) : Nat) : Int)), (iz x5), v6, v7, v8, v9, v10, v11, v12, v13, v14, v15], []⟩ [0] [r35f26X0_0 C0 d a0] (r35f26E0 C0 d a0) = L35f26_0 d a0 n x5 := by
  generalize hR : r35f26R0 C0 d a0 = R
  intro n
  induction n with
  | zero => intros; rfl
  | succ n ih =>
    intro x3 v4 x5 v6 v7 v8 v9 v10 v11 v12 v13 v14 v15
    simp only [it_ret] at ih
    rw [it_ret, xiter_s]
    refine Eq.trans (congrFun (congrFun hR.symm _) _) ?_
    unfold r35f26R0
    refine Eq.trans (pl_len (by rfl)) ?_; (iterate 4 (refine yt yS ?_)); refine yt yI ?_; refine yt yA ?_; (iterate 2 (refine yt yS ?_)); refine yt yI ?_; (iterate 10 (refine yt yA ?_)); refine Eq.trans (pl_sameH) ?_
    simp only [kIter_n, kIter_x, kIter_r, kOut_x, kOut_r, xgo_hit, xgo_miss, ih, X35f26_0_0_ok d a0  , E35f26_0_ok d a0  ]
    exact (L35f26_0_s d a0 n x5).symm
/-- slices.IndexFunc[[]apogee/api.Phase,apogee/api.Phase] -/
theorem q35f26 (d : Nat) (a0 : List AV) (a1 : AV) : xcall C0 M unr d 35 [(.lst a0), (.fn 26 [] [])] =
  L35f26_0 d a0 10000000000000000000 0 := (r35f26 C0 d a0 a1).trans (by simp only [it35f26_0])
end Go.Proofs.Ytffiilnmfmkpmaa.AE

namespace Go.Proofs.Ytffiilnmfmkpmaa.AE
set_option linter.unusedVariables false
set_option linter.unusedSimpArgs false
set_option linter.constructorNameAsVariable false
open Go Go.Proofs.Ytffiilnmfmkpmaa.Geo
attribute [local irreducible] pcall C0
set_option maxRecDepth 100000
structure Phs where
  ps : List Pt
  g : Int
  v : Int
  m : Int
  u : Int
abbrev phA (p : Phs) : AV := .agg [.lst (p.ps.map pt), .int .i64 p.g, .int .i64 p.v, .int .i64 p.m, .int .i64 p.u]
structure Rul where
  phs : List Phs
  n : Int
  d : Int
  gr : Int
  eps : Int
  st : Int
  age : Int
  lift : Int
  saf : Int
abbrev rl (r : Rul) : AV := .agg [.lst (r.phs.map phA), .int .i64 r.n, .int .i64 r.d, .int .i64 r.gr, .int .i64 r.eps, .int .i64 r.st, .int .i64 r.age, .int .i64 r.lift, .int .i64 r.saf]
theorem rows_phs : ∀ l : List AV, (∀ x ∈ l, ∃ cs, x = .agg cs ∧ CTall [(.sl true [(.i .i64), (.i .i64)]), (.i .i64), (.i .i64), (.i .i64), (.i .i64)] cs) → ∃ ps : List Phs, l = ps.map phA
  | [], _ => ⟨[], rfl⟩
  | x :: l, h => by
    obtain ⟨ps, rfl⟩ := rows_phs l fun y hy => h y (List.mem_cons_of_mem _ hy)
    obtain ⟨_, rfl, _, _, rfl, ⟨r, rfl, hl, hx⟩, _, _, rfl, ⟨g, rfl, _⟩, _, _, rfl, ⟨w, rfl, _⟩, _, _, rfl, ⟨m, rfl, _⟩, _, _, rfl, ⟨u, rfl, _⟩, rfl⟩ := h x (List.mem_cons_self ..)
    obtain ⟨qs, rfl⟩ := rows_pts r hx
    exact ⟨⟨qs, g, w, m, u⟩ :: ps, rfl⟩
theorem ty_rul {v : AV} (h : TyOK true [(.sl true [(.sl true [(.i .i64), (.i .i64)]), (.i .i64), (.i .i64), (.i .i64), (.i .i64)]), (.i .i64), (.i .i64), (.i .i64), (.i .i64), (.i .i64), (.i .i64), (.i .i64), (.i .i64)] v) : ∃ r, v = rl r ∧ r.phs.length ≤ 9223372036854775807 := by
  obtain ⟨l, rfl, _, _, rfl, ⟨r, rfl, hl, hx⟩, _, _, rfl, ⟨a, rfl, _⟩, _, _, rfl, ⟨b, rfl, _⟩, _, _, rfl, ⟨c, rfl, _⟩, _, _, rfl, ⟨d, rfl, _⟩, _, _, rfl, ⟨e, rfl, _⟩, _, _, rfl, ⟨f, rfl, _⟩, _, _, rfl, ⟨g, rfl, _⟩, _, _, rfl, ⟨i, rfl, _⟩, rfl⟩ := h
  obtain ⟨ps, rfl⟩ := rows_phs r hx
  exact ⟨⟨ps, a, b, c, d, e, f, g, i⟩, rfl, by rw [← maxLen_eq]; simpa using hl⟩
theorem phs_at {l : List Phs} {i : Nat} (h : i < l.length) : (l.map phA)[i]? = some (phA l[i]) := by simp [List.getElem?_map, List.getElem?_eq_getElem h]
def fewX (l : List Phs) : Bool := l.all (fun p => decide (p.ps.length ≤ 12)) && decide (l.length ≤ 8)
theorem few_go (d : Nat) (l : List Phs) (hl : l.length ≤ 9223372036854775807) : ∀ (k i : Nat), i + k = l.length → ∀ f, k < f →
    L9_0 d (l.map phA) f (i : Nat) = some (.bool ((l.drop i).all (fun p => decide (p.ps.length ≤ 12)) && decide (l.length ≤ 8)))
  | 0, i, h, f + 1, _ => by
    rw [L9_0, decide_eq_false (by simp; omega), cnd_f, List.drop_of_length_le (by omega)]
    unfold X9_0_0
    simp
    omega
  | k + 1, i, h, f + 1, hf => by
    have hi : i < l.length := by omega
    rw [L9_0, decide_eq_true (by simp; omega), cnd_t, decide_eq_true (by omega), cnd_t, show (((i : Nat) : Int)).toNat = i by omega, phs_at hi]
    repeat with_reducible first | refine tt sh_ptr ?_ | refine tt sh_fptr ?_ | refine tt w2 ?_ | refine tt w3 ?_ | refine tt w8 ?_ | refine tt w9 ?_ | refine tt wf ?_ | refine tt wg ?_ | refine tt wh ?_ | refine tt wi ?_ | refine tt wj ?_ | refine tt wk ?_ | refine tt wl ?_ | refine tt wn ?_ | refine tt c_ort ?_ | refine tt c_nt ?_ | refine tt c_nf ?_ | refine tt (cnd_t _ _) ?_ | refine tt (cnd_f _ _) ?_ | refine tt w6 ?_ | refine tt w4 ?_ | refine tt w5 ?_ | refine tt w7 ?_ | refine tt wm ?_ | refine tt wo ?_ | refine tt wx ?_ | refine tt nil_ptr ?_ | refine tt len_lst ?_ | refine tt len_zsl ?_
    rw [List.drop_eq_getElem_cons hi, List.all_cons, List.length_map]
    by_cases c : l[i].ps.length ≤ 12
    · rw [decide_eq_false (show ¬ ((l[i].ps.length : Nat) : Int) > 12 by omega), cnd_f, decide_eq_true c, Bool.true_and, show IntKind.wrap .i64 (((i : Nat) : Int) + 1) = ((i + 1 : Nat) : Int) by rw [i64w]; omega]
      exact few_go d l hl k (i + 1) (by omega) f (by omega)
    · rw [decide_eq_true (show ((l[i].ps.length : Nat) : Int) > 12 by omega), cnd_t, decide_eq_false c]; rfl
theorem s9 (d : Nat) (r : Rul) (hl : r.phs.length ≤ 9223372036854775807) : pcall M (d + 1) 9 [rl r] = some (.bool (fewX r.phs)) := told (q9 d _ _ _ _ _ _ _ _ _) (by
  have := few_go d r.phs hl r.phs.length 0 (by omega) 10000000000000000000 (by omega)
  rw [List.drop_zero] at this
  exact this)
theorem few_t {l : List Phs} (h : fewX l = true) : (∀ p ∈ l, p.ps.length ≤ 12) ∧ l.length ≤ 8 := by
  unfold fewX at h
  simp only [Bool.and_eq_true, List.all_eq_true, decide_eq_true_iff] at h
  exact h
theorem s22 (d : Nat) (n a b : Int) : pcall M (d + 1) 22 [.int .i64 n, .int .i64 a, .int .i64 b] = some (.bool (decide (a ≤ n ∧ n ≤ b))) := told (r22 C0 d _ _ _) (by
  by_cases h : n ≥ a
  · rw [decide_eq_true h, cnd_t]; congr 2; rw [decide_eq_decide]; omega
  · rw [decide_eq_false h, cnd_f, decide_eq_false (by omega)])
theorem s24 (d : Nat) (n a b : Int) : pcall M (d + 1) 24 [.int .i64 n, .int .i64 a, .int .i64 b] = some (.bool (decide (a ≤ n ∧ n ≤ b))) := told (r24 C0 d _ _ _) (by
  by_cases h : n ≥ a
  · rw [decide_eq_true h, cnd_t]; congr 2; rw [decide_eq_decide]; omega
  · rw [decide_eq_false h, cnd_f, decide_eq_false (by omega)])
theorem s28 (d : Nat) (n a b : Int) : pcall M (d + 1) 28 [.int .i64 n, .int .i64 a, .int .i64 b] = some (.bool (decide (a ≤ n ∧ n ≤ b))) := told (r28 C0 d _ _ _) (by
  by_cases h : n ≥ a
  · rw [decide_eq_true h, cnd_t]; congr 2; rw [decide_eq_decide]; omega
  · rw [decide_eq_false h, cnd_f, decide_eq_false (by omega)])
def RightPh (p : Phs) : Prop := rightB p.ps = true ∧ (1 ≤ p.g ∧ p.g ≤ 100) ∧ (1 ≤ p.v ∧ p.v ≤ 65536) ∧ (1 ≤ p.m ∧ p.m ≤ 1000000) ∧ (0 ≤ p.u ∧ p.u ≤ 1073741824)
instance (p : Phs) : Decidable (RightPh p) := by unfold RightPh; infer_instance
theorem s17 (d : Nat) (p : Phs) (hl : p.ps.length ≤ 140737488355328) : pcall M (d + 10) 17 [phA p] = some (.bool (decide (RightPh p))) := told (r17 C0 (d + 9) _ _ _ _ _) (by
  refine Eq.trans (pl_bool (s31 d p.ps hl)) ?_
  by_cases h : rightB p.ps = true
  rotate_left
  · refine Eq.trans (pl_f (Bool.eq_false_iff.mpr h)) ?_
    rw [decide_eq_false (fun k => h k.1)]
  · refine Eq.trans (pl_len h) ?_
    refine Eq.trans (pl_bool (s22 (d + 8) _ _ _)) ?_
    by_cases h1 : 1 ≤ p.g ∧ p.g ≤ 100
    rotate_left
    · rw [decide_eq_false h1, cnd_f, decide_eq_false (fun h => h1 h.2.1)]
    rw [decide_eq_true h1, cnd_t]
    refine Eq.trans (pl_bool (s22 (d + 8) _ _ _)) ?_
    by_cases h2 : 1 ≤ p.v ∧ p.v ≤ 65536
    rotate_left
    · rw [decide_eq_false h2, cnd_f, decide_eq_false (fun h => h2 h.2.2.1)]
    rw [decide_eq_true h2, cnd_t]
    refine Eq.trans (pl_bool (s22 (d + 8) _ _ _)) ?_
    by_cases h3 : 1 ≤ p.m ∧ p.m ≤ 1000000
    rotate_left
    · rw [decide_eq_false h3, cnd_f, decide_eq_false (fun h => h3 h.2.2.2.1)]
    rw [decide_eq_true h3, cnd_t]
    refine Eq.trans (pl_bool (s22 (d + 8) _ _ _)) ?_
    by_cases h4 : 0 ≤ p.u ∧ p.u ≤ 1073741824
    · rw [decide_eq_true h4, decide_eq_true ⟨h, h1, h2, h3, h4⟩]
    · rw [decide_eq_false h4, decide_eq_false (fun h => h4 h.2.2.2.2)])
theorem s16 (d : Nat) (p : Phs) (hl : p.ps.length ≤ 140737488355328) : pcall M (d + 13) 16 [phA p] = some (.bool (decide (RightPh p))) := told (r16 C0 (d + 12) _ _ _ _ _) (by
  refine Eq.trans (pl_bool (s30 d p.ps hl)) ?_
  by_cases h : rightB p.ps = true
  rotate_left
  · refine Eq.trans (pl_f (Bool.eq_false_iff.mpr h)) ?_
    rw [decide_eq_false (fun k => h k.1)]
  · refine Eq.trans (pl_len h) ?_
    refine Eq.trans (pl_bool (s28 (d + 11) _ _ _)) ?_
    by_cases h1 : 1 ≤ p.g ∧ p.g ≤ 100
    rotate_left
    · rw [decide_eq_false h1, cnd_f, decide_eq_false (fun h => h1 h.2.1)]
    rw [decide_eq_true h1, cnd_t]
    refine Eq.trans (pl_bool (s28 (d + 11) _ _ _)) ?_
    by_cases h2 : 1 ≤ p.v ∧ p.v ≤ 65536
    rotate_left
    · rw [decide_eq_false h2, cnd_f, decide_eq_false (fun h => h2 h.2.2.1)]
    rw [decide_eq_true h2, cnd_t]
    refine Eq.trans (pl_bool (s24 (d + 11) _ _ _)) ?_
    by_cases h3 : 1 ≤ p.m ∧ p.m ≤ 1000000
    rotate_left
    · rw [decide_eq_false h3, cnd_f, decide_eq_false (fun h => h3 h.2.2.2.1)]
    rw [decide_eq_true h3, cnd_t]
    refine Eq.trans (pl_bool (s28 (d + 11) _ _ _)) ?_
    by_cases h4 : 0 ≤ p.u ∧ p.u ≤ 1073741824
    · rw [decide_eq_true h4, decide_eq_true ⟨h, h1, h2, h3, h4⟩]
    · rw [decide_eq_false h4, decide_eq_false (fun h => h4 h.2.2.2.2)])
end Go.Proofs.Ytffiilnmfmkpmaa.AE

namespace Go.Proofs.Ytffiilnmfmkpmaa.AE
set_option linter.unusedVariables false
set_option linter.unusedSimpArgs false
set_option linter.constructorNameAsVariable false
open Go Go.Proofs.Ytffiilnmfmkpmaa.Geo
attribute [local irreducible] pcall C0
set_option maxRecDepth 100000
def fiP (g : Phs → Bool) : List Phs → Int → Int
  | [], _ => -1
  | p :: l, i => bif g p then i else fiP g l (i + 1)
theorem fiP_any (g : Phs → Bool) (ps : List Phs) : ∀ i : Int, 0 ≤ i → decide (fiP g ps i ≥ 0) = ps.any g := by
  induction ps with
  | nil => intro i hi; simp [fiP]
  | cons p l ih =>
    intro i hi
    have h := ih (i + 1) (by omega)
    have e : ∀ b : Bool, decide ((bif b then i else fiP g l (i + 1)) ≥ 0) = (b || l.any g) := fun b => by
      match b with
      | false => exact h
      | true => exact decide_eq_true hi
    exact e (g p)
def badX (p : Phs) : Bool := !decide (RightPh p)
theorem s26 (d : Nat) (p : Phs) (hl : p.ps.length ≤ 140737488355328) : pcall M (d + 14) 26 [phA p] = some (.bool (badX p)) := told (r26 C0 (d + 13) _ _ _ _ _) (by
  exact pl_bool (s16 d p hl))
theorem idx_go (d : Nat) (g : Phs → Bool) (l : List Phs) (hl : l.length ≤ 100) (hg : ∀ p ∈ l, pcall M d 26 [phA p] = some (.bool (g p))) : ∀ (k i : Nat), i + k = l.length → ∀ f, k < f →
    L35f26_0 d (l.map phA) f (i : Nat) = some (.int .i64 (fiP g (l.drop i) (i : Nat)))
  | 0, i, h, f + 1, _ => by
    rw [L35f26_0, decide_eq_false (by simp; omega), cnd_f, List.drop_of_length_le (by omega)]; rfl
  | k + 1, i, h, f + 1, hf => by
    have hi : i < l.length := by omega
    rw [L35f26_0, decide_eq_true (by simp; omega), cnd_t, decide_eq_true (by omega), cnd_t, show (((i : Nat) : Int)).toNat = i by omega, phs_at hi]
    repeat with_reducible first | refine tt sh_ptr ?_ | refine tt sh_fptr ?_ | refine tt w2 ?_ | refine tt w3 ?_ | refine tt w8 ?_ | refine tt w9 ?_ | refine tt wf ?_ | refine tt wg ?_ | refine tt wh ?_ | refine tt wi ?_ | refine tt wj ?_ | refine tt wk ?_ | refine tt wl ?_ | refine tt wn ?_ | refine tt c_ort ?_ | refine tt c_nt ?_ | refine tt c_nf ?_ | refine tt (cnd_t _ _) ?_ | refine tt (cnd_f _ _) ?_ | refine tt w6 ?_ | refine tt w4 ?_ | refine tt w5 ?_ | refine tt w7 ?_ | refine tt wm ?_ | refine tt wo ?_ | refine tt wx ?_ | refine tt nil_ptr ?_ | refine tt len_lst ?_ | refine tt len_zsl ?_
    refine Eq.trans (pl_bool (hg l[i] (List.getElem_mem _))) ?_
    rw [List.drop_eq_getElem_cons hi]
    unfold fiP
    cases g l[i]
    · rw [cnd_f, show IntKind.wrap .i64 (((i : Nat) : Int) + 1) = ((i + 1 : Nat) : Int) by rw [i64w]; omega]
      exact (idx_go d g l hl hg k (i + 1) (by omega) f (by omega)).trans (by simp)
    · rfl
theorem anyI (d : Nat) (g : Phs → Bool) (l : List Phs) (hl : l.length ≤ 100) (hg : ∀ p ∈ l, pcall M d 26 [phA p] = some (.bool (g p))) :
    pcall M (d + 2) 25 [.lst (l.map phA), .fn 26 [] []] = some (.bool (l.any g)) := told (r25f26 C0 (d + 1) _ .nilp) (by
  have h : pcall M (d + 1) 35 [.lst (l.map phA), .fn 26 [] []] = some (.int .i64 (fiP g l 0)) :=
    told (q35f26 d (l.map phA) .nilp) (by have := idx_go d g l hl hg l.length 0 (by omega) 10000000000000000000 (by omega); rw [List.drop_zero] at this; exact this)
  refine Eq.trans (pl_int h) ?_
  rw [fiP_any g l 0 (by decide)])
/-- What is wrong beside the phases. -/
def wrongT (k n d gr eps st age lift saf : Int) : Int :=
  if ¬ ((1 ≤ n ∧ n ≤ 50) ∧ (1 ≤ d ∧ d ≤ 50) ∧ (1 ≤ gr ∧ gr ≤ 50)) then 3 else if ¬ (0 ≤ eps ∧ eps ≤ 1024) then 4 else if ¬ (1 ≤ st ∧ st ≤ 65536) then 5
  else if ¬ (1 ≤ age ∧ age ≤ 50) then 6 else if ¬ (1 ≤ lift ∧ lift ≤ 1073741824) then 7 else if ¬ (0 ≤ saf ∧ saf ≤ k) then 8 else 0
def wrongX (r : Rul) : Int := if r.phs.length < 1 ∨ r.phs.length > 4 then 1 else bif r.phs.any badX then 2 else wrongT r.phs.length r.n r.d r.gr r.eps r.st r.age r.lift r.saf
theorem ref_tail (d : Nat) (l : List AV) (n e gr eps st age lift saf : Int) : X10_0_0 (d + 1) l n e gr eps st age lift saf = some (.int .i64 (wrongT l.length n e gr eps st age lift saf)) := by
  unfold X10_0_0 wrongT
  have W := s22 d
  refine Eq.trans (pl_bool (W _ _ _)) ?_
  by_cases h1 : 1 ≤ n ∧ n ≤ 50
  rotate_left
  · rw [decide_eq_false h1, if_pos (fun h => h1 h.1)]; rfl
  rw [decide_eq_true h1]
  repeat with_reducible first | refine tt sh_ptr ?_ | refine tt sh_fptr ?_ | refine tt w2 ?_ | refine tt w3 ?_ | refine tt w8 ?_ | refine tt w9 ?_ | refine tt wf ?_ | refine tt wg ?_ | refine tt wh ?_ | refine tt wi ?_ | refine tt wj ?_ | refine tt wk ?_ | refine tt wl ?_ | refine tt wn ?_ | refine tt c_ort ?_ | refine tt c_nt ?_ | refine tt c_nf ?_ | refine tt (cnd_t _ _) ?_ | refine tt (cnd_f _ _) ?_ | refine tt w6 ?_ | refine tt w4 ?_ | refine tt w5 ?_ | refine tt w7 ?_ | refine tt wm ?_ | refine tt wo ?_ | refine tt wx ?_ | refine tt nil_ptr ?_ | refine tt len_lst ?_ | refine tt len_zsl ?_
  refine Eq.trans (pl_bool (W _ _ _)) ?_
  by_cases h2 : 1 ≤ e ∧ e ≤ 50
  rotate_left
  · rw [decide_eq_false h2, if_pos (fun h => h2 h.2.1)]; rfl
  rw [decide_eq_true h2]
  repeat with_reducible first | refine tt sh_ptr ?_ | refine tt sh_fptr ?_ | refine tt w2 ?_ | refine tt w3 ?_ | refine tt w8 ?_ | refine tt w9 ?_ | refine tt wf ?_ | refine tt wg ?_ | refine tt wh ?_ | refine tt wi ?_ | refine tt wj ?_ | refine tt wk ?_ | refine tt wl ?_ | refine tt wn ?_ | refine tt c_ort ?_ | refine tt c_nt ?_ | refine tt c_nf ?_ | refine tt (cnd_t _ _) ?_ | refine tt (cnd_f _ _) ?_ | refine tt w6 ?_ | refine tt w4 ?_ | refine tt w5 ?_ | refine tt w7 ?_ | refine tt wm ?_ | refine tt wo ?_ | refine tt wx ?_ | refine tt nil_ptr ?_ | refine tt len_lst ?_ | refine tt len_zsl ?_
  refine Eq.trans (pl_bool (W _ _ _)) ?_
  by_cases h3 : 1 ≤ gr ∧ gr ≤ 50
  rotate_left
  · rw [decide_eq_false h3, if_pos (fun h => h3 h.2.2)]; rfl
  rw [decide_eq_true h3, if_neg (fun h => h ⟨h1, h2, h3⟩)]
  repeat with_reducible first | refine tt sh_ptr ?_ | refine tt sh_fptr ?_ | refine tt w2 ?_ | refine tt w3 ?_ | refine tt w8 ?_ | refine tt w9 ?_ | refine tt wf ?_ | refine tt wg ?_ | refine tt wh ?_ | refine tt wi ?_ | refine tt wj ?_ | refine tt wk ?_ | refine tt wl ?_ | refine tt wn ?_ | refine tt c_ort ?_ | refine tt c_nt ?_ | refine tt c_nf ?_ | refine tt (cnd_t _ _) ?_ | refine tt (cnd_f _ _) ?_ | refine tt w6 ?_ | refine tt w4 ?_ | refine tt w5 ?_ | refine tt w7 ?_ | refine tt wm ?_ | refine tt wo ?_ | refine tt wx ?_ | refine tt nil_ptr ?_ | refine tt len_lst ?_ | refine tt len_zsl ?_
  refine Eq.trans (pl_bool (W _ _ _)) ?_
  by_cases h4 : 0 ≤ eps ∧ eps ≤ 1024
  rotate_left
  · rw [decide_eq_false h4, if_pos h4]; rfl
  rw [decide_eq_true h4, if_neg (fun h => h h4)]
  repeat with_reducible first | refine tt sh_ptr ?_ | refine tt sh_fptr ?_ | refine tt w2 ?_ | refine tt w3 ?_ | refine tt w8 ?_ | refine tt w9 ?_ | refine tt wf ?_ | refine tt wg ?_ | refine tt wh ?_ | refine tt wi ?_ | refine tt wj ?_ | refine tt wk ?_ | refine tt wl ?_ | refine tt wn ?_ | refine tt c_ort ?_ | refine tt c_nt ?_ | refine tt c_nf ?_ | refine tt (cnd_t _ _) ?_ | refine tt (cnd_f _ _) ?_ | refine tt w6 ?_ | refine tt w4 ?_ | refine tt w5 ?_ | refine tt w7 ?_ | refine tt wm ?_ | refine tt wo ?_ | refine tt wx ?_ | refine tt nil_ptr ?_ | refine tt len_lst ?_ | refine tt len_zsl ?_
  refine Eq.trans (pl_bool (W _ _ _)) ?_
  by_cases h5 : 1 ≤ st ∧ st ≤ 65536
  rotate_left
  · rw [decide_eq_false h5, if_pos h5]; rfl
  rw [decide_eq_true h5, if_neg (fun h => h h5)]
  repeat with_reducible first | refine tt sh_ptr ?_ | refine tt sh_fptr ?_ | refine tt w2 ?_ | refine tt w3 ?_ | refine tt w8 ?_ | refine tt w9 ?_ | refine tt wf ?_ | refine tt wg ?_ | refine tt wh ?_ | refine tt wi ?_ | refine tt wj ?_ | refine tt wk ?_ | refine tt wl ?_ | refine tt wn ?_ | refine tt c_ort ?_ | refine tt c_nt ?_ | refine tt c_nf ?_ | refine tt (cnd_t _ _) ?_ | refine tt (cnd_f _ _) ?_ | refine tt w6 ?_ | refine tt w4 ?_ | refine tt w5 ?_ | refine tt w7 ?_ | refine tt wm ?_ | refine tt wo ?_ | refine tt wx ?_ | refine tt nil_ptr ?_ | refine tt len_lst ?_ | refine tt len_zsl ?_
  refine Eq.trans (pl_bool (W _ _ _)) ?_
  by_cases h6 : 1 ≤ age ∧ age ≤ 50
  rotate_left
  · rw [decide_eq_false h6, if_pos h6]; rfl
  rw [decide_eq_true h6, if_neg (fun h => h h6)]
  repeat with_reducible first | refine tt sh_ptr ?_ | refine tt sh_fptr ?_ | refine tt w2 ?_ | refine tt w3 ?_ | refine tt w8 ?_ | refine tt w9 ?_ | refine tt wf ?_ | refine tt wg ?_ | refine tt wh ?_ | refine tt wi ?_ | refine tt wj ?_ | refine tt wk ?_ | refine tt wl ?_ | refine tt wn ?_ | refine tt c_ort ?_ | refine tt c_nt ?_ | refine tt c_nf ?_ | refine tt (cnd_t _ _) ?_ | refine tt (cnd_f _ _) ?_ | refine tt w6 ?_ | refine tt w4 ?_ | refine tt w5 ?_ | refine tt w7 ?_ | refine tt wm ?_ | refine tt wo ?_ | refine tt wx ?_ | refine tt nil_ptr ?_ | refine tt len_lst ?_ | refine tt len_zsl ?_
  refine Eq.trans (pl_bool (W _ _ _)) ?_
  by_cases h7 : 1 ≤ lift ∧ lift ≤ 1073741824
  rotate_left
  · rw [decide_eq_false h7, if_pos h7]; rfl
  rw [decide_eq_true h7, if_neg (fun h => h h7)]
  repeat with_reducible first | refine tt sh_ptr ?_ | refine tt sh_fptr ?_ | refine tt w2 ?_ | refine tt w3 ?_ | refine tt w8 ?_ | refine tt w9 ?_ | refine tt wf ?_ | refine tt wg ?_ | refine tt wh ?_ | refine tt wi ?_ | refine tt wj ?_ | refine tt wk ?_ | refine tt wl ?_ | refine tt wn ?_ | refine tt c_ort ?_ | refine tt c_nt ?_ | refine tt c_nf ?_ | refine tt (cnd_t _ _) ?_ | refine tt (cnd_f _ _) ?_ | refine tt w6 ?_ | refine tt w4 ?_ | refine tt w5 ?_ | refine tt w7 ?_ | refine tt wm ?_ | refine tt wo ?_ | refine tt wx ?_ | refine tt nil_ptr ?_ | refine tt len_lst ?_ | refine tt len_zsl ?_
  refine Eq.trans (pl_bool (W _ _ _)) ?_
  by_cases h8 : 0 ≤ saf ∧ saf ≤ ((l.length : Nat) : Int)
  rotate_left
  · rw [decide_eq_false h8, if_pos h8]; rfl
  rw [decide_eq_true h8, if_neg (fun h => h h8)]
  rfl
theorem ref_go (d : Nat) (r : Rul) (hl : r.phs.length ≤ 100) (ha : ∀ p ∈ r.phs, p.ps.length ≤ 140737488355328) : ∀ (k i : Nat), i + k = r.phs.length → ∀ f, k < f →
    L10_0 (d + 10) (r.phs.map phA) r.n r.d r.gr r.eps r.st r.age r.lift r.saf f (i : Nat) = some (.int .i64 (bif (r.phs.drop i).any badX then 2 else wrongT r.phs.length r.n r.d r.gr r.eps r.st r.age r.lift r.saf))
  | 0, i, h, f + 1, _ => by
    rw [L10_0, decide_eq_false (by simp; omega), cnd_f, List.drop_of_length_le (by omega), ref_tail, List.length_map]; rfl
  | k + 1, i, h, f + 1, hf => by
    have hi : i < r.phs.length := by omega
    rw [L10_0, decide_eq_true (by simp; omega), cnd_t, decide_eq_true (by omega), cnd_t, show (((i : Nat) : Int)).toNat = i by omega, phs_at hi]
    repeat with_reducible first | refine tt sh_ptr ?_ | refine tt sh_fptr ?_ | refine tt w2 ?_ | refine tt w3 ?_ | refine tt w8 ?_ | refine tt w9 ?_ | refine tt wf ?_ | refine tt wg ?_ | refine tt wh ?_ | refine tt wi ?_ | refine tt wj ?_ | refine tt wk ?_ | refine tt wl ?_ | refine tt wn ?_ | refine tt c_ort ?_ | refine tt c_nt ?_ | refine tt c_nf ?_ | refine tt (cnd_t _ _) ?_ | refine tt (cnd_f _ _) ?_ | refine tt w6 ?_ | refine tt w4 ?_ | refine tt w5 ?_ | refine tt w7 ?_ | refine tt wm ?_ | refine tt wo ?_ | refine tt wx ?_ | refine tt nil_ptr ?_ | refine tt len_lst ?_ | refine tt len_zsl ?_
    refine Eq.trans (pl_bool (s17 d r.phs[i] (ha _ (List.getElem_mem _)))) ?_
    rw [List.drop_eq_getElem_cons hi, List.any_cons]
    change cnd (badX r.phs[i]) _ _ = _
    cases badX r.phs[i]
    · rw [cnd_f, Bool.false_or, show IntKind.wrap .i64 (((i : Nat) : Int) + 1) = ((i + 1 : Nat) : Int) by rw [i64w]; omega]
      exact ref_go d r hl ha k (i + 1) (by omega) f (by omega)
    · rfl
theorem s10 (d : Nat) (r : Rul) (hl : r.phs.length ≤ 100) (ha : ∀ p ∈ r.phs, p.ps.length ≤ 140737488355328) : pcall M (d + 11) 10 [rl r] = some (.int .i64 (wrongX r)) := told (q10 (d + 10) _ _ _ _ _ _ _ _ _) (by
  unfold wrongX
  rw [List.length_map]
  by_cases h1 : r.phs.length < 1
  · rw [decide_eq_true (show ((r.phs.length : Nat) : Int) < 1 by omega), cnd_t, if_pos (.inl h1)]
  rw [decide_eq_false (show ¬ ((r.phs.length : Nat) : Int) < 1 by omega), cnd_f]
  by_cases h2 : r.phs.length > 4
  · rw [decide_eq_true (show ((r.phs.length : Nat) : Int) > 4 by omega), cnd_t, if_pos (.inr h2)]
  rw [decide_eq_false (show ¬ ((r.phs.length : Nat) : Int) > 4 by omega), cnd_f, if_neg (by omega)]
  have := ref_go d r hl ha r.phs.length 0 (by omega) 10000000000000000000 (by omega)
  rw [List.drop_zero] at this
  exact this)
end Go.Proofs.Ytffiilnmfmkpmaa.AE

namespace Go.Proofs.Ytffiilnmfmkpmaa.AE
set_option linter.unusedVariables false
set_option linter.unusedSimpArgs false
set_option linter.constructorNameAsVariable false
open Go Go.Proofs.Ytffiilnmfmkpmaa.Geo
attribute [local irreducible] pcall C0
set_option maxRecDepth 100000
def limX (r : Rul) : Prop := (1 ≤ r.n ∧ r.n ≤ 50) ∧ (1 ≤ r.d ∧ r.d ≤ 50) ∧ (1 ≤ r.gr ∧ r.gr ≤ 50)
instance (r : Rul) : Decidable (limX r) := by unfold limX; infer_instance
theorem limI (d : Nat) (r : Rul) : pcall M (d + 2) 27 [.fptr (rl r) 0] = some (.bool (decide (limX r))) := told (r27 C0 (d + 1) .nilp _ _ _ _ _ _ _ _ _) (by
  refine Eq.trans (pl_bool (s24 d _ _ _)) ?_
  by_cases h1 : 1 ≤ (if r.gr < (if r.d < r.n then r.d else r.n) then r.gr else (if r.d < r.n then r.d else r.n)) ∧ (if r.gr < (if r.d < r.n then r.d else r.n) then r.gr else (if r.d < r.n then r.d else r.n)) ≤ 50
  · rw [decide_eq_true h1, cnd_t]
    refine Eq.trans (pl_bool (s24 d _ _ _)) ?_
    congr 2; rw [decide_eq_decide]; unfold limX; omega
  · rw [decide_eq_false h1, cnd_f, decide_eq_false (by unfold limX; omega)])
theorem s12 (d : Nat) (r : Rul) (hl : r.phs.length ≤ 100) (ha : ∀ p ∈ r.phs, p.ps.length ≤ 140737488355328) : pcall M (d + 17) 12 [rl r] = some (.int .i64 (wrongX r)) := told (r12 C0 (d + 16) _ _ _ _ _ _ _ _ _) (by
  have W := s24 (d + 15)
  have V := s28 (d + 15)
  refine Eq.trans (pl_bool (W _ _ _)) ?_
  unfold wrongX
  rw [List.length_map]
  by_cases h1 : (1 : Int) ≤ ((r.phs.length : Nat) : Int) ∧ ((r.phs.length : Nat) : Int) ≤ 4
  rotate_left
  · rw [decide_eq_false h1, if_pos (by omega)]; rfl
  rw [decide_eq_true h1, if_neg (by omega)]
  repeat with_reducible first | refine tt sh_ptr ?_ | refine tt sh_fptr ?_ | refine tt w2 ?_ | refine tt w3 ?_ | refine tt w8 ?_ | refine tt w9 ?_ | refine tt wf ?_ | refine tt wg ?_ | refine tt wh ?_ | refine tt wi ?_ | refine tt wj ?_ | refine tt wk ?_ | refine tt wl ?_ | refine tt wn ?_ | refine tt c_ort ?_ | refine tt c_nt ?_ | refine tt c_nf ?_ | refine tt (cnd_t _ _) ?_ | refine tt (cnd_f _ _) ?_ | refine tt w6 ?_ | refine tt w4 ?_ | refine tt w5 ?_ | refine tt w7 ?_ | refine tt wm ?_ | refine tt wo ?_ | refine tt wx ?_ | refine tt nil_ptr ?_ | refine tt len_lst ?_ | refine tt len_zsl ?_
  refine Eq.trans (pl_bool (anyI (d + 14) badX r.phs hl (fun p hp => s26 d p (ha p hp)))) ?_
  cases r.phs.any badX
  rotate_left
  · rfl
  rw [cnd_f, cond_false]
  refine Eq.trans (pl_bool (limI (d + 14) r)) ?_
  unfold wrongT
  by_cases h2 : limX r
  rotate_left
  · rw [decide_eq_false h2, if_pos (show ¬ ((1 ≤ r.n ∧ r.n ≤ 50) ∧ (1 ≤ r.d ∧ r.d ≤ 50) ∧ (1 ≤ r.gr ∧ r.gr ≤ 50)) from h2)]; rfl
  rw [decide_eq_true h2, if_neg (fun h => h (show ((1 ≤ r.n ∧ r.n ≤ 50) ∧ (1 ≤ r.d ∧ r.d ≤ 50) ∧ (1 ≤ r.gr ∧ r.gr ≤ 50)) from h2))]
  repeat with_reducible first | refine tt sh_ptr ?_ | refine tt sh_fptr ?_ | refine tt w2 ?_ | refine tt w3 ?_ | refine tt w8 ?_ | refine tt w9 ?_ | refine tt wf ?_ | refine tt wg ?_ | refine tt wh ?_ | refine tt wi ?_ | refine tt wj ?_ | refine tt wk ?_ | refine tt wl ?_ | refine tt wn ?_ | refine tt c_ort ?_ | refine tt c_nt ?_ | refine tt c_nf ?_ | refine tt (cnd_t _ _) ?_ | refine tt (cnd_f _ _) ?_ | refine tt w6 ?_ | refine tt w4 ?_ | refine tt w5 ?_ | refine tt w7 ?_ | refine tt wm ?_ | refine tt wo ?_ | refine tt wx ?_ | refine tt nil_ptr ?_ | refine tt len_lst ?_ | refine tt len_zsl ?_
  refine Eq.trans (pl_bool (V _ _ _)) ?_
  by_cases h4 : 0 ≤ r.eps ∧ r.eps ≤ 1024
  rotate_left
  · rw [decide_eq_false h4, if_pos h4]; rfl
  rw [decide_eq_true h4, if_neg (fun h => h h4)]
  repeat with_reducible first | refine tt sh_ptr ?_ | refine tt sh_fptr ?_ | refine tt w2 ?_ | refine tt w3 ?_ | refine tt w8 ?_ | refine tt w9 ?_ | refine tt wf ?_ | refine tt wg ?_ | refine tt wh ?_ | refine tt wi ?_ | refine tt wj ?_ | refine tt wk ?_ | refine tt wl ?_ | refine tt wn ?_ | refine tt c_ort ?_ | refine tt c_nt ?_ | refine tt c_nf ?_ | refine tt (cnd_t _ _) ?_ | refine tt (cnd_f _ _) ?_ | refine tt w6 ?_ | refine tt w4 ?_ | refine tt w5 ?_ | refine tt w7 ?_ | refine tt wm ?_ | refine tt wo ?_ | refine tt wx ?_ | refine tt nil_ptr ?_ | refine tt len_lst ?_ | refine tt len_zsl ?_
  refine Eq.trans (pl_bool (V _ _ _)) ?_
  by_cases h5 : 1 ≤ r.st ∧ r.st ≤ 65536
  rotate_left
  · rw [decide_eq_false h5, if_pos h5]; rfl
  rw [decide_eq_true h5, if_neg (fun h => h h5)]
  repeat with_reducible first | refine tt sh_ptr ?_ | refine tt sh_fptr ?_ | refine tt w2 ?_ | refine tt w3 ?_ | refine tt w8 ?_ | refine tt w9 ?_ | refine tt wf ?_ | refine tt wg ?_ | refine tt wh ?_ | refine tt wi ?_ | refine tt wj ?_ | refine tt wk ?_ | refine tt wl ?_ | refine tt wn ?_ | refine tt c_ort ?_ | refine tt c_nt ?_ | refine tt c_nf ?_ | refine tt (cnd_t _ _) ?_ | refine tt (cnd_f _ _) ?_ | refine tt w6 ?_ | refine tt w4 ?_ | refine tt w5 ?_ | refine tt w7 ?_ | refine tt wm ?_ | refine tt wo ?_ | refine tt wx ?_ | refine tt nil_ptr ?_ | refine tt len_lst ?_ | refine tt len_zsl ?_
  refine Eq.trans (pl_bool (W _ _ _)) ?_
  by_cases h6 : 1 ≤ r.age ∧ r.age ≤ 50
  rotate_left
  · rw [decide_eq_false h6, if_pos h6]; rfl
  rw [decide_eq_true h6, if_neg (fun h => h h6)]
  repeat with_reducible first | refine tt sh_ptr ?_ | refine tt sh_fptr ?_ | refine tt w2 ?_ | refine tt w3 ?_ | refine tt w8 ?_ | refine tt w9 ?_ | refine tt wf ?_ | refine tt wg ?_ | refine tt wh ?_ | refine tt wi ?_ | refine tt wj ?_ | refine tt wk ?_ | refine tt wl ?_ | refine tt wn ?_ | refine tt c_ort ?_ | refine tt c_nt ?_ | refine tt c_nf ?_ | refine tt (cnd_t _ _) ?_ | refine tt (cnd_f _ _) ?_ | refine tt w6 ?_ | refine tt w4 ?_ | refine tt w5 ?_ | refine tt w7 ?_ | refine tt wm ?_ | refine tt wo ?_ | refine tt wx ?_ | refine tt nil_ptr ?_ | refine tt len_lst ?_ | refine tt len_zsl ?_
  refine Eq.trans (pl_bool (V _ _ _)) ?_
  by_cases h7 : 1 ≤ r.lift ∧ r.lift ≤ 1073741824
  rotate_left
  · rw [decide_eq_false h7, if_pos h7]; rfl
  rw [decide_eq_true h7, if_neg (fun h => h h7)]
  repeat with_reducible first | refine tt sh_ptr ?_ | refine tt sh_fptr ?_ | refine tt w2 ?_ | refine tt w3 ?_ | refine tt w8 ?_ | refine tt w9 ?_ | refine tt wf ?_ | refine tt wg ?_ | refine tt wh ?_ | refine tt wi ?_ | refine tt wj ?_ | refine tt wk ?_ | refine tt wl ?_ | refine tt wn ?_ | refine tt c_ort ?_ | refine tt c_nt ?_ | refine tt c_nf ?_ | refine tt (cnd_t _ _) ?_ | refine tt (cnd_f _ _) ?_ | refine tt w6 ?_ | refine tt w4 ?_ | refine tt w5 ?_ | refine tt w7 ?_ | refine tt wm ?_ | refine tt wo ?_ | refine tt wx ?_ | refine tt nil_ptr ?_ | refine tt len_lst ?_ | refine tt len_zsl ?_
  refine Eq.trans (pl_bool (W _ _ _)) ?_
  by_cases h8 : 0 ≤ r.saf ∧ r.saf ≤ ((r.phs.length : Nat) : Int)
  rotate_left
  · rw [decide_eq_false h8, if_pos h8]; rfl
  rw [decide_eq_true h8, if_neg (fun h => h h8)]
  rfl)
theorem s13 (d : Nat) (r : Rul) (hl : r.phs.length ≤ 100) (ha : ∀ p ∈ r.phs, p.ps.length ≤ 140737488355328) : pcall M (d + 18) 13 [rl r] = some (.bool (wrongX r == 0)) := told (r13 C0 (d + 17) _ _ _ _ _ _ _ _ _) (by
  exact pl_int (s12 d r hl ha))
end Go.Proofs.Ytffiilnmfmkpmaa.AE

namespace Go.Proofs.Ytffiilnmfmkpmaa.AE
set_option linter.unusedVariables false
set_option linter.unusedSimpArgs false
set_option linter.constructorNameAsVariable false
open Go Go.Proofs.Ytffiilnmfmkpmaa.Geo
abbrev Bx := Pt × Pt
abbrev bx (b : Bx) : AV := .agg [.int .i64 b.1.1, .int .i64 b.1.2, .int .i64 b.2.1, .int .i64 b.2.2]
end Go.Proofs.Ytffiilnmfmkpmaa.AE

namespace Go.Proofs.Ytffiilnmfmkpmaa.AE
set_option linter.unusedVariables false
set_option linter.unusedSimpArgs false
set_option linter.constructorNameAsVariable false
open Go Go.Proofs.Ytffiilnmfmkpmaa.Geo
attribute [local irreducible] pcall C0
set_option maxRecDepth 100000
theorem clonePQ (d : Nat) : emptyQ (pcall M (d + 1)) 23 = some (.lst []) := by
  unfold emptyQ
  rw [show pcall M (d + 1) 23 [.zsl true] = some (.lst []) by kernel_rfl, show pcall M (d + 1) 23 [.emp] = some (.lst []) by kernel_rfl]
theorem cloneHQ (d : Nat) : emptyQ (pcall M (d + 1)) 32 = some (.lst []) := by
  unfold emptyQ
  rw [show pcall M (d + 1) 32 [.zsl true] = some (.lst []) by kernel_rfl, show pcall M (d + 1) 32 [.emp] = some (.lst []) by kernel_rfl]
theorem xmeth_ok2 {M : Mod} {U : FuncId → XU} {d n : Nat} {g : FuncId} {args : List AV} {H H' : Heap} {v : AV} (he : M.ext g = none) (hi : M.inl g = true) (hem : emptyR M (pcall M d) g args = none) (h : ∀ K, xmeth C0 M U d n g args H K = K v H') : callB M (pcall M d) (n + 1) true g args H = some (v, H') := by
  classical
  have hk := h fun v' H1 => if v' = v ∧ H1 = H' then some .undef else none
  rw [if_pos ⟨rfl, rfl⟩] at hk
  unfold xmeth at hk
  simp only [callB, he, hi, hem, if_true]
  cases hc : M.code g args.length with
  | none => simp [hc] at hk
  | some fn =>
    simp only [hc] at hk ⊢
    obtain ⟨v', H1, h1, h2⟩ := xrunFn_ok (xcallB_ok M U (pcall M d) n true) (xcallB_ok M U (pcall M d) n false) hk
    split at h2
    · rename_i hh
      obtain ⟨rfl, rfl⟩ := hh
      exact h1
    · cases h2
theorem padH_ok : ∀ (n : Nat) (S : Heap), padOk n (padH n ++ S) = true
  | 0, _ => rfl
  | n + 1, S => by
    change (Nat.beq junk.e.es 0 && !junk.els.isEmpty && padOk n (padH n ++ S)) = true
    rw [padH_ok n S]; rfl
theorem padH_l : ∀ n, (padH n).length = n
  | 0 => rfl
  | n + 1 => by change (padH n).length + 1 = _; rw [padH_l n]
theorem fr_of {g : FuncId} {args : List AV} {d n : Nat} {v : Nat → AV} {S : Nat → Heap} (he : M.ext g = none) (hi : M.inl g = true) (hf : M.fr g = true) (ha : args.all (noId DEPTH) = true)
    (h : ∀ H, callB M (pcall M d) (n + 1) true g args H = some (v H.length, H ++ S H.length)) (H : Heap) : callB M (pcall M d) (n + 1) false g args H = some (v H.length, H ++ S H.length) := by
  have h1 := h H
  have h2 := h (padH H.length)
  simp only [callB, he, hi, if_true] at h1 h2 ⊢
  cases hem : emptyR M (pcall M d) g args with
  | some w => rw [hem] at h1; exact h1
  | none =>
    rw [hem] at h2
    simp only [hf, ha, Bool.and_self] at h2 ⊢
    cases hc : M.code g args.length with
    | none => rw [hc] at h2; cases h2
    | some fn =>
      rw [hc] at h2
      simp only at h2 ⊢
      unfold freshRun
      rw [h2, padH_l]
      simp only [padH_ok]
      rw [List.drop_append_of_le_length (by rw [padH_l]; exact Nat.le_refl _), List.drop_of_length_le (by rw [padH_l]; exact Nat.le_refl _), List.nil_append]
theorem mk_n {H : Heap} {e : ETy} {K : AV → Heap → Ans} : C0.hop H (.mkrow e 0 []) K = K (.slc (H.length + 0) 0 0) (H ++ [some ⟨e, []⟩]) := hop_eq rfl
theorem mk_s {H S : Heap} {e : ETy} {K : AV → Heap → Ans} : C0.hop (H ++ S) (.mkrow e 0 []) K = K (.slc (H.length + S.length) 0 0) (H ++ (S ++ [some ⟨e, []⟩])) := by
  refine (hop_eq (v := .slc (H ++ S).length 0 0) (H' := (H ++ S) ++ [some ⟨e, []⟩]) rfl).trans ?_
  rw [List.length_append, List.append_assoc]
theorem ap_s {H S : Heap} {k : Nat} {e : ETy} {xs : List AV} {K : AV → Heap → Ans} (h : S[k]? = some (some ⟨e, []⟩)) (hx : xs.all (elOk e) = true) (hs : xs.length * e.bytes ≤ 140737488355328) (hs2 : xs.length ≤ 9223372036854775807) :
    C0.hop (H ++ S) (.app e (.v (.slc (H.length + k) 0 0)) (.v (.lst xs))) K = K (.slc (H.length + S.length) 0 xs.length) (H ++ (S.set k none ++ [some ⟨e, xs⟩])) := by
  refine (hop_eq (v := .slc (H ++ S).length 0 xs.length) (H' := (H ++ S).set (H.length + k) none ++ [some ⟨e, xs⟩]) ?_).trans ?_
  · simp only [aop, evO, elsOf, aApp]
    rw [hget_s h]
    simp only
    rw [if_pos ⟨rfl, by simpa using hs, by simpa using hs2, trivial, trivial, hx⟩]
    simp
  · rw [List.length_append, set_s, List.append_assoc]
theorem ix_s {H S : Heap} {k n es : Nat} {b : Blk} {q : Int} {K : AV → Heap → Ans} (h : S[k]? = some (some b)) (h0 : 0 ≤ q) (h1 : q < (n : Int)) (he : b.e.es = es) :
    C0.hop (H ++ S) (.ixAS .any es (.v (.slc (H.length + k) 0 n)) (.v (.int .i64 q))) K = K (.ptr (H.length + k) (0 + q.toNat) 0) (H ++ S) := ix_slc (hget_s h) h0 h1 he
theorem ln_s {H S : Heap} {k n : Nat} {b : Blk} {K : AV → Heap → Ans} (h : S[k]? = some (some b)) : C0.hop (H ++ S) (.bk .lenV [.v (.slc (H.length + k) 0 n)]) K = K (.int .i64 n) (H ++ S) := hop_eq (by simp only [aop, evO, lenOf]; rw [hget_s h])
def arV (L : Nat) (ps : List Pt) : AV := match ps with
  | [] => .lst []
  | p :: l => .slc (L + 1) 0 (p :: l).length
def arS (ps : List Pt) : Heap := match ps with
  | [] => []
  | p :: l => [none, some ⟨E39, (p :: l).map pt⟩]
theorem all_ptE (ps : List Pt) : (ps.map pt).all (elOk E39) = true := by
  rw [List.all_eq_true]; intro x hx; obtain ⟨p, _, rfl⟩ := List.mem_map.mp hx; rfl
theorem all_phE (ps : List Phs) : (ps.map phA).all (elOk E30) = true := by
  rw [List.all_eq_true]; intro x hx; obtain ⟨p, _, rfl⟩ := List.mem_map.mp hx; rfl
theorem cloneI (d n0 : Nat) (ps : List Pt) (hl : ps.length ≤ 1000000) (H : Heap) : callB M (pcall M (d + 1)) (n0 + 9) true 23 [.lst (ps.map pt)] H = some (arV H.length ps, H ++ arS ps) := by
  cases ps with
  | nil =>
    have he : M.ext 23 = none := rfl
    have hi : M.inl 23 = true := rfl
    have hem : emptyR M (pcall M (d + 1)) 23 [.lst (List.map pt [])] = some (.lst []) := by
      have hc : M.cl 23 = true := rfl
      simp only [emptyR, hc]
      change emptyQ (pcall M (d + 1)) 23 = _
      exact clonePQ d
    simp only [callB, he, hi, hem, if_true]
    simp [arV, arS]
  | cons p l =>
    refine xmeth_ok2 (U := unr) (n := n0 + 8) rfl rfl (by rw [emptyR, show M.cl 23 = true from rfl]; rfl) fun K => ?_
    refine (r23 C0 (d + 1) _ n0 _ K).trans ?_
    refine Eq.trans (hop_eq (v := .bool false) (H' := H) (by rfl)) ?_
    refine Eq.trans (pl_bool rfl) ?_
    rw [cnd_f]
    refine Eq.trans mk_n ?_
    refine Eq.trans (ap_s (by rfl) (all_ptE _) (by rw [List.length_map, show (E39).bytes = 16 from rfl]; omega) (by rw [List.length_map]; omega)) ?_
    rw [List.length_map]; rfl
theorem cloneF (d n0 : Nat) (ps : List Pt) (hl : ps.length ≤ 1000000) (H : Heap) : callB M (pcall M (d + 1)) (n0 + 9) false 23 [.lst (ps.map pt)] H = some (arV H.length ps, H ++ arS ps) :=
  fr_of (v := fun L => arV L ps) (S := fun _ => arS ps) rfl rfl rfl rfl (cloneI d n0 ps hl) H
end Go.Proofs.Ytffiilnmfmkpmaa.AE

namespace Go.Proofs.Ytffiilnmfmkpmaa.AE
set_option linter.unusedVariables false
set_option linter.unusedSimpArgs false
set_option linter.constructorNameAsVariable false
open Go Go.Proofs.Ytffiilnmfmkpmaa.Geo
attribute [local irreducible] pcall C0
set_option maxRecDepth 100000
abbrev phX (v : AV) (p : Phs) : AV := .agg [v, .int .i64 p.g, .int .i64 p.v, .int .i64 p.m, .int .i64 p.u]
abbrev rlX (v : AV) (r : Rul) : AV := .agg [v, .int .i64 r.n, .int .i64 r.d, .int .i64 r.gr, .int .i64 r.eps, .int .i64 r.st, .int .i64 r.age, .int .i64 r.lift, .int .i64 r.saf]
def arsC : List Phs → Heap
  | [] => []
  | p :: l => arS p.ps ++ arsC l
def elsC : Nat → List Phs → List AV
  | _, [] => []
  | L, p :: l => phX (arV L p.ps) p :: elsC (L + (arS p.ps).length) l
theorem arsC_app : ∀ a b, arsC (a ++ b) = arsC a ++ arsC b
  | [], b => rfl
  | p :: l, b => by rw [List.cons_append, arsC, arsC, arsC_app l b, List.append_assoc]
theorem elsC_snoc : ∀ (l : List Phs) (L : Nat) (p : Phs), elsC L (l ++ [p]) = elsC L l ++ [phX (arV (L + (arsC l).length) p.ps) p]
  | [], L, p => rfl
  | q :: l, L, p => by
    rw [List.cons_append, elsC, elsC, elsC_snoc l, arsC, List.length_append, List.cons_append, Nat.add_assoc]
theorem elsC_len : ∀ (l : List Phs) (L : Nat), (elsC L l).length = l.length
  | [], L => rfl
  | q :: l, L => by rw [elsC, List.length_cons, elsC_len l, List.length_cons]
theorem arV_sc (L : Nat) (ps : List Pt) : (arV L ps).cells = [arV L ps] ∧ isSc (arV L ps) = true := by cases ps <;> exact ⟨rfl, rfl⟩
def phV (L : Nat) (r : Rul) : AV := match r.phs with
  | [] => .lst []
  | p :: l => .slc (L + 3) 0 (p :: l).length
def cpS (L : Nat) (r : Rul) : Heap := match r.phs with
  | [] => [some ⟨E24, [rlX (.lst []) r]⟩, some ⟨E24, [rlX (.lst []) r]⟩]
  | p :: l => [some ⟨E24, [rlX (.slc (L + 3) 0 (p :: l).length) r]⟩, some ⟨E24, [rlX (.slc (L + 3) 0 (p :: l).length) r]⟩, none, some ⟨E30, elsC (L + 4) (p :: l)⟩] ++ arsC (p :: l)
theorem take_snoc {l : List Phs} {i : Nat} (h : i < l.length) : l.take (i + 1) = l.take i ++ [l[i]] := by rw [List.take_add_one, List.getElem?_eq_getElem h]; rfl
theorem els_at {L i : Nat} {l : List Phs} (h : i < l.length) : (elsC L (l.take i) ++ (l.drop i).map phA)[i]? = some (phA l[i]) := by
  rw [List.getElem?_append_right (by rw [elsC_len, List.length_take]; omega), elsC_len, List.length_take, show i - min i l.length = 0 by omega, List.drop_eq_getElem_cons h]; rfl
theorem els_set {L i : Nat} {l : List Phs} (h : i < l.length) : (elsC L (l.take i) ++ (l.drop i).map phA).set i (phX (arV (L + (arsC (l.take i)).length) l[i].ps) l[i]) = elsC L (l.take (i + 1)) ++ (l.drop (i + 1)).map phA := by
  have e : i = (elsC L (l.take i)).length := by rw [elsC_len, List.length_take]; omega
  rw [List.set_append_right _ _ (by omega), show i - (elsC L (l.take i)).length = 0 by omega, List.drop_eq_getElem_cons h, take_snoc h, elsC_snoc]
  simp only [List.map_cons, List.set_cons_zero, List.append_assoc, List.singleton_append]
theorem put_ar {x y : AV} {p : Phs} (h1 : x.cells = [x]) (h2 : isSc x = true) : putSub 1 (0 + 0) x (phX y p) = some (phX x p) := by
  simp only [putSub]
  rw [if_pos ⟨by simp, by rw [h1]; rfl, by rw [h1]; simp [h2]⟩, h1]; rfl
theorem copy_go (d n0 : Nat) (H : Heap) (K : AV → Heap → Ans) (r : Rul) (hl : r.phs.length ≤ 1000000) (ha : ∀ p ∈ r.phs, p.ps.length ≤ 1000000) (B1 : Blk) (hB1 : ∃ v, B1 = ⟨E24, [rlX v ⟨[], 0, 0, 0, 0, 0, 0, 0, 0⟩]⟩) : ∀ (k i : Nat), i + k = r.phs.length → ∀ f, k < f →
    L18_4 (d + 1) (n0 + 1) K (.ptr (H.length + 0) 0 0) (.ptr (H.length + 1) 0 0) (r.phs.length : Nat) f (i : Nat)
      (H ++ ([some ⟨E24, [rlX (.slc (H.length + 3) 0 r.phs.length) r]⟩, some B1, none, some ⟨E30, elsC (H.length + 4) (r.phs.take i) ++ (r.phs.drop i).map phA⟩] ++ arsC (r.phs.take i))) =
    K (rlX (.slc (H.length + 3) 0 r.phs.length) r) (H ++ ([some ⟨E24, [rlX (.slc (H.length + 3) 0 r.phs.length) r]⟩, some ⟨E24, [rlX (.slc (H.length + 3) 0 r.phs.length) r]⟩, none, some ⟨E30, elsC (H.length + 4) r.phs⟩] ++ arsC r.phs))
  | 0, i, h, f + 1, _ => by
    obtain ⟨bv, rfl⟩ := hB1
    rw [L18_4_s, decide_eq_false (by omega), cnd_f]
    rw [List.take_of_length_le (by omega), List.drop_of_length_le (by omega), List.map_nil, List.append_nil]
    unfold X18_4_0
    refine Eq.trans (ld_s (by rfl) (by rfl) (by rfl)) ?_; refine Eq.trans (pl_agg (by rfl) (by rfl)) ?_; refine Eq.trans (pl_any (by rfl)) ?_; refine Eq.trans (pl_int (by rfl)) ?_; refine Eq.trans (pl_int (by rfl)) ?_; refine Eq.trans (pl_int (by rfl)) ?_; refine Eq.trans (pl_int (by rfl)) ?_; refine Eq.trans (pl_int (by rfl)) ?_; refine Eq.trans (pl_int (by rfl)) ?_; refine Eq.trans (pl_int (by rfl)) ?_; refine Eq.trans (pl_int (by rfl)) ?_; refine Eq.trans (st_s (by rfl) (by rfl) (by rfl)) ?_; refine Eq.trans (ld_s (by rfl) (by rfl) (by rfl)) ?_
    rfl
  | k + 1, i, h, f + 1, hf => by
    have hi : i < r.phs.length := by omega
    have hp := ha _ (List.getElem_mem hi)
    rw [L18_4_s, decide_eq_true (by omega), cnd_t]
    refine Eq.trans sh_ptr ?_; refine Eq.trans (ld_s (by rfl) (by rfl) (by rfl)) ?_; refine Eq.trans sh_ptr ?_; refine Eq.trans (ld_s (by rfl) (by rfl) (by rfl)) ?_
    refine Eq.trans (ix_s (by rfl) (by omega) (by omega) (by rfl)) ?_
    refine Eq.trans sh_ptr ?_
    refine Eq.trans (ld_s (v := .lst (r.phs[i].ps.map pt)) (by rfl) (show (elsC (H.length + 4) (r.phs.take i) ++ (r.phs.drop i).map phA)[0 + ((i : Nat) : Int).toNat]? = some (phA r.phs[i]) by rw [Nat.zero_add, Int.toNat_natCast]; exact els_at hi) (by rfl)) ?_
    refine Eq.trans (cal_eq (cloneF d n0 r.phs[i].ps hp _)) ?_
    refine Eq.trans (pl_any (by rfl)) ?_
    rw [List.append_assoc]
    refine Eq.trans (ix_s (by rfl) (by omega) (by omega) (by rfl)) ?_
    refine Eq.trans sh_ptr ?_
    have hsc := arV_sc (H ++ ([some ⟨E24, [rlX (.slc (H.length + 3) 0 r.phs.length) r]⟩, some B1, none, some ⟨E30, elsC (H.length + 4) (r.phs.take i) ++ (r.phs.drop i).map phA⟩] ++ arsC (r.phs.take i))).length r.phs[i].ps
    refine Eq.trans (st_s (el' := phX _ r.phs[i]) (by rfl) (show (elsC (H.length + 4) (r.phs.take i) ++ (r.phs.drop i).map phA)[0 + ((i : Nat) : Int).toNat]? = some (phA r.phs[i]) by rw [Nat.zero_add, Int.toNat_natCast]; exact els_at hi) (put_ar hsc.1 hsc.2)) ?_
    rw [Nat.zero_add, Int.toNat_natCast]
    rw [show (H ++ ([some ⟨E24, [rlX (.slc (H.length + 3) 0 r.phs.length) r]⟩, some B1, none, some ⟨E30, elsC (H.length + 4) (r.phs.take i) ++ (r.phs.drop i).map phA⟩] ++ arsC (r.phs.take i))).length = H.length + 4 + (arsC (r.phs.take i)).length by simp; omega]
    have ih := copy_go d n0 H K r hl ha B1 hB1 k (i + 1) (by omega) f (by omega)
    rw [← els_set hi, take_snoc hi, arsC_app] at ih
    rw [show IntKind.wrap .i64 (((i : Nat) : Int) + 1) = ((i + 1 : Nat) : Int) by rw [i64w]; omega]
    refine Eq.trans (congrArg _ ?_) ih
    simp [arsC]
theorem copyI (d n0 : Nat) (r : Rul) (hl : r.phs.length ≤ 1000000) (ha : ∀ p ∈ r.phs, p.ps.length ≤ 1000000) (H : Heap) : callB M (pcall M (d + 1)) (n0 + 10) true 18 [rl r] H = some (rlX (phV H.length r) r, H ++ cpS H.length r) := by
  refine xmeth_ok (U := unr) (n := n0 + 9) rfl rfl rfl fun K => ?_
  refine (q18 (d + 1) _ _ _ _ _ _ _ _ _ (n0 + 1) _ K).trans ?_
  refine Eq.trans (bx_n (by rfl)) ?_
  refine Eq.trans al_s ?_; refine Eq.trans sh_ptr ?_; refine Eq.trans (ld_s (by rfl) (by rfl) (by rfl)) ?_
  obtain ⟨phs, n, dd, gr, eps, st, age, lift, saf⟩ := r
  cases phs with
  | nil =>
    refine Eq.trans (pl_bool (n := true) (by rfl)) ?_
    rw [cnd_t]
    refine Eq.trans (pl_same (cloneHQ d)) ?_
    refine Eq.trans sh_ptr ?_; refine Eq.trans (st_s (by rfl) (by rfl) (by rfl)) ?_; refine Eq.trans sh_ptr ?_; refine Eq.trans (ld_s (by rfl) (by rfl) (by rfl)) ?_
    refine Eq.trans len_lst ?_
    refine Eq.trans (pl_int (by rfl)) ?_
    rw [show 10000000000000000000 = (9999999999999999999) + 1 from rfl, L18_0_s, decide_eq_false (by simp), cnd_f]
    unfold X18_0_0
    refine Eq.trans (ld_s (by rfl) (by rfl) (by rfl)) ?_; refine Eq.trans (pl_agg (by rfl) (by rfl)) ?_; refine Eq.trans (pl_any (by rfl)) ?_; refine Eq.trans (pl_int (by rfl)) ?_; refine Eq.trans (pl_int (by rfl)) ?_; refine Eq.trans (pl_int (by rfl)) ?_; refine Eq.trans (pl_int (by rfl)) ?_; refine Eq.trans (pl_int (by rfl)) ?_; refine Eq.trans (pl_int (by rfl)) ?_; refine Eq.trans (pl_int (by rfl)) ?_; refine Eq.trans (pl_int (by rfl)) ?_; refine Eq.trans (st_s (by rfl) (by rfl) (by rfl)) ?_; refine Eq.trans (ld_s (by rfl) (by rfl) (by rfl)) ?_
    rfl
  | cons q l =>
    refine Eq.trans (pl_bool (n := false) (by rfl)) ?_
    rw [cnd_f]
    refine Eq.trans (hop_eq (by rfl)) ?_; refine Eq.trans (pl_bool (by rfl)) ?_
    refine Eq.trans (pl_f (by rfl)) ?_
    refine Eq.trans mk_s ?_
    refine Eq.trans (ap_s (by rfl) (all_phE _) (by change (q :: l).length ≤ _ at hl; rw [List.length_map, show (E30).bytes = 56 from rfl]; change (q :: l).length * 56 ≤ _; omega) (by change (q :: l).length ≤ _ at hl; rw [List.length_map]; change (q :: l).length ≤ _; omega)) ?_
    rw [List.length_map]
    refine Eq.trans sh_ptr ?_; refine Eq.trans (st_s (by rfl) (by rfl) (by rfl)) ?_; refine Eq.trans sh_ptr ?_; refine Eq.trans (ld_s (by rfl) (by rfl) (by rfl)) ?_
    refine Eq.trans (ln_s (by rfl)) ?_
    refine Eq.trans (pl_int (by rfl)) ?_
    have := copy_go d n0 H K ⟨q :: l, n, dd, gr, eps, st, age, lift, saf⟩ hl ha ⟨E24, [(E24).zero]⟩ ⟨.zsl true, rfl⟩ (q :: l).length 0 (by simp) 10000000000000000000 (by change (q :: l).length ≤ _ at hl; omega)
    refine Eq.trans ?_ this
    rfl
end Go.Proofs.Ytffiilnmfmkpmaa.AE

namespace Go.Proofs.Ytffiilnmfmkpmaa.AE
set_option linter.unusedVariables false
set_option linter.unusedSimpArgs false
set_option linter.constructorNameAsVariable false
open Go Go.Proofs.Ytffiilnmfmkpmaa.Geo
attribute [local irreducible] pcall C0
set_option maxRecDepth 100000
/-- A copied row of places, in memory from lo on, ahead of hi. -/
def ArOf (H : Heap) (lo hi : Nat) (av : AV) (ps : List Pt) : Prop := (ps = [] ∧ av = .lst []) ∨ ∃ id, lo ≤ id ∧ id < hi ∧ av = .slc id 0 ps.length ∧ hget H id = some ⟨E39, ps.map pt⟩
/-- Copied phases. -/
def CpOf (H : Heap) (lo hi : Nat) (v : AV) (l : List Phs) : Prop := (l = [] ∧ v = .lst []) ∨ ∃ id els, lo ≤ id ∧ id < hi ∧ v = .slc id 0 l.length ∧ hget H id = some ⟨E30, els⟩ ∧ els.length = l.length ∧
  ∀ (i : Nat) (p : Phs), l[i]? = some p → ∃ av, els[i]? = some (phX av p) ∧ ArOf H (id + 1) hi av p.ps
theorem ar_mono {H H' : Heap} {lo lo' hi hi' : Nat} {av : AV} {ps : List Pt} (h : ArOf H lo hi av ps) (h1 : lo' ≤ lo) (h2 : hi ≤ hi') (hk : ∀ id b, lo ≤ id → id < hi → hget H id = some b → hget H' id = some b) : ArOf H' lo' hi' av ps := by
  rcases h with h | ⟨id, a, b, c, d⟩
  · exact .inl h
  · exact .inr ⟨id, by omega, by omega, c, hk _ _ a b d⟩
theorem cp_mono {H H' : Heap} {lo lo' hi hi' : Nat} {v : AV} {l : List Phs} (h : CpOf H lo hi v l) (h1 : lo' ≤ lo) (h2 : hi ≤ hi') (hk : ∀ id b, lo ≤ id → id < hi → hget H id = some b → hget H' id = some b) : CpOf H' lo' hi' v l := by
  rcases h with h | ⟨id, els, a, b, c, d, e, f⟩
  · exact .inl h
  · refine .inr ⟨id, els, by omega, by omega, c, hk _ _ a b d, e, fun i p hp => ?_⟩
    obtain ⟨av, g1, g2⟩ := f i p hp
    exact ⟨av, g1, ar_mono g2 (Nat.le_refl _) h2 fun id' b' x y z => hk id' b' (by omega) y z⟩
theorem els_all : ∀ (l : List Phs) (pre : Heap) (i : Nat) (p : Phs), l[i]? = some p → ∃ av, (elsC pre.length l)[i]? = some (phX av p) ∧ ArOf (pre ++ arsC l) pre.length (pre ++ arsC l).length av p.ps
  | [], _, _, _, h => by simp at h
  | q :: l, pre, 0, p, h => by
    simp only [List.getElem?_cons_zero, Option.some.injEq] at h
    subst h
    refine ⟨arV pre.length q.ps, rfl, ?_⟩
    cases hq : q.ps with
    | nil => exact .inl ⟨rfl, rfl⟩
    | cons a b =>
      refine .inr ⟨pre.length + 1, by omega, ?_, rfl, ?_⟩
      · rw [arsC, hq]; simp [arS]
      · rw [arsC, hq]; exact hget_s rfl
  | q :: l, pre, i + 1, p, h => by
    simp only [List.getElem?_cons_succ] at h
    obtain ⟨av, h1, h2⟩ := els_all l (pre ++ arS q.ps) i p h
    refine ⟨av, ?_, ?_⟩
    · rw [elsC, List.getElem?_cons_succ, ← h1, List.length_append]
    · rw [arsC, ← List.append_assoc]
      exact ar_mono h2 (by simp) (Nat.le_refl _) fun _ _ _ _ x => x
theorem cp_copy (H : Heap) (r : Rul) : CpOf (H ++ cpS H.length r) H.length (H ++ cpS H.length r).length (phV H.length r) r.phs := by
  obtain ⟨phs, n, dd, gr, eps, st, age, lift, saf⟩ := r
  cases phs with
  | nil => exact .inl ⟨rfl, rfl⟩
  | cons q l =>
    refine .inr ⟨H.length + 3, elsC (H.length + 4) (q :: l), by omega, by simp [cpS], rfl, hget_s rfl, elsC_len _ _, fun i p hp => ?_⟩
    have := els_all (q :: l) (H ++ [some ⟨E24, [rlX (.slc (H.length + 3) 0 (q :: l).length) ⟨q :: l, n, dd, gr, eps, st, age, lift, saf⟩]⟩, some ⟨E24, [rlX (.slc (H.length + 3) 0 (q :: l).length) ⟨q :: l, n, dd, gr, eps, st, age, lift, saf⟩]⟩, none, some ⟨E30, elsC (H.length + 4) (q :: l)⟩]) i p hp
    rw [List.append_assoc] at this
    obtain ⟨av, h1, h2⟩ := this
    refine ⟨av, ?_, ar_mono h2 (by simp) (Nat.le_refl _) fun _ _ _ _ x => x⟩
    rw [← h1]; simp
theorem snap_agg (k : Nat) (H : Heap) (cs : List AV) : snap (k + 1) H (.agg cs) = .agg (cs.map (snap k H)) := rfl
theorem snap_int (k : Nat) (H : Heap) (a : IntKind) (b : Int) : snap (k + 1) H (.int a b) = .int a b := rfl
theorem snap_slc {H : Heap} {id k : Nat} {e : ETy} {els l : List AV} (h : hget H id = some ⟨e, els⟩) (hl : els.map (snap (k + 1) H) = l) : snap (k + 2) H (.slc id 0 els.length) = .lst l := by
  simp only [snap, h]
  rw [if_neg (by omega), if_pos (by simp)]
  simp only [List.drop_zero, List.take_length]
  exact congrArg AV.lst hl
theorem snap_pts (k : Nat) (H : Heap) (ps : List Pt) : (ps.map pt).map (snap (k + 2) H) = ps.map pt := by
  rw [List.map_map]; rfl
theorem snap_ar {H : Heap} {lo hi k : Nat} {av : AV} {ps : List Pt} (h : ArOf H lo hi av ps) : snap (k + 3) H av = .lst (ps.map pt) := by
  rcases h with ⟨rfl, rfl⟩ | ⟨id, _, _, rfl, h⟩
  · rfl
  · have := snap_slc (k := k + 1) h (snap_pts k H ps)
    rwa [List.length_map] at this
theorem snap_cp {H : Heap} {lo hi k : Nat} {v : AV} {l : List Phs} (h : CpOf H lo hi v l) : snap (k + 5) H v = .lst (l.map phA) := by
  rcases h with ⟨rfl, rfl⟩ | ⟨id, els, _, _, rfl, h, hl, hf⟩
  · rfl
  · rw [← hl]
    refine snap_slc (k := k + 3) h ?_
    apply List.ext_getElem?
    intro i
    rw [List.getElem?_map, List.getElem?_map]
    cases hp : l[i]? with
    | none => rw [List.getElem?_eq_none (by rw [hl]; exact List.getElem?_eq_none_iff.mp hp)]; rfl
    | some p =>
      obtain ⟨av, h1, h2⟩ := hf i p hp
      rw [h1]
      rw [Option.map_some, Option.map_some, snap_agg]
      simp only [List.map_cons, List.map_nil, snap_int]
      rw [snap_ar h2]
theorem snap_rl {H : Heap} {lo hi : Nat} {v : AV} {r : Rul} (h : CpOf H lo hi v r.phs) : snap 12 H (rlX v r) = rl r := by
  rw [snap_agg]
  simp only [List.map_cons, List.map_nil, snap_int]
  rw [snap_cp (k := 6) h]
theorem no_cp {H : Heap} {lo hi k : Nat} {v : AV} {l : List Phs} (h : CpOf H lo hi v l) : v = .lst [] ∧ l = [] ∨ noId (k + 1) v = false := by
  rcases h with ⟨h1, h2⟩ | ⟨id, els, _, _, rfl, _⟩
  · exact .inl ⟨h2, h1⟩
  · exact .inr rfl
theorem finB {H : Heap} {b : Bool} : C0.fin H (.bool b) = some (.bool b) := by rw [C0_fin]; rfl
theorem al_st {G : Heap} {e : ETy} {n : Nat} {x : AV} {K : AV → AV → Heap → Ans} (h : putSub n 0 x e.zero = some x) : (C0.hop G (.alloc e) fun p h => C0.hop h (.store n (.v p) (.v x)) fun u h' => K p u h') = K (.ptr G.length 0 0) .undef (G ++ [some ⟨e, [x]⟩]) := by
  refine Eq.trans (hop_eq rfl) ?_
  refine Eq.trans (st_ptr hget_new rfl h) ?_
  rw [List.set_append_right _ _ (Nat.le_refl _)]
  simp
theorem len_cp {H : Heap} {lo hi : Nat} {v : AV} {l : List Phs} {K : AV → Heap → Ans} (h : CpOf H lo hi v l) : C0.hop H (.bk .lenV [.v v]) K = K (.int .i64 l.length) H := by
  rcases h with ⟨rfl, rfl⟩ | ⟨id, els, _, _, rfl, h, _⟩
  · exact len_lst
  · exact hop_eq (by simp only [aop, evO, lenOf]; rw [h])
/-- A phase of a copy is put anew, its corners stay. -/
theorem cp_set {H : Heap} {lo hi id : Nat} {els : List AV} {l : List Phs} {i : Nat} {p p' : Phs} {av : AV} (a : lo ≤ id) (b : id < hi) (h : hget H id = some ⟨E30, els⟩) (hl : els.length = l.length)
    (hf : ∀ (i : Nat) (p : Phs), l[i]? = some p → ∃ av, els[i]? = some (phX av p) ∧ ArOf H (id + 1) hi av p.ps) (hp : l[i]? = some p) (ha : els[i]? = some (phX av p)) (he : p'.ps = p.ps) :
    CpOf (H.set id (some ⟨E30, els.set i (phX av p')⟩)) lo hi (.slc id 0 l.length) (l.set i p') := by
  refine .inr ⟨id, els.set i (phX av p'), a, b, by rw [List.length_set], hget_set (hg_lt h), by rw [List.length_set, List.length_set, hl], fun j q hq => ?_⟩
  have hi : i < l.length := (List.getElem?_eq_some_iff.mp hp).1
  by_cases hj : i = j
  · subst hj
    rw [List.getElem?_set_self hi] at hq
    cases hq
    refine ⟨av, by rw [List.getElem?_set_self (by omega)], ?_⟩
    obtain ⟨av', g1, g2⟩ := hf i p hp
    rw [ha] at g1
    injection g1 with g1; injection g1 with g1; injection g1 with g1 _
    subst g1
    rw [he]
    exact ar_mono g2 (Nat.le_refl _) (Nat.le_refl _) fun _ _ _ _ x => by rw [hget_set_ne (by omega)]; exact x
  · rw [List.getElem?_set_ne hj] at hq
    obtain ⟨av', g1, g2⟩ := hf j q hq
    exact ⟨av', by rw [List.getElem?_set_ne hj]; exact g1, ar_mono g2 (Nat.le_refl _) (Nat.le_refl _) fun _ _ _ _ x => by rw [hget_set_ne (by omega)]; exact x⟩
/-- A call gets a copy: it sees the rules. -/
theorem snp_cp {H : Heap} {lo hi : Nat} {v : AV} {r : Rul} (h : CpOf H lo hi v r.phs) : ∃ b, ∀ K : List AV → Bool → Ans, C0.snp H [rlX v r] K = K [rl r] b := by
  rcases no_cp (k := 10) h with ⟨h1, h2⟩ | h1
  · refine ⟨true, fun K => ?_⟩
    rw [h1]
    rw [snp_free (by rfl)]
    obtain ⟨phs, n, dd, gr, eps, st, age, lift, saf⟩ := r
    change phs = [] at h2
    subst h2; rfl
  · refine ⟨false, fun K => ?_⟩
    rw [snp_id (by change ((noId 11 v && _) && true) = false; rw [h1]; rfl)]
    simp only [List.map_cons, List.map_nil]
    rw [show DEPTH = 12 from rfl, snap_rl h]
end Go.Proofs.Ytffiilnmfmkpmaa.AE

namespace Go.Proofs.Ytffiilnmfmkpmaa.AE
set_option linter.unusedVariables false
set_option linter.unusedSimpArgs false
set_option linter.constructorNameAsVariable false
open Go

noncomputable section
variable {α : Type}
def foN (m : Nat) (K : Nat → α) : α := Nat.rec (motive := fun _ => α) (K 0) (fun p _ => K (Nat.succ p)) m
theorem foN_eq (m : Nat) (K : Nat → α) : foN m K = K m := by cases m <;> rfl
def foI (n : Int) (K : Int → α) : α := match n with
  | .ofNat m => foN m fun m => K (.ofNat m)
  | .negSucc m => foN m fun m => K (.negSucc m)
theorem foI_eq (n : Int) (K : Int → α) : foI n K = K n := by cases n <;> simp only [foI, foN_eq]
def foB (b : Bool) (K : Bool → α) : α := match b with
  | true => K true
  | false => K false
theorem foB_eq (b : Bool) (K : Bool → α) : foB b K = K b := by cases b <;> rfl
def foY (b : UInt8) (K : UInt8 → α) : α := foN b.toNat fun n => K (UInt8.ofNat n)
theorem foY_eq (b : UInt8) (K : UInt8 → α) : foY b K = K b := by unfold foY; rw [foN_eq]; congr 1; simp
/-- A list's elements, one by one. -/
def foL {β : Type} (f : β → (β → α) → α) : List β → (List β → α) → α
  | [], K => K []
  | x :: l, K => f x fun x => foL f l fun l => K (x :: l)
theorem foL_eq {β : Type} {f : β → (β → α) → α} (h : ∀ x K, f x K = K x) : ∀ (l : List β) (K : List β → α), foL f l K = K l
  | [], K => rfl
  | x :: l, K => by simp only [foL, h, foL_eq h l]
def foS {β : Type} : List β → (List β → α) → α
  | [], K => K []
  | x :: l, K => foS l fun l => K (x :: l)
theorem foS_eq {β : Type} : ∀ (l : List β) (K : List β → α), foS l K = K l
  | [], K => rfl
  | x :: l, K => by simp only [foS, foS_eq l]
def foV : Nat → AV → (AV → α) → α
  | 0, v, K => K v
  | d + 1, v, K => match v with
    | .int k n => foI n fun n => K (.int k n)
    | .bool b => foB b fun b => K (.bool b)
    | .str s => foL foY s fun s => K (.str s)
    | .zsl b => foB b fun b => K (.zsl b)
    | .ptr a b c => foN a fun a => foN b fun b => foN c fun c => K (.ptr a b c)
    | .slc a b c => foN a fun a => foN b fun b => foN c fun c => K (.slc a b c)
    | .lst l => foL (foV d) l fun l => K (.lst l)
    | .fptr v j => foV d v fun v => foN j fun j => K (.fptr v j)
    | .agg l => foL (foV d) l fun l => K (.agg l)
    | .tup l => foL (foV d) l fun l => K (.tup l)
    | .fn g a b => foN g fun g => foL (foV d) a fun a => foL (foV d) b fun b => K (.fn g a b)
    | v => K v
theorem foV_eq : ∀ (d : Nat) (v : AV) (K : AV → α), foV d v K = K v
  | 0, v, K => rfl
  | d + 1, v, K => by
    have ih : ∀ (v : AV) (K : AV → α), foV d v K = K v := foV_eq d
    cases v <;> simp only [foV, foI_eq, foB_eq, foN_eq, foL_eq foY_eq, foL_eq ih, ih]
def foBlk (b : Option Blk) (K : Option Blk → α) : α := match b with
  | none => K none
  | some ⟨e, els⟩ => foL (foV 2) els fun els => K (some ⟨e, els⟩)
theorem foBlk_eq (b : Option Blk) (K : Option Blk → α) : foBlk b K = K b := by
  match b with
  | none => rfl
  | some ⟨e, els⟩ => simp only [foBlk, foL_eq (foV_eq 2)]
def foH (H : Heap) (K : Heap → α) : α := foL foBlk H K
theorem foH_eq (H : Heap) (K : Heap → α) : foH H K = K H := foL_eq foBlk_eq H K

/-- Operations that may change memory. -/
def wrH : IOp → Bool
  | .box .. | .alloc .. | .mkrow .. | .store .. | .s2b .. | .mkslice .. | .app .. => true
  | _ => false
def foW (o : IOp) (H : Heap) (K : Heap → α) : α := match wrH o with
  | true => foH H K
  | false => K H
theorem foW_eq (o : IOp) (H : Heap) (K : Heap → α) : foW o H K = K H := by unfold foW; cases wrH o <;> simp only [foH_eq]

/-- How deep a value is told after an operation. -/
def depV : IOp → Nat
  | .call .. => 2
  | _ => 1
/-- A list with another element. -/
def foP : List AV → Nat → AV → (List AV → α) → α
  | [], _, _, K => K []
  | x :: l, 0, v, K => K (v :: l)
  | x :: l, n + 1, v, K => foP l n v fun l => K (x :: l)
theorem foP_eq : ∀ (l : List AV) (n : Nat) (v : AV) (K : List AV → α), foP l n v K = K (l.set n v)
  | [], n, v, K => by cases n <;> rfl
  | x :: l, 0, v, K => rfl
  | x :: l, n + 1, v, K => by simp only [foP, foP_eq l, List.set_cons_succ]
def foO (env : List AV) (d : Option Nat) (v : AV) (K : List AV → α) : α := match d with
  | some d => foP env d v K
  | none => K env
theorem foO_eq (env : List AV) (d : Option Nat) (v : AV) (K : List AV → α) : foO env d v K = K (put env d v) := by cases d <;> simp only [foO, put, foP_eq]
def runOpsF (call : CallF) : List IOper → List AV → Heap → Option St
  | [], env, H => some ⟨env, H⟩
  | o :: l, env, H => match want env o.guard with
    | some true => match aop call (evO env) H o.op with
      | some (v, H) => foV (depV o.op) v fun v => foW o.op H fun H => foO env o.dst v fun env => runOpsF call l env H
      | none => none
    | some false => foO env o.dst (.tup []) fun env => runOpsF call l env H
    | none => none
theorem runOpsF_eq (call : CallF) : ∀ (l : List IOper) (env : List AV) (H : Heap), runOpsF call l env H = runOps call l ⟨env, H⟩
  | [], env, H => rfl
  | o :: l, env, H => by
    simp only [runOpsF, runOps, foV_eq, foW_eq, foO_eq, runOpsF_eq call l]
    rfl
def runOpsDF (call callP : CallF) : List (IOper × List Nat) → Nat → List (Nat × Nat) → List AV → Heap → Option St
  | [], _, _, env, H => some ⟨env, H⟩
  | (o, chk) :: l, i, log, env, H => match want env o.guard with
    | some true =>
      foS (touch (evO env) H o.op) fun tc =>
      if log.all (fun p => !(chk.contains p.1) || !(tc.contains p.2)) then
        match aop (bif isFull chk then call else callP) (evO env) H o.op with
        | some (v, H) => foV (depV o.op) v fun v => foW o.op H fun H => foO env o.dst v fun env => foN i fun i => foS (log ++ tc.map fun id => (i, id)) fun log => runOpsDF call callP l (i + 1) log env H
        | none => none
      else none
    | some false => foO env o.dst (.tup []) fun env => runOpsDF call callP l (i + 1) log env H
    | none => none
theorem runOpsDF_eq (call callP : CallF) : ∀ (l : List (IOper × List Nat)) (i : Nat) (log : List (Nat × Nat)) (env : List AV) (H : Heap), runOpsDF call callP l i log env H = runOpsD call callP l i log ⟨env, H⟩
  | [], _, _, env, H => rfl
  | (o, chk) :: l, i, log, env, H => by
    simp only [runOpsDF, runOpsD, foV_eq, foW_eq, foS_eq, foO_eq, foN_eq, runOpsDF_eq call callP l]
    rfl
def execF (call callP : CallF) (fu : Nat) : IC → St → Option (Ex × St)
  | .skip, s => some (.normal, s)
  | .regD ops, s => match s with
    | ⟨env, H⟩ => match runOpsDF call callP ops 0 [] env H with
      | some s' => some (.normal, s')
      | none => none
  | .reg ops, s => match s with
    | ⟨env, H⟩ => match runOpsF call ops env H with
      | some s' => some (.normal, s')
      | none => none
  | .seq a b, s => match execF call callP fu a s with
    | some (.normal, s') => execF call callP fu b s'
    | r => r
  | .cond c a b, s => match evO s.env c with
    | .bool t => bif t then execF call callP fu a s else execF call callP fu b s
    | _ => none
  | .block id a, s => match execF call callP fu a s with
    | some (.exit i, s') => if i = id then some (.normal, s') else some (.exit i, s')
    | r => r
  | .loop a, s => iter (execF call callP fu a) fu s
  | .exit id, s => some (.exit id, s)
  | .ret, s => some (.ret, s)
theorem execF_eq (call callP : CallF) (fu : Nat) : ∀ c, execF call callP fu c = exec call callP fu c
  | .skip => by funext s; rfl
  | .regD ops => by funext ⟨env, H⟩; simp only [execF, exec, runOpsDF_eq]; rfl
  | .reg ops => by funext ⟨env, H⟩; simp only [execF, exec, runOpsF_eq]; rfl
  | .seq a b => by funext s; simp only [execF, exec, execF_eq call callP fu a, execF_eq call callP fu b]; rfl
  | .cond c a b => by funext s; simp only [execF, exec, execF_eq call callP fu a, execF_eq call callP fu b]; rfl
  | .block id a => by funext s; simp only [execF, exec, execF_eq call callP fu a]; rfl
  | .loop a => by funext s; simp only [execF, exec, execF_eq call callP fu a]
  | .exit id => by funext s; rfl
  | .ret => by funext s; rfl
def runFnF (call callP : CallF) (fu : Nat) (fn : AFn) (args : List AV) (H : Heap) : Option (AV × Heap) :=
  foL (foV 12) args fun args => foS (args ++ List.replicate (fn.ntmps - args.length) (.tup [])) fun env => match execF call callP fu fn.body ⟨env, H⟩ with
  | some (.normal, s) | some (.ret, s) => match resAll s fn.results with
    | some vs => some (packRes vs, s.H)
    | none => none
  | _ => none
theorem runFnF_eq : runFnF = runFn := by
  funext call callP fu fn args H
  simp only [runFnF, runFn, foL_eq (foV_eq 12), foS_eq, execF_eq]
  rfl
def freshF (rf : List AV → Heap → Option (AV × Heap)) (args : List AV) (H : Heap) : Option (AV × Heap) :=
  match rf args (padH H.length) with
  | some (v, H1) => match padOk H.length H1 with
    | true => some (v, H ++ H1.drop H.length)
    | false => none
  | none => none
def callBF (M : Mod) (pc : FuncId → List AV → Option AV) : Nat → Bool → CallF
  | 0, _ => callZ M pc
  | n + 1, b => fun g args H =>
    match M.ext g with
    | some e => extCall e g args H
    | none => if M.inl g then (match emptyR M pc g args with
      | some v => some (v, H)
      | none => match b with
        | true => match M.code g args.length with
          | some fn => runFnF (callBF M pc n true) (callBF M pc n false) M.fu fn args H
          | none => none
        | false => match M.fr g && args.all (noId DEPTH) with
          | true => match M.code g args.length with
            | some fn => freshF (runFnF (callBF M pc n true) (callBF M pc n false) M.fu fn) args H
            | none => none
          | false => pureCall pc g args H) else pureCall pc g args H
theorem callBF_eq (M : Mod) (pc : FuncId → List AV → Option AV) : ∀ n b, callBF M pc n b = callB M pc n b
  | 0, _ => rfl
  | n + 1, b => by funext g args H; simp only [callBF, callB, callBF_eq M pc n, runFnF_eq]; rfl
def pcallF (M : Mod) : Nat → FuncId → List AV → Option AV
  | 0 => fun _ _ => none
  | d + 1 => fun g args => match M.code g args.length with
    | none => none
    | some fn => match runFnF (callBF M (pcallF M d) IDEPTH true) (callBF M (pcallF M d) IDEPTH false) M.fu fn args [] with
      | some (v, H') => foV 12 (snap DEPTH H' v) some
      | none => none
theorem pcallF_eq (M : Mod) : ∀ d, pcallF M d = pcall M d
  | 0 => rfl
  | d + 1 => by funext g args; simp only [pcallF, pcall, pcallF_eq M d, runFnF_eq, callBF_eq, foV_eq]; rfl
theorem ran {M : Mod} {d : Nat} {g : FuncId} {args : List AV} {r : AV} (h : pcallF M d g args = some r) : pcall M d g args = some r := by rw [← pcallF_eq]; exact h
end
end Go.Proofs.Ytffiilnmfmkpmaa.AE

namespace Go.Proofs.Ytffiilnmfmkpmaa.AE
set_option maxRecDepth 100000
theorem awake : pcall M 40 8 [] = some (.bool true) := ran (by kernel_rfl)
end Go.Proofs.Ytffiilnmfmkpmaa.AE

namespace Go.Proofs.Ytffiilnmfmkpmaa.AE
set_option linter.unusedVariables false
set_option linter.unusedSimpArgs false
set_option linter.constructorNameAsVariable false
open Go
set_option maxRecDepth 100000
/-- apogee/apogeelaw13.RulesFirst -/
theorem r5 (C : Cb) (d : Nat) (a0 : List AV) (a1 a2 a3 a4 a5 a6 a7 a8 a9 a10 : Int) : xcall C M unr d 5 [(.agg [(.lst a0), (iz a1), (iz a2), (iz a3), (iz a4), (iz a5), (iz a6), (iz a7), (iz a8)]), (iz a9), (iz a10)] =
 C.hop [] (.box E24 (.v (.agg [(.lst a0), (iz a1), (iz a2), (iz a3), (iz a4), (iz a5), (iz a6), (iz a7), (iz a8)]))) fun v0 h1 =>
 C.bool (pcall M d 8 []) fun b2 =>
 cnd (!b2)
 (C.bool (pcall M d 8 []) fun b3 =>
 C.fin h1 (.bool b3))
 (C.hop h1 (.load true 9 (.v v0)) fun v4 h5 =>
 C.agg 9 (some v4) fun l6 =>
 C.any l6[0]? fun v7 =>
 C.int .i64 l6[1]? fun x8 =>
 C.int .i64 l6[2]? fun x9 =>
 C.int .i64 l6[3]? fun x10 =>
 C.int .i64 l6[4]? fun x11 =>
 C.int .i64 l6[5]? fun x12 =>
 C.int .i64 l6[6]? fun x13 =>
 C.int .i64 l6[7]? fun x14 =>
 C.int .i64 l6[8]? fun x15 =>
 C.snp h5 [(.agg [v7, (iz x8), (iz x9), (iz x10), (iz x11), (iz x12), (iz x13), (iz x14), (iz x15)])] fun l16 b17 =>
 C.bool (pcall M d 9 l16) fun b18 =>
 cnd (b17 || true)
 (cnd (!b18)
 (C.bool (pcall M d 8 []) fun b19 =>
 C.fin h5 (.bool b19))
 (C.hop h5 (.load true 9 (.v v0)) fun v20 h21 =>
 C.agg 9 (some v20) fun l22 =>
 C.any l22[0]? fun v23 =>
 C.int .i64 l22[1]? fun x24 =>
 C.int .i64 l22[2]? fun x25 =>
 C.int .i64 l22[3]? fun x26 =>
 C.int .i64 l22[4]? fun x27 =>
 C.int .i64 l22[5]? fun x28 =>
 C.int .i64 l22[6]? fun x29 =>
 C.int .i64 l22[7]? fun x30 =>
 C.int .i64 l22[8]? fun x31 =>
 C.snp h21 [(.agg [v23, (iz x24), (iz x25), (iz x26), (iz x27), (iz x28), (iz x29), (iz x30), (iz x31)])] fun l32 b33 =>
 C.int .i64 (pcall M d 10 l32) fun x34 =>
 cnd (b33 || true)
 (cnd (x34 != 0)
 (C.bool (pcall M d 8 []) fun b35 =>
 C.fin h21 (.bool b35))
 (C.hop h21 (.load true 9 (.v v0)) fun v36 h37 =>
 C.agg 9 (some v36) fun l38 =>
 C.any l38[0]? fun v39 =>
 C.int .i64 l38[1]? fun x40 =>
 C.int .i64 l38[2]? fun x41 =>
 C.int .i64 l38[3]? fun x42 =>
 C.int .i64 l38[4]? fun x43 =>
 C.int .i64 l38[5]? fun x44 =>
 C.int .i64 l38[6]? fun x45 =>
 C.int .i64 l38[7]? fun x46 =>
 C.int .i64 l38[8]? fun x47 =>
 C.cal M (pcall M d) 12 true 18 [(.agg [v39, (iz x40), (iz x41), (iz x42), (iz x43), (iz x44), (iz x45), (iz x46), (iz x47)])] h37 fun v48 h49 =>
 C.agg 9 (some v48) fun l50 =>
 C.any l50[0]? fun v51 =>
 C.int .i64 l50[1]? fun x52 =>
 C.int .i64 l50[2]? fun x53 =>
 C.int .i64 l50[3]? fun x54 =>
 C.int .i64 l50[4]? fun x55 =>
 C.int .i64 l50[5]? fun x56 =>
 C.int .i64 l50[6]? fun x57 =>
 C.int .i64 l50[7]? fun x58 =>
 C.int .i64 l50[8]? fun x59 =>
 C.hop h49 (.alloc E24) fun v60 h61 =>
 C.hop h61 (.store 9 (.v v60) (.v (.agg [v51, (iz x52), (iz x53), (iz x54), (iz x55), (iz x56), (iz x57), (iz x58), (iz x59)]))) fun v62 h63 =>
 C.hop h63 (.fldA 0 (.v v60)) fun v64 h65 =>
 C.hop h65 (.load false 1 (.v v64)) fun v66 h67 =>
 C.hop h67 (.bk .lenV [(.v v66)]) fun v68 h69 =>
 C.int .i64 (some v68) fun x70 =>
 cnd (x70 == 0)
 (C.fin h69 bf)
 (C.hop h69 (.mkrow E2 3 [(0, (.v (iz 0))), (1, (.v (iz (-1)))), (2, (.v (iz 1099511627776)))]) fun v71 h72 =>
 C.hop h72 (.ixAS .any 1 (.v v71) (.v (iz (IntKind.wrap .i64 (Int.tmod (IntKind.wrap .u64 a10) 3))))) fun v73 h74 =>
 C.hop h74 (.load false 1 (.v v73)) fun v75 h76 =>
 C.int .i64 (some v75) fun x77 =>
 cnd ((IntKind.wrap .i64 (2 + (IntKind.wrap .i64 (Int.tmod (IntKind.wrap .u64 a9) 7)))) == 2)
 (C.hop h76 (.fldA 0 (.v v60)) fun v78 h79 =>
 C.hop h79 (.load false 1 (.v v78)) fun v80 h81 =>
 C.hop h81 (.fldA 0 (.v v60)) fun v82 h83 =>
 C.hop h83 (.load false 1 (.v v82)) fun v84 h85 =>
 C.hop h85 (.bk .lenV [(.v v84)]) fun v86 h87 =>
 C.int .i64 (some v86) fun x88 =>
 cnd (decide ((IntKind.wrap .u64 x88) = 0))
 (none)
 (C.hop h87 (.ixAS .any 5 (.v v80) (.v (iz (IntKind.wrap .i64 (Int.tmod (IntKind.wrap .u64 a10) (IntKind.wrap .u64 x88)))))) fun v89 h90 =>
 C.hop h90 (.fldA 2 (.v v89)) fun v91 h92 =>
 C.hop h92 (.store 1 (.v v91) (.v (iz x77))) fun v93 h94 =>
 C.hop h94 (.load true 9 (.v v60)) fun v95 h96 =>
 C.agg 9 (some v95) fun l97 =>
 C.any l97[0]? fun v98 =>
 C.int .i64 l97[1]? fun x99 =>
 C.int .i64 l97[2]? fun x100 =>
 C.int .i64 l97[3]? fun x101 =>
 C.int .i64 l97[4]? fun x102 =>
 C.int .i64 l97[5]? fun x103 =>
 C.int .i64 l97[6]? fun x104 =>
 C.int .i64 l97[7]? fun x105 =>
 C.int .i64 l97[8]? fun x106 =>
 C.snp h96 [(.agg [v98, (iz x99), (iz x100), (iz x101), (iz x102), (iz x103), (iz x104), (iz x105), (iz x106)])] fun l107 b108 =>
 C.int .i64 (pcall M d 12 l107) fun x109 =>
 cnd (b108 || true)
 (cnd (x109 == (IntKind.wrap .i64 (2 + (IntKind.wrap .i64 (Int.tmod (IntKind.wrap .u64 a9) 7)))))
 (C.hop h96 (.load true 9 (.v v60)) fun v110 h111 =>
 C.agg 9 (some v110) fun l112 =>
 C.any l112[0]? fun v113 =>
 C.int .i64 l112[1]? fun x114 =>
 C.int .i64 l112[2]? fun x115 =>
 C.int .i64 l112[3]? fun x116 =>
 C.int .i64 l112[4]? fun x117 =>
 C.int .i64 l112[5]? fun x118 =>
 C.int .i64 l112[6]? fun x119 =>
 C.int .i64 l112[7]? fun x120 =>
 C.int .i64 l112[8]? fun x121 =>
 C.snp h111 [(.agg [v113, (iz x114), (iz x115), (iz x116), (iz x117), (iz x118), (iz x119), (iz x120), (iz x121)])] fun l122 b123 =>
 C.bool (pcall M d 13 l122) fun b124 =>
 cnd (b123 || true)
 (C.fin h111 (.bool (!b124)))
 (none))
 (C.fin h96 bf))
 (none)))
 (cnd ((IntKind.wrap .i64 (2 + (IntKind.wrap .i64 (Int.tmod (IntKind.wrap .u64 a9) 7)))) == 3)
 (C.hop h76 (.fldA 3 (.v v60)) fun v125 h126 =>
 C.hop h126 (.store 1 (.v v125) (.v (iz x77))) fun v127 h128 =>
 C.hop h128 (.load true 9 (.v v60)) fun v129 h130 =>
 C.agg 9 (some v129) fun l131 =>
 C.any l131[0]? fun v132 =>
 C.int .i64 l131[1]? fun x133 =>
 C.int .i64 l131[2]? fun x134 =>
 C.int .i64 l131[3]? fun x135 =>
 C.int .i64 l131[4]? fun x136 =>
 C.int .i64 l131[5]? fun x137 =>
 C.int .i64 l131[6]? fun x138 =>
 C.int .i64 l131[7]? fun x139 =>
 C.int .i64 l131[8]? fun x140 =>
 C.snp h130 [(.agg [v132, (iz x133), (iz x134), (iz x135), (iz x136), (iz x137), (iz x138), (iz x139), (iz x140)])] fun l141 b142 =>
 C.int .i64 (pcall M d 12 l141) fun x143 =>
 cnd (b142 || true)
 (cnd (x143 == (IntKind.wrap .i64 (2 + (IntKind.wrap .i64 (Int.tmod (IntKind.wrap .u64 a9) 7)))))
 (C.hop h130 (.load true 9 (.v v60)) fun v144 h145 =>
 C.agg 9 (some v144) fun l146 =>
 C.any l146[0]? fun v147 =>
 C.int .i64 l146[1]? fun x148 =>
 C.int .i64 l146[2]? fun x149 =>
 C.int .i64 l146[3]? fun x150 =>
 C.int .i64 l146[4]? fun x151 =>
 C.int .i64 l146[5]? fun x152 =>
 C.int .i64 l146[6]? fun x153 =>
 C.int .i64 l146[7]? fun x154 =>
 C.int .i64 l146[8]? fun x155 =>
 C.snp h145 [(.agg [v147, (iz x148), (iz x149), (iz x150), (iz x151), (iz x152), (iz x153), (iz x154), (iz x155)])] fun l156 b157 =>
 C.bool (pcall M d 13 l156) fun b158 =>
 cnd (b157 || true)
 (C.fin h145 (.bool (!b158)))
 (none))
 (C.fin h130 bf))
 (none))
 (cnd ((IntKind.wrap .i64 (2 + (IntKind.wrap .i64 (Int.tmod (IntKind.wrap .u64 a9) 7)))) == 4)
 (C.hop h76 (.fldA 4 (.v v60)) fun v159 h160 =>
 C.hop h160 (.store 1 (.v v159) (.v (iz (if ((-1) < x77) then (-1) else x77)))) fun v161 h162 =>
 C.hop h162 (.load true 9 (.v v60)) fun v163 h164 =>
 C.agg 9 (some v163) fun l165 =>
 C.any l165[0]? fun v166 =>
 C.int .i64 l165[1]? fun x167 =>
 C.int .i64 l165[2]? fun x168 =>
 C.int .i64 l165[3]? fun x169 =>
 C.int .i64 l165[4]? fun x170 =>
 C.int .i64 l165[5]? fun x171 =>
 C.int .i64 l165[6]? fun x172 =>
 C.int .i64 l165[7]? fun x173 =>
 C.int .i64 l165[8]? fun x174 =>
 C.snp h164 [(.agg [v166, (iz x167), (iz x168), (iz x169), (iz x170), (iz x171), (iz x172), (iz x173), (iz x174)])] fun l175 b176 =>
 C.int .i64 (pcall M d 12 l175) fun x177 =>
 cnd (b176 || true)
 (cnd (x177 == (IntKind.wrap .i64 (2 + (IntKind.wrap .i64 (Int.tmod (IntKind.wrap .u64 a9) 7)))))
 (C.hop h164 (.load true 9 (.v v60)) fun v178 h179 =>
 C.agg 9 (some v178) fun l180 =>
 C.any l180[0]? fun v181 =>
 C.int .i64 l180[1]? fun x182 =>
 C.int .i64 l180[2]? fun x183 =>
 C.int .i64 l180[3]? fun x184 =>
 C.int .i64 l180[4]? fun x185 =>
 C.int .i64 l180[5]? fun x186 =>
 C.int .i64 l180[6]? fun x187 =>
 C.int .i64 l180[7]? fun x188 =>
 C.int .i64 l180[8]? fun x189 =>
 C.snp h179 [(.agg [v181, (iz x182), (iz x183), (iz x184), (iz x185), (iz x186), (iz x187), (iz x188), (iz x189)])] fun l190 b191 =>
 C.bool (pcall M d 13 l190) fun b192 =>
 cnd (b191 || true)
 (C.fin h179 (.bool (!b192)))
 (none))
 (C.fin h164 bf))
 (none))
 (cnd ((IntKind.wrap .i64 (2 + (IntKind.wrap .i64 (Int.tmod (IntKind.wrap .u64 a9) 7)))) == 5)
 (C.hop h76 (.fldA 5 (.v v60)) fun v193 h194 =>
 C.hop h194 (.store 1 (.v v193) (.v (iz x77))) fun v195 h196 =>
 C.hop h196 (.load true 9 (.v v60)) fun v197 h198 =>
 C.agg 9 (some v197) fun l199 =>
 C.any l199[0]? fun v200 =>
 C.int .i64 l199[1]? fun x201 =>
 C.int .i64 l199[2]? fun x202 =>
 C.int .i64 l199[3]? fun x203 =>
 C.int .i64 l199[4]? fun x204 =>
 C.int .i64 l199[5]? fun x205 =>
 C.int .i64 l199[6]? fun x206 =>
 C.int .i64 l199[7]? fun x207 =>
 C.int .i64 l199[8]? fun x208 =>
 C.snp h198 [(.agg [v200, (iz x201), (iz x202), (iz x203), (iz x204), (iz x205), (iz x206), (iz x207), (iz x208)])] fun l209 b210 =>
 C.int .i64 (pcall M d 12 l209) fun x211 =>
 cnd (b210 || true)
 (cnd (x211 == (IntKind.wrap .i64 (2 + (IntKind.wrap .i64 (Int.tmod (IntKind.wrap .u64 a9) 7)))))
 (C.hop h198 (.load true 9 (.v v60)) fun v212 h213 =>
 C.agg 9 (some v212) fun l214 =>
 C.any l214[0]? fun v215 =>
 C.int .i64 l214[1]? fun x216 =>
 C.int .i64 l214[2]? fun x217 =>
 C.int .i64 l214[3]? fun x218 =>
 C.int .i64 l214[4]? fun x219 =>
 C.int .i64 l214[5]? fun x220 =>
 C.int .i64 l214[6]? fun x221 =>
 C.int .i64 l214[7]? fun x222 =>
 C.int .i64 l214[8]? fun x223 =>
 C.snp h213 [(.agg [v215, (iz x216), (iz x217), (iz x218), (iz x219), (iz x220), (iz x221), (iz x222), (iz x223)])] fun l224 b225 =>
 C.bool (pcall M d 13 l224) fun b226 =>
 cnd (b225 || true)
 (C.fin h213 (.bool (!b226)))
 (none))
 (C.fin h198 bf))
 (none))
 (cnd ((IntKind.wrap .i64 (2 + (IntKind.wrap .i64 (Int.tmod (IntKind.wrap .u64 a9) 7)))) == 6)
 (C.hop h76 (.fldA 6 (.v v60)) fun v227 h228 =>
 C.hop h228 (.store 1 (.v v227) (.v (iz x77))) fun v229 h230 =>
 C.hop h230 (.load true 9 (.v v60)) fun v231 h232 =>
 C.agg 9 (some v231) fun l233 =>
 C.any l233[0]? fun v234 =>
 C.int .i64 l233[1]? fun x235 =>
 C.int .i64 l233[2]? fun x236 =>
 C.int .i64 l233[3]? fun x237 =>
 C.int .i64 l233[4]? fun x238 =>
 C.int .i64 l233[5]? fun x239 =>
 C.int .i64 l233[6]? fun x240 =>
 C.int .i64 l233[7]? fun x241 =>
 C.int .i64 l233[8]? fun x242 =>
 C.snp h232 [(.agg [v234, (iz x235), (iz x236), (iz x237), (iz x238), (iz x239), (iz x240), (iz x241), (iz x242)])] fun l243 b244 =>
 C.int .i64 (pcall M d 12 l243) fun x245 =>
 cnd (b244 || true)
 (cnd (x245 == (IntKind.wrap .i64 (2 + (IntKind.wrap .i64 (Int.tmod (IntKind.wrap .u64 a9) 7)))))
 (C.hop h232 (.load true 9 (.v v60)) fun v246 h247 =>
 C.agg 9 (some v246) fun l248 =>
 C.any l248[0]? fun v249 =>
 C.int .i64 l248[1]? fun x250 =>
 C.int .i64 l248[2]? fun x251 =>
 C.int .i64 l248[3]? fun x252 =>
 C.int .i64 l248[4]? fun x253 =>
 C.int .i64 l248[5]? fun x254 =>
 C.int .i64 l248[6]? fun x255 =>
 C.int .i64 l248[7]? fun x256 =>
 C.int .i64 l248[8]? fun x257 =>
 C.snp h247 [(.agg [v249, (iz x250), (iz x251), (iz x252), (iz x253), (iz x254), (iz x255), (iz x256), (iz x257)])] fun l258 b259 =>
 C.bool (pcall M d 13 l258) fun b260 =>
 cnd (b259 || true)
 (C.fin h247 (.bool (!b260)))
 (none))
 (C.fin h232 bf))
 (none))
 (cnd ((IntKind.wrap .i64 (2 + (IntKind.wrap .i64 (Int.tmod (IntKind.wrap .u64 a9) 7)))) == 7)
 (C.hop h76 (.fldA 7 (.v v60)) fun v261 h262 =>
 C.hop h262 (.store 1 (.v v261) (.v (iz x77))) fun v263 h264 =>
 C.hop h264 (.load true 9 (.v v60)) fun v265 h266 =>
 C.agg 9 (some v265) fun l267 =>
 C.any l267[0]? fun v268 =>
 C.int .i64 l267[1]? fun x269 =>
 C.int .i64 l267[2]? fun x270 =>
 C.int .i64 l267[3]? fun x271 =>
 C.int .i64 l267[4]? fun x272 =>
 C.int .i64 l267[5]? fun x273 =>
 C.int .i64 l267[6]? fun x274 =>
 C.int .i64 l267[7]? fun x275 =>
 C.int .i64 l267[8]? fun x276 =>
 C.snp h266 [(.agg [v268, (iz x269), (iz x270), (iz x271), (iz x272), (iz x273), (iz x274), (iz x275), (iz x276)])] fun l277 b278 =>
 C.int .i64 (pcall M d 12 l277) fun x279 =>
 cnd (b278 || true)
 (cnd (x279 == (IntKind.wrap .i64 (2 + (IntKind.wrap .i64 (Int.tmod (IntKind.wrap .u64 a9) 7)))))
 (C.hop h266 (.load true 9 (.v v60)) fun v280 h281 =>
 C.agg 9 (some v280) fun l282 =>
 C.any l282[0]? fun v283 =>
 C.int .i64 l282[1]? fun x284 =>
 C.int .i64 l282[2]? fun x285 =>
 C.int .i64 l282[3]? fun x286 =>
 C.int .i64 l282[4]? fun x287 =>
 C.int .i64 l282[5]? fun x288 =>
 C.int .i64 l282[6]? fun x289 =>
 C.int .i64 l282[7]? fun x290 =>
 C.int .i64 l282[8]? fun x291 =>
 C.snp h281 [(.agg [v283, (iz x284), (iz x285), (iz x286), (iz x287), (iz x288), (iz x289), (iz x290), (iz x291)])] fun l292 b293 =>
 C.bool (pcall M d 13 l292) fun b294 =>
 cnd (b293 || true)
 (C.fin h281 (.bool (!b294)))
 (none))
 (C.fin h266 bf))
 (none))
 (C.hop h76 (.fldA 8 (.v v60)) fun v295 h296 =>
 C.hop h296 (.store 1 (.v v295) (.v (iz (IntKind.wrap .i64 ((-1) - (IntKind.wrap .i64 (Int.tmod (IntKind.wrap .u64 a10) 3))))))) fun v297 h298 =>
 C.hop h298 (.load true 9 (.v v60)) fun v299 h300 =>
 C.agg 9 (some v299) fun l301 =>
 C.any l301[0]? fun v302 =>
 C.int .i64 l301[1]? fun x303 =>
 C.int .i64 l301[2]? fun x304 =>
 C.int .i64 l301[3]? fun x305 =>
 C.int .i64 l301[4]? fun x306 =>
 C.int .i64 l301[5]? fun x307 =>
 C.int .i64 l301[6]? fun x308 =>
 C.int .i64 l301[7]? fun x309 =>
 C.int .i64 l301[8]? fun x310 =>
 C.snp h300 [(.agg [v302, (iz x303), (iz x304), (iz x305), (iz x306), (iz x307), (iz x308), (iz x309), (iz x310)])] fun l311 b312 =>
 C.int .i64 (pcall M d 12 l311) fun x313 =>
 cnd (b312 || true)
 (cnd (x313 == (IntKind.wrap .i64 (2 + (IntKind.wrap .i64 (Int.tmod (IntKind.wrap .u64 a9) 7)))))
 (C.hop h300 (.load true 9 (.v v60)) fun v314 h315 =>
 C.agg 9 (some v314) fun l316 =>
 C.any l316[0]? fun v317 =>
 C.int .i64 l316[1]? fun x318 =>
 C.int .i64 l316[2]? fun x319 =>
 C.int .i64 l316[3]? fun x320 =>
 C.int .i64 l316[4]? fun x321 =>
 C.int .i64 l316[5]? fun x322 =>
 C.int .i64 l316[6]? fun x323 =>
 C.int .i64 l316[7]? fun x324 =>
 C.int .i64 l316[8]? fun x325 =>
 C.snp h315 [(.agg [v317, (iz x318), (iz x319), (iz x320), (iz x321), (iz x322), (iz x323), (iz x324), (iz x325)])] fun l326 b327 =>
 C.bool (pcall M d 13 l326) fun b328 =>
 cnd (b327 || true)
 (C.fin h315 (.bool (!b328)))
 (none))
 (C.fin h300 bf))
 (none))))))))))
 (none)))
 (none)) := by kernel_rfl
end Go.Proofs.Ytffiilnmfmkpmaa.AE

namespace Go.Proofs.Ytffiilnmfmkpmaa.AE
set_option linter.unusedVariables false
set_option linter.unusedSimpArgs false
set_option linter.constructorNameAsVariable false
open Go Go.Proofs.Ytffiilnmfmkpmaa.Geo
set_option maxRecDepth 100000
attribute [local irreducible] pcall C0
theorem wrong_all {r : Rul} (h : wrongX r = 0) : (1 ≤ r.phs.length ∧ r.phs.length ≤ 4) ∧ r.phs.any badX = false ∧ wrongT r.phs.length r.n r.d r.gr r.eps r.st r.age r.lift r.saf = 0 := by
  unfold wrongX at h
  split at h
  · omega
  · rename_i h1
    cases hb : r.phs.any badX
    · rw [hb, cond_false] at h
      exact ⟨⟨by omega, by omega⟩, rfl, h⟩
    · rw [hb, cond_true] at h; omega
theorem wrong_of {r : Rul} {w : Int} (h1 : 1 ≤ r.phs.length ∧ r.phs.length ≤ 4) (h2 : r.phs.any badX = false) (h3 : wrongT r.phs.length r.n r.d r.gr r.eps r.st r.age r.lift r.saf = w) : wrongX r = w := by
  unfold wrongX
  rw [if_neg (by omega), h2, cond_false, h3]
def badN : Nat → Int
  | 0 => 0
  | 1 => -1
  | _ => 1099511627776
theorem badN_is (k : Nat) : badN k = 0 ∨ badN k = -1 ∨ badN k = 1099511627776 := by
  match k with
  | 0 => exact .inl rfl
  | 1 => exact .inr (.inl rfl)
  | k + 2 => exact .inr (.inr rfl)
theorem mod_small (a : Int) (m : Nat) (h : 1 ≤ m) (h' : m ≤ 1000) : ∃ f : Nat, IntKind.wrap .i64 (Int.tmod (IntKind.wrap .u64 a) ((m : Nat) : Int)) = ((f : Nat) : Int) ∧ f < m := by
  refine ⟨((IntKind.wrap .u64 a) % (m : Int)).toNat, ?_, ?_⟩
  · rw [u64w, Int.tmod_eq_emod_of_nonneg (by omega), i64w]
    have h1 := Int.emod_nonneg (a % 18446744073709551616) (show (m : Int) ≠ 0 by omega)
    have h2 := Int.emod_lt_of_pos (a % 18446744073709551616) (show (0 : Int) < m by omega)
    omega
  · have h1 := Int.emod_nonneg (IntKind.wrap .u64 a) (show (m : Int) ≠ 0 by omega)
    have h2 := Int.emod_lt_of_pos (IntKind.wrap .u64 a) (show (0 : Int) < m by omega)
    omega
theorem or_t (b : Bool) : (b || true) = true := by cases b <;> rfl
theorem tailF {H : Heap} {vid lo hi : Nat} {v : AV} {r : Rul} {w : Int} (hv : hget H vid = some ⟨E24, [rlX v r]⟩) (hc : CpOf H lo hi v r.phs) (hl : r.phs.length ≤ 100) (ha : ∀ p ∈ r.phs, p.ps.length ≤ 140737488355328) (hw : wrongX r = w) (h0 : w ≠ 0) :
    (C0.hop H (.load true 9 (.v (.ptr vid 0 0))) fun v95 h96 =>
                  C0.agg 9 (some v95) fun l97 =>
                  C0.any l97[0]? fun v98 =>
                  C0.int .i64 l97[1]? fun x99 =>
                  C0.int .i64 l97[2]? fun x100 =>
                  C0.int .i64 l97[3]? fun x101 =>
                  C0.int .i64 l97[4]? fun x102 =>
                  C0.int .i64 l97[5]? fun x103 =>
                  C0.int .i64 l97[6]? fun x104 =>
                  C0.int .i64 l97[7]? fun x105 =>
                  C0.int .i64 l97[8]? fun x106 =>
                  C0.snp h96 [(.agg [v98, (.int .i64 x99), (.int .i64 x100), (.int .i64 x101), (.int .i64 x102), (.int .i64 x103), (.int .i64 x104), (.int .i64 x105), (.int .i64 x106)])] fun l107 b108 =>
                  C0.int .i64 (pcall M 40 12 l107) fun x109 =>
                  cnd (b108 || true)
                   (cnd (x109 == w)
                     (C0.hop h96 (.load true 9 (.v (.ptr vid 0 0))) fun v110 h111 =>
                      C0.agg 9 (some v110) fun l112 =>
                      C0.any l112[0]? fun v113 =>
                      C0.int .i64 l112[1]? fun x114 =>
                      C0.int .i64 l112[2]? fun x115 =>
                      C0.int .i64 l112[3]? fun x116 =>
                      C0.int .i64 l112[4]? fun x117 =>
                      C0.int .i64 l112[5]? fun x118 =>
                      C0.int .i64 l112[6]? fun x119 =>
                      C0.int .i64 l112[7]? fun x120 =>
                      C0.int .i64 l112[8]? fun x121 =>
                      C0.snp h111 [(.agg [v113, (.int .i64 x114), (.int .i64 x115), (.int .i64 x116), (.int .i64 x117), (.int .i64 x118), (.int .i64 x119), (.int .i64 x120), (.int .i64 x121)])] fun l122 b123 =>
                      C0.bool (pcall M 40 13 l122) fun b124 =>
                      cnd (b123 || true)
                       (C0.fin h111 (.bool (!b124)))
                       (none))
                     (C0.fin h96 (.bool false)))
                   (none)) = some (.bool true) := by
  obtain ⟨b, e⟩ := snp_cp hc
  refine Eq.trans (ld_ptr hv rfl rfl) ?_
  refine Eq.trans (pl_agg (by rfl) (by rfl)) ?_; refine Eq.trans (pl_any (by rfl)) ?_; refine Eq.trans (pl_int (by rfl)) ?_; refine Eq.trans (pl_int (by rfl)) ?_; refine Eq.trans (pl_int (by rfl)) ?_; refine Eq.trans (pl_int (by rfl)) ?_; refine Eq.trans (pl_int (by rfl)) ?_; refine Eq.trans (pl_int (by rfl)) ?_; refine Eq.trans (pl_int (by rfl)) ?_; refine Eq.trans (pl_int (by rfl)) ?_
  refine Eq.trans (e _) ?_
  refine Eq.trans (pl_int (s12 23 r hl ha)) ?_
  rw [or_t, cnd_t, hw, beq_self_eq_true, cnd_t]
  refine Eq.trans (ld_ptr hv rfl rfl) ?_
  refine Eq.trans (pl_agg (by rfl) (by rfl)) ?_; refine Eq.trans (pl_any (by rfl)) ?_; refine Eq.trans (pl_int (by rfl)) ?_; refine Eq.trans (pl_int (by rfl)) ?_; refine Eq.trans (pl_int (by rfl)) ?_; refine Eq.trans (pl_int (by rfl)) ?_; refine Eq.trans (pl_int (by rfl)) ?_; refine Eq.trans (pl_int (by rfl)) ?_; refine Eq.trans (pl_int (by rfl)) ?_; refine Eq.trans (pl_int (by rfl)) ?_
  refine Eq.trans (e _) ?_
  refine Eq.trans (pl_bool (s13 22 r hl ha)) ?_
  rw [or_t, cnd_t, hw, beq_eq_false_iff_ne.mpr h0]
  exact finB
theorem first_law (r : Rul) (wh n : Int) (hl : r.phs.length ≤ 9223372036854775807) : pcall M 41 5 [rl r, .int .i64 wh, .int .i64 n] = some (.bool true) := told (r5 C0 40 _ _ _ _ _ _ _ _ _ _ _) (by
  refine Eq.trans (bx_n (H := []) (by rfl)) ?_
  refine Eq.trans (pl_bool awake) ?_
  refine Eq.trans (pl_f (by rfl)) ?_
  refine Eq.trans (ld_ptr (b := ⟨E24, [rl r]⟩) (by rfl) (by rfl) (by rfl)) ?_
  refine Eq.trans (pl_agg (by rfl) (by rfl)) ?_; refine Eq.trans (pl_any (by rfl)) ?_; refine Eq.trans (pl_int (by rfl)) ?_; refine Eq.trans (pl_int (by rfl)) ?_; refine Eq.trans (pl_int (by rfl)) ?_; refine Eq.trans (pl_int (by rfl)) ?_; refine Eq.trans (pl_int (by rfl)) ?_; refine Eq.trans (pl_int (by rfl)) ?_; refine Eq.trans (pl_int (by rfl)) ?_; refine Eq.trans (pl_int (by rfl)) ?_
  refine Eq.trans (snp_free (by rfl)) ?_
  refine Eq.trans (pl_bool (s9 39 r hl)) ?_
  refine Eq.trans (pl_len (by rfl)) ?_
  by_cases hf : fewX r.phs = true
  rotate_left
  · refine Eq.trans (pl_len (by rw [Bool.eq_false_iff.mpr hf]; rfl)) ?_
    refine Eq.trans (pl_bool awake) ?_
    exact finB
  refine Eq.trans (pl_f (by rw [hf]; rfl)) ?_
  obtain ⟨f1, f2⟩ := few_t hf
  have ha : ∀ p ∈ r.phs, p.ps.length ≤ 140737488355328 := fun p hp => by have := f1 p hp; omega
  refine Eq.trans (ld_ptr (b := ⟨E24, [rl r]⟩) (by rfl) (by rfl) (by rfl)) ?_
  refine Eq.trans (pl_agg (by rfl) (by rfl)) ?_; refine Eq.trans (pl_any (by rfl)) ?_; refine Eq.trans (pl_int (by rfl)) ?_; refine Eq.trans (pl_int (by rfl)) ?_; refine Eq.trans (pl_int (by rfl)) ?_; refine Eq.trans (pl_int (by rfl)) ?_; refine Eq.trans (pl_int (by rfl)) ?_; refine Eq.trans (pl_int (by rfl)) ?_; refine Eq.trans (pl_int (by rfl)) ?_; refine Eq.trans (pl_int (by rfl)) ?_
  refine Eq.trans (snp_free (by rfl)) ?_
  refine Eq.trans (pl_int (s10 29 r (by omega) ha)) ?_
  refine Eq.trans (pl_len (by rfl)) ?_
  by_cases hw : wrongX r = 0
  rotate_left
  · refine Eq.trans (pl_len (by simpa using hw)) ?_
    refine Eq.trans (pl_bool awake) ?_
    exact finB
  refine Eq.trans (pl_f (by simp [hw])) ?_
  obtain ⟨⟨k1, k2⟩, k3, k4⟩ := wrong_all hw
  refine Eq.trans (ld_ptr (b := ⟨E24, [rl r]⟩) (by rfl) (by rfl) (by rfl)) ?_
  refine Eq.trans (pl_agg (by rfl) (by rfl)) ?_; refine Eq.trans (pl_any (by rfl)) ?_; refine Eq.trans (pl_int (by rfl)) ?_; refine Eq.trans (pl_int (by rfl)) ?_; refine Eq.trans (pl_int (by rfl)) ?_; refine Eq.trans (pl_int (by rfl)) ?_; refine Eq.trans (pl_int (by rfl)) ?_; refine Eq.trans (pl_int (by rfl)) ?_; refine Eq.trans (pl_int (by rfl)) ?_; refine Eq.trans (pl_int (by rfl)) ?_
  refine Eq.trans (cal_eq (copyI 39 2 r (by omega) (fun p hp => by have := f1 p hp; omega) _)) ?_
  refine Eq.trans (pl_agg (by rfl) (by rfl)) ?_; refine Eq.trans (pl_any (by rfl)) ?_; refine Eq.trans (pl_int (by rfl)) ?_; refine Eq.trans (pl_int (by rfl)) ?_; refine Eq.trans (pl_int (by rfl)) ?_; refine Eq.trans (pl_int (by rfl)) ?_; refine Eq.trans (pl_int (by rfl)) ?_; refine Eq.trans (pl_int (by rfl)) ?_; refine Eq.trans (pl_int (by rfl)) ?_; refine Eq.trans (pl_int (by rfl)) ?_
  have hc := cp_copy ([] ++ [some ⟨E24, [rl r]⟩]) r
  generalize hL : ([] ++ [some ⟨E24, [rl r]⟩] : Heap) = Z at hc ⊢
  generalize hG : Z ++ cpS Z.length r = G at hc ⊢
  refine Eq.trans (al_st (by rcases hc with ⟨_, h⟩ | ⟨id, els, _, _, h, _⟩ <;> rw [h] <;> rfl)) ?_
  have q1 : hget (G ++ [some ⟨E24, [rlX (phV Z.length r) r]⟩]) G.length = some ⟨E24, [rlX (phV Z.length r) r]⟩ := hget_new
  have hc1 : CpOf (G ++ [some ⟨E24, [rlX (phV Z.length r) r]⟩]) Z.length G.length (phV Z.length r) r.phs := cp_mono hc (Nat.le_refl _) (Nat.le_refl _) fun _ _ _ _ h => hget_app h
  change C0.hop (G ++ [some ⟨E24, [rlX (phV Z.length r) r]⟩]) _ _ = _
  generalize G ++ [some ⟨E24, [rlX (phV Z.length r) r]⟩] = H1 at q1 hc1 ⊢
  generalize phV Z.length r = v at q1 hc1
  generalize hvid : G.length = vid at q1 hc1 ⊢
  generalize hlo : Z.length = lo at hc1
  clear hc hG hL hvid hlo
  refine Eq.trans sh_ptr ?_
  refine Eq.trans (ld_ptr q1 rfl rfl) ?_
  refine Eq.trans (len_cp hc1) ?_
  refine Eq.trans (pl_int (by rfl)) ?_
  refine Eq.trans (pl_f (beq_eq_false_iff_ne.mpr (by omega))) ?_
  refine Eq.trans (hop_eq (v := .slc H1.length 0 3) (H' := H1 ++ [some ⟨E2, [.int .i64 0, .int .i64 (-1), .int .i64 1099511627776]⟩]) rfl) ?_
  obtain ⟨k, e1, hk⟩ : ∃ k : Nat, IntKind.wrap .i64 (Int.tmod (IntKind.wrap .u64 n) 3) = ((k : Nat) : Int) ∧ k < 3 := mod_small n 3 (by decide) (by decide)
  rw [e1]
  refine Eq.trans (ix_slc hget_new (by omega) (by omega) rfl) ?_
  refine Eq.trans (ld_ptr (el := .int .i64 (badN k)) (v := .int .i64 (badN k)) hget_new (by
    rw [show 0 + ((k : Nat) : Int).toNat = k by omega]
    match k, hk with
    | 0, _ => rfl
    | 1, _ => rfl
    | 2, _ => rfl) (by rfl)) ?_
  refine Eq.trans (pl_int (by rfl)) ?_
  have q2 := hget_app (l := [some ⟨E2, [.int .i64 0, .int .i64 (-1), .int .i64 1099511627776]⟩]) q1
  have hc2 : CpOf (H1 ++ [some ⟨E2, [.int .i64 0, .int .i64 (-1), .int .i64 1099511627776]⟩]) lo vid v r.phs := cp_mono hc1 (Nat.le_refl _) (Nat.le_refl _) fun _ _ _ _ h => hget_app h
  generalize H1 ++ [some ⟨E2, [.int .i64 0, .int .i64 (-1), .int .i64 1099511627776]⟩] = H at q2 hc2 ⊢
  clear q1 hc1
  obtain ⟨j, e2, hj⟩ : ∃ k : Nat, IntKind.wrap .i64 (Int.tmod (IntKind.wrap .u64 wh) 7) = ((k : Nat) : Int) ∧ k < 7 := mod_small wh 7 (by decide) (by decide)
  rw [e2, i64_small (n := 2 + ((j : Nat) : Int)) (by omega) (by omega)]
  have hb := badN_is k
  have ks : ∀ (H' : Heap), (∀ id b, id ≠ vid → hget H id = some b → hget H' id = some b) → CpOf H' lo vid v r.phs := fun H' h => cp_mono hc2 (Nat.le_refl _) (Nat.le_refl _) fun id b _ h2 h3 => h id b (by omega) h3
  have hs : ∀ x : AV, ∀ id b, id ≠ vid → hget H id = some b → hget (H.set vid (some ⟨E24, [x]⟩)) id = some b := fun x id b h1 h2 => by rw [hget_set_ne (Ne.symm h1)]; exact h2
  have hl4 : r.phs.length ≤ 100 := by omega
  by_cases j0 : j = 0
  · subst j0
    refine Eq.trans (pl_len (by rfl)) ?_
    refine Eq.trans sh_ptr ?_
    refine Eq.trans (ld_ptr q2 rfl rfl) ?_
    refine Eq.trans sh_ptr ?_
    refine Eq.trans (ld_ptr q2 rfl rfl) ?_
    refine Eq.trans (len_cp hc2) ?_
    refine Eq.trans (pl_int (by rfl)) ?_
    rw [u64_small (n := ((r.phs.length : Nat) : Int)) (by omega) (by omega), decide_eq_false (by omega), cnd_f]
    obtain ⟨i, e3, hi⟩ := mod_small n r.phs.length (by omega) (by omega)
    rw [e3]
    rcases hc2 with ⟨g1, _⟩ | ⟨id, els, g1, g2, g3, g4, g5, g6⟩
    · rw [g1] at hi; exact absurd hi (Nat.not_lt_zero _)
    subst g3
    refine Eq.trans (ix_slc g4 (by omega) (by omega) rfl) ?_
    refine Eq.trans sh_ptr ?_
    have hp : r.phs[i]? = some r.phs[i] := List.getElem?_eq_getElem hi
    obtain ⟨av, g7, g8⟩ := g6 i _ hp
    refine Eq.trans (st_ptr (el := phX av r.phs[i]) (el' := phX av { r.phs[i] with v := badN k }) g4 (by rw [show 0 + ((i : Nat) : Int).toNat = i by omega]; exact g7) (by rfl)) ?_
    rw [show 0 + ((i : Nat) : Int).toNat = i by omega]
    refine tailF (r := { r with phs := r.phs.set i { r.phs[i] with v := badN k } }) (v := .slc id 0 r.phs.length) (lo := lo) (hi := vid) ?_ (cp_set (p' := { r.phs[i] with v := badN k }) g1 g2 g4 g5 g6 hp g7 rfl) (by rw [List.length_set]; exact hl4) (fun p hp' => ?_) ?_ (by decide)
    · rw [hget_set_ne (by omega)]; exact q2
    · rcases List.mem_or_eq_of_mem_set hp' with h | h
      · exact ha p h
      · rw [h]; change (r.phs[i]).ps.length ≤ _; exact ha _ (List.getElem_mem hi)
    · unfold wrongX
      rw [if_neg (by simp only [List.length_set]; omega)]
      have : (r.phs.set i { r.phs[i] with v := badN k }).any badX = true := by
        rw [List.any_eq_true]
        refine ⟨_, List.mem_set hi _, ?_⟩
        unfold badX
        rw [decide_eq_false (fun h : RightPh _ => by have := h.2.2.1; simp only at this; omega)]; rfl
      rw [this]; rfl
  refine Eq.trans (pl_f (by simp; omega)) ?_
  unfold wrongT at k4
  by_cases j1 : j = 1
  · subst j1
    refine Eq.trans (pl_len (by rfl)) ?_
    refine Eq.trans sh_ptr ?_
    refine Eq.trans (st_ptr q2 rfl (by rfl)) ?_
    refine tailF (r := { r with gr := (badN k) }) (hget_set (hg_lt q2)) (ks _ (hs _)) hl4 ha (wrong_of ⟨k1, k2⟩ k3 ?_) (by decide)
    change wrongT r.phs.length r.n r.d (badN k) r.eps r.st r.age r.lift r.saf = _
    unfold wrongT
    (repeat' split at k4) <;> (try omega)
    all_goals (repeat' split) <;> first | rfl | omega
  refine Eq.trans (pl_f (by simp; omega)) ?_
  by_cases j2 : j = 2
  · subst j2
    refine Eq.trans (pl_len (by rfl)) ?_
    refine Eq.trans sh_ptr ?_
    refine Eq.trans (st_ptr q2 rfl (by rfl)) ?_
    refine tailF (r := { r with eps := (if (-1) < badN k then (-1) else badN k) }) (hget_set (hg_lt q2)) (ks _ (hs _)) hl4 ha (wrong_of ⟨k1, k2⟩ k3 ?_) (by decide)
    change wrongT r.phs.length r.n r.d r.gr (if (-1) < badN k then (-1) else badN k) r.st r.age r.lift r.saf = _
    unfold wrongT
    (repeat' split at k4) <;> (try omega)
    all_goals (repeat' split) <;> first | rfl | omega
  refine Eq.trans (pl_f (by simp; omega)) ?_
  by_cases j3 : j = 3
  · subst j3
    refine Eq.trans (pl_len (by rfl)) ?_
    refine Eq.trans sh_ptr ?_
    refine Eq.trans (st_ptr q2 rfl (by rfl)) ?_
    refine tailF (r := { r with st := (badN k) }) (hget_set (hg_lt q2)) (ks _ (hs _)) hl4 ha (wrong_of ⟨k1, k2⟩ k3 ?_) (by decide)
    change wrongT r.phs.length r.n r.d r.gr r.eps (badN k) r.age r.lift r.saf = _
    unfold wrongT
    (repeat' split at k4) <;> (try omega)
    all_goals (repeat' split) <;> first | rfl | omega
  refine Eq.trans (pl_f (by simp; omega)) ?_
  by_cases j4 : j = 4
  · subst j4
    refine Eq.trans (pl_len (by rfl)) ?_
    refine Eq.trans sh_ptr ?_
    refine Eq.trans (st_ptr q2 rfl (by rfl)) ?_
    refine tailF (r := { r with age := (badN k) }) (hget_set (hg_lt q2)) (ks _ (hs _)) hl4 ha (wrong_of ⟨k1, k2⟩ k3 ?_) (by decide)
    change wrongT r.phs.length r.n r.d r.gr r.eps r.st (badN k) r.lift r.saf = _
    unfold wrongT
    (repeat' split at k4) <;> (try omega)
    all_goals (repeat' split) <;> first | rfl | omega
  refine Eq.trans (pl_f (by simp; omega)) ?_
  by_cases j5 : j = 5
  · subst j5
    refine Eq.trans (pl_len (by rfl)) ?_
    refine Eq.trans sh_ptr ?_
    refine Eq.trans (st_ptr q2 rfl (by rfl)) ?_
    refine tailF (r := { r with lift := (badN k) }) (hget_set (hg_lt q2)) (ks _ (hs _)) hl4 ha (wrong_of ⟨k1, k2⟩ k3 ?_) (by decide)
    change wrongT r.phs.length r.n r.d r.gr r.eps r.st r.age (badN k) r.saf = _
    unfold wrongT
    (repeat' split at k4) <;> (try omega)
    all_goals (repeat' split) <;> first | rfl | omega
  refine Eq.trans (pl_f (by simp; omega)) ?_
  obtain rfl : j = 6 := by omega
  refine Eq.trans sh_ptr ?_
  refine Eq.trans (st_ptr q2 rfl (by rfl)) ?_
  rw [i64_small (n := -1 - ((k : Nat) : Int)) (by omega) (by omega)]
  refine tailF (r := { r with saf := -1 - ((k : Nat) : Int) }) (hget_set (hg_lt q2)) (ks _ (hs _)) hl4 ha (wrong_of ⟨k1, k2⟩ k3 ?_) (by decide)
  change wrongT r.phs.length r.n r.d r.gr r.eps r.st r.age r.lift (-1 - ((k : Nat) : Int)) = _
  unfold wrongT
  (repeat' split at k4) <;> (try omega)
  all_goals (repeat' split) <;> first | rfl | omega)
theorem law_RulesFirst (a0 : AV) (a1 : Int) (a2 : Int) (w0 : TyOK true [(.sl true [(.sl true [(.i .i64), (.i .i64)]), (.i .i64), (.i .i64), (.i .i64), (.i .i64)]), (.i .i64), (.i .i64), (.i .i64), (.i .i64), (.i .i64), (.i .i64), (.i .i64), (.i .i64)] a0) (w1 : (Lit.int .i64 a1).wf = true) (w2 : (Lit.int .i64 a2).wf = true) :
    pcall M 41 5 [a0, .int .i64 a1, .int .i64 a2] = some (.bool true) := by
  obtain ⟨r, rfl, hl⟩ := ty_rul w0
  exact first_law r a1 a2 hl
end Go.Proofs.Ytffiilnmfmkpmaa.AE

namespace Go.Proofs.Ytffiilnmfmkpmaa.AE
set_option linter.unusedVariables false
set_option linter.unusedSimpArgs false
set_option linter.constructorNameAsVariable false
open Go Go.RowKit

theorem frl_nil {w : World} {bad : Nat → Prop} : ∀ (i : Nat) (c : AV) (u : Value), ([] : List AV)[i]? = some c → ([] : List Value)[i]? = some u → FRep w bad c u := fun _ _ _ h => by cases h
theorem frl_cons {w : World} {bad : Nat → Prop} {c0 : AV} {u0 : Value} {cs : List AV} {us : List Value} (h0 : FRep w bad c0 u0) (h : ∀ (i : Nat) (c : AV) (u : Value), cs[i]? = some c → us[i]? = some u → FRep w bad c u) :
    ∀ (i : Nat) (c : AV) (u : Value), (c0 :: cs)[i]? = some c → (u0 :: us)[i]? = some u → FRep w bad c u
  | 0, c, u, hc, hu => by cases hc; cases hu; exact h0
  | i + 1, c, u, hc, hu => h i c u hc hu
theorem law_calls {d : Nat} {g : FuncId} {args : List AV} {vs : List Value} (h : pcall M d g args = some (.bool true)) (W : World) (hl : args.length = vs.length)
    (hr : ∀ (i : Nat) (c : AV) (u : Value), args[i]? = some c → vs[i]? = some u → FRep W (fun _ => False) c u) (hc : (cFn Try.prog g).isSome = true := by kernel_rfl) : Calls Try.prog g vs.toArray W fun e W' => e = .returned (.bool true) ∧ Below W.heap.size W W' := by
  obtain ⟨fn, hfn⟩ := Option.isSome_iff_exists.mp hc
  rcases pcall_law modOK d g args _ h W (fun _ => False) vs (fun _ h => h.elim) hl hr with ⟨cv, w', h1, _⟩ | ⟨_, h2⟩
  · rw [enter_run hfn] at h1; cases h1
  · refine h2.mono ?_
    rintro e W' ⟨cv, rfl, hf, hb⟩
    cases hf
    exact ⟨rfl, hb⟩
theorem str_size {w : World} {bad : Nat → Prop} {b : List UInt8} {s : ByteArray} (h : FRep w bad (.str b) (.string s)) : s.data.toList.length = b.length := by
  cases h
  rfl
end Go.Proofs.Ytffiilnmfmkpmaa.AE
