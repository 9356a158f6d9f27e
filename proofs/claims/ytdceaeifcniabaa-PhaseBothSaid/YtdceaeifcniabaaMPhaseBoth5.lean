/- The texts that the law PhaseBoth needs, part 5. No conditions. -/
import Derived.Test.YtdceaeifcniabaaMPhaseBoth4
namespace Go.Proofs.Ytdceaeifcniabaa.AE
set_option linter.unusedVariables false
set_option linter.unusedSimpArgs false
set_option linter.constructorNameAsVariable false
open Go
set_option maxRecDepth 100000
set_option maxHeartbeats 0
def r8R0 (C : Cb) (d : Nat) (a0 : List AV) (a1 a2 a3 a4 a5 a6 a7 a8 : Int) : St → (Ex → St → Ans) → Ans := fun s0 k1 =>
 cnd ((List.length s0.env) == 23)
 (C.same s0.env[0]? (.agg [(.lst a0), (iz a1), (iz a2), (iz a3), (iz a4), (iz a5), (iz a6), (iz a7), (iz a8)]) <|
 C.same s0.env[1]? (.ptr 0 0 0) <|
 C.bool s0.env[2]? fun b3 =>
 C.int .i64 s0.env[3]? fun x4 =>
 C.any s0.env[4]? fun v5 =>
 C.any s0.env[5]? fun v6 =>
 C.any s0.env[6]? fun v7 =>
 C.any s0.env[7]? fun v8 =>
 C.any s0.env[8]? fun v9 =>
 C.any s0.env[9]? fun v10 =>
 C.any s0.env[10]? fun v11 =>
 C.any s0.env[11]? fun v12 =>
 C.any s0.env[12]? fun v13 =>
 C.any s0.env[13]? fun v14 =>
 C.any s0.env[14]? fun v15 =>
 C.any s0.env[15]? fun v16 =>
 C.any s0.env[16]? fun v17 =>
 C.any s0.env[17]? fun v18 =>
 C.any s0.env[18]? fun v19 =>
 C.same s0.env[19]? tz <|
 C.same s0.env[20]? tz <|
 C.same s0.env[21]? tz <|
 C.same s0.env[22]? tz <|
 C.sameH (St.H s0) [some ⟨E24, [(.agg [(.lst a0), (iz a1), (iz a2), (iz a3), (iz a4), (iz a5), (iz a6), (iz a7), (iz a8)])]⟩] <|
 cnd (decide (x4 < (((List.length a0) : Nat) : Int)))
 (cnd (decide ((0 : Int) ≤ x4))
 (C.agg 5 a0[(Int.toNat x4)]? fun l20 =>
 C.lst l20[0]? (fun l21 =>
 C.int .i64 l20[1]? fun x23 =>
 C.int .i64 l20[2]? fun x24 =>
 C.int .i64 l20[3]? fun x25 =>
 C.int .i64 l20[4]? fun x26 =>
 cnd (decide ((((List.length l21) : Nat) : Int) > 12))
 (k1 .ret ⟨[(.agg [(.lst a0), (iz a1), (iz a2), (iz a3), (iz a4), (iz a5), (iz a6), (iz a7), (iz a8)]), (.ptr 0 0 0), bf, (iz x4), (iz x4), (.ptr 0 0 0), (.lst a0), (iz (((List.length a0) : Nat) : Int)), bt, v10, v11, (.ptr 0 0 0), (.lst a0), (iz x4), (.fptr (.agg [(.lst l21), (iz x23), (iz x24), (iz x25), (iz x26)]) 0), (.fptr (.agg [(.lst l21), (iz x23), (iz x24), (iz x25), (iz x26)]) 0), (.lst l21), (iz (((List.length l21) : Nat) : Int)), bt, tz, tz, tz, tz], [some ⟨E24, [(.agg [(.lst a0), (iz a1), (iz a2), (iz a3), (iz a4), (iz a5), (iz a6), (iz a7), (iz a8)])]⟩]⟩)
 (k1 .normal ⟨[(.agg [(.lst a0), (iz a1), (iz a2), (iz a3), (iz a4), (iz a5), (iz a6), (iz a7), (iz a8)]), (.ptr 0 0 0), (.bool b3), (iz (IntKind.wrap .i64 (x4 + 1))), (iz x4), (.ptr 0 0 0), (.lst a0), (iz (((List.length a0) : Nat) : Int)), bt, (iz x4), (iz (IntKind.wrap .i64 (x4 + 1))), (.ptr 0 0 0), (.lst a0), (iz x4), (.fptr (.agg [(.lst l21), (iz x23), (iz x24), (iz x25), (iz x26)]) 0), (.fptr (.agg [(.lst l21), (iz x23), (iz x24), (iz x25), (iz x26)]) 0), (.lst l21), (iz (((List.length l21) : Nat) : Int)), bf, tz, tz, tz, tz], [some ⟨E24, [(.agg [(.lst a0), (iz a1), (iz a2), (iz a3), (iz a4), (iz a5), (iz a6), (iz a7), (iz a8)])]⟩]⟩))
 (fun z22 =>
 C.int .i64 l20[1]? fun x27 =>
 C.int .i64 l20[2]? fun x28 =>
 C.int .i64 l20[3]? fun x29 =>
 C.int .i64 l20[4]? fun x30 =>
 k1 .normal ⟨[(.agg [(.lst a0), (iz a1), (iz a2), (iz a3), (iz a4), (iz a5), (iz a6), (iz a7), (iz a8)]), (.ptr 0 0 0), (.bool b3), (iz (IntKind.wrap .i64 (x4 + 1))), (iz x4), (.ptr 0 0 0), (.lst a0), (iz (((List.length a0) : Nat) : Int)), bt, (iz x4), (iz (IntKind.wrap .i64 (x4 + 1))), (.ptr 0 0 0), (.lst a0), (iz x4), (.fptr (.agg [(.zsl z22), (iz x27), (iz x28), (iz x29), (iz x30)]) 0), (.fptr (.agg [(.zsl z22), (iz x27), (iz x28), (iz x29), (iz x30)]) 0), (.zsl z22), (iz ((0 : Nat) : Int)), bf, tz, tz, tz, tz], [some ⟨E24, [(.agg [(.lst a0), (iz a1), (iz a2), (iz a3), (iz a4), (iz a5), (iz a6), (iz a7), (iz a8)])]⟩]⟩))
 (none))
 (k1 (.exit 0) ⟨[(.agg [(.lst a0), (iz a1), (iz a2), (iz a3), (iz a4), (iz a5), (iz a6), (iz a7), (iz a8)]), (.ptr 0 0 0), (.bool b3), (iz x4), (iz x4), (.ptr 0 0 0), (.lst a0), (iz (((List.length a0) : Nat) : Int)), bf, v10, v11, v12, v13, v14, v15, v16, v17, v18, v19, tz, tz, tz, tz], [some ⟨E24, [(.agg [(.lst a0), (iz a1), (iz a2), (iz a3), (iz a4), (iz a5), (iz a6), (iz a7), (iz a8)])]⟩]⟩))
 (none)
def r8X0_0 (C : Cb) (d : Nat) (a0 : List AV) (a1 a2 a3 a4 a5 a6 a7 a8 : Int) : St → Ans := fun s31 =>
 cnd ((List.length s31.env) == 23)
 (C.same s31.env[0]? (.agg [(.lst a0), (iz a1), (iz a2), (iz a3), (iz a4), (iz a5), (iz a6), (iz a7), (iz a8)]) <|
 C.same s31.env[1]? (.ptr 0 0 0) <|
 C.bool s31.env[2]? fun b32 =>
 C.int .i64 s31.env[3]? fun x33 =>
 C.int .i64 s31.env[4]? fun x34 =>
 C.any s31.env[5]? fun v35 =>
 C.any s31.env[6]? fun v36 =>
 C.int .i64 s31.env[7]? fun x37 =>
 C.bool s31.env[8]? fun b38 =>
 C.any s31.env[9]? fun v39 =>
 C.any s31.env[10]? fun v40 =>
 C.any s31.env[11]? fun v41 =>
 C.any s31.env[12]? fun v42 =>
 C.any s31.env[13]? fun v43 =>
 C.any s31.env[14]? fun v44 =>
 C.any s31.env[15]? fun v45 =>
 C.any s31.env[16]? fun v46 =>
 C.any s31.env[17]? fun v47 =>
 C.any s31.env[18]? fun v48 =>
 C.same s31.env[19]? tz <|
 C.same s31.env[20]? tz <|
 C.same s31.env[21]? tz <|
 C.same s31.env[22]? tz <|
 C.sameH (St.H s31) [some ⟨E24, [(.agg [(.lst a0), (iz a1), (iz a2), (iz a3), (iz a4), (iz a5), (iz a6), (iz a7), (iz a8)])]⟩] <|
 some (.bool (decide ((((List.length a0) : Nat) : Int) ≤ 8))))
 (none)
def r8E0 (C : Cb) (d : Nat) (a0 : List AV) (a1 a2 a3 a4 a5 a6 a7 a8 : Int) : St → Ans := fun s2 =>
 cnd ((List.length s2.env) == 23)
 (C.same s2.env[0]? (.agg [(.lst a0), (iz a1), (iz a2), (iz a3), (iz a4), (iz a5), (iz a6), (iz a7), (iz a8)]) <|
 C.same s2.env[1]? (.ptr 0 0 0) <|
 C.bool s2.env[2]? fun b49 =>
 C.int .i64 s2.env[3]? fun x50 =>
 C.int .i64 s2.env[4]? fun x51 =>
 C.any s2.env[5]? fun v52 =>
 C.any s2.env[6]? fun v53 =>
 C.int .i64 s2.env[7]? fun x54 =>
 C.bool s2.env[8]? fun b55 =>
 C.any s2.env[9]? fun v56 =>
 C.any s2.env[10]? fun v57 =>
 C.any s2.env[11]? fun v58 =>
 C.any s2.env[12]? fun v59 =>
 C.int .i64 s2.env[13]? fun x60 =>
 C.any s2.env[14]? fun v61 =>
 C.any s2.env[15]? fun v62 =>
 C.any s2.env[16]? fun v63 =>
 C.int .i64 s2.env[17]? fun x64 =>
 C.bool s2.env[18]? fun b65 =>
 C.same s2.env[19]? tz <|
 C.same s2.env[20]? tz <|
 C.same s2.env[21]? tz <|
 C.same s2.env[22]? tz <|
 C.sameH (St.H s2) [some ⟨E24, [(.agg [(.lst a0), (iz a1), (iz a2), (iz a3), (iz a4), (iz a5), (iz a6), (iz a7), (iz a8)])]⟩] <|
 some (.bool b49))
 (none)
/-- apogee/apogeeref13.Few -/
theorem r8 (C : Cb) (d : Nat) (a0 : List AV) (a1 a2 a3 a4 a5 a6 a7 a8 : Int) : xcall C M unr d 8 [(.agg [(.lst a0), (iz a1), (iz a2), (iz a3), (iz a4), (iz a5), (iz a6), (iz a7), (iz a8)])] =
 C.iter (r8R0 C d a0 a1 a2 a3 a4 a5 a6 a7 a8) 10000000000000000000 ⟨[(.agg [(.lst a0), (iz a1), (iz a2), (iz a3), (iz a4), (iz a5), (iz a6), (iz a7), (iz a8)]), (.ptr 0 0 0), bf, (iz 0), tz, tz, tz, tz, tz, tz, tz, tz, tz, tz, tz, tz, tz, tz, tz, tz, tz, tz, tz], [some ⟨E24, [(.agg [(.lst a0), (iz a1), (iz a2), (iz a3), (iz a4), (iz a5), (iz a6), (iz a7), (iz a8)])]⟩]⟩ [0] [r8X0_0 C d a0 a1 a2 a3 a4 a5 a6 a7 a8] (r8E0 C d a0 a1 a2 a3 a4 a5 a6 a7 a8) := by kernel_rfl
def r10R0 (C : Cb) (d : Nat) (a0 : List AV) (a1 a2 a3 a4 a5 a6 a7 a8 : Int) : St → (Ex → St → Ans) → Ans := fun s0 k1 =>
 cnd ((List.length s0.env) == 73)
 (C.same s0.env[0]? (.agg [(.lst a0), (iz a1), (iz a2), (iz a3), (iz a4), (iz a5), (iz a6), (iz a7), (iz a8)]) <|
 C.same s0.env[1]? (.ptr 0 0 0) <|
 C.int .i64 s0.env[2]? fun x3 =>
 C.int .i64 s0.env[3]? fun x4 =>
 C.same s0.env[4]? (.ptr 0 0 0) <|
 C.same s0.env[5]? (.lst a0) <|
 C.same s0.env[6]? (iz (((List.length a0) : Nat) : Int)) <|
 C.same s0.env[7]? (.bool (decide ((((List.length a0) : Nat) : Int) < 1))) <|
 C.same s0.env[8]? bf <|
 C.same s0.env[9]? (.ptr 0 0 0) <|
 C.same s0.env[10]? (.lst a0) <|
 C.same s0.env[11]? (iz (((List.length a0) : Nat) : Int)) <|
 C.same s0.env[12]? (.bool (decide ((((List.length a0) : Nat) : Int) > 4))) <|
 C.same s0.env[13]? bf <|
 C.any s0.env[14]? fun v5 =>
 C.any s0.env[15]? fun v6 =>
 C.any s0.env[16]? fun v7 =>
 C.any s0.env[17]? fun v8 =>
 C.any s0.env[18]? fun v9 =>
 C.any s0.env[19]? fun v10 =>
 C.any s0.env[20]? fun v11 =>
 C.any s0.env[21]? fun v12 =>
 C.any s0.env[22]? fun v13 =>
 C.any s0.env[23]? fun v14 =>
 C.any s0.env[24]? fun v15 =>
 C.any s0.env[25]? fun v16 =>
 C.any s0.env[26]? fun v17 =>
 C.any s0.env[27]? fun v18 =>
 C.same s0.env[28]? tz <|
 C.same s0.env[29]? tz <|
 C.same s0.env[30]? tz <|
 C.same s0.env[31]? tz <|
 C.same s0.env[32]? tz <|
 C.same s0.env[33]? tz <|
 C.same s0.env[34]? tz <|
 C.same s0.env[35]? tz <|
 C.same s0.env[36]? tz <|
 C.same s0.env[37]? tz <|
 C.same s0.env[38]? tz <|
 C.same s0.env[39]? tz <|
 C.same s0.env[40]? tz <|
 C.same s0.env[41]? tz <|
 C.same s0.env[42]? tz <|
 C.same s0.env[43]? tz <|
 C.same s0.env[44]? tz <|
 C.same s0.env[45]? tz <|
 C.same s0.env[46]? tz <|
 C.same s0.env[47]? tz <|
 C.same s0.env[48]? tz <|
 C.same s0.env[49]? tz <|
 C.same s0.env[50]? tz <|
 C.same s0.env[51]? tz <|
 C.same s0.env[52]? tz <|
 C.same s0.env[53]? tz <|
 C.same s0.env[54]? tz <|
 C.same s0.env[55]? tz <|
 C.same s0.env[56]? tz <|
 C.same s0.env[57]? tz <|
 C.same s0.env[58]? tz <|
 C.same s0.env[59]? tz <|
 C.same s0.env[60]? tz <|
 C.same s0.env[61]? tz <|
 C.same s0.env[62]? tz <|
 C.same s0.env[63]? tz <|
 C.same s0.env[64]? tz <|
 C.same s0.env[65]? tz <|
 C.same s0.env[66]? tz <|
 C.same s0.env[67]? tz <|
 C.same s0.env[68]? tz <|
 C.same s0.env[69]? tz <|
 C.same s0.env[70]? tz <|
 C.same s0.env[71]? tz <|
 C.same s0.env[72]? tz <|
 C.sameH (St.H s0) [some ⟨E24, [(.agg [(.lst a0), (iz a1), (iz a2), (iz a3), (iz a4), (iz a5), (iz a6), (iz a7), (iz a8)])]⟩] <|
 cnd (decide (x4 < (((List.length a0) : Nat) : Int)))
 (cnd (decide ((0 : Int) ≤ x4))
 (C.agg 5 a0[(Int.toNat x4)]? fun l19 =>
 C.lst l19[0]? (fun l20 =>
 C.int .i64 l19[1]? fun x22 =>
 C.int .i64 l19[2]? fun x23 =>
 C.int .i64 l19[3]? fun x24 =>
 C.int .i64 l19[4]? fun x25 =>
 C.bool (pcall M d 25 [(.agg [(.lst l20), (iz x22), (iz x23), (iz x24), (iz x25)])]) fun b26 =>
 cnd (!b26)
 (k1 .ret ⟨[(.agg [(.lst a0), (iz a1), (iz a2), (iz a3), (iz a4), (iz a5), (iz a6), (iz a7), (iz a8)]), (.ptr 0 0 0), (iz 2), (iz x4), (.ptr 0 0 0), (.lst a0), (iz (((List.length a0) : Nat) : Int)), (.bool (decide ((((List.length a0) : Nat) : Int) < 1))), bf, (.ptr 0 0 0), (.lst a0), (iz (((List.length a0) : Nat) : Int)), (.bool (decide ((((List.length a0) : Nat) : Int) > 4))), bf, (iz x4), (.ptr 0 0 0), (.lst a0), (iz (((List.length a0) : Nat) : Int)), bt, v10, v11, (.ptr 0 0 0), (.lst a0), (iz x4), (.fptr (.agg [(.lst l20), (iz x22), (iz x23), (iz x24), (iz x25)]) 0), (.agg [(.lst l20), (iz x22), (iz x23), (iz x24), (iz x25)]), (.bool b26), bt, tz, tz, tz, tz, tz, tz, tz, tz, tz, tz, tz, tz, tz, tz, tz, tz, tz, tz, tz, tz, tz, tz, tz, tz, tz, tz, tz, tz, tz, tz, tz, tz, tz, tz, tz, tz, tz, tz, tz, tz, tz, tz, tz, tz, tz], [some ⟨E24, [(.agg [(.lst a0), (iz a1), (iz a2), (iz a3), (iz a4), (iz a5), (iz a6), (iz a7), (iz a8)])]⟩]⟩)
 (k1 .normal ⟨[(.agg [(.lst a0), (iz a1), (iz a2), (iz a3), (iz a4), (iz a5), (iz a6), (iz a7), (iz a8)]), (.ptr 0 0 0), (iz x3), (iz (IntKind.wrap .i64 (x4 + 1))), (.ptr 0 0 0), (.lst a0), (iz (((List.length a0) : Nat) : Int)), (.bool (decide ((((List.length a0) : Nat) : Int) < 1))), bf, (.ptr 0 0 0), (.lst a0), (iz (((List.length a0) : Nat) : Int)), (.bool (decide ((((List.length a0) : Nat) : Int) > 4))), bf, (iz x4), (.ptr 0 0 0), (.lst a0), (iz (((List.length a0) : Nat) : Int)), bt, (iz x4), (iz (IntKind.wrap .i64 (x4 + 1))), (.ptr 0 0 0), (.lst a0), (iz x4), (.fptr (.agg [(.lst l20), (iz x22), (iz x23), (iz x24), (iz x25)]) 0), (.agg [(.lst l20), (iz x22), (iz x23), (iz x24), (iz x25)]), (.bool b26), bf, tz, tz, tz, tz, tz, tz, tz, tz, tz, tz, tz, tz, tz, tz, tz, tz, tz, tz, tz, tz, tz, tz, tz, tz, tz, tz, tz, tz, tz, tz, tz, tz, tz, tz, tz, tz, tz, tz, tz, tz, tz, tz, tz, tz, tz], [some ⟨E24, [(.agg [(.lst a0), (iz a1), (iz a2), (iz a3), (iz a4), (iz a5), (iz a6), (iz a7), (iz a8)])]⟩]⟩))
 (fun z21 =>
 C.int .i64 l19[1]? fun x27 =>
 C.int .i64 l19[2]? fun x28 =>
 C.int .i64 l19[3]? fun x29 =>
 C.int .i64 l19[4]? fun x30 =>
 C.bool (pcall M d 25 [(.agg [(.zsl z21), (iz x27), (iz x28), (iz x29), (iz x30)])]) fun b31 =>
 cnd (!b31)
 (k1 .ret ⟨[(.agg [(.lst a0), (iz a1), (iz a2), (iz a3), (iz a4), (iz a5), (iz a6), (iz a7), (iz a8)]), (.ptr 0 0 0), (iz 2), (iz x4), (.ptr 0 0 0), (.lst a0), (iz (((List.length a0) : Nat) : Int)), (.bool (decide ((((List.length a0) : Nat) : Int) < 1))), bf, (.ptr 0 0 0), (.lst a0), (iz (((List.length a0) : Nat) : Int)), (.bool (decide ((((List.length a0) : Nat) : Int) > 4))), bf, (iz x4), (.ptr 0 0 0), (.lst a0), (iz (((List.length a0) : Nat) : Int)), bt, v10, v11, (.ptr 0 0 0), (.lst a0), (iz x4), (.fptr (.agg [(.zsl z21), (iz x27), (iz x28), (iz x29), (iz x30)]) 0), (.agg [(.zsl z21), (iz x27), (iz x28), (iz x29), (iz x30)]), (.bool b31), bt, tz, tz, tz, tz, tz, tz, tz, tz, tz, tz, tz, tz, tz, tz, tz, tz, tz, tz, tz, tz, tz, tz, tz, tz, tz, tz, tz, tz, tz, tz, tz, tz, tz, tz, tz, tz, tz, tz, tz, tz, tz, tz, tz, tz, tz], [some ⟨E24, [(.agg [(.lst a0), (iz a1), (iz a2), (iz a3), (iz a4), (iz a5), (iz a6), (iz a7), (iz a8)])]⟩]⟩)
 (k1 .normal ⟨[(.agg [(.lst a0), (iz a1), (iz a2), (iz a3), (iz a4), (iz a5), (iz a6), (iz a7), (iz a8)]), (.ptr 0 0 0), (iz x3), (iz (IntKind.wrap .i64 (x4 + 1))), (.ptr 0 0 0), (.lst a0), (iz (((List.length a0) : Nat) : Int)), (.bool (decide ((((List.length a0) : Nat) : Int) < 1))), bf, (.ptr 0 0 0), (.lst a0), (iz (((List.length a0) : Nat) : Int)), (.bool (decide ((((List.length a0) : Nat) : Int) > 4))), bf, (iz x4), (.ptr 0 0 0), (.lst a0), (iz (((List.length a0) : Nat) : Int)), bt, (iz x4), (iz (IntKind.wrap .i64 (x4 + 1))), (.ptr 0 0 0), (.lst a0), (iz x4), (.fptr (.agg [(.zsl z21), (iz x27), (iz x28), (iz x29), (iz x30)]) 0), (.agg [(.zsl z21), (iz x27), (iz x28), (iz x29), (iz x30)]), (.bool b31), bf, tz, tz, tz, tz, tz, tz, tz, tz, tz, tz, tz, tz, tz, tz, tz, tz, tz, tz, tz, tz, tz, tz, tz, tz, tz, tz, tz, tz, tz, tz, tz, tz, tz, tz, tz, tz, tz, tz, tz, tz, tz, tz, tz, tz, tz], [some ⟨E24, [(.agg [(.lst a0), (iz a1), (iz a2), (iz a3), (iz a4), (iz a5), (iz a6), (iz a7), (iz a8)])]⟩]⟩)))
 (none))
 (k1 (.exit 0) ⟨[(.agg [(.lst a0), (iz a1), (iz a2), (iz a3), (iz a4), (iz a5), (iz a6), (iz a7), (iz a8)]), (.ptr 0 0 0), (iz x3), (iz x4), (.ptr 0 0 0), (.lst a0), (iz (((List.length a0) : Nat) : Int)), (.bool (decide ((((List.length a0) : Nat) : Int) < 1))), bf, (.ptr 0 0 0), (.lst a0), (iz (((List.length a0) : Nat) : Int)), (.bool (decide ((((List.length a0) : Nat) : Int) > 4))), bf, (iz x4), (.ptr 0 0 0), (.lst a0), (iz (((List.length a0) : Nat) : Int)), bf, v10, v11, v12, v13, v14, v15, v16, v17, v18, tz, tz, tz, tz, tz, tz, tz, tz, tz, tz, tz, tz, tz, tz, tz, tz, tz, tz, tz, tz, tz, tz, tz, tz, tz, tz, tz, tz, tz, tz, tz, tz, tz, tz, tz, tz, tz, tz, tz, tz, tz, tz, tz, tz, tz], [some ⟨E24, [(.agg [(.lst a0), (iz a1), (iz a2), (iz a3), (iz a4), (iz a5), (iz a6), (iz a7), (iz a8)])]⟩]⟩))
 (none)
def r10X0_0 (C : Cb) (d : Nat) (a0 : List AV) (a1 a2 a3 a4 a5 a6 a7 a8 : Int) : St → Ans := fun s32 =>
 cnd ((List.length s32.env) == 73)
 (C.same s32.env[0]? (.agg [(.lst a0), (iz a1), (iz a2), (iz a3), (iz a4), (iz a5), (iz a6), (iz a7), (iz a8)]) <|
 C.same s32.env[1]? (.ptr 0 0 0) <|
 C.int .i64 s32.env[2]? fun x33 =>
 C.int .i64 s32.env[3]? fun x34 =>
 C.same s32.env[4]? (.ptr 0 0 0) <|
 C.same s32.env[5]? (.lst a0) <|
 C.same s32.env[6]? (iz (((List.length a0) : Nat) : Int)) <|
 C.same s32.env[7]? (.bool (decide ((((List.length a0) : Nat) : Int) < 1))) <|
 C.same s32.env[8]? bf <|
 C.same s32.env[9]? (.ptr 0 0 0) <|
 C.same s32.env[10]? (.lst a0) <|
 C.same s32.env[11]? (iz (((List.length a0) : Nat) : Int)) <|
 C.same s32.env[12]? (.bool (decide ((((List.length a0) : Nat) : Int) > 4))) <|
 C.same s32.env[13]? bf <|
 C.int .i64 s32.env[14]? fun x35 =>
 C.any s32.env[15]? fun v36 =>
 C.any s32.env[16]? fun v37 =>
 C.int .i64 s32.env[17]? fun x38 =>
 C.bool s32.env[18]? fun b39 =>
 C.any s32.env[19]? fun v40 =>
 C.any s32.env[20]? fun v41 =>
 C.any s32.env[21]? fun v42 =>
 C.any s32.env[22]? fun v43 =>
 C.any s32.env[23]? fun v44 =>
 C.any s32.env[24]? fun v45 =>
 C.any s32.env[25]? fun v46 =>
 C.any s32.env[26]? fun v47 =>
 C.any s32.env[27]? fun v48 =>
 C.same s32.env[28]? tz <|
 C.same s32.env[29]? tz <|
 C.same s32.env[30]? tz <|
 C.same s32.env[31]? tz <|
 C.same s32.env[32]? tz <|
 C.same s32.env[33]? tz <|
 C.same s32.env[34]? tz <|
 C.same s32.env[35]? tz <|
 C.same s32.env[36]? tz <|
 C.same s32.env[37]? tz <|
 C.same s32.env[38]? tz <|
 C.same s32.env[39]? tz <|
 C.same s32.env[40]? tz <|
 C.same s32.env[41]? tz <|
 C.same s32.env[42]? tz <|
 C.same s32.env[43]? tz <|
 C.same s32.env[44]? tz <|
 C.same s32.env[45]? tz <|
 C.same s32.env[46]? tz <|
 C.same s32.env[47]? tz <|
 C.same s32.env[48]? tz <|
 C.same s32.env[49]? tz <|
 C.same s32.env[50]? tz <|
 C.same s32.env[51]? tz <|
 C.same s32.env[52]? tz <|
 C.same s32.env[53]? tz <|
 C.same s32.env[54]? tz <|
 C.same s32.env[55]? tz <|
 C.same s32.env[56]? tz <|
 C.same s32.env[57]? tz <|
 C.same s32.env[58]? tz <|
 C.same s32.env[59]? tz <|
 C.same s32.env[60]? tz <|
 C.same s32.env[61]? tz <|
 C.same s32.env[62]? tz <|
 C.same s32.env[63]? tz <|
 C.same s32.env[64]? tz <|
 C.same s32.env[65]? tz <|
 C.same s32.env[66]? tz <|
 C.same s32.env[67]? tz <|
 C.same s32.env[68]? tz <|
 C.same s32.env[69]? tz <|
 C.same s32.env[70]? tz <|
 C.same s32.env[71]? tz <|
 C.same s32.env[72]? tz <|
 C.sameH (St.H s32) [some ⟨E24, [(.agg [(.lst a0), (iz a1), (iz a2), (iz a3), (iz a4), (iz a5), (iz a6), (iz a7), (iz a8)])]⟩] <|
 C.bool (pcall M d 26 [(iz a1), (iz 1), (iz 50)]) fun b49 =>
 cnd (!b49)
 (some (iz 3))
 (C.bool (pcall M d 26 [(iz a2), (iz 1), (iz 50)]) fun b50 =>
 cnd (!b50)
 (some (iz 3))
 (C.bool (pcall M d 26 [(iz a3), (iz 1), (iz 50)]) fun b51 =>
 cnd (!b51)
 (some (iz 3))
 (C.bool (pcall M d 26 [(iz a4), (iz 0), (iz 1024)]) fun b52 =>
 cnd (!b52)
 (some (iz 4))
 (C.bool (pcall M d 26 [(iz a5), (iz 1), (iz 65536)]) fun b53 =>
 cnd (!b53)
 (some (iz 5))
 (C.bool (pcall M d 26 [(iz a6), (iz 1), (iz 50)]) fun b54 =>
 cnd (!b54)
 (some (iz 6))
 (C.bool (pcall M d 26 [(iz a7), (iz 1), (iz 1073741824)]) fun b55 =>
 cnd (!b55)
 (some (iz 7))
 (C.bool (pcall M d 26 [(iz a8), (iz 0), (iz (((List.length a0) : Nat) : Int))]) fun b56 =>
 cnd (!b56)
 (some (iz 8))
 (some (iz 0))))))))))
 (none)
def r10E0 (C : Cb) (d : Nat) (a0 : List AV) (a1 a2 a3 a4 a5 a6 a7 a8 : Int) : St → Ans := fun s2 =>
 cnd ((List.length s2.env) == 73)
 (C.same s2.env[0]? (.agg [(.lst a0), (iz a1), (iz a2), (iz a3), (iz a4), (iz a5), (iz a6), (iz a7), (iz a8)]) <|
 C.same s2.env[1]? (.ptr 0 0 0) <|
 C.int .i64 s2.env[2]? fun x57 =>
 C.int .i64 s2.env[3]? fun x58 =>
 C.same s2.env[4]? (.ptr 0 0 0) <|
 C.same s2.env[5]? (.lst a0) <|
 C.same s2.env[6]? (iz (((List.length a0) : Nat) : Int)) <|
 C.same s2.env[7]? (.bool (decide ((((List.length a0) : Nat) : Int) < 1))) <|
 C.same s2.env[8]? bf <|
 C.same s2.env[9]? (.ptr 0 0 0) <|
 C.same s2.env[10]? (.lst a0) <|
 C.same s2.env[11]? (iz (((List.length a0) : Nat) : Int)) <|
 C.same s2.env[12]? (.bool (decide ((((List.length a0) : Nat) : Int) > 4))) <|
 C.same s2.env[13]? bf <|
 C.int .i64 s2.env[14]? fun x59 =>
 C.any s2.env[15]? fun v60 =>
 C.any s2.env[16]? fun v61 =>
 C.int .i64 s2.env[17]? fun x62 =>
 C.bool s2.env[18]? fun b63 =>
 C.any s2.env[19]? fun v64 =>
 C.any s2.env[20]? fun v65 =>
 C.any s2.env[21]? fun v66 =>
 C.any s2.env[22]? fun v67 =>
 C.int .i64 s2.env[23]? fun x68 =>
 C.any s2.env[24]? fun v69 =>
 C.agg 5 s2.env[25]? fun l70 =>
 C.any l70[0]? fun v71 =>
 C.int .i64 l70[1]? fun x72 =>
 C.int .i64 l70[2]? fun x73 =>
 C.int .i64 l70[3]? fun x74 =>
 C.int .i64 l70[4]? fun x75 =>
 C.bool s2.env[26]? fun b76 =>
 C.bool s2.env[27]? fun b77 =>
 C.same s2.env[28]? tz <|
 C.same s2.env[29]? tz <|
 C.same s2.env[30]? tz <|
 C.same s2.env[31]? tz <|
 C.same s2.env[32]? tz <|
 C.same s2.env[33]? tz <|
 C.same s2.env[34]? tz <|
 C.same s2.env[35]? tz <|
 C.same s2.env[36]? tz <|
 C.same s2.env[37]? tz <|
 C.same s2.env[38]? tz <|
 C.same s2.env[39]? tz <|
 C.same s2.env[40]? tz <|
 C.same s2.env[41]? tz <|
 C.same s2.env[42]? tz <|
 C.same s2.env[43]? tz <|
 C.same s2.env[44]? tz <|
 C.same s2.env[45]? tz <|
 C.same s2.env[46]? tz <|
 C.same s2.env[47]? tz <|
 C.same s2.env[48]? tz <|
 C.same s2.env[49]? tz <|
 C.same s2.env[50]? tz <|
 C.same s2.env[51]? tz <|
 C.same s2.env[52]? tz <|
 C.same s2.env[53]? tz <|
 C.same s2.env[54]? tz <|
 C.same s2.env[55]? tz <|
 C.same s2.env[56]? tz <|
 C.same s2.env[57]? tz <|
 C.same s2.env[58]? tz <|
 C.same s2.env[59]? tz <|
 C.same s2.env[60]? tz <|
 C.same s2.env[61]? tz <|
 C.same s2.env[62]? tz <|
 C.same s2.env[63]? tz <|
 C.same s2.env[64]? tz <|
 C.same s2.env[65]? tz <|
 C.same s2.env[66]? tz <|
 C.same s2.env[67]? tz <|
 C.same s2.env[68]? tz <|
 C.same s2.env[69]? tz <|
 C.same s2.env[70]? tz <|
 C.same s2.env[71]? tz <|
 C.same s2.env[72]? tz <|
 C.sameH (St.H s2) [some ⟨E24, [(.agg [(.lst a0), (iz a1), (iz a2), (iz a3), (iz a4), (iz a5), (iz a6), (iz a7), (iz a8)])]⟩] <|
 some (iz x57))
 (none)
/-- apogee/apogeeref13.Wrong -/
theorem r10 (C : Cb) (d : Nat) (a0 : List AV) (a1 a2 a3 a4 a5 a6 a7 a8 : Int) : xcall C M unr d 10 [(.agg [(.lst a0), (iz a1), (iz a2), (iz a3), (iz a4), (iz a5), (iz a6), (iz a7), (iz a8)])] =
 cnd (decide ((((List.length a0) : Nat) : Int) < 1))
 (some (iz 1))
 (cnd (decide ((((List.length a0) : Nat) : Int) > 4))
 (some (iz 1))
 (C.iter (r10R0 C d a0 a1 a2 a3 a4 a5 a6 a7 a8) 10000000000000000000 ⟨[(.agg [(.lst a0), (iz a1), (iz a2), (iz a3), (iz a4), (iz a5), (iz a6), (iz a7), (iz a8)]), (.ptr 0 0 0), (iz 0), (iz 0), (.ptr 0 0 0), (.lst a0), (iz (((List.length a0) : Nat) : Int)), (.bool (decide ((((List.length a0) : Nat) : Int) < 1))), bf, (.ptr 0 0 0), (.lst a0), (iz (((List.length a0) : Nat) : Int)), (.bool (decide ((((List.length a0) : Nat) : Int) > 4))), bf, tz, tz, tz, tz, tz, tz, tz, tz, tz, tz, tz, tz, tz, tz, tz, tz, tz, tz, tz, tz, tz, tz, tz, tz, tz, tz, tz, tz, tz, tz, tz, tz, tz, tz, tz, tz, tz, tz, tz, tz, tz, tz, tz, tz, tz, tz, tz, tz, tz, tz, tz, tz, tz, tz, tz, tz, tz, tz, tz], [some ⟨E24, [(.agg [(.lst a0), (iz a1), (iz a2), (iz a3), (iz a4), (iz a5), (iz a6), (iz a7), (iz a8)])]⟩]⟩ [0] [r10X0_0 C d a0 a1 a2 a3 a4 a5 a6 a7 a8] (r10E0 C d a0 a1 a2 a3 a4 a5 a6 a7 a8))) := by kernel_rfl
/-- apogee/rules.Right -/
theorem r22 (C : Cb) (d : Nat) (a0 : List AV) (a1 a2 a3 a4 a5 a6 a7 a8 : Int) : xcall C M unr d 22 [(.agg [(.lst a0), (iz a1), (iz a2), (iz a3), (iz a4), (iz a5), (iz a6), (iz a7), (iz a8)])] =
 C.int .i64 (pcall M d 33 [(.agg [(.lst a0), (iz a1), (iz a2), (iz a3), (iz a4), (iz a5), (iz a6), (iz a7), (iz a8)])]) fun x0 =>
 some (.bool (x0 == 0)) := by kernel_rfl
def r23R0 (C : Cb) (d : Nat) (a0 : AV) (a1 a2 a3 a4 a5 a6 a7 a8 : Int) (n0 : Nat) (K0 : AV → Heap → Ans) (v0 v2 v4 v6 v9 v13 v15 : AV) (x19 : Int) : St → (Ex → St → Ans) → Ans := fun s20 k21 =>
 cnd ((List.length s20.env) == 28)
 (C.same s20.env[0]? (.agg [a0, (iz a1), (iz a2), (iz a3), (iz a4), (iz a5), (iz a6), (iz a7), (iz a8)]) <|
 C.same s20.env[1]? v0 <|
 C.same s20.env[2]? v2 <|
 C.any s20.env[3]? fun v23 =>
 C.same s20.env[4]? v4 <|
 C.same s20.env[5]? v6 <|
 C.same s20.env[6]? (.lst []) <|
 C.same s20.env[7]? v9 <|
 C.same s20.env[8]? v13 <|
 C.same s20.env[9]? v15 <|
 C.same s20.env[10]? (iz x19) <|
 C.int .i64 s20.env[11]? fun x24 =>
 C.any s20.env[12]? fun v25 =>
 C.any s20.env[13]? fun v26 =>
 C.any s20.env[14]? fun v27 =>
 C.any s20.env[15]? fun v28 =>
 C.any s20.env[16]? fun v29 =>
 C.any s20.env[17]? fun v30 =>
 C.any s20.env[18]? fun v31 =>
 C.any s20.env[19]? fun v32 =>
 C.any s20.env[20]? fun v33 =>
 C.any s20.env[21]? fun v34 =>
 C.any s20.env[22]? fun v35 =>
 C.any s20.env[23]? fun v36 =>
 C.any s20.env[24]? fun v37 =>
 C.any s20.env[25]? fun v38 =>
 C.any s20.env[26]? fun v39 =>
 C.same s20.env[27]? tz <|
 cnd (decide (x24 < x19))
 (C.hop (St.H s20) (.fldA 0 (.v v0)) fun v40 h41 =>
 C.hop h41 (.load false 1 (.v v40)) fun v42 h43 =>
 C.hop h43 (.fldA 0 (.v v0)) fun v44 h45 =>
 C.hop h45 (.load false 1 (.v v44)) fun v46 h47 =>
 C.hop h47 (.ixAS .any 5 (.v v46) (.v (iz x24))) fun v48 h49 =>
 C.hop h49 (.fldA 0 (.v v48)) fun v50 h51 =>
 C.hop h51 (.load false 1 (.v v50)) fun v52 h53 =>
 C.cal M (pcall M d) (n0 + 8) false 35 [v52] h53 fun v54 h55 =>
 C.any (some v54) fun v56 =>
 C.hop h55 (.ixAS .any 5 (.v v42) (.v (iz x24))) fun v57 h58 =>
 C.hop h58 (.fldA 0 (.v v57)) fun v59 h60 =>
 C.hop h60 (.store 1 (.v v59) (.v v56)) fun v61 h62 =>
 k21 .normal ⟨[(.agg [a0, (iz a1), (iz a2), (iz a3), (iz a4), (iz a5), (iz a6), (iz a7), (iz a8)]), v0, v2, (iz x24), v4, v6, (.lst []), v9, v13, v15, (iz x19), (iz (IntKind.wrap .i64 (x24 + 1))), bt, (iz x24), v40, v42, (iz x24), v44, v46, (iz x24), v48, v50, v52, v56, v57, v59, (iz (IntKind.wrap .i64 (x24 + 1))), tz], h62⟩)
 (k21 (.exit 0) ⟨[(.agg [a0, (iz a1), (iz a2), (iz a3), (iz a4), (iz a5), (iz a6), (iz a7), (iz a8)]), v0, v2, v23, v4, v6, (.lst []), v9, v13, v15, (iz x19), (iz x24), bf, v26, v27, v28, v29, v30, v31, v32, v33, v34, v35, v36, v37, v38, v39, tz], (St.H s20)⟩))
 (none)
def r23X0_0 (C : Cb) (d : Nat) (a0 : AV) (a1 a2 a3 a4 a5 a6 a7 a8 : Int) (n0 : Nat) (K0 : AV → Heap → Ans) (v0 v2 v4 v6 v9 v13 v15 : AV) (x19 : Int) : St → Ans := fun s63 =>
 cnd ((List.length s63.env) == 28)
 (C.same s63.env[0]? (.agg [a0, (iz a1), (iz a2), (iz a3), (iz a4), (iz a5), (iz a6), (iz a7), (iz a8)]) <|
 C.same s63.env[1]? v0 <|
 C.same s63.env[2]? v2 <|
 C.any s63.env[3]? fun v64 =>
 C.same s63.env[4]? v4 <|
 C.same s63.env[5]? v6 <|
 C.same s63.env[6]? (.lst []) <|
 C.same s63.env[7]? v9 <|
 C.same s63.env[8]? v13 <|
 C.same s63.env[9]? v15 <|
 C.same s63.env[10]? (iz x19) <|
 C.int .i64 s63.env[11]? fun x65 =>
 C.any s63.env[12]? fun v66 =>
 C.any s63.env[13]? fun v67 =>
 C.any s63.env[14]? fun v68 =>
 C.any s63.env[15]? fun v69 =>
 C.any s63.env[16]? fun v70 =>
 C.any s63.env[17]? fun v71 =>
 C.any s63.env[18]? fun v72 =>
 C.any s63.env[19]? fun v73 =>
 C.any s63.env[20]? fun v74 =>
 C.any s63.env[21]? fun v75 =>
 C.any s63.env[22]? fun v76 =>
 C.any s63.env[23]? fun v77 =>
 C.any s63.env[24]? fun v78 =>
 C.any s63.env[25]? fun v79 =>
 C.any s63.env[26]? fun v80 =>
 C.same s63.env[27]? tz <|
 C.hop (St.H s63) (.load true 9 (.v v0)) fun v81 h82 =>
 C.agg 9 (some v81) fun l83 =>
 C.any l83[0]? fun v84 =>
 C.int .i64 l83[1]? fun x85 =>
 C.int .i64 l83[2]? fun x86 =>
 C.int .i64 l83[3]? fun x87 =>
 C.int .i64 l83[4]? fun x88 =>
 C.int .i64 l83[5]? fun x89 =>
 C.int .i64 l83[6]? fun x90 =>
 C.int .i64 l83[7]? fun x91 =>
 C.int .i64 l83[8]? fun x92 =>
 C.hop h82 (.store 9 (.v v2) (.v (.agg [v84, (iz x85), (iz x86), (iz x87), (iz x88), (iz x89), (iz x90), (iz x91), (iz x92)]))) fun v93 h94 =>
 C.hop h94 (.load true 9 (.v v2)) fun v95 h96 =>
 K0 v95 h94)
 (none)
def r23E0 (C : Cb) (d : Nat) (a0 : AV) (a1 a2 a3 a4 a5 a6 a7 a8 : Int) (n0 : Nat) (K0 : AV → Heap → Ans) (v0 v2 v4 v6 v9 v13 v15 : AV) (x19 : Int) : St → Ans := fun s22 =>
 cnd ((List.length s22.env) == 28)
 (C.same s22.env[0]? (.agg [a0, (iz a1), (iz a2), (iz a3), (iz a4), (iz a5), (iz a6), (iz a7), (iz a8)]) <|
 C.same s22.env[1]? v0 <|
 C.same s22.env[2]? v2 <|
 C.any s22.env[3]? fun v97 =>
 C.same s22.env[4]? v4 <|
 C.same s22.env[5]? v6 <|
 C.same s22.env[6]? (.lst []) <|
 C.same s22.env[7]? v9 <|
 C.same s22.env[8]? v13 <|
 C.same s22.env[9]? v15 <|
 C.same s22.env[10]? (iz x19) <|
 C.int .i64 s22.env[11]? fun x98 =>
 C.any s22.env[12]? fun v99 =>
 C.any s22.env[13]? fun v100 =>
 C.any s22.env[14]? fun v101 =>
 C.any s22.env[15]? fun v102 =>
 C.any s22.env[16]? fun v103 =>
 C.any s22.env[17]? fun v104 =>
 C.any s22.env[18]? fun v105 =>
 C.any s22.env[19]? fun v106 =>
 C.any s22.env[20]? fun v107 =>
 C.any s22.env[21]? fun v108 =>
 C.any s22.env[22]? fun v109 =>
 C.any s22.env[23]? fun v110 =>
 C.any s22.env[24]? fun v111 =>
 C.any s22.env[25]? fun v112 =>
 C.any s22.env[26]? fun v113 =>
 C.same s22.env[27]? tz <|
 C.hop (St.H s22) (.load true 9 (.v v2)) fun v114 h115 =>
 K0 v114 (St.H s22))
 (none)
def r23R2 (C : Cb) (d : Nat) (a0 : AV) (a1 a2 a3 a4 a5 a6 a7 a8 : Int) (n0 : Nat) (K0 : AV → Heap → Ans) (v0 v2 v4 v6 v119 v123 v125 : AV) (x129 : Int) : St → (Ex → St → Ans) → Ans := fun s130 k131 =>
 cnd ((List.length s130.env) == 28)
 (C.same s130.env[0]? (.agg [a0, (iz a1), (iz a2), (iz a3), (iz a4), (iz a5), (iz a6), (iz a7), (iz a8)]) <|
 C.same s130.env[1]? v0 <|
 C.same s130.env[2]? v2 <|
 C.any s130.env[3]? fun v133 =>
 C.same s130.env[4]? v4 <|
 C.same s130.env[5]? v6 <|
 C.same s130.env[6]? (.zsl true) <|
 C.same s130.env[7]? v119 <|
 C.same s130.env[8]? v123 <|
 C.same s130.env[9]? v125 <|
 C.same s130.env[10]? (iz x129) <|
 C.int .i64 s130.env[11]? fun x134 =>
 C.any s130.env[12]? fun v135 =>
 C.any s130.env[13]? fun v136 =>
 C.any s130.env[14]? fun v137 =>
 C.any s130.env[15]? fun v138 =>
 C.any s130.env[16]? fun v139 =>
 C.any s130.env[17]? fun v140 =>
 C.any s130.env[18]? fun v141 =>
 C.any s130.env[19]? fun v142 =>
 C.any s130.env[20]? fun v143 =>
 C.any s130.env[21]? fun v144 =>
 C.any s130.env[22]? fun v145 =>
 C.any s130.env[23]? fun v146 =>
 C.any s130.env[24]? fun v147 =>
 C.any s130.env[25]? fun v148 =>
 C.any s130.env[26]? fun v149 =>
 C.same s130.env[27]? tz <|
 cnd (decide (x134 < x129))
 (C.hop (St.H s130) (.fldA 0 (.v v0)) fun v150 h151 =>
 C.hop h151 (.load false 1 (.v v150)) fun v152 h153 =>
 C.hop h153 (.fldA 0 (.v v0)) fun v154 h155 =>
 C.hop h155 (.load false 1 (.v v154)) fun v156 h157 =>
 C.hop h157 (.ixAS .any 5 (.v v156) (.v (iz x134))) fun v158 h159 =>
 C.hop h159 (.fldA 0 (.v v158)) fun v160 h161 =>
 C.hop h161 (.load false 1 (.v v160)) fun v162 h163 =>
 C.cal M (pcall M d) (n0 + 8) false 35 [v162] h163 fun v164 h165 =>
 C.any (some v164) fun v166 =>
 C.hop h165 (.ixAS .any 5 (.v v152) (.v (iz x134))) fun v167 h168 =>
 C.hop h168 (.fldA 0 (.v v167)) fun v169 h170 =>
 C.hop h170 (.store 1 (.v v169) (.v v166)) fun v171 h172 =>
 k131 .normal ⟨[(.agg [a0, (iz a1), (iz a2), (iz a3), (iz a4), (iz a5), (iz a6), (iz a7), (iz a8)]), v0, v2, (iz x134), v4, v6, (.zsl true), v119, v123, v125, (iz x129), (iz (IntKind.wrap .i64 (x134 + 1))), bt, (iz x134), v150, v152, (iz x134), v154, v156, (iz x134), v158, v160, v162, v166, v167, v169, (iz (IntKind.wrap .i64 (x134 + 1))), tz], h172⟩)
 (k131 (.exit 0) ⟨[(.agg [a0, (iz a1), (iz a2), (iz a3), (iz a4), (iz a5), (iz a6), (iz a7), (iz a8)]), v0, v2, v133, v4, v6, (.zsl true), v119, v123, v125, (iz x129), (iz x134), bf, v136, v137, v138, v139, v140, v141, v142, v143, v144, v145, v146, v147, v148, v149, tz], (St.H s130)⟩))
 (none)
def r23X2_0 (C : Cb) (d : Nat) (a0 : AV) (a1 a2 a3 a4 a5 a6 a7 a8 : Int) (n0 : Nat) (K0 : AV → Heap → Ans) (v0 v2 v4 v6 v119 v123 v125 : AV) (x129 : Int) : St → Ans := fun s173 =>
 cnd ((List.length s173.env) == 28)
 (C.same s173.env[0]? (.agg [a0, (iz a1), (iz a2), (iz a3), (iz a4), (iz a5), (iz a6), (iz a7), (iz a8)]) <|
 C.same s173.env[1]? v0 <|
 C.same s173.env[2]? v2 <|
 C.any s173.env[3]? fun v174 =>
 C.same s173.env[4]? v4 <|
 C.same s173.env[5]? v6 <|
 C.same s173.env[6]? (.zsl true) <|
 C.same s173.env[7]? v119 <|
 C.same s173.env[8]? v123 <|
 C.same s173.env[9]? v125 <|
 C.same s173.env[10]? (iz x129) <|
 C.int .i64 s173.env[11]? fun x175 =>
 C.any s173.env[12]? fun v176 =>
 C.any s173.env[13]? fun v177 =>
 C.any s173.env[14]? fun v178 =>
 C.any s173.env[15]? fun v179 =>
 C.any s173.env[16]? fun v180 =>
 C.any s173.env[17]? fun v181 =>
 C.any s173.env[18]? fun v182 =>
 C.any s173.env[19]? fun v183 =>
 C.any s173.env[20]? fun v184 =>
 C.any s173.env[21]? fun v185 =>
 C.any s173.env[22]? fun v186 =>
 C.any s173.env[23]? fun v187 =>
 C.any s173.env[24]? fun v188 =>
 C.any s173.env[25]? fun v189 =>
 C.any s173.env[26]? fun v190 =>
 C.same s173.env[27]? tz <|
 C.hop (St.H s173) (.load true 9 (.v v0)) fun v191 h192 =>
 C.agg 9 (some v191) fun l193 =>
 C.any l193[0]? fun v194 =>
 C.int .i64 l193[1]? fun x195 =>
 C.int .i64 l193[2]? fun x196 =>
 C.int .i64 l193[3]? fun x197 =>
 C.int .i64 l193[4]? fun x198 =>
 C.int .i64 l193[5]? fun x199 =>
 C.int .i64 l193[6]? fun x200 =>
 C.int .i64 l193[7]? fun x201 =>
 C.int .i64 l193[8]? fun x202 =>
 C.hop h192 (.store 9 (.v v2) (.v (.agg [v194, (iz x195), (iz x196), (iz x197), (iz x198), (iz x199), (iz x200), (iz x201), (iz x202)]))) fun v203 h204 =>
 C.hop h204 (.load true 9 (.v v2)) fun v205 h206 =>
 K0 v205 h204)
 (none)
def r23E2 (C : Cb) (d : Nat) (a0 : AV) (a1 a2 a3 a4 a5 a6 a7 a8 : Int) (n0 : Nat) (K0 : AV → Heap → Ans) (v0 v2 v4 v6 v119 v123 v125 : AV) (x129 : Int) : St → Ans := fun s132 =>
 cnd ((List.length s132.env) == 28)
 (C.same s132.env[0]? (.agg [a0, (iz a1), (iz a2), (iz a3), (iz a4), (iz a5), (iz a6), (iz a7), (iz a8)]) <|
 C.same s132.env[1]? v0 <|
 C.same s132.env[2]? v2 <|
 C.any s132.env[3]? fun v207 =>
 C.same s132.env[4]? v4 <|
 C.same s132.env[5]? v6 <|
 C.same s132.env[6]? (.zsl true) <|
 C.same s132.env[7]? v119 <|
 C.same s132.env[8]? v123 <|
 C.same s132.env[9]? v125 <|
 C.same s132.env[10]? (iz x129) <|
 C.int .i64 s132.env[11]? fun x208 =>
 C.any s132.env[12]? fun v209 =>
 C.any s132.env[13]? fun v210 =>
 C.any s132.env[14]? fun v211 =>
 C.any s132.env[15]? fun v212 =>
 C.any s132.env[16]? fun v213 =>
 C.any s132.env[17]? fun v214 =>
 C.any s132.env[18]? fun v215 =>
 C.any s132.env[19]? fun v216 =>
 C.any s132.env[20]? fun v217 =>
 C.any s132.env[21]? fun v218 =>
 C.any s132.env[22]? fun v219 =>
 C.any s132.env[23]? fun v220 =>
 C.any s132.env[24]? fun v221 =>
 C.any s132.env[25]? fun v222 =>
 C.any s132.env[26]? fun v223 =>
 C.same s132.env[27]? tz <|
 C.hop (St.H s132) (.load true 9 (.v v2)) fun v224 h225 =>
 K0 v224 (St.H s132))
 (none)
def r23R4 (C : Cb) (d : Nat) (a0 : AV) (a1 a2 a3 a4 a5 a6 a7 a8 : Int) (n0 : Nat) (K0 : AV → Heap → Ans) (v0 v2 v4 v6 v228 v230 v234 v236 : AV) (x240 : Int) : St → (Ex → St → Ans) → Ans := fun s241 k242 =>
 cnd ((List.length s241.env) == 28)
 (C.same s241.env[0]? (.agg [a0, (iz a1), (iz a2), (iz a3), (iz a4), (iz a5), (iz a6), (iz a7), (iz a8)]) <|
 C.same s241.env[1]? v0 <|
 C.same s241.env[2]? v2 <|
 C.any s241.env[3]? fun v244 =>
 C.same s241.env[4]? v4 <|
 C.same s241.env[5]? v6 <|
 C.same s241.env[6]? v228 <|
 C.same s241.env[7]? v230 <|
 C.same s241.env[8]? v234 <|
 C.same s241.env[9]? v236 <|
 C.same s241.env[10]? (iz x240) <|
 C.int .i64 s241.env[11]? fun x245 =>
 C.any s241.env[12]? fun v246 =>
 C.any s241.env[13]? fun v247 =>
 C.any s241.env[14]? fun v248 =>
 C.any s241.env[15]? fun v249 =>
 C.any s241.env[16]? fun v250 =>
 C.any s241.env[17]? fun v251 =>
 C.any s241.env[18]? fun v252 =>
 C.any s241.env[19]? fun v253 =>
 C.any s241.env[20]? fun v254 =>
 C.any s241.env[21]? fun v255 =>
 C.any s241.env[22]? fun v256 =>
 C.any s241.env[23]? fun v257 =>
 C.any s241.env[24]? fun v258 =>
 C.any s241.env[25]? fun v259 =>
 C.any s241.env[26]? fun v260 =>
 C.same s241.env[27]? tz <|
 cnd (decide (x245 < x240))
 (C.hop (St.H s241) (.fldA 0 (.v v0)) fun v261 h262 =>
 C.hop h262 (.load false 1 (.v v261)) fun v263 h264 =>
 C.hop h264 (.fldA 0 (.v v0)) fun v265 h266 =>
 C.hop h266 (.load false 1 (.v v265)) fun v267 h268 =>
 C.hop h268 (.ixAS .any 5 (.v v267) (.v (iz x245))) fun v269 h270 =>
 C.hop h270 (.fldA 0 (.v v269)) fun v271 h272 =>
 C.hop h272 (.load false 1 (.v v271)) fun v273 h274 =>
 C.cal M (pcall M d) (n0 + 8) false 35 [v273] h274 fun v275 h276 =>
 C.any (some v275) fun v277 =>
 C.hop h276 (.ixAS .any 5 (.v v263) (.v (iz x245))) fun v278 h279 =>
 C.hop h279 (.fldA 0 (.v v278)) fun v280 h281 =>
 C.hop h281 (.store 1 (.v v280) (.v v277)) fun v282 h283 =>
 k242 .normal ⟨[(.agg [a0, (iz a1), (iz a2), (iz a3), (iz a4), (iz a5), (iz a6), (iz a7), (iz a8)]), v0, v2, (iz x245), v4, v6, v228, v230, v234, v236, (iz x240), (iz (IntKind.wrap .i64 (x245 + 1))), bt, (iz x245), v261, v263, (iz x245), v265, v267, (iz x245), v269, v271, v273, v277, v278, v280, (iz (IntKind.wrap .i64 (x245 + 1))), tz], h283⟩)
 (k242 (.exit 0) ⟨[(.agg [a0, (iz a1), (iz a2), (iz a3), (iz a4), (iz a5), (iz a6), (iz a7), (iz a8)]), v0, v2, v244, v4, v6, v228, v230, v234, v236, (iz x240), (iz x245), bf, v247, v248, v249, v250, v251, v252, v253, v254, v255, v256, v257, v258, v259, v260, tz], (St.H s241)⟩))
 (none)
def r23X4_0 (C : Cb) (d : Nat) (a0 : AV) (a1 a2 a3 a4 a5 a6 a7 a8 : Int) (n0 : Nat) (K0 : AV → Heap → Ans) (v0 v2 v4 v6 v228 v230 v234 v236 : AV) (x240 : Int) : St → Ans := fun s284 =>
 cnd ((List.length s284.env) == 28)
 (C.same s284.env[0]? (.agg [a0, (iz a1), (iz a2), (iz a3), (iz a4), (iz a5), (iz a6), (iz a7), (iz a8)]) <|
 C.same s284.env[1]? v0 <|
 C.same s284.env[2]? v2 <|
 C.any s284.env[3]? fun v285 =>
 C.same s284.env[4]? v4 <|
 C.same s284.env[5]? v6 <|
 C.same s284.env[6]? v228 <|
 C.same s284.env[7]? v230 <|
 C.same s284.env[8]? v234 <|
 C.same s284.env[9]? v236 <|
 C.same s284.env[10]? (iz x240) <|
 C.int .i64 s284.env[11]? fun x286 =>
 C.any s284.env[12]? fun v287 =>
 C.any s284.env[13]? fun v288 =>
 C.any s284.env[14]? fun v289 =>
 C.any s284.env[15]? fun v290 =>
 C.any s284.env[16]? fun v291 =>
 C.any s284.env[17]? fun v292 =>
 C.any s284.env[18]? fun v293 =>
 C.any s284.env[19]? fun v294 =>
 C.any s284.env[20]? fun v295 =>
 C.any s284.env[21]? fun v296 =>
 C.any s284.env[22]? fun v297 =>
 C.any s284.env[23]? fun v298 =>
 C.any s284.env[24]? fun v299 =>
 C.any s284.env[25]? fun v300 =>
 C.any s284.env[26]? fun v301 =>
 C.same s284.env[27]? tz <|
 C.hop (St.H s284) (.load true 9 (.v v0)) fun v302 h303 =>
 C.agg 9 (some v302) fun l304 =>
 C.any l304[0]? fun v305 =>
 C.int .i64 l304[1]? fun x306 =>
 C.int .i64 l304[2]? fun x307 =>
 C.int .i64 l304[3]? fun x308 =>
 C.int .i64 l304[4]? fun x309 =>
 C.int .i64 l304[5]? fun x310 =>
 C.int .i64 l304[6]? fun x311 =>
 C.int .i64 l304[7]? fun x312 =>
 C.int .i64 l304[8]? fun x313 =>
 C.hop h303 (.store 9 (.v v2) (.v (.agg [v305, (iz x306), (iz x307), (iz x308), (iz x309), (iz x310), (iz x311), (iz x312), (iz x313)]))) fun v314 h315 =>
 C.hop h315 (.load true 9 (.v v2)) fun v316 h317 =>
 K0 v316 h315)
 (none)
def r23E4 (C : Cb) (d : Nat) (a0 : AV) (a1 a2 a3 a4 a5 a6 a7 a8 : Int) (n0 : Nat) (K0 : AV → Heap → Ans) (v0 v2 v4 v6 v228 v230 v234 v236 : AV) (x240 : Int) : St → Ans := fun s243 =>
 cnd ((List.length s243.env) == 28)
 (C.same s243.env[0]? (.agg [a0, (iz a1), (iz a2), (iz a3), (iz a4), (iz a5), (iz a6), (iz a7), (iz a8)]) <|
 C.same s243.env[1]? v0 <|
 C.same s243.env[2]? v2 <|
 C.any s243.env[3]? fun v318 =>
 C.same s243.env[4]? v4 <|
 C.same s243.env[5]? v6 <|
 C.same s243.env[6]? v228 <|
 C.same s243.env[7]? v230 <|
 C.same s243.env[8]? v234 <|
 C.same s243.env[9]? v236 <|
 C.same s243.env[10]? (iz x240) <|
 C.int .i64 s243.env[11]? fun x319 =>
 C.any s243.env[12]? fun v320 =>
 C.any s243.env[13]? fun v321 =>
 C.any s243.env[14]? fun v322 =>
 C.any s243.env[15]? fun v323 =>
 C.any s243.env[16]? fun v324 =>
 C.any s243.env[17]? fun v325 =>
 C.any s243.env[18]? fun v326 =>
 C.any s243.env[19]? fun v327 =>
 C.any s243.env[20]? fun v328 =>
 C.any s243.env[21]? fun v329 =>
 C.any s243.env[22]? fun v330 =>
 C.any s243.env[23]? fun v331 =>
 C.any s243.env[24]? fun v332 =>
 C.any s243.env[25]? fun v333 =>
 C.any s243.env[26]? fun v334 =>
 C.same s243.env[27]? tz <|
 C.hop (St.H s243) (.load true 9 (.v v2)) fun v335 h336 =>
 K0 v335 (St.H s243))
 (none)
/-- apogee/rules.Copy -/
theorem r23 (C : Cb) (d : Nat) (a0 : AV) (a1 a2 a3 a4 a5 a6 a7 a8 : Int) (n0 : Nat) (H0 : Heap) (K0 : AV → Heap → Ans) : xmeth C M unr d (n0 + 8) 23 [(.agg [a0, (iz a1), (iz a2), (iz a3), (iz a4), (iz a5), (iz a6), (iz a7), (iz a8)])] H0 K0 =
 C.hop H0 (.box E24 (.v (.agg [a0, (iz a1), (iz a2), (iz a3), (iz a4), (iz a5), (iz a6), (iz a7), (iz a8)]))) fun v0 h1 =>
 C.hop h1 (.alloc E24) fun v2 h3 =>
 C.hop h3 (.fldA 0 (.v v0)) fun v4 h5 =>
 C.hop h5 (.load false 1 (.v v4)) fun v6 h7 =>
 C.bool (clr v6) fun b8 =>
 cnd b8
 (C.same (emptyQ (pcall M d) 34) (.lst []) <|
 C.hop h7 (.fldA 0 (.v v0)) fun v9 h10 =>
 C.hop h10 (.store 1 (.v v9) (.v (.lst []))) fun v11 h12 =>
 C.hop h12 (.fldA 0 (.v v0)) fun v13 h14 =>
 C.hop h14 (.load false 1 (.v v13)) fun v15 h16 =>
 C.hop h16 (.bk .lenV [(.v v15)]) fun v17 h18 =>
 C.int .i64 (some v17) fun x19 =>
 C.iter (r23R0 C d a0 a1 a2 a3 a4 a5 a6 a7 a8 n0 K0 v0 v2 v4 v6 v9 v13 v15 x19) 10000000000000000000 ⟨[(.agg [a0, (iz a1), (iz a2), (iz a3), (iz a4), (iz a5), (iz a6), (iz a7), (iz a8)]), v0, v2, tz, v4, v6, (.lst []), v9, v13, v15, (iz x19), (iz 0), tz, tz, tz, tz, tz, tz, tz, tz, tz, tz, tz, tz, tz, tz, tz, tz], h18⟩ [0] [r23X0_0 C d a0 a1 a2 a3 a4 a5 a6 a7 a8 n0 K0 v0 v2 v4 v6 v9 v13 v15 x19] (r23E0 C d a0 a1 a2 a3 a4 a5 a6 a7 a8 n0 K0 v0 v2 v4 v6 v9 v13 v15 x19))
 (C.hop h7 (.eqv false 2 [] (.v v6) (.v (.zsl true))) fun v116 h117 =>
 C.bool (some v116) fun b118 =>
 cnd b118
 (C.hop h117 (.fldA 0 (.v v0)) fun v119 h120 =>
 C.hop h120 (.store 1 (.v v119) (.v (.zsl true))) fun v121 h122 =>
 C.hop h122 (.fldA 0 (.v v0)) fun v123 h124 =>
 C.hop h124 (.load false 1 (.v v123)) fun v125 h126 =>
 C.hop h126 (.bk .lenV [(.v v125)]) fun v127 h128 =>
 C.int .i64 (some v127) fun x129 =>
 C.iter (r23R2 C d a0 a1 a2 a3 a4 a5 a6 a7 a8 n0 K0 v0 v2 v4 v6 v119 v123 v125 x129) 10000000000000000000 ⟨[(.agg [a0, (iz a1), (iz a2), (iz a3), (iz a4), (iz a5), (iz a6), (iz a7), (iz a8)]), v0, v2, tz, v4, v6, (.zsl true), v119, v123, v125, (iz x129), (iz 0), tz, tz, tz, tz, tz, tz, tz, tz, tz, tz, tz, tz, tz, tz, tz, tz], h128⟩ [0] [r23X2_0 C d a0 a1 a2 a3 a4 a5 a6 a7 a8 n0 K0 v0 v2 v4 v6 v119 v123 v125 x129] (r23E2 C d a0 a1 a2 a3 a4 a5 a6 a7 a8 n0 K0 v0 v2 v4 v6 v119 v123 v125 x129))
 (C.hop h117 (.mkrow E43 0 []) fun v226 h227 =>
 C.hop h227 (.app E43 (.v v226) (.v v6)) fun v228 h229 =>
 C.hop h229 (.fldA 0 (.v v0)) fun v230 h231 =>
 C.hop h231 (.store 1 (.v v230) (.v v228)) fun v232 h233 =>
 C.hop h233 (.fldA 0 (.v v0)) fun v234 h235 =>
 C.hop h235 (.load false 1 (.v v234)) fun v236 h237 =>
 C.hop h237 (.bk .lenV [(.v v236)]) fun v238 h239 =>
 C.int .i64 (some v238) fun x240 =>
 C.iter (r23R4 C d a0 a1 a2 a3 a4 a5 a6 a7 a8 n0 K0 v0 v2 v4 v6 v228 v230 v234 v236 x240) 10000000000000000000 ⟨[(.agg [a0, (iz a1), (iz a2), (iz a3), (iz a4), (iz a5), (iz a6), (iz a7), (iz a8)]), v0, v2, tz, v4, v6, v228, v230, v234, v236, (iz x240), (iz 0), tz, tz, tz, tz, tz, tz, tz, tz, tz, tz, tz, tz, tz, tz, tz, tz], h239⟩ [0] [r23X4_0 C d a0 a1 a2 a3 a4 a5 a6 a7 a8 n0 K0 v0 v2 v4 v6 v228 v230 v234 v236 x240] (r23E4 C d a0 a1 a2 a3 a4 a5 a6 a7 a8 n0 K0 v0 v2 v4 v6 v228 v230 v234 v236 x240))) := by kernel_rfl
/-- apogee/apogeeref13.RightPhase -/
theorem r25 (C : Cb) (d : Nat) (a0 : List AV) (a1 a2 a3 a4 : Int) : xcall C M unr d 25 [(.agg [(.lst a0), (iz a1), (iz a2), (iz a3), (iz a4)])] =
 C.bool (pcall M d 36 [(.lst a0)]) fun b0 =>
 cnd b0
 (C.bool (pcall M d 26 [(iz a1), (iz 1), (iz 100)]) fun b1 =>
 cnd b1
 (C.bool (pcall M d 26 [(iz a2), (iz 1), (iz 65536)]) fun b2 =>
 cnd b2
 (C.bool (pcall M d 26 [(iz a3), (iz 1), (iz 1000000)]) fun b3 =>
 cnd b3
 (C.bool (pcall M d 26 [(iz a4), (iz 0), (iz 1073741824)]) fun b4 =>
 some (.bool b4))
 (some bf))
 (some bf))
 (some bf))
 (some bf) := by kernel_rfl
/-- apogee/apogeeref13.within -/
theorem r26 (C : Cb) (d : Nat) (a0 a1 a2 : Int) : xcall C M unr d 26 [(iz a0), (iz a1), (iz a2)] =
 cnd (decide (a0 ≥ a1))
 (some (.bool (decide (a0 ≤ a2))))
 (some bf) := by kernel_rfl
/-- apogee/rules.Phase -/
theorem r32 (C : Cb) (d : Nat) (a0 : AV) (a1 a2 a3 a4 a5 a6 a7 a8 a9 : Int) (n0 : Nat) (H0 : Heap) (K0 : AV → Heap → Ans) : xmeth C M unr d (n0 + 8) 32 [(.agg [a0, (iz a1), (iz a2), (iz a3), (iz a4), (iz a5), (iz a6), (iz a7), (iz a8)]), (iz a9)] H0 K0 =
 C.hop H0 (.box E24 (.v (.agg [a0, (iz a1), (iz a2), (iz a3), (iz a4), (iz a5), (iz a6), (iz a7), (iz a8)]))) fun v0 h1 =>
 C.hop h1 (.alloc E43) fun v2 h3 =>
 cnd (decide (a9 < 0))
 (C.hop h3 (.load true 5 (.v v2)) fun v4 h5 =>
 C.agg 5 (some v4) fun l6 =>
 C.any l6[0]? fun v7 =>
 C.int .i64 l6[1]? fun x8 =>
 C.int .i64 l6[2]? fun x9 =>
 C.int .i64 l6[3]? fun x10 =>
 C.int .i64 l6[4]? fun x11 =>
 C.hop h5 (.store 5 (.v v2) (.v (.agg [v7, (iz x8), (iz x9), (iz x10), (iz x11)]))) fun v12 h13 =>
 C.hop h13 (.load true 5 (.v v2)) fun v14 h15 =>
 K0 (.tup [v14, bf]) h13)
 (C.hop h3 (.fldA 0 (.v v0)) fun v16 h17 =>
 C.hop h17 (.load false 1 (.v v16)) fun v18 h19 =>
 C.hop h19 (.bk .lenV [(.v v18)]) fun v20 h21 =>
 C.int .i64 (some v20) fun x22 =>
 cnd (decide (a9 ≥ x22))
 (C.hop h21 (.load true 5 (.v v2)) fun v23 h24 =>
 C.agg 5 (some v23) fun l25 =>
 C.any l25[0]? fun v26 =>
 C.int .i64 l25[1]? fun x27 =>
 C.int .i64 l25[2]? fun x28 =>
 C.int .i64 l25[3]? fun x29 =>
 C.int .i64 l25[4]? fun x30 =>
 C.hop h24 (.store 5 (.v v2) (.v (.agg [v26, (iz x27), (iz x28), (iz x29), (iz x30)]))) fun v31 h32 =>
 C.hop h32 (.load true 5 (.v v2)) fun v33 h34 =>
 K0 (.tup [v33, bf]) h32)
 (C.hop h21 (.fldA 0 (.v v0)) fun v35 h36 =>
 C.hop h36 (.load false 1 (.v v35)) fun v37 h38 =>
 C.hop h38 (.ixAS .any 5 (.v v37) (.v (iz a9))) fun v39 h40 =>
 C.hop h40 (.load true 5 (.v v39)) fun v41 h42 =>
 C.agg 5 (some v41) fun l43 =>
 C.any l43[0]? fun v44 =>
 C.int .i64 l43[1]? fun x45 =>
 C.int .i64 l43[2]? fun x46 =>
 C.int .i64 l43[3]? fun x47 =>
 C.int .i64 l43[4]? fun x48 =>
 C.hop h42 (.store 5 (.v v2) (.v (.agg [v44, (iz x45), (iz x46), (iz x47), (iz x48)]))) fun v49 h50 =>
 C.hop h50 (.fldA 0 (.v v2)) fun v51 h52 =>
 C.hop h52 (.load false 1 (.v v51)) fun v53 h54 =>
 C.cal M (pcall M d) (n0 + 8) true 35 [v53] h54 fun v55 h56 =>
 C.any (some v55) fun v57 =>
 C.hop h56 (.fldA 0 (.v v2)) fun v58 h59 =>
 C.hop h59 (.store 1 (.v v58) (.v v57)) fun v60 h61 =>
 C.hop h61 (.load true 5 (.v v2)) fun v62 h63 =>
 C.agg 5 (some v62) fun l64 =>
 C.any l64[0]? fun v65 =>
 C.int .i64 l64[1]? fun x66 =>
 C.int .i64 l64[2]? fun x67 =>
 C.int .i64 l64[3]? fun x68 =>
 C.int .i64 l64[4]? fun x69 =>
 C.hop h63 (.store 5 (.v v2) (.v (.agg [v65, (iz x66), (iz x67), (iz x68), (iz x69)]))) fun v70 h71 =>
 C.hop h71 (.load true 5 (.v v2)) fun v72 h73 =>
 K0 (.tup [v72, bt]) h71)) := by kernel_rfl
/-- apogee/rules.Wrong -/
theorem r33 (C : Cb) (d : Nat) (a0 : List AV) (a1 a2 a3 a4 a5 a6 a7 a8 : Int) : xcall C M unr d 33 [(.agg [(.lst a0), (iz a1), (iz a2), (iz a3), (iz a4), (iz a5), (iz a6), (iz a7), (iz a8)])] =
 C.bool (pcall M d 40 [(iz (((List.length a0) : Nat) : Int)), (iz 1), (iz 4)]) fun b0 =>
 cnd (!b0)
 (some (iz 1))
 (C.bool (pcall M d 41 [(.lst a0), (.fn 42 [] [])]) fun b1 =>
 cnd b1
 (some (iz 2))
 (C.bool (pcall M d 44 [(.fptr (.agg [(.lst a0), (iz a1), (iz a2), (iz a3), (iz a4), (iz a5), (iz a6), (iz a7), (iz a8)]) 0)]) fun b2 =>
 cnd (!b2)
 (some (iz 3))
 (C.bool (pcall M d 45 [(iz a4), (iz 0), (iz 1024)]) fun b3 =>
 cnd (!b3)
 (some (iz 4))
 (C.bool (pcall M d 45 [(iz a5), (iz 1), (iz 65536)]) fun b4 =>
 cnd (!b4)
 (some (iz 5))
 (C.bool (pcall M d 40 [(iz a6), (iz 1), (iz 50)]) fun b5 =>
 cnd (!b5)
 (some (iz 6))
 (C.bool (pcall M d 45 [(iz a7), (iz 1), (iz 1073741824)]) fun b6 =>
 cnd (!b6)
 (some (iz 7))
 (C.bool (pcall M d 40 [(iz a8), (iz 0), (iz (((List.length a0) : Nat) : Int))]) fun b7 =>
 cnd (!b7)
 (some (iz 8))
 (some (iz 0))))))))) := by kernel_rfl
/-- apogee/rules.within[int] -/
theorem r40 (C : Cb) (d : Nat) (a0 a1 a2 : Int) : xcall C M unr d 40 [(iz a0), (iz a1), (iz a2)] =
 cnd (decide (a0 ≥ a1))
 (some (.bool (decide (a0 ≤ a2))))
 (some bf) := by kernel_rfl
/-- slices.ContainsFunc[[]apogee/api.Phase,apogee/api.Phase] -/
theorem r41f42 (C : Cb) (d : Nat) (a0 : List AV) (a1 : AV) : xcall C M unr d 41 [(.lst a0), (.fn 42 [] [])] =
 C.int .i64 (pcall M d 50 [(.lst a0), (.fn 42 [] [])]) fun x0 =>
 some (.bool (decide (x0 ≥ 0))) := by kernel_rfl
/-- apogee/rules.Wrong$1 -/
theorem r42 (C : Cb) (d : Nat) (a0 : List AV) (a1 a2 a3 a4 : Int) : xcall C M unr d 42 [(.agg [(.lst a0), (iz a1), (iz a2), (iz a3), (iz a4)])] =
 C.bool (pcall M d 43 [(.agg [(.lst a0), (iz a1), (iz a2), (iz a3), (iz a4)])]) fun b0 =>
 some (.bool (!b0)) := by kernel_rfl
/-- apogee/rules.RightPhase -/
theorem r43 (C : Cb) (d : Nat) (a0 : List AV) (a1 a2 a3 a4 : Int) : xcall C M unr d 43 [(.agg [(.lst a0), (iz a1), (iz a2), (iz a3), (iz a4)])] =
 C.bool (pcall M d 51 [(.lst a0)]) fun b0 =>
 cnd b0
 (C.bool (pcall M d 45 [(iz a1), (iz 1), (iz 100)]) fun b1 =>
 cnd b1
 (C.bool (pcall M d 45 [(iz a2), (iz 1), (iz 65536)]) fun b2 =>
 cnd b2
 (C.bool (pcall M d 40 [(iz a3), (iz 1), (iz 1000000)]) fun b3 =>
 cnd b3
 (C.bool (pcall M d 45 [(iz a4), (iz 0), (iz 1073741824)]) fun b4 =>
 some (.bool b4))
 (some bf))
 (some bf))
 (some bf))
 (some bf) := by kernel_rfl
/-- apogee/rules.limits -/
theorem r44 (C : Cb) (d : Nat) (a0 a1 : AV) (a2 a3 a4 a5 a6 a7 a8 a9 : Int) : xcall C M unr d 44 [(.fptr (.agg [a1, (iz a2), (iz a3), (iz a4), (iz a5), (iz a6), (iz a7), (iz a8), (iz a9)]) 0)] =
 C.bool (pcall M d 40 [(iz (if (a4 < (if (a3 < a2) then a3 else a2)) then a4 else (if (a3 < a2) then a3 else a2))), (iz 1), (iz 50)]) fun b0 =>
 cnd b0
 (C.bool (pcall M d 40 [(iz (if (a4 > (if (a3 > a2) then a3 else a2)) then a4 else (if (a3 > a2) then a3 else a2))), (iz 1), (iz 50)]) fun b1 =>
 some (.bool b1))
 (some bf) := by kernel_rfl
/-- apogee/rules.within[int64] -/
theorem r45 (C : Cb) (d : Nat) (a0 a1 a2 : Int) : xcall C M unr d 45 [(iz a0), (iz a1), (iz a2)] =
 cnd (decide (a0 ≥ a1))
 (some (.bool (decide (a0 ≤ a2))))
 (some bf) := by kernel_rfl
def r50f42R0 (C : Cb) (d : Nat) (a0 : List AV) : St → (Ex → St → Ans) → Ans := fun s0 k1 =>
 cnd ((List.length s0.env) == 19)
 (C.same s0.env[0]? (.lst a0) <|
 C.same s0.env[1]? (.fn 42 [] []) <|
 C.same s0.env[2]? tz <|
 C.same s0.env[3]? tz <|
 C.int .i64 s0.env[4]? fun x3 =>
 C.any s0.env[5]? fun v4 =>
 C.same s0.env[6]? (.lst a0) <|
 C.same s0.env[7]? (iz (((List.length a0) : Nat) : Int)) <|
 C.int .i64 s0.env[8]? fun x5 =>
 C.any s0.env[9]? fun v6 =>
 C.any s0.env[10]? fun v7 =>
 C.any s0.env[11]? fun v8 =>
 C.any s0.env[12]? fun v9 =>
 C.any s0.env[13]? fun v10 =>
 C.any s0.env[14]? fun v11 =>
 C.any s0.env[15]? fun v12 =>
 C.any s0.env[16]? fun v13 =>
 C.any s0.env[17]? fun v14 =>
 C.any s0.env[18]? fun v15 =>
 C.sameH (St.H s0) [] <|
 cnd (decide (x5 < (((List.length a0) : Nat) : Int)))
 (cnd (decide ((0 : Int) ≤ x5))
 (C.agg 5 a0[(Int.toNat x5)]? fun l16 =>
 C.lst l16[0]? (fun l17 =>
 C.int .i64 l16[1]? fun x19 =>
 C.int .i64 l16[2]? fun x20 =>
 C.int .i64 l16[3]? fun x21 =>
 C.int .i64 l16[4]? fun x22 =>
 C.bool (pcall M d 42 [(.agg [(.lst l17), (iz x19), (iz x20), (iz x21), (iz x22)])]) fun b23 =>
 cnd b23
 (k1 .ret ⟨[(.lst a0), (.fn 42 [] []), tz, tz, (iz x5), (iz x5), (.lst a0), (iz (((List.length a0) : Nat) : Int)), (iz x5), bt, (iz x5), (.fn 42 [] []), (.lst a0), (iz x5), (.fptr (.agg [(.lst l17), (iz x19), (iz x20), (iz x21), (iz x22)]) 0), (.agg [(.lst l17), (iz x19), (iz x20), (iz x21), (iz x22)]), bt, (iz x5), v15], []⟩)
 (k1 .normal ⟨[(.lst a0), (.fn 42 [] []), tz, tz, (iz x3), (iz x5), (.lst a0), (iz (((List.length a0) : Nat) : Int)), (iz (IntKind.wrap .i64 (x5 + 1))), bt, (iz x5), (.fn 42 [] []), (.lst a0), (iz x5), (.fptr (.agg [(.lst l17), (iz x19), (iz x20), (iz x21), (iz x22)]) 0), (.agg [(.lst l17), (iz x19), (iz x20), (iz x21), (iz x22)]), bf, v14, (iz (IntKind.wrap .i64 (x5 + 1)))], []⟩))
 (fun z18 =>
 C.int .i64 l16[1]? fun x24 =>
 C.int .i64 l16[2]? fun x25 =>
 C.int .i64 l16[3]? fun x26 =>
 C.int .i64 l16[4]? fun x27 =>
 C.bool (pcall M d 42 [(.agg [(.zsl z18), (iz x24), (iz x25), (iz x26), (iz x27)])]) fun b28 =>
 cnd b28
 (k1 .ret ⟨[(.lst a0), (.fn 42 [] []), tz, tz, (iz x5), (iz x5), (.lst a0), (iz (((List.length a0) : Nat) : Int)), (iz x5), bt, (iz x5), (.fn 42 [] []), (.lst a0), (iz x5), (.fptr (.agg [(.zsl z18), (iz x24), (iz x25), (iz x26), (iz x27)]) 0), (.agg [(.zsl z18), (iz x24), (iz x25), (iz x26), (iz x27)]), bt, (iz x5), v15], []⟩)
 (k1 .normal ⟨[(.lst a0), (.fn 42 [] []), tz, tz, (iz x3), (iz x5), (.lst a0), (iz (((List.length a0) : Nat) : Int)), (iz (IntKind.wrap .i64 (x5 + 1))), bt, (iz x5), (.fn 42 [] []), (.lst a0), (iz x5), (.fptr (.agg [(.zsl z18), (iz x24), (iz x25), (iz x26), (iz x27)]) 0), (.agg [(.zsl z18), (iz x24), (iz x25), (iz x26), (iz x27)]), bf, v14, (iz (IntKind.wrap .i64 (x5 + 1)))], []⟩)))
 (none))
 (k1 (.exit 0) ⟨[(.lst a0), (.fn 42 [] []), tz, tz, (iz x3), v4, (.lst a0), (iz (((List.length a0) : Nat) : Int)), (iz x5), bf, v7, v8, v9, v10, v11, v12, v13, v14, v15], []⟩))
 (none)
def r50f42X0_0 (C : Cb) (d : Nat) (a0 : List AV) : St → Ans := fun s29 =>
 cnd ((List.length s29.env) == 19)
 (C.same s29.env[0]? (.lst a0) <|
 C.same s29.env[1]? (.fn 42 [] []) <|
 C.same s29.env[2]? tz <|
 C.same s29.env[3]? tz <|
 C.int .i64 s29.env[4]? fun x30 =>
 C.any s29.env[5]? fun v31 =>
 C.same s29.env[6]? (.lst a0) <|
 C.same s29.env[7]? (iz (((List.length a0) : Nat) : Int)) <|
 C.int .i64 s29.env[8]? fun x32 =>
 C.any s29.env[9]? fun v33 =>
 C.any s29.env[10]? fun v34 =>
 C.any s29.env[11]? fun v35 =>
 C.any s29.env[12]? fun v36 =>
 C.any s29.env[13]? fun v37 =>
 C.any s29.env[14]? fun v38 =>
 C.any s29.env[15]? fun v39 =>
 C.any s29.env[16]? fun v40 =>
 C.any s29.env[17]? fun v41 =>
 C.any s29.env[18]? fun v42 =>
 C.sameH (St.H s29) [] <|
 some (iz (-1)))
 (none)
def r50f42E0 (C : Cb) (d : Nat) (a0 : List AV) : St → Ans := fun s2 =>
 cnd ((List.length s2.env) == 19)
 (C.same s2.env[0]? (.lst a0) <|
 C.same s2.env[1]? (.fn 42 [] []) <|
 C.same s2.env[2]? tz <|
 C.same s2.env[3]? tz <|
 C.int .i64 s2.env[4]? fun x43 =>
 C.int .i64 s2.env[5]? fun x44 =>
 C.same s2.env[6]? (.lst a0) <|
 C.same s2.env[7]? (iz (((List.length a0) : Nat) : Int)) <|
 C.int .i64 s2.env[8]? fun x45 =>
 C.any s2.env[9]? fun v46 =>
 C.int .i64 s2.env[10]? fun x47 =>
 C.any s2.env[11]? fun v48 =>
 C.any s2.env[12]? fun v49 =>
 C.int .i64 s2.env[13]? fun x50 =>
 C.any s2.env[14]? fun v51 =>
 C.agg 5 s2.env[15]? fun l52 =>
 C.any l52[0]? fun v53 =>
 C.int .i64 l52[1]? fun x54 =>
 C.int .i64 l52[2]? fun x55 =>
 C.int .i64 l52[3]? fun x56 =>
 C.int .i64 l52[4]? fun x57 =>
 C.bool s2.env[16]? fun b58 =>
 C.int .i64 s2.env[17]? fun x59 =>
 C.any s2.env[18]? fun v60 =>
 C.sameH (St.H s2) [] <|
 some (iz x43))
 (none)
/-- slices.IndexFunc[[]apogee/api.Phase,apogee/api.Phase] -/
theorem r50f42 (C : Cb) (d : Nat) (a0 : List AV) (a1 : AV) : xcall C M unr d 50 [(.lst a0), (.fn 42 [] [])] =
 C.iter (r50f42R0 C d a0) 10000000000000000000 ⟨[(.lst a0), (.fn 42 [] []), tz, tz, (iz 0), tz, (.lst a0), (iz (((List.length a0) : Nat) : Int)), (iz 0), tz, tz, tz, tz, tz, tz, tz, tz, tz, tz], []⟩ [0] [r50f42X0_0 C d a0] (r50f42E0 C d a0) := by kernel_rfl
end Go.Proofs.Ytdceaeifcniabaa.AE

namespace Go.Proofs.Ytdceaeifcniabaa.AE
set_option linter.unusedVariables false
set_option linter.unusedSimpArgs false
set_option linter.constructorNameAsVariable false
open Go
set_option maxRecDepth 100000
set_option maxHeartbeats 0
noncomputable def X8_0_0 (d : Nat) (a0 : List AV)  : Ans :=
  some (.bool (decide ((((List.length a0) : Nat) : Int) ≤ 8)))
theorem X8_0_0_ok (d : Nat) (a0 : List AV) (a1 a2 a3 a4 a5 a6 a7 a8 : Int) (b32 : Bool) (x33 x34 : Int) (v35 v36 : AV) (x37 : Int) (b38 : Bool) (v39 v40 v41 v42 v43 v44 v45 v46 v47 v48 : AV) : r8X0_0 C0 d a0 a1 a2 a3 a4 a5 a6 a7 a8 ⟨[(.agg [(.lst a0), (iz a1), (iz a2), (iz a3), (iz a4), (iz a5), (iz a6), (iz a7), (iz a8)]), (.ptr 0 0 0), (.bool b32), (iz x33), (iz x34), v35, v36, (iz x37), (.bool b38), v39, v40, v41, v42, v43, v44, v45, v46, v47, v48, tz, tz, tz, tz], [some ⟨E24, [(.agg [(.lst a0), (iz a1), (iz a2), (iz a3), (iz a4), (iz a5), (iz a6), (iz a7), (iz a8)])]⟩]⟩ = X8_0_0 d a0  := by
  unfold r8X0_0; refine Eq.trans (pl_len (by rfl)) ?_; (iterate 2 (refine yt yS ?_)); refine yt yB ?_; (iterate 2 (refine yt yI ?_)); (iterate 2 (refine yt yA ?_)); refine yt yI ?_; refine yt yB ?_; (iterate 10 (refine yt yA ?_)); (iterate 4 (refine yt yS ?_)); refine Eq.trans (pl_sameH) ?_
  rfl
noncomputable def E8_0 (d : Nat) (a0 : List AV) (b49 : Bool) : Ans :=
  some (.bool b49)
theorem E8_0_ok (d : Nat) (a0 : List AV) (a1 a2 a3 a4 a5 a6 a7 a8 : Int) (b49 : Bool) (x50 x51 : Int) (v52 v53 : AV) (x54 : Int) (b55 : Bool) (v56 v57 v58 v59 : AV) (x60 : Int) (v61 v62 v63 : AV) (x64 : Int) (b65 : Bool) : r8E0 C0 d a0 a1 a2 a3 a4 a5 a6 a7 a8 ⟨[(.agg [(.lst a0), (iz a1), (iz a2), (iz a3), (iz a4), (iz a5), (iz a6), (iz a7), (iz a8)]), (.ptr 0 0 0), (.bool b49), (iz x50), (iz x51), v52, v53, (iz x54), (.bool b55), v56, v57, v58, v59, (iz x60), v61, v62, v63, (iz x64), (.bool b65), tz, tz, tz, tz], [some ⟨E24, [(.agg [(.lst a0), (iz a1), (iz a2), (iz a3), (iz a4), (iz a5), (iz a6), (iz a7), (iz a8)])]⟩]⟩ = E8_0 d a0 b49 := by
  unfold r8E0; refine Eq.trans (pl_len (by rfl)) ?_; (iterate 2 (refine yt yS ?_)); refine yt yB ?_; (iterate 2 (refine yt yI ?_)); (iterate 2 (refine yt yA ?_)); refine yt yI ?_; refine yt yB ?_; (iterate 4 (refine yt yA ?_)); refine yt yI ?_; (iterate 3 (refine yt yA ?_)); refine yt yI ?_; refine yt yB ?_; (iterate 4 (refine yt yS ?_)); refine Eq.trans (pl_sameH) ?_
  rfl
noncomputable def L8_0 (d : Nat) (a0 : List AV) : Nat → Int → Ans
  | 0, _ => none
  | n + 1, x4 =>
  cnd (decide (x4 < (((List.length a0) : Nat) : Int)))
   (cnd (decide ((0 : Int) ≤ x4))
   (C0.agg 5 a0[(Int.toNat x4)]? fun l20 =>
   C0.lst l20[0]? (fun l21 =>
   C0.int .i64 l20[1]? fun x23 =>
   C0.int .i64 l20[2]? fun x24 =>
   C0.int .i64 l20[3]? fun x25 =>
   C0.int .i64 l20[4]? fun x26 =>
   cnd (decide ((((List.length l21) : Nat) : Int) > 12))
   (E8_0 d a0 false)
   (L8_0 d a0 n (IntKind.wrap .i64 (x4 + 1))))
        (fun z22 =>
   C0.int .i64 l20[1]? fun x27 =>
   C0.int .i64 l20[2]? fun x28 =>
   C0.int .i64 l20[3]? fun x29 =>
   C0.int .i64 l20[4]? fun x30 =>
   L8_0 d a0 n (IntKind.wrap .i64 (x4 + 1))))
   (none))
   (X8_0_0 d a0)
theorem L8_0_s (d : Nat) (a0 : List AV) (n : Nat) (x4 : Int) : L8_0 d a0 (n + 1) x4 = (cnd (decide (x4 < (((List.length a0) : Nat) : Int)))
   (cnd (decide ((0 : Int) ≤ x4))
   (C0.agg 5 a0[(Int.toNat x4)]? fun l20 =>
   C0.lst l20[0]? (fun l21 =>
   C0.int .i64 l20[1]? fun x23 =>
   C0.int .i64 l20[2]? fun x24 =>
   C0.int .i64 l20[3]? fun x25 =>
   C0.int .i64 l20[4]? fun x26 =>
   cnd (decide ((((List.length l21) : Nat) : Int) > 12))
   (E8_0 d a0 false)
   (L8_0 d a0 n (IntKind.wrap .i64 (x4 + 1))))
        (fun z22 =>
   C0.int .i64 l20[1]? fun x27 =>
   C0.int .i64 l20[2]? fun x28 =>
   C0.int .i64 l20[3]? fun x29 =>
   C0.int .i64 l20[4]? fun x30 =>
   L8_0 d a0 n (IntKind.wrap .i64 (x4 + 1))))
   (none))
   (X8_0_0 d a0)) := by kernel_rfl
theorem it8_0 (d : Nat) (a0 : List AV) (a1 a2 a3 a4 a5 a6 a7 a8 : Int)   : ∀ (n : Nat) (b3 : Bool) (x4 : Int) (v5 v6 v7 v8 v9 v10 v11 v12 v13 v14 v15 v16 v17 v18 v19 : AV), C0.iter (r8R0 C0 d a0 a1 a2 a3 a4 a5 a6 a7 a8) n ⟨[(.agg [(.lst a0), (iz a1), (iz a2), (iz a3), (iz a4), (iz a5), (iz a6), (iz a7), (iz a8)]), (.ptr 0 0 0), (.bool b3), (iz x4), v5, v6, v7, v8, v9, v10, v11, v12, v13, v14, v15, v16, v17, v18, v19, tz, tz, tz, tz], [some ⟨E24, [(.agg [(.lst a0), (iz a1), (iz a2), (iz a3), (iz a4), (iz a5), (iz a6), (iz a7), (iz a8)])]⟩]⟩ [0] [r8X0_0 C0 d a0 a1 a2 a3 a4 a5 a6 a7 a8] (r8E0 C0 d a0 a1 a2 a3 a4 a5 a6 a7 a8) = L8_0 d a0 n x4 := by
  generalize hR : r8R0 C0 d a0 a1 a2 a3 a4 a5 a6 a7 a8 = R
  intro n
  induction n with
  | zero => intros; rfl
  | succ n ih =>
    intro b3 x4 v5 v6 v7 v8 v9 v10 v11 v12 v13 v14 v15 v16 v17 v18 v19
    simp only [it_ret] at ih
    rw [it_ret, xiter_s]
    refine Eq.trans (congrFun (congrFun hR.symm _) _) ?_
    unfold r8R0
    refine Eq.trans (pl_len (by rfl)) ?_; (iterate 2 (refine yt yS ?_)); refine yt yB ?_; refine yt yI ?_; (iterate 15 (refine yt yA ?_)); (iterate 4 (refine yt yS ?_)); refine Eq.trans (pl_sameH) ?_
    simp only [kIter_n, kIter_x, kIter_r, kOut_x, kOut_r, xgo_hit, xgo_miss, ih, X8_0_0_ok d a0 a1 a2 a3 a4 a5 a6 a7 a8  , E8_0_ok d a0 a1 a2 a3 a4 a5 a6 a7 a8  ]
    exact (L8_0_s d a0 n x4).symm
/-- apogee/apogeeref13.Few -/
theorem q8 (d : Nat) (a0 : List AV) (a1 a2 a3 a4 a5 a6 a7 a8 : Int) : xcall C0 M unr d 8 [(.agg [(.lst a0), (iz a1), (iz a2), (iz a3), (iz a4), (iz a5), (iz a6), (iz a7), (iz a8)])] =
  L8_0 d a0 10000000000000000000 0 := (r8 C0 d a0 a1 a2 a3 a4 a5 a6 a7 a8).trans (by simp only [it8_0])
noncomputable def X10_0_0 (d : Nat) (a0 : List AV) (a1 a2 a3 a4 a5 a6 a7 a8 : Int)  : Ans :=
  C0.bool (pcall M d 26 [(iz a1), (iz 1), (iz 50)]) fun b49 =>
   cnd (!b49)
   (some (iz 3))
   (C0.bool (pcall M d 26 [(iz a2), (iz 1), (iz 50)]) fun b50 =>
   cnd (!b50)
   (some (iz 3))
   (C0.bool (pcall M d 26 [(iz a3), (iz 1), (iz 50)]) fun b51 =>
   cnd (!b51)
   (some (iz 3))
   (C0.bool (pcall M d 26 [(iz a4), (iz 0), (iz 1024)]) fun b52 =>
   cnd (!b52)
   (some (iz 4))
   (C0.bool (pcall M d 26 [(iz a5), (iz 1), (iz 65536)]) fun b53 =>
   cnd (!b53)
   (some (iz 5))
   (C0.bool (pcall M d 26 [(iz a6), (iz 1), (iz 50)]) fun b54 =>
   cnd (!b54)
   (some (iz 6))
   (C0.bool (pcall M d 26 [(iz a7), (iz 1), (iz 1073741824)]) fun b55 =>
   cnd (!b55)
   (some (iz 7))
   (C0.bool (pcall M d 26 [(iz a8), (iz 0), (iz (((List.length a0) : Nat) : Int))]) fun b56 =>
   cnd (!b56)
   (some (iz 8))
   (some (iz 0)))))))))
theorem X10_0_0_ok (d : Nat) (a0 : List AV) (a1 a2 a3 a4 a5 a6 a7 a8 x33 x34 x35 : Int) (v36 v37 : AV) (x38 : Int) (b39 : Bool) (v40 v41 v42 v43 v44 v45 v46 v47 v48 : AV) : r10X0_0 C0 d a0 a1 a2 a3 a4 a5 a6 a7 a8 ⟨[(.agg [(.lst a0), (iz a1), (iz a2), (iz a3), (iz a4), (iz a5), (iz a6), (iz a7), (iz a8)]), (.ptr 0 0 0), (iz x33), (iz x34), (.ptr 0 0 0), (.lst a0), (iz (((List.length a0) : Nat) : Int)), (.bool (decide ((((List.length a0) : Nat) : Int) < 1))), bf, (.ptr 0 0 0), (.lst a0), (iz (((List.length a0) : Nat) : Int)), (.bool (decide ((((List.length a0) : Nat) : Int) > 4))), bf, (iz x35), v36, v37, (iz x38), (.bool b39), v40, v41, v42, v43, v44, v45, v46, v47, v48, tz, tz, tz, tz, tz, tz, tz, tz, tz, tz, tz, tz, tz, tz, tz, tz, tz, tz, tz, tz, tz, tz, tz, tz, tz, tz, tz, tz, tz, tz, tz, tz, tz, tz, tz, tz, tz, tz, tz, tz, tz, tz, tz, tz, tz], [some ⟨E24, [(.agg [(.lst a0), (iz a1), (iz a2), (iz a3), (iz a4), (iz a5), (iz a6), (iz a7), (iz a8)])]⟩]⟩ = X10_0_0 d a0 a1 a2 a3 a4 a5 a6 a7 a8  := by
  unfold r10X0_0; refine Eq.trans (pl_len (by rfl)) ?_; (iterate 2 (refine yt yS ?_)); (iterate 2 (refine yt yI ?_)); (iterate 10 (refine yt yS ?_)); refine yt yI ?_; (iterate 2 (refine yt yA ?_)); refine yt yI ?_; refine yt yB ?_; (iterate 9 (refine yt yA ?_)); (iterate 45 (refine yt yS ?_)); refine Eq.trans (pl_sameH) ?_
  rfl
noncomputable def E10_0 (d : Nat) (a0 : List AV) (a1 a2 a3 a4 a5 a6 a7 a8 x57 : Int) : Ans :=
  some (iz x57)
theorem E10_0_ok (d : Nat) (a0 : List AV) (a1 a2 a3 a4 a5 a6 a7 a8 x57 x58 x59 : Int) (v60 v61 : AV) (x62 : Int) (b63 : Bool) (v64 v65 v66 v67 : AV) (x68 : Int) (v69 v71 : AV) (x72 x73 x74 x75 : Int) (b76 b77 : Bool) : r10E0 C0 d a0 a1 a2 a3 a4 a5 a6 a7 a8 ⟨[(.agg [(.lst a0), (iz a1), (iz a2), (iz a3), (iz a4), (iz a5), (iz a6), (iz a7), (iz a8)]), (.ptr 0 0 0), (iz x57), (iz x58), (.ptr 0 0 0), (.lst a0), (iz (((List.length a0) : Nat) : Int)), (.bool (decide ((((List.length a0) : Nat) : Int) < 1))), bf, (.ptr 0 0 0), (.lst a0), (iz (((List.length a0) : Nat) : Int)), (.bool (decide ((((List.length a0) : Nat) : Int) > 4))), bf, (iz x59), v60, v61, (iz x62), (.bool b63), v64, v65, v66, v67, (iz x68), v69, (.agg [v71, (iz x72), (iz x73), (iz x74), (iz x75)]), (.bool b76), (.bool b77), tz, tz, tz, tz, tz, tz, tz, tz, tz, tz, tz, tz, tz, tz, tz, tz, tz, tz, tz, tz, tz, tz, tz, tz, tz, tz, tz, tz, tz, tz, tz, tz, tz, tz, tz, tz, tz, tz, tz, tz, tz, tz, tz, tz, tz], [some ⟨E24, [(.agg [(.lst a0), (iz a1), (iz a2), (iz a3), (iz a4), (iz a5), (iz a6), (iz a7), (iz a8)])]⟩]⟩ = E10_0 d a0 a1 a2 a3 a4 a5 a6 a7 a8 x57 := by
  unfold r10E0; refine Eq.trans (pl_len (by rfl)) ?_; (iterate 2 (refine yt yS ?_)); (iterate 2 (refine yt yI ?_)); (iterate 10 (refine yt yS ?_)); refine yt yI ?_; (iterate 2 (refine yt yA ?_)); refine yt yI ?_; refine yt yB ?_; (iterate 4 (refine yt yA ?_)); refine yt yI ?_; refine yt yA ?_; refine yt yG ?_; refine yt yA ?_; (iterate 4 (refine yt yI ?_)); (iterate 2 (refine yt yB ?_)); (iterate 45 (refine yt yS ?_)); refine Eq.trans (pl_sameH) ?_
  rfl
noncomputable def L10_0 (d : Nat) (a0 : List AV) (a1 a2 a3 a4 a5 a6 a7 a8 : Int) : Nat → Int → Ans
  | 0, _ => none
  | n + 1, x4 =>
  cnd (decide (x4 < (((List.length a0) : Nat) : Int)))
   (cnd (decide ((0 : Int) ≤ x4))
   (C0.agg 5 a0[(Int.toNat x4)]? fun l19 =>
   C0.lst l19[0]? (fun l20 =>
   C0.int .i64 l19[1]? fun x22 =>
   C0.int .i64 l19[2]? fun x23 =>
   C0.int .i64 l19[3]? fun x24 =>
   C0.int .i64 l19[4]? fun x25 =>
   C0.bool (pcall M d 25 [(.agg [(.lst l20), (iz x22), (iz x23), (iz x24), (iz x25)])]) fun b26 =>
   cnd (!b26)
   (E10_0 d a0 a1 a2 a3 a4 a5 a6 a7 a8 2)
   (L10_0 d a0 a1 a2 a3 a4 a5 a6 a7 a8 n (IntKind.wrap .i64 (x4 + 1))))
        (fun z21 =>
   C0.int .i64 l19[1]? fun x27 =>
   C0.int .i64 l19[2]? fun x28 =>
   C0.int .i64 l19[3]? fun x29 =>
   C0.int .i64 l19[4]? fun x30 =>
   C0.bool (pcall M d 25 [(.agg [(.zsl z21), (iz x27), (iz x28), (iz x29), (iz x30)])]) fun b31 =>
   cnd (!b31)
   (E10_0 d a0 a1 a2 a3 a4 a5 a6 a7 a8 2)
   (L10_0 d a0 a1 a2 a3 a4 a5 a6 a7 a8 n (IntKind.wrap .i64 (x4 + 1)))))
   (none))
   (X10_0_0 d a0 a1 a2 a3 a4 a5 a6 a7 a8)
theorem L10_0_s (d : Nat) (a0 : List AV) (a1 a2 a3 a4 a5 a6 a7 a8 : Int) (n : Nat) (x4 : Int) : L10_0 d a0 a1 a2 a3 a4 a5 a6 a7 a8 (n + 1) x4 = (cnd (decide (x4 < (((List.length a0) : Nat) : Int)))
   (cnd (decide ((0 : Int) ≤ x4))
   (C0.agg 5 a0[(Int.toNat x4)]? fun l19 =>
   C0.lst l19[0]? (fun l20 =>
   C0.int .i64 l19[1]? fun x22 =>
   C0.int .i64 l19[2]? fun x23 =>
   C0.int .i64 l19[3]? fun x24 =>
   C0.int .i64 l19[4]? fun x25 =>
   C0.bool (pcall M d 25 [(.agg [(.lst l20), (iz x22), (iz x23), (iz x24), (iz x25)])]) fun b26 =>
   cnd (!b26)
   (E10_0 d a0 a1 a2 a3 a4 a5 a6 a7 a8 2)
   (L10_0 d a0 a1 a2 a3 a4 a5 a6 a7 a8 n (IntKind.wrap .i64 (x4 + 1))))
        (fun z21 =>
   C0.int .i64 l19[1]? fun x27 =>
   C0.int .i64 l19[2]? fun x28 =>
   C0.int .i64 l19[3]? fun x29 =>
   C0.int .i64 l19[4]? fun x30 =>
   C0.bool (pcall M d 25 [(.agg [(.zsl z21), (iz x27), (iz x28), (iz x29), (iz x30)])]) fun b31 =>
   cnd (!b31)
   (E10_0 d a0 a1 a2 a3 a4 a5 a6 a7 a8 2)
   (L10_0 d a0 a1 a2 a3 a4 a5 a6 a7 a8 n (IntKind.wrap .i64 (x4 + 1)))))
   (none))
   (X10_0_0 d a0 a1 a2 a3 a4 a5 a6 a7 a8)) := by kernel_rfl
theorem it10_0 (d : Nat) (a0 : List AV) (a1 a2 a3 a4 a5 a6 a7 a8 : Int)   : ∀ (n : Nat) (x3 x4 : Int) (v5 v6 v7 v8 v9 v10 v11 v12 v13 v14 v15 v16 v17 v18 : AV), C0.iter (r10R0 C0 d a0 a1 a2 a3 a4 a5 a6 a7 a8) n ⟨[(.agg [(.lst a0), (iz a1), (iz a2), (iz a3), (iz a4), (iz a5), (iz a6), (iz a7), (iz a8)]), (.ptr 0 0 0), (iz x3), (iz x4), (.ptr 0 0 0), (.lst a0), (iz (((List.length a0) : Nat) : Int)), (.bool (decide ((((List.length a0) : Nat) : Int) < 1))), bf, (.ptr 0 0 0), (.lst a0), (iz (((List.length a0) : Nat) : Int)), (.bool (decide ((((List.length a0) : Nat) : Int) > 4))), bf, v5, v6, v7, v8, v9, v10, v11, v12, v13, v14, v15, v16, v17, v18, tz, tz, tz, tz, tz, tz, tz, tz, tz, tz, tz, tz, tz, tz, tz, tz, tz, tz, tz, tz, tz, tz, tz, tz, tz, tz, tz, tz, tz, tz, tz, tz, tz, tz, tz, tz, tz, tz, tz, tz, tz, tz, tz, tz, tz], [some ⟨E24, [(.agg [(.lst a0), (iz a1), (iz a2), (iz a3), (iz a4), (iz a5), (iz a6), (iz a7), (iz a8)])]⟩]⟩ [0] [r10X0_0 C0 d a0 a1 a2 a3 a4 a5 a6 a7 a8] (r10E0 C0 d a0 a1 a2 a3 a4 a5 a6 a7 a8) = L10_0 d a0 a1 a2 a3 a4 a5 a6 a7 a8 n x4 := by
  generalize hR : r10R0 C0 d a0 a1 a2 a3 a4 a5 a6 a7 a8 = R
  intro n
  induction n with
  | zero => intros; rfl
  | succ n ih =>
    intro x3 x4 v5 v6 v7 v8 v9 v10 v11 v12 v13 v14 v15 v16 v17 v18
    simp only [it_ret] at ih
    rw [it_ret, xiter_s]
    refine Eq.trans (congrFun (congrFun hR.symm _) _) ?_
    unfold r10R0
    refine Eq.trans (pl_len (by rfl)) ?_; (iterate 2 (refine yt yS ?_)); (iterate 2 (refine yt yI ?_)); (iterate 10 (refine yt yS ?_)); (iterate 14 (refine yt yA ?_)); (iterate 45 (refine yt yS ?_)); refine Eq.trans (pl_sameH) ?_
    simp only [kIter_n, kIter_x, kIter_r, kOut_x, kOut_r, xgo_hit, xgo_miss, ih, X10_0_0_ok d a0 a1 a2 a3 a4 a5 a6 a7 a8  , E10_0_ok d a0 a1 a2 a3 a4 a5 a6 a7 a8  ]
    exact (L10_0_s d a0 a1 a2 a3 a4 a5 a6 a7 a8 n x4).symm
/-- apogee/apogeeref13.Wrong -/
theorem q10 (d : Nat) (a0 : List AV) (a1 a2 a3 a4 a5 a6 a7 a8 : Int) : xcall C0 M unr d 10 [(.agg [(.lst a0), (iz a1), (iz a2), (iz a3), (iz a4), (iz a5), (iz a6), (iz a7), (iz a8)])] =
  cnd (decide ((((List.length a0) : Nat) : Int) < 1))
   (some (iz 1))
   (cnd (decide ((((List.length a0) : Nat) : Int) > 4))
   (some (iz 1))
   (L10_0 d a0 a1 a2 a3 a4 a5 a6 a7 a8 10000000000000000000 0)) := (r10 C0 d a0 a1 a2 a3 a4 a5 a6 a7 a8).trans (by simp only [it10_0])
noncomputable def X23_0_0 (d : Nat) (n0 : Nat) (K0 : AV → Heap → Ans) (v0 v2 : AV) (x19 : Int) (H : Heap) : Ans :=
  C0.hop H (.load true 9 (.v v0)) fun v81 h82 =>
   C0.agg 9 (some v81) fun l83 =>
   C0.any l83[0]? fun v84 =>
   C0.int .i64 l83[1]? fun x85 =>
   C0.int .i64 l83[2]? fun x86 =>
   C0.int .i64 l83[3]? fun x87 =>
   C0.int .i64 l83[4]? fun x88 =>
   C0.int .i64 l83[5]? fun x89 =>
   C0.int .i64 l83[6]? fun x90 =>
   C0.int .i64 l83[7]? fun x91 =>
   C0.int .i64 l83[8]? fun x92 =>
   C0.hop h82 (.store 9 (.v v2) (.v (.agg [v84, (iz x85), (iz x86), (iz x87), (iz x88), (iz x89), (iz x90), (iz x91), (iz x92)]))) fun v93 h94 =>
   C0.hop h94 (.load true 9 (.v v2)) fun v95 h96 =>
    K0 v95 h94
theorem X23_0_0_ok (d : Nat) (a0 : AV) (a1 a2 a3 a4 a5 a6 a7 a8 : Int) (n0 : Nat) (K0 : AV → Heap → Ans) (v0 v2 v4 v6 v9 v13 v15 : AV) (x19 : Int) (v64 : AV) (x65 : Int) (v66 v67 v68 v69 v70 v71 v72 v73 v74 v75 v76 v77 v78 v79 v80 : AV) (H : Heap) : r23X0_0 C0 d a0 a1 a2 a3 a4 a5 a6 a7 a8 n0 K0 v0 v2 v4 v6 v9 v13 v15 x19 ⟨[(.agg [a0, (iz a1), (iz a2), (iz a3), (iz a4), (iz a5), (iz a6), (iz a7), (iz a8)]), v0, v2, v64, v4, v6, (.lst []), v9, v13, v15, (iz x19), (iz x65), v66, v67, v68, v69, v70, v71, v72, v73, v74, v75, v76, v77, v78, v79, v80, tz], H⟩ = X23_0_0 d n0 K0 v0 v2 x19 H := by
  unfold r23X0_0; refine Eq.trans (pl_len (by rfl)) ?_; (iterate 3 (refine yt yS ?_)); refine yt yA ?_; (iterate 7 (refine yt yS ?_)); refine yt yI ?_; (iterate 15 (refine yt yA ?_)); refine yt yS ?_
  rfl
noncomputable def L23_0 (d : Nat) (n0 : Nat) (K0 : AV → Heap → Ans) (v0 v2 : AV) (x19 : Int) : Nat → Int → Heap → Ans
  | 0, _, _ => none
  | n + 1, x24, H =>
  cnd (decide (x24 < x19))
   (C0.hop H (.fldA 0 (.v v0)) fun v40 h41 =>
   C0.hop h41 (.load false 1 (.v v40)) fun v42 h43 =>
   C0.hop h43 (.fldA 0 (.v v0)) fun v44 h45 =>
   C0.hop h45 (.load false 1 (.v v44)) fun v46 h47 =>
   C0.hop h47 (.ixAS .any 5 (.v v46) (.v (iz x24))) fun v48 h49 =>
   C0.hop h49 (.fldA 0 (.v v48)) fun v50 h51 =>
   C0.hop h51 (.load false 1 (.v v50)) fun v52 h53 =>
   C0.cal M (pcall M d) (n0 + 8) false 35 [v52] h53 fun v54 h55 =>
   C0.any (some v54) fun v56 =>
   C0.hop h55 (.ixAS .any 5 (.v v42) (.v (iz x24))) fun v57 h58 =>
   C0.hop h58 (.fldA 0 (.v v57)) fun v59 h60 =>
   C0.hop h60 (.store 1 (.v v59) (.v v56)) fun v61 h62 =>
   L23_0 d n0 K0 v0 v2 x19 n (IntKind.wrap .i64 (x24 + 1)) h62)
   (X23_0_0 d n0 K0 v0 v2 x19 H)
theorem L23_0_s (d : Nat) (n0 : Nat) (K0 : AV → Heap → Ans) (v0 v2 : AV) (x19 : Int) (n : Nat) (x24 : Int) (H : Heap) : L23_0 d n0 K0 v0 v2 x19 (n + 1) x24 H = (cnd (decide (x24 < x19))
   (C0.hop H (.fldA 0 (.v v0)) fun v40 h41 =>
   C0.hop h41 (.load false 1 (.v v40)) fun v42 h43 =>
   C0.hop h43 (.fldA 0 (.v v0)) fun v44 h45 =>
   C0.hop h45 (.load false 1 (.v v44)) fun v46 h47 =>
   C0.hop h47 (.ixAS .any 5 (.v v46) (.v (iz x24))) fun v48 h49 =>
   C0.hop h49 (.fldA 0 (.v v48)) fun v50 h51 =>
   C0.hop h51 (.load false 1 (.v v50)) fun v52 h53 =>
   C0.cal M (pcall M d) (n0 + 8) false 35 [v52] h53 fun v54 h55 =>
   C0.any (some v54) fun v56 =>
   C0.hop h55 (.ixAS .any 5 (.v v42) (.v (iz x24))) fun v57 h58 =>
   C0.hop h58 (.fldA 0 (.v v57)) fun v59 h60 =>
   C0.hop h60 (.store 1 (.v v59) (.v v56)) fun v61 h62 =>
   L23_0 d n0 K0 v0 v2 x19 n (IntKind.wrap .i64 (x24 + 1)) h62)
   (X23_0_0 d n0 K0 v0 v2 x19 H)) := by kernel_rfl
theorem it23_0 (d : Nat) (a0 : AV) (a1 a2 a3 a4 a5 a6 a7 a8 : Int) (n0 : Nat) (K0 : AV → Heap → Ans) (v0 v2 v4 v6 v9 v13 v15 : AV) (x19 : Int)   : ∀ (n : Nat) (v23 : AV) (x24 : Int) (v25 v26 v27 v28 v29 v30 v31 v32 v33 v34 v35 v36 v37 v38 v39 : AV) (H : Heap), C0.iter (r23R0 C0 d a0 a1 a2 a3 a4 a5 a6 a7 a8 n0 K0 v0 v2 v4 v6 v9 v13 v15 x19) n ⟨[(.agg [a0, (iz a1), (iz a2), (iz a3), (iz a4), (iz a5), (iz a6), (iz a7), (iz a8)]), v0, v2, v23, v4, v6, (.lst []), v9, v13, v15, (iz x19), (iz x24), v25, v26, v27, v28, v29, v30, v31, v32, v33, v34, v35, v36, v37, v38, v39, tz], H⟩ [0] [r23X0_0 C0 d a0 a1 a2 a3 a4 a5 a6 a7 a8 n0 K0 v0 v2 v4 v6 v9 v13 v15 x19] (r23E0 C0 d a0 a1 a2 a3 a4 a5 a6 a7 a8 n0 K0 v0 v2 v4 v6 v9 v13 v15 x19) = L23_0 d n0 K0 v0 v2 x19 n x24 H := by
  generalize hR : r23R0 C0 d a0 a1 a2 a3 a4 a5 a6 a7 a8 n0 K0 v0 v2 v4 v6 v9 v13 v15 x19 = R
  intro n
  induction n with
  | zero => intros; rfl
  | succ n ih =>
    intro v23 x24 v25 v26 v27 v28 v29 v30 v31 v32 v33 v34 v35 v36 v37 v38 v39 H
    simp only [it_ret] at ih
    rw [it_ret, xiter_s]
    refine Eq.trans (congrFun (congrFun hR.symm _) _) ?_
    unfold r23R0
    refine Eq.trans (pl_len (by rfl)) ?_; (iterate 3 (refine yt yS ?_)); refine yt yA ?_; (iterate 7 (refine yt yS ?_)); refine yt yI ?_; (iterate 15 (refine yt yA ?_)); refine yt yS ?_
    simp only [kIter_n, kIter_x, kIter_r, kOut_x, kOut_r, xgo_hit, xgo_miss, ih, X23_0_0_ok d a0 a1 a2 a3 a4 a5 a6 a7 a8 n0 K0 v0 v2 v4 v6 v9 v13 v15 x19  ]
    exact (L23_0_s d n0 K0 v0 v2 x19 n x24 H).symm
noncomputable def X23_2_0 (d : Nat) (n0 : Nat) (K0 : AV → Heap → Ans) (v0 v2 : AV) (x129 : Int) (H : Heap) : Ans :=
  C0.hop H (.load true 9 (.v v0)) fun v191 h192 =>
   C0.agg 9 (some v191) fun l193 =>
   C0.any l193[0]? fun v194 =>
   C0.int .i64 l193[1]? fun x195 =>
   C0.int .i64 l193[2]? fun x196 =>
   C0.int .i64 l193[3]? fun x197 =>
   C0.int .i64 l193[4]? fun x198 =>
   C0.int .i64 l193[5]? fun x199 =>
   C0.int .i64 l193[6]? fun x200 =>
   C0.int .i64 l193[7]? fun x201 =>
   C0.int .i64 l193[8]? fun x202 =>
   C0.hop h192 (.store 9 (.v v2) (.v (.agg [v194, (iz x195), (iz x196), (iz x197), (iz x198), (iz x199), (iz x200), (iz x201), (iz x202)]))) fun v203 h204 =>
   C0.hop h204 (.load true 9 (.v v2)) fun v205 h206 =>
    K0 v205 h204
theorem X23_2_0_ok (d : Nat) (a0 : AV) (a1 a2 a3 a4 a5 a6 a7 a8 : Int) (n0 : Nat) (K0 : AV → Heap → Ans) (v0 v2 v4 v6 v119 v123 v125 : AV) (x129 : Int) (v174 : AV) (x175 : Int) (v176 v177 v178 v179 v180 v181 v182 v183 v184 v185 v186 v187 v188 v189 v190 : AV) (H : Heap) : r23X2_0 C0 d a0 a1 a2 a3 a4 a5 a6 a7 a8 n0 K0 v0 v2 v4 v6 v119 v123 v125 x129 ⟨[(.agg [a0, (iz a1), (iz a2), (iz a3), (iz a4), (iz a5), (iz a6), (iz a7), (iz a8)]), v0, v2, v174, v4, v6, (.zsl true), v119, v123, v125, (iz x129), (iz x175), v176, v177, v178, v179, v180, v181, v182, v183, v184, v185, v186, v187, v188, v189, v190, tz], H⟩ = X23_2_0 d n0 K0 v0 v2 x129 H := by
  unfold r23X2_0; refine Eq.trans (pl_len (by rfl)) ?_; (iterate 3 (refine yt yS ?_)); refine yt yA ?_; (iterate 7 (refine yt yS ?_)); refine yt yI ?_; (iterate 15 (refine yt yA ?_)); refine yt yS ?_
  rfl
noncomputable def L23_2 (d : Nat) (n0 : Nat) (K0 : AV → Heap → Ans) (v0 v2 : AV) (x129 : Int) : Nat → Int → Heap → Ans
  | 0, _, _ => none
  | n + 1, x134, H =>
  cnd (decide (x134 < x129))
   (C0.hop H (.fldA 0 (.v v0)) fun v150 h151 =>
   C0.hop h151 (.load false 1 (.v v150)) fun v152 h153 =>
   C0.hop h153 (.fldA 0 (.v v0)) fun v154 h155 =>
   C0.hop h155 (.load false 1 (.v v154)) fun v156 h157 =>
   C0.hop h157 (.ixAS .any 5 (.v v156) (.v (iz x134))) fun v158 h159 =>
   C0.hop h159 (.fldA 0 (.v v158)) fun v160 h161 =>
   C0.hop h161 (.load false 1 (.v v160)) fun v162 h163 =>
   C0.cal M (pcall M d) (n0 + 8) false 35 [v162] h163 fun v164 h165 =>
   C0.any (some v164) fun v166 =>
   C0.hop h165 (.ixAS .any 5 (.v v152) (.v (iz x134))) fun v167 h168 =>
   C0.hop h168 (.fldA 0 (.v v167)) fun v169 h170 =>
   C0.hop h170 (.store 1 (.v v169) (.v v166)) fun v171 h172 =>
   L23_2 d n0 K0 v0 v2 x129 n (IntKind.wrap .i64 (x134 + 1)) h172)
   (X23_2_0 d n0 K0 v0 v2 x129 H)
theorem L23_2_s (d : Nat) (n0 : Nat) (K0 : AV → Heap → Ans) (v0 v2 : AV) (x129 : Int) (n : Nat) (x134 : Int) (H : Heap) : L23_2 d n0 K0 v0 v2 x129 (n + 1) x134 H = (cnd (decide (x134 < x129))
   (C0.hop H (.fldA 0 (.v v0)) fun v150 h151 =>
   C0.hop h151 (.load false 1 (.v v150)) fun v152 h153 =>
   C0.hop h153 (.fldA 0 (.v v0)) fun v154 h155 =>
   C0.hop h155 (.load false 1 (.v v154)) fun v156 h157 =>
   C0.hop h157 (.ixAS .any 5 (.v v156) (.v (iz x134))) fun v158 h159 =>
   C0.hop h159 (.fldA 0 (.v v158)) fun v160 h161 =>
   C0.hop h161 (.load false 1 (.v v160)) fun v162 h163 =>
   C0.cal M (pcall M d) (n0 + 8) false 35 [v162] h163 fun v164 h165 =>
   C0.any (some v164) fun v166 =>
   C0.hop h165 (.ixAS .any 5 (.v v152) (.v (iz x134))) fun v167 h168 =>
   C0.hop h168 (.fldA 0 (.v v167)) fun v169 h170 =>
   C0.hop h170 (.store 1 (.v v169) (.v v166)) fun v171 h172 =>
   L23_2 d n0 K0 v0 v2 x129 n (IntKind.wrap .i64 (x134 + 1)) h172)
   (X23_2_0 d n0 K0 v0 v2 x129 H)) := by kernel_rfl
theorem it23_2 (d : Nat) (a0 : AV) (a1 a2 a3 a4 a5 a6 a7 a8 : Int) (n0 : Nat) (K0 : AV → Heap → Ans) (v0 v2 v4 v6 v119 v123 v125 : AV) (x129 : Int)   : ∀ (n : Nat) (v133 : AV) (x134 : Int) (v135 v136 v137 v138 v139 v140 v141 v142 v143 v144 v145 v146 v147 v148 v149 : AV) (H : Heap), C0.iter (r23R2 C0 d a0 a1 a2 a3 a4 a5 a6 a7 a8 n0 K0 v0 v2 v4 v6 v119 v123 v125 x129) n ⟨[(.agg [a0, (iz a1), (iz a2), (iz a3), (iz a4), (iz a5), (iz a6), (iz a7), (iz a8)]), v0, v2, v133, v4, v6, (.zsl true), v119, v123, v125, (iz x129), (iz x134), v135, v136, v137, v138, v139, v140, v141, v142, v143, v144, v145, v146, v147, v148, v149, tz], H⟩ [0] [r23X2_0 C0 d a0 a1 a2 a3 a4 a5 a6 a7 a8 n0 K0 v0 v2 v4 v6 v119 v123 v125 x129] (r23E2 C0 d a0 a1 a2 a3 a4 a5 a6 a7 a8 n0 K0 v0 v2 v4 v6 v119 v123 v125 x129) = L23_2 d n0 K0 v0 v2 x129 n x134 H := by
  generalize hR : r23R2 C0 d a0 a1 a2 a3 a4 a5 a6 a7 a8 n0 K0 v0 v2 v4 v6 v119 v123 v125 x129 = R
  intro n
  induction n with
  | zero => intros; rfl
  | succ n ih =>
    intro v133 x134 v135 v136 v137 v138 v139 v140 v141 v142 v143 v144 v145 v146 v147 v148 v149 H
    simp only [it_ret] at ih
    rw [it_ret, xiter_s]
    refine Eq.trans (congrFun (congrFun hR.symm _) _) ?_
    unfold r23R2
    refine Eq.trans (pl_len (by rfl)) ?_; (iterate 3 (refine yt yS ?_)); refine yt yA ?_; (iterate 7 (refine yt yS ?_)); refine yt yI ?_; (iterate 15 (refine yt yA ?_)); refine yt yS ?_
    simp only [kIter_n, kIter_x, kIter_r, kOut_x, kOut_r, xgo_hit, xgo_miss, ih, X23_2_0_ok d a0 a1 a2 a3 a4 a5 a6 a7 a8 n0 K0 v0 v2 v4 v6 v119 v123 v125 x129  ]
    exact (L23_2_s d n0 K0 v0 v2 x129 n x134 H).symm
noncomputable def X23_4_0 (d : Nat) (n0 : Nat) (K0 : AV → Heap → Ans) (v0 v2 : AV) (x240 : Int) (H : Heap) : Ans :=
  C0.hop H (.load true 9 (.v v0)) fun v302 h303 =>
   C0.agg 9 (some v302) fun l304 =>
   C0.any l304[0]? fun v305 =>
   C0.int .i64 l304[1]? fun x306 =>
   C0.int .i64 l304[2]? fun x307 =>
   C0.int .i64 l304[3]? fun x308 =>
   C0.int .i64 l304[4]? fun x309 =>
   C0.int .i64 l304[5]? fun x310 =>
   C0.int .i64 l304[6]? fun x311 =>
   C0.int .i64 l304[7]? fun x312 =>
   C0.int .i64 l304[8]? fun x313 =>
   C0.hop h303 (.store 9 (.v v2) (.v (.agg [v305, (iz x306), (iz x307), (iz x308), (iz x309), (iz x310), (iz x311), (iz x312), (iz x313)]))) fun v314 h315 =>
   C0.hop h315 (.load true 9 (.v v2)) fun v316 h317 =>
    K0 v316 h315
theorem X23_4_0_ok (d : Nat) (a0 : AV) (a1 a2 a3 a4 a5 a6 a7 a8 : Int) (n0 : Nat) (K0 : AV → Heap → Ans) (v0 v2 v4 v6 v228 v230 v234 v236 : AV) (x240 : Int) (v285 : AV) (x286 : Int) (v287 v288 v289 v290 v291 v292 v293 v294 v295 v296 v297 v298 v299 v300 v301 : AV) (H : Heap) : r23X4_0 C0 d a0 a1 a2 a3 a4 a5 a6 a7 a8 n0 K0 v0 v2 v4 v6 v228 v230 v234 v236 x240 ⟨[(.agg [a0, (iz a1), (iz a2), (iz a3), (iz a4), (iz a5), (iz a6), (iz a7), (iz a8)]), v0, v2, v285, v4, v6, v228, v230, v234, v236, (iz x240), (iz x286), v287, v288, v289, v290, v291, v292, v293, v294, v295, v296, v297, v298, v299, v300, v301, tz], H⟩ = X23_4_0 d n0 K0 v0 v2 x240 H := by
  unfold r23X4_0; refine Eq.trans (pl_len (by rfl)) ?_; (iterate 3 (refine yt yS ?_)); refine yt yA ?_; (iterate 7 (refine yt yS ?_)); refine yt yI ?_; (iterate 15 (refine yt yA ?_)); refine yt yS ?_
  rfl
noncomputable def L23_4 (d : Nat) (n0 : Nat) (K0 : AV → Heap → Ans) (v0 v2 : AV) (x240 : Int) : Nat → Int → Heap → Ans
  | 0, _, _ => none
  | n + 1, x245, H =>
  cnd (decide (x245 < x240))
   (C0.hop H (.fldA 0 (.v v0)) fun v261 h262 =>
   C0.hop h262 (.load false 1 (.v v261)) fun v263 h264 =>
   C0.hop h264 (.fldA 0 (.v v0)) fun v265 h266 =>
   C0.hop h266 (.load false 1 (.v v265)) fun v267 h268 =>
   C0.hop h268 (.ixAS .any 5 (.v v267) (.v (iz x245))) fun v269 h270 =>
   C0.hop h270 (.fldA 0 (.v v269)) fun v271 h272 =>
   C0.hop h272 (.load false 1 (.v v271)) fun v273 h274 =>
   C0.cal M (pcall M d) (n0 + 8) false 35 [v273] h274 fun v275 h276 =>
   C0.any (some v275) fun v277 =>
   C0.hop h276 (.ixAS .any 5 (.v v263) (.v (iz x245))) fun v278 h279 =>
   C0.hop h279 (.fldA 0 (.v v278)) fun v280 h281 =>
   C0.hop h281 (.store 1 (.v v280) (.v v277)) fun v282 h283 =>
   L23_4 d n0 K0 v0 v2 x240 n (IntKind.wrap .i64 (x245 + 1)) h283)
   (X23_4_0 d n0 K0 v0 v2 x240 H)
theorem L23_4_s (d : Nat) (n0 : Nat) (K0 : AV → Heap → Ans) (v0 v2 : AV) (x240 : Int) (n : Nat) (x245 : Int) (H : Heap) : L23_4 d n0 K0 v0 v2 x240 (n + 1) x245 H = (cnd (decide (x245 < x240))
   (C0.hop H (.fldA 0 (.v v0)) fun v261 h262 =>
   C0.hop h262 (.load false 1 (.v v261)) fun v263 h264 =>
   C0.hop h264 (.fldA 0 (.v v0)) fun v265 h266 =>
   C0.hop h266 (.load false 1 (.v v265)) fun v267 h268 =>
   C0.hop h268 (.ixAS .any 5 (.v v267) (.v (iz x245))) fun v269 h270 =>
   C0.hop h270 (.fldA 0 (.v v269)) fun v271 h272 =>
   C0.hop h272 (.load false 1 (.v v271)) fun v273 h274 =>
   C0.cal M (pcall M d) (n0 + 8) false 35 [v273] h274 fun v275 h276 =>
   C0.any (some v275) fun v277 =>
   C0.hop h276 (.ixAS .any 5 (.v v263) (.v (iz x245))) fun v278 h279 =>
   C0.hop h279 (.fldA 0 (.v v278)) fun v280 h281 =>
   C0.hop h281 (.store 1 (.v v280) (.v v277)) fun v282 h283 =>
   L23_4 d n0 K0 v0 v2 x240 n (IntKind.wrap .i64 (x245 + 1)) h283)
   (X23_4_0 d n0 K0 v0 v2 x240 H)) := by kernel_rfl
theorem it23_4 (d : Nat) (a0 : AV) (a1 a2 a3 a4 a5 a6 a7 a8 : Int) (n0 : Nat) (K0 : AV → Heap → Ans) (v0 v2 v4 v6 v228 v230 v234 v236 : AV) (x240 : Int)   : ∀ (n : Nat) (v244 : AV) (x245 : Int) (v246 v247 v248 v249 v250 v251 v252 v253 v254 v255 v256 v257 v258 v259 v260 : AV) (H : Heap), C0.iter (r23R4 C0 d a0 a1 a2 a3 a4 a5 a6 a7 a8 n0 K0 v0 v2 v4 v6 v228 v230 v234 v236 x240) n ⟨[(.agg [a0, (iz a1), (iz a2), (iz a3), (iz a4), (iz a5), (iz a6), (iz a7), (iz a8)]), v0, v2, v244, v4, v6, v228, v230, v234, v236, (iz x240), (iz x245), v246, v247, v248, v249, v250, v251, v252, v253, v254, v255, v256, v257, v258, v259, v260, tz], H⟩ [0] [r23X4_0 C0 d a0 a1 a2 a3 a4 a5 a6 a7 a8 n0 K0 v0 v2 v4 v6 v228 v230 v234 v236 x240] (r23E4 C0 d a0 a1 a2 a3 a4 a5 a6 a7 a8 n0 K0 v0 v2 v4 v6 v228 v230 v234 v236 x240) = L23_4 d n0 K0 v0 v2 x240 n x245 H := by
  generalize hR : r23R4 C0 d a0 a1 a2 a3 a4 a5 a6 a7 a8 n0 K0 v0 v2 v4 v6 v228 v230 v234 v236 x240 = R
  intro n
  induction n with
  | zero => intros; rfl
  | succ n ih =>
    intro v244 x245 v246 v247 v248 v249 v250 v251 v252 v253 v254 v255 v256 v257 v258 v259 v260 H
    simp only [it_ret] at ih
    rw [it_ret, xiter_s]
    refine Eq.trans (congrFun (congrFun hR.symm _) _) ?_
    unfold r23R4
    refine Eq.trans (pl_len (by rfl)) ?_; (iterate 3 (refine yt yS ?_)); refine yt yA ?_; (iterate 7 (refine yt yS ?_)); refine yt yI ?_; (iterate 15 (refine yt yA ?_)); refine yt yS ?_
    simp only [kIter_n, kIter_x, kIter_r, kOut_x, kOut_r, xgo_hit, xgo_miss, ih, X23_4_0_ok d a0 a1 a2 a3 a4 a5 a6 a7 a8 n0 K0 v0 v2 v4 v6 v228 v230 v234 v236 x240  ]
    exact (L23_4_s d n0 K0 v0 v2 x240 n x245 H).symm
/-- apogee/rules.Copy -/
theorem q23 (d : Nat) (a0 : AV) (a1 a2 a3 a4 a5 a6 a7 a8 : Int) (n0 : Nat) (H0 : Heap) (K0 : AV → Heap → Ans) : xmeth C0 M unr d (n0 + 8) 23 [(.agg [a0, (iz a1), (iz a2), (iz a3), (iz a4), (iz a5), (iz a6), (iz a7), (iz a8)])] H0 K0 =
  C0.hop H0 (.box E24 (.v (.agg [a0, (iz a1), (iz a2), (iz a3), (iz a4), (iz a5), (iz a6), (iz a7), (iz a8)]))) fun v0 h1 =>
  C0.hop h1 (.alloc E24) fun v2 h3 =>
  C0.hop h3 (.fldA 0 (.v v0)) fun v4 h5 =>
  C0.hop h5 (.load false 1 (.v v4)) fun v6 h7 =>
  C0.bool (clr v6) fun b8 =>
  cnd b8
   (C0.same (emptyQ (pcall M d) 34) (.lst []) <|
   C0.hop h7 (.fldA 0 (.v v0)) fun v9 h10 =>
   C0.hop h10 (.store 1 (.v v9) (.v (.lst []))) fun v11 h12 =>
   C0.hop h12 (.fldA 0 (.v v0)) fun v13 h14 =>
   C0.hop h14 (.load false 1 (.v v13)) fun v15 h16 =>
   C0.hop h16 (.bk .lenV [(.v v15)]) fun v17 h18 =>
   C0.int .i64 (some v17) fun x19 =>
   L23_0 d n0 K0 v0 v2 x19 10000000000000000000 0 h18)
   (C0.hop h7 (.eqv false 2 [] (.v v6) (.v (.zsl true))) fun v116 h117 =>
   C0.bool (some v116) fun b118 =>
   cnd b118
   (C0.hop h117 (.fldA 0 (.v v0)) fun v119 h120 =>
   C0.hop h120 (.store 1 (.v v119) (.v (.zsl true))) fun v121 h122 =>
   C0.hop h122 (.fldA 0 (.v v0)) fun v123 h124 =>
   C0.hop h124 (.load false 1 (.v v123)) fun v125 h126 =>
   C0.hop h126 (.bk .lenV [(.v v125)]) fun v127 h128 =>
   C0.int .i64 (some v127) fun x129 =>
   L23_2 d n0 K0 v0 v2 x129 10000000000000000000 0 h128)
   (C0.hop h117 (.mkrow E43 0 []) fun v226 h227 =>
   C0.hop h227 (.app E43 (.v v226) (.v v6)) fun v228 h229 =>
   C0.hop h229 (.fldA 0 (.v v0)) fun v230 h231 =>
   C0.hop h231 (.store 1 (.v v230) (.v v228)) fun v232 h233 =>
   C0.hop h233 (.fldA 0 (.v v0)) fun v234 h235 =>
   C0.hop h235 (.load false 1 (.v v234)) fun v236 h237 =>
   C0.hop h237 (.bk .lenV [(.v v236)]) fun v238 h239 =>
   C0.int .i64 (some v238) fun x240 =>
   L23_4 d n0 K0 v0 v2 x240 10000000000000000000 0 h239)) := (r23 C0 d a0 a1 a2 a3 a4 a5 a6 a7 a8 n0 H0 K0).trans (by simp only [it23_0, it23_2, it23_4])
noncomputable def X50f42_0_0 (d : Nat) (a0 : List AV)  : Ans :=
  some (iz (-1))
theorem X50f42_0_0_ok (d : Nat) (a0 : List AV) (x30 : Int) (v31 : AV) (x32 : Int) (v33 v34 v35 v36 v37 v38 v39 v40 v41 v42 : AV) : r50f42X0_0 C0 d a0 ⟨[(.lst a0), (.fn 42 [] []), tz, tz, (iz x30), v31, (.lst a0), (iz (((List.length a0) : Nat) : Int)), (iz x32), v33, v34, v35, v36, v37, v38, v39, v40, v41, v42], []⟩ = X50f42_0_0 d a0  := by
  unfold r50f42X0_0; refine Eq.trans (pl_len (by rfl)) ?_; (iterate 4 (refine yt yS ?_)); refine yt yI ?_; refine yt yA ?_; (iterate 2 (refine yt yS ?_)); refine yt yI ?_; (iterate 10 (refine yt yA ?_)); refine Eq.trans (pl_sameH) ?_
  rfl
noncomputable def E50f42_0 (d : Nat) (a0 : List AV) (x43 : Int) : Ans :=
  some (iz x43)
theorem E50f42_0_ok (d : Nat) (a0 : List AV) (x43 x44 x45 : Int) (v46 : AV) (x47 : Int) (v48 v49 : AV) (x50 : Int) (v51 v53 : AV) (x54 x55 x56 x57 : Int) (b58 : Bool) (x59 : Int) (v60 : AV) : r50f42E0 C0 d a0 ⟨[(.lst a0), (.fn 42 [] []), tz, tz, (iz x43), (iz x44), (.lst a0), (iz (((List.length a0) : Nat) : Int)), (iz x45), v46, (iz x47), v48, v49, (iz x50), v51, (.agg [v53, (iz x54), (iz x55), (iz x56), (iz x57)]), (.bool b58), (iz x59), v60], []⟩ = E50f42_0 d a0 x43 := by
  unfold r50f42E0; refine Eq.trans (pl_len (by rfl)) ?_; (iterate 4 (refine yt yS ?_)); (iterate 2 (refine yt yI ?_)); (iterate 2 (refine yt yS ?_)); refine yt yI ?_; refine yt yA ?_; refine yt yI ?_; (iterate 2 (refine yt yA ?_)); refine yt yI ?_; refine yt yA ?_; refine yt yG ?_; refine yt yA ?_; (iterate 4 (refine yt yI ?_)); refine yt yB ?_; refine yt yI ?_; refine yt yA ?_; refine Eq.trans (pl_sameH) ?_
  rfl
noncomputable def L50f42_0 (d : Nat) (a0 : List AV) : Nat → Int → Ans
  | 0, _ => none
  | n + 1, x5 =>
  cnd (decide (x5 < (((List.length a0) : Nat) : Int)))
   (cnd (decide ((0 : Int) ≤ x5))
   (C0.agg 5 a0[(Int.toNat x5)]? fun l16 =>
   C0.lst l16[0]? (fun l17 =>
   C0.int .i64 l16[1]? fun x19 =>
   C0.int .i64 l16[2]? fun x20 =>
   C0.int .i64 l16[3]? fun x21 =>
   C0.int .i64 l16[4]? fun x22 =>
   C0.bool (pcall M d 42 [(.agg [(.lst l17), (iz x19), (iz x20), (iz x21), (iz x22)])]) fun b23 =>
   cnd b23
   (E50f42_0 d a0 x5)
   (L50f42_0 d a0 n (IntKind.wrap .i64 (x5 + 1))))
        (fun z18 =>
   C0.int .i64 l16[1]? fun x24 =>
   C0.int .i64 l16[2]? fun x25 =>
   C0.int .i64 l16[3]? fun x26 =>
   C0.int .i64 l16[4]? fun x27 =>
   C0.bool (pcall M d 42 [(.agg [(.zsl z18), (iz x24), (iz x25), (iz x26), (iz x27)])]) fun b28 =>
   cnd b28
   (E50f42_0 d a0 x5)
   (L50f42_0 d a0 n (IntKind.wrap .i64 (x5 + 1)))))
   (none))
   (X50f42_0_0 d a0)
theorem L50f42_0_s (d : Nat) (a0 : List AV) (n : Nat) (x5 : Int) : L50f42_0 d a0 (n + 1) x5 = (cnd (decide (x5 < (((List.length a0) : Nat) : Int)))
   (cnd (decide ((0 : Int) ≤ x5))
   (C0.agg 5 a0[(Int.toNat x5)]? fun l16 =>
   C0.lst l16[0]? (fun l17 =>
   C0.int .i64 l16[1]? fun x19 =>
   C0.int .i64 l16[2]? fun x20 =>
   C0.int .i64 l16[3]? fun x21 =>
   C0.int .i64 l16[4]? fun x22 =>
   C0.bool (pcall M d 42 [(.agg [(.lst l17), (iz x19), (iz x20), (iz x21), (iz x22)])]) fun b23 =>
   cnd b23
   (E50f42_0 d a0 x5)
   (L50f42_0 d a0 n (IntKind.wrap .i64 (x5 + 1))))
        (fun z18 =>
   C0.int .i64 l16[1]? fun x24 =>
   C0.int .i64 l16[2]? fun x25 =>
   C0.int .i64 l16[3]? fun x26 =>
   C0.int .i64 l16[4]? fun x27 =>
   C0.bool (pcall M d 42 [(.agg [(.zsl z18), (iz x24), (iz x25), (iz x26), (iz x27)])]) fun b28 =>
   cnd b28
   (E50f42_0 d a0 x5)
   (L50f42_0 d a0 n (IntKind.wrap .i64 (x5 + 1)))))
   (none))
   (X50f42_0_0 d a0)) := by kernel_rfl
theorem it50f42_0 (d : Nat) (a0 : List AV)   : ∀ (n : Nat) (x3 : Int) (v4 : AV) (x5 : Int) (v6 v7 v8 v9 v10 v11 v12 v13 v14 v15 : AV), C0.iter (r50f42R0 C0 d a0) n ⟨[(.lst a0), (.fn 42 [] []), tz, tz, (iz x3), v4, (.lst a0), (iz (((List.length a0) : Nat) : Int)), (iz x5), v6, v7, v8, v9, v10, v11, v12, v13, v14, v15], []⟩ [0] [r50f42X0_0 C0 d a0] (r50f42E0 C0 d a0) = L50f42_0 d a0 n x5 := by
  generalize hR : r50f42R0 C0 d a0 = R
  intro n
  induction n with
  | zero => intros; rfl
  | succ n ih =>
    intro x3 v4 x5 v6 v7 v8 v9 v10 v11 v12 v13 v14 v15
    simp only [it_ret] at ih
    rw [it_ret, xiter_s]
    refine Eq.trans (congrFun (congrFun hR.symm _) _) ?_
    unfold r50f42R0
    refine Eq.trans (pl_len (by rfl)) ?_; (iterate 4 (refine yt yS ?_)); refine yt yI ?_; refine yt yA ?_; (iterate 2 (refine yt yS ?_)); refine yt yI ?_; (iterate 10 (refine yt yA ?_)); refine Eq.trans (pl_sameH) ?_
    simp only [kIter_n, kIter_x, kIter_r, kOut_x, kOut_r, xgo_hit, xgo_miss, ih, X50f42_0_0_ok d a0  , E50f42_0_ok d a0  ]
    exact (L50f42_0_s d a0 n x5).symm
/-- slices.IndexFunc[[]apogee/api.Phase,apogee/api.Phase] -/
theorem q50f42 (d : Nat) (a0 : List AV) (a1 : AV) : xcall C0 M unr d 50 [(.lst a0), (.fn 42 [] [])] =
  L50f42_0 d a0 10000000000000000000 0 := (r50f42 C0 d a0 a1).trans (by simp only [it50f42_0])
end Go.Proofs.Ytdceaeifcniabaa.AE

namespace Go.Proofs.Ytdceaeifcniabaa.AE
set_option linter.unusedVariables false
set_option linter.unusedSimpArgs false
set_option linter.constructorNameAsVariable false
open Go Go.Proofs.Ytdceaeifcniabaa.Geo
attribute [local irreducible] pcall C0
set_option maxRecDepth 100000
structure Phs where
  ps : List Pt
  g : Int
  v : Int
  m : Int
  u : Int
abbrev phA (p : Phs) : AV := .agg [.lst (p.ps.map pt), .int .i64 p.g, .int .i64 p.v, .int .i64 p.m, .int .i64 p.u]
structure Rul where
  phs : List Phs
  n : Int
  d : Int
  gr : Int
  eps : Int
  st : Int
  age : Int
  lift : Int
  saf : Int
abbrev rl (r : Rul) : AV := .agg [.lst (r.phs.map phA), .int .i64 r.n, .int .i64 r.d, .int .i64 r.gr, .int .i64 r.eps, .int .i64 r.st, .int .i64 r.age, .int .i64 r.lift, .int .i64 r.saf]
theorem rows_phs : ∀ l : List AV, (∀ x ∈ l, ∃ cs, x = .agg cs ∧ CTall [(.sl true [(.i .i64), (.i .i64)]), (.i .i64), (.i .i64), (.i .i64), (.i .i64)] cs) → ∃ ps : List Phs, l = ps.map phA
  | [], _ => ⟨[], rfl⟩
  | x :: l, h => by
    obtain ⟨ps, rfl⟩ := rows_phs l fun y hy => h y (List.mem_cons_of_mem _ hy)
    obtain ⟨_, rfl, _, _, rfl, ⟨r, rfl, hl, hx⟩, _, _, rfl, ⟨g, rfl, _⟩, _, _, rfl, ⟨w, rfl, _⟩, _, _, rfl, ⟨m, rfl, _⟩, _, _, rfl, ⟨u, rfl, _⟩, rfl⟩ := h x (List.mem_cons_self ..)
    obtain ⟨qs, rfl⟩ := rows_pts r hx
    exact ⟨⟨qs, g, w, m, u⟩ :: ps, rfl⟩
theorem ty_rul {v : AV} (h : TyOK true [(.sl true [(.sl true [(.i .i64), (.i .i64)]), (.i .i64), (.i .i64), (.i .i64), (.i .i64)]), (.i .i64), (.i .i64), (.i .i64), (.i .i64), (.i .i64), (.i .i64), (.i .i64), (.i .i64)] v) : ∃ r, v = rl r ∧ r.phs.length ≤ 9223372036854775807 := by
  obtain ⟨l, rfl, _, _, rfl, ⟨r, rfl, hl, hx⟩, _, _, rfl, ⟨a, rfl, _⟩, _, _, rfl, ⟨b, rfl, _⟩, _, _, rfl, ⟨c, rfl, _⟩, _, _, rfl, ⟨d, rfl, _⟩, _, _, rfl, ⟨e, rfl, _⟩, _, _, rfl, ⟨f, rfl, _⟩, _, _, rfl, ⟨g, rfl, _⟩, _, _, rfl, ⟨i, rfl, _⟩, rfl⟩ := h
  obtain ⟨ps, rfl⟩ := rows_phs r hx
  exact ⟨⟨ps, a, b, c, d, e, f, g, i⟩, rfl, by rw [← maxLen_eq]; simpa using hl⟩
theorem phs_at {l : List Phs} {i : Nat} (h : i < l.length) : (l.map phA)[i]? = some (phA l[i]) := by simp [List.getElem?_map, List.getElem?_eq_getElem h]
def fewX (l : List Phs) : Bool := l.all (fun p => decide (p.ps.length ≤ 12)) && decide (l.length ≤ 8)
theorem few_go (d : Nat) (l : List Phs) (hl : l.length ≤ 9223372036854775807) : ∀ (k i : Nat), i + k = l.length → ∀ f, k < f →
    L8_0 d (l.map phA) f (i : Nat) = some (.bool ((l.drop i).all (fun p => decide (p.ps.length ≤ 12)) && decide (l.length ≤ 8)))
  | 0, i, h, f + 1, _ => by
    rw [L8_0, decide_eq_false (by simp; omega), cnd_f, List.drop_of_length_le (by omega)]
    unfold X8_0_0
    simp
    omega
  | k + 1, i, h, f + 1, hf => by
    have hi : i < l.length := by omega
    rw [L8_0, decide_eq_true (by simp; omega), cnd_t, decide_eq_true (by omega), cnd_t, show (((i : Nat) : Int)).toNat = i by omega, phs_at hi]
    repeat with_reducible first | refine tt sh_ptr ?_ | refine tt sh_fptr ?_ | refine tt w2 ?_ | refine tt w3 ?_ | refine tt w8 ?_ | refine tt w9 ?_ | refine tt wf ?_ | refine tt wg ?_ | refine tt wh ?_ | refine tt wi ?_ | refine tt wj ?_ | refine tt wk ?_ | refine tt wl ?_ | refine tt wn ?_ | refine tt c_ort ?_ | refine tt c_nt ?_ | refine tt c_nf ?_ | refine tt (cnd_t _ _) ?_ | refine tt (cnd_f _ _) ?_ | refine tt w6 ?_ | refine tt w4 ?_ | refine tt w5 ?_ | refine tt w7 ?_ | refine tt wm ?_ | refine tt wo ?_ | refine tt wx ?_ | refine tt nil_ptr ?_ | refine tt len_lst ?_ | refine tt len_zsl ?_
    rw [List.drop_eq_getElem_cons hi, List.all_cons, List.length_map]
    by_cases c : l[i].ps.length ≤ 12
    · rw [decide_eq_false (show ¬ ((l[i].ps.length : Nat) : Int) > 12 by omega), cnd_f, decide_eq_true c, Bool.true_and, show IntKind.wrap .i64 (((i : Nat) : Int) + 1) = ((i + 1 : Nat) : Int) by rw [i64w]; omega]
      exact few_go d l hl k (i + 1) (by omega) f (by omega)
    · rw [decide_eq_true (show ((l[i].ps.length : Nat) : Int) > 12 by omega), cnd_t, decide_eq_false c]; rfl
theorem s8 (d : Nat) (r : Rul) (hl : r.phs.length ≤ 9223372036854775807) : pcall M (d + 1) 8 [rl r] = some (.bool (fewX r.phs)) := told (q8 d _ _ _ _ _ _ _ _ _) (by
  have := few_go d r.phs hl r.phs.length 0 (by omega) 10000000000000000000 (by omega)
  rw [List.drop_zero] at this
  exact this)
theorem few_t {l : List Phs} (h : fewX l = true) : (∀ p ∈ l, p.ps.length ≤ 12) ∧ l.length ≤ 8 := by
  unfold fewX at h
  simp only [Bool.and_eq_true, List.all_eq_true, decide_eq_true_iff] at h
  exact h
theorem s26 (d : Nat) (n a b : Int) : pcall M (d + 1) 26 [.int .i64 n, .int .i64 a, .int .i64 b] = some (.bool (decide (a ≤ n ∧ n ≤ b))) := told (r26 C0 d _ _ _) (by
  by_cases h : n ≥ a
  · rw [decide_eq_true h, cnd_t]; congr 2; rw [decide_eq_decide]; omega
  · rw [decide_eq_false h, cnd_f, decide_eq_false (by omega)])
theorem s40 (d : Nat) (n a b : Int) : pcall M (d + 1) 40 [.int .i64 n, .int .i64 a, .int .i64 b] = some (.bool (decide (a ≤ n ∧ n ≤ b))) := told (r40 C0 d _ _ _) (by
  by_cases h : n ≥ a
  · rw [decide_eq_true h, cnd_t]; congr 2; rw [decide_eq_decide]; omega
  · rw [decide_eq_false h, cnd_f, decide_eq_false (by omega)])
theorem s45 (d : Nat) (n a b : Int) : pcall M (d + 1) 45 [.int .i64 n, .int .i64 a, .int .i64 b] = some (.bool (decide (a ≤ n ∧ n ≤ b))) := told (r45 C0 d _ _ _) (by
  by_cases h : n ≥ a
  · rw [decide_eq_true h, cnd_t]; congr 2; rw [decide_eq_decide]; omega
  · rw [decide_eq_false h, cnd_f, decide_eq_false (by omega)])
def RightPh (p : Phs) : Prop := rightB p.ps = true ∧ (1 ≤ p.g ∧ p.g ≤ 100) ∧ (1 ≤ p.v ∧ p.v ≤ 65536) ∧ (1 ≤ p.m ∧ p.m ≤ 1000000) ∧ (0 ≤ p.u ∧ p.u ≤ 1073741824)
instance (p : Phs) : Decidable (RightPh p) := by unfold RightPh; infer_instance
theorem s25 (d : Nat) (p : Phs) (hl : p.ps.length ≤ 140737488355328) : pcall M (d + 10) 25 [phA p] = some (.bool (decide (RightPh p))) := told (r25 C0 (d + 9) _ _ _ _ _) (by
  refine Eq.trans (pl_bool (s36 d p.ps hl)) ?_
  by_cases h : rightB p.ps = true
  rotate_left
  · refine Eq.trans (pl_f (Bool.eq_false_iff.mpr h)) ?_
    rw [decide_eq_false (fun k => h k.1)]
  · refine Eq.trans (pl_len h) ?_
    refine Eq.trans (pl_bool (s26 (d + 8) _ _ _)) ?_
    by_cases h1 : 1 ≤ p.g ∧ p.g ≤ 100
    rotate_left
    · rw [decide_eq_false h1, cnd_f, decide_eq_false (fun h => h1 h.2.1)]
    rw [decide_eq_true h1, cnd_t]
    refine Eq.trans (pl_bool (s26 (d + 8) _ _ _)) ?_
    by_cases h2 : 1 ≤ p.v ∧ p.v ≤ 65536
    rotate_left
    · rw [decide_eq_false h2, cnd_f, decide_eq_false (fun h => h2 h.2.2.1)]
    rw [decide_eq_true h2, cnd_t]
    refine Eq.trans (pl_bool (s26 (d + 8) _ _ _)) ?_
    by_cases h3 : 1 ≤ p.m ∧ p.m ≤ 1000000
    rotate_left
    · rw [decide_eq_false h3, cnd_f, decide_eq_false (fun h => h3 h.2.2.2.1)]
    rw [decide_eq_true h3, cnd_t]
    refine Eq.trans (pl_bool (s26 (d + 8) _ _ _)) ?_
    by_cases h4 : 0 ≤ p.u ∧ p.u ≤ 1073741824
    · rw [decide_eq_true h4, decide_eq_true ⟨h, h1, h2, h3, h4⟩]
    · rw [decide_eq_false h4, decide_eq_false (fun h => h4 h.2.2.2.2)])
theorem s43 (d : Nat) (p : Phs) (hl : p.ps.length ≤ 140737488355328) : pcall M (d + 13) 43 [phA p] = some (.bool (decide (RightPh p))) := told (r43 C0 (d + 12) _ _ _ _ _) (by
  refine Eq.trans (pl_bool (s51 d p.ps hl)) ?_
  by_cases h : rightB p.ps = true
  rotate_left
  · refine Eq.trans (pl_f (Bool.eq_false_iff.mpr h)) ?_
    rw [decide_eq_false (fun k => h k.1)]
  · refine Eq.trans (pl_len h) ?_
    refine Eq.trans (pl_bool (s45 (d + 11) _ _ _)) ?_
    by_cases h1 : 1 ≤ p.g ∧ p.g ≤ 100
    rotate_left
    · rw [decide_eq_false h1, cnd_f, decide_eq_false (fun h => h1 h.2.1)]
    rw [decide_eq_true h1, cnd_t]
    refine Eq.trans (pl_bool (s45 (d + 11) _ _ _)) ?_
    by_cases h2 : 1 ≤ p.v ∧ p.v ≤ 65536
    rotate_left
    · rw [decide_eq_false h2, cnd_f, decide_eq_false (fun h => h2 h.2.2.1)]
    rw [decide_eq_true h2, cnd_t]
    refine Eq.trans (pl_bool (s40 (d + 11) _ _ _)) ?_
    by_cases h3 : 1 ≤ p.m ∧ p.m ≤ 1000000
    rotate_left
    · rw [decide_eq_false h3, cnd_f, decide_eq_false (fun h => h3 h.2.2.2.1)]
    rw [decide_eq_true h3, cnd_t]
    refine Eq.trans (pl_bool (s45 (d + 11) _ _ _)) ?_
    by_cases h4 : 0 ≤ p.u ∧ p.u ≤ 1073741824
    · rw [decide_eq_true h4, decide_eq_true ⟨h, h1, h2, h3, h4⟩]
    · rw [decide_eq_false h4, decide_eq_false (fun h => h4 h.2.2.2.2)])
end Go.Proofs.Ytdceaeifcniabaa.AE

namespace Go.Proofs.Ytdceaeifcniabaa.AE
set_option linter.unusedVariables false
set_option linter.unusedSimpArgs false
set_option linter.constructorNameAsVariable false
open Go Go.Proofs.Ytdceaeifcniabaa.Geo
attribute [local irreducible] pcall C0
set_option maxRecDepth 100000
def fiP (g : Phs → Bool) : List Phs → Int → Int
  | [], _ => -1
  | p :: l, i => bif g p then i else fiP g l (i + 1)
theorem fiP_any (g : Phs → Bool) (ps : List Phs) : ∀ i : Int, 0 ≤ i → decide (fiP g ps i ≥ 0) = ps.any g := by
  induction ps with
  | nil => intro i hi; simp [fiP]
  | cons p l ih =>
    intro i hi
    have h := ih (i + 1) (by omega)
    have e : ∀ b : Bool, decide ((bif b then i else fiP g l (i + 1)) ≥ 0) = (b || l.any g) := fun b => by
      match b with
      | false => exact h
      | true => exact decide_eq_true hi
    exact e (g p)
def badX (p : Phs) : Bool := !decide (RightPh p)
theorem s42 (d : Nat) (p : Phs) (hl : p.ps.length ≤ 140737488355328) : pcall M (d + 14) 42 [phA p] = some (.bool (badX p)) := told (r42 C0 (d + 13) _ _ _ _ _) (by
  exact pl_bool (s43 d p hl))
theorem idx_go (d : Nat) (g : Phs → Bool) (l : List Phs) (hl : l.length ≤ 100) (hg : ∀ p ∈ l, pcall M d 42 [phA p] = some (.bool (g p))) : ∀ (k i : Nat), i + k = l.length → ∀ f, k < f →
    L50f42_0 d (l.map phA) f (i : Nat) = some (.int .i64 (fiP g (l.drop i) (i : Nat)))
  | 0, i, h, f + 1, _ => by
    rw [L50f42_0, decide_eq_false (by simp; omega), cnd_f, List.drop_of_length_le (by omega)]; rfl
  | k + 1, i, h, f + 1, hf => by
    have hi : i < l.length := by omega
    rw [L50f42_0, decide_eq_true (by simp; omega), cnd_t, decide_eq_true (by omega), cnd_t, show (((i : Nat) : Int)).toNat = i by omega, phs_at hi]
    repeat with_reducible first | refine tt sh_ptr ?_ | refine tt sh_fptr ?_ | refine tt w2 ?_ | refine tt w3 ?_ | refine tt w8 ?_ | refine tt w9 ?_ | refine tt wf ?_ | refine tt wg ?_ | refine tt wh ?_ | refine tt wi ?_ | refine tt wj ?_ | refine tt wk ?_ | refine tt wl ?_ | refine tt wn ?_ | refine tt c_ort ?_ | refine tt c_nt ?_ | refine tt c_nf ?_ | refine tt (cnd_t _ _) ?_ | refine tt (cnd_f _ _) ?_ | refine tt w6 ?_ | refine tt w4 ?_ | refine tt w5 ?_ | refine tt w7 ?_ | refine tt wm ?_ | refine tt wo ?_ | refine tt wx ?_ | refine tt nil_ptr ?_ | refine tt len_lst ?_ | refine tt len_zsl ?_
    refine Eq.trans (pl_bool (hg l[i] (List.getElem_mem _))) ?_
    rw [List.drop_eq_getElem_cons hi]
    unfold fiP
    cases g l[i]
    · rw [cnd_f, show IntKind.wrap .i64 (((i : Nat) : Int) + 1) = ((i + 1 : Nat) : Int) by rw [i64w]; omega]
      exact (idx_go d g l hl hg k (i + 1) (by omega) f (by omega)).trans (by simp)
    · rfl
theorem anyI (d : Nat) (g : Phs → Bool) (l : List Phs) (hl : l.length ≤ 100) (hg : ∀ p ∈ l, pcall M d 42 [phA p] = some (.bool (g p))) :
    pcall M (d + 2) 41 [.lst (l.map phA), .fn 42 [] []] = some (.bool (l.any g)) := told (r41f42 C0 (d + 1) _ .nilp) (by
  have h : pcall M (d + 1) 50 [.lst (l.map phA), .fn 42 [] []] = some (.int .i64 (fiP g l 0)) :=
    told (q50f42 d (l.map phA) .nilp) (by have := idx_go d g l hl hg l.length 0 (by omega) 10000000000000000000 (by omega); rw [List.drop_zero] at this; exact this)
  refine Eq.trans (pl_int h) ?_
  rw [fiP_any g l 0 (by decide)])
/-- What is wrong beside the phases. -/
def wrongT (k n d gr eps st age lift saf : Int) : Int :=
  if ¬ ((1 ≤ n ∧ n ≤ 50) ∧ (1 ≤ d ∧ d ≤ 50) ∧ (1 ≤ gr ∧ gr ≤ 50)) then 3 else if ¬ (0 ≤ eps ∧ eps ≤ 1024) then 4 else if ¬ (1 ≤ st ∧ st ≤ 65536) then 5
  else if ¬ (1 ≤ age ∧ age ≤ 50) then 6 else if ¬ (1 ≤ lift ∧ lift ≤ 1073741824) then 7 else if ¬ (0 ≤ saf ∧ saf ≤ k) then 8 else 0
def wrongX (r : Rul) : Int := if r.phs.length < 1 ∨ r.phs.length > 4 then 1 else bif r.phs.any badX then 2 else wrongT r.phs.length r.n r.d r.gr r.eps r.st r.age r.lift r.saf
theorem ref_tail (d : Nat) (l : List AV) (n e gr eps st age lift saf : Int) : X10_0_0 (d + 1) l n e gr eps st age lift saf = some (.int .i64 (wrongT l.length n e gr eps st age lift saf)) := by
  unfold X10_0_0 wrongT
  have W := s26 d
  refine Eq.trans (pl_bool (W _ _ _)) ?_
  by_cases h1 : 1 ≤ n ∧ n ≤ 50
  rotate_left
  · rw [decide_eq_false h1, if_pos (fun h => h1 h.1)]; rfl
  rw [decide_eq_true h1]
  repeat with_reducible first | refine tt sh_ptr ?_ | refine tt sh_fptr ?_ | refine tt w2 ?_ | refine tt w3 ?_ | refine tt w8 ?_ | refine tt w9 ?_ | refine tt wf ?_ | refine tt wg ?_ | refine tt wh ?_ | refine tt wi ?_ | refine tt wj ?_ | refine tt wk ?_ | refine tt wl ?_ | refine tt wn ?_ | refine tt c_ort ?_ | refine tt c_nt ?_ | refine tt c_nf ?_ | refine tt (cnd_t _ _) ?_ | refine tt (cnd_f _ _) ?_ | refine tt w6 ?_ | refine tt w4 ?_ | refine tt w5 ?_ | refine tt w7 ?_ | refine tt wm ?_ | refine tt wo ?_ | refine tt wx ?_ | refine tt nil_ptr ?_ | refine tt len_lst ?_ | refine tt len_zsl ?_
  refine Eq.trans (pl_bool (W _ _ _)) ?_
  by_cases h2 : 1 ≤ e ∧ e ≤ 50
  rotate_left
  · rw [decide_eq_false h2, if_pos (fun h => h2 h.2.1)]; rfl
  rw [decide_eq_true h2]
  repeat with_reducible first | refine tt sh_ptr ?_ | refine tt sh_fptr ?_ | refine tt w2 ?_ | refine tt w3 ?_ | refine tt w8 ?_ | refine tt w9 ?_ | refine tt wf ?_ | refine tt wg ?_ | refine tt wh ?_ | refine tt wi ?_ | refine tt wj ?_ | refine tt wk ?_ | refine tt wl ?_ | refine tt wn ?_ | refine tt c_ort ?_ | refine tt c_nt ?_ | refine tt c_nf ?_ | refine tt (cnd_t _ _) ?_ | refine tt (cnd_f _ _) ?_ | refine tt w6 ?_ | refine tt w4 ?_ | refine tt w5 ?_ | refine tt w7 ?_ | refine tt wm ?_ | refine tt wo ?_ | refine tt wx ?_ | refine tt nil_ptr ?_ | refine tt len_lst ?_ | refine tt len_zsl ?_
  refine Eq.trans (pl_bool (W _ _ _)) ?_
  by_cases h3 : 1 ≤ gr ∧ gr ≤ 50
  rotate_left
  · rw [decide_eq_false h3, if_pos (fun h => h3 h.2.2)]; rfl
  rw [decide_eq_true h3, if_neg (fun h => h ⟨h1, h2, h3⟩)]
  repeat with_reducible first | refine tt sh_ptr ?_ | refine tt sh_fptr ?_ | refine tt w2 ?_ | refine tt w3 ?_ | refine tt w8 ?_ | refine tt w9 ?_ | refine tt wf ?_ | refine tt wg ?_ | refine tt wh ?_ | refine tt wi ?_ | refine tt wj ?_ | refine tt wk ?_ | refine tt wl ?_ | refine tt wn ?_ | refine tt c_ort ?_ | refine tt c_nt ?_ | refine tt c_nf ?_ | refine tt (cnd_t _ _) ?_ | refine tt (cnd_f _ _) ?_ | refine tt w6 ?_ | refine tt w4 ?_ | refine tt w5 ?_ | refine tt w7 ?_ | refine tt wm ?_ | refine tt wo ?_ | refine tt wx ?_ | refine tt nil_ptr ?_ | refine tt len_lst ?_ | refine tt len_zsl ?_
  refine Eq.trans (pl_bool (W _ _ _)) ?_
  by_cases h4 : 0 ≤ eps ∧ eps ≤ 1024
  rotate_left
  · rw [decide_eq_false h4, if_pos h4]; rfl
  rw [decide_eq_true h4, if_neg (fun h => h h4)]
  repeat with_reducible first | refine tt sh_ptr ?_ | refine tt sh_fptr ?_ | refine tt w2 ?_ | refine tt w3 ?_ | refine tt w8 ?_ | refine tt w9 ?_ | refine tt wf ?_ | refine tt wg ?_ | refine tt wh ?_ | refine tt wi ?_ | refine tt wj ?_ | refine tt wk ?_ | refine tt wl ?_ | refine tt wn ?_ | refine tt c_ort ?_ | refine tt c_nt ?_ | refine tt c_nf ?_ | refine tt (cnd_t _ _) ?_ | refine tt (cnd_f _ _) ?_ | refine tt w6 ?_ | refine tt w4 ?_ | refine tt w5 ?_ | refine tt w7 ?_ | refine tt wm ?_ | refine tt wo ?_ | refine tt wx ?_ | refine tt nil_ptr ?_ | refine tt len_lst ?_ | refine tt len_zsl ?_
  refine Eq.trans (pl_bool (W _ _ _)) ?_
  by_cases h5 : 1 ≤ st ∧ st ≤ 65536
  rotate_left
  · rw [decide_eq_false h5, if_pos h5]; rfl
  rw [decide_eq_true h5, if_neg (fun h => h h5)]
  repeat with_reducible first | refine tt sh_ptr ?_ | refine tt sh_fptr ?_ | refine tt w2 ?_ | refine tt w3 ?_ | refine tt w8 ?_ | refine tt w9 ?_ | refine tt wf ?_ | refine tt wg ?_ | refine tt wh ?_ | refine tt wi ?_ | refine tt wj ?_ | refine tt wk ?_ | refine tt wl ?_ | refine tt wn ?_ | refine tt c_ort ?_ | refine tt c_nt ?_ | refine tt c_nf ?_ | refine tt (cnd_t _ _) ?_ | refine tt (cnd_f _ _) ?_ | refine tt w6 ?_ | refine tt w4 ?_ | refine tt w5 ?_ | refine tt w7 ?_ | refine tt wm ?_ | refine tt wo ?_ | refine tt wx ?_ | refine tt nil_ptr ?_ | refine tt len_lst ?_ | refine tt len_zsl ?_
  refine Eq.trans (pl_bool (W _ _ _)) ?_
  by_cases h6 : 1 ≤ age ∧ age ≤ 50
  rotate_left
  · rw [decide_eq_false h6, if_pos h6]; rfl
  rw [decide_eq_true h6, if_neg (fun h => h h6)]
  repeat with_reducible first | refine tt sh_ptr ?_ | refine tt sh_fptr ?_ | refine tt w2 ?_ | refine tt w3 ?_ | refine tt w8 ?_ | refine tt w9 ?_ | refine tt wf ?_ | refine tt wg ?_ | refine tt wh ?_ | refine tt wi ?_ | refine tt wj ?_ | refine tt wk ?_ | refine tt wl ?_ | refine tt wn ?_ | refine tt c_ort ?_ | refine tt c_nt ?_ | refine tt c_nf ?_ | refine tt (cnd_t _ _) ?_ | refine tt (cnd_f _ _) ?_ | refine tt w6 ?_ | refine tt w4 ?_ | refine tt w5 ?_ | refine tt w7 ?_ | refine tt wm ?_ | refine tt wo ?_ | refine tt wx ?_ | refine tt nil_ptr ?_ | refine tt len_lst ?_ | refine tt len_zsl ?_
  refine Eq.trans (pl_bool (W _ _ _)) ?_
  by_cases h7 : 1 ≤ lift ∧ lift ≤ 1073741824
  rotate_left
  · rw [decide_eq_false h7, if_pos h7]; rfl
  rw [decide_eq_true h7, if_neg (fun h => h h7)]
  repeat with_reducible first | refine tt sh_ptr ?_ | refine tt sh_fptr ?_ | refine tt w2 ?_ | refine tt w3 ?_ | refine tt w8 ?_ | refine tt w9 ?_ | refine tt wf ?_ | refine tt wg ?_ | refine tt wh ?_ | refine tt wi ?_ | refine tt wj ?_ | refine tt wk ?_ | refine tt wl ?_ | refine tt wn ?_ | refine tt c_ort ?_ | refine tt c_nt ?_ | refine tt c_nf ?_ | refine tt (cnd_t _ _) ?_ | refine tt (cnd_f _ _) ?_ | refine tt w6 ?_ | refine tt w4 ?_ | refine tt w5 ?_ | refine tt w7 ?_ | refine tt wm ?_ | refine tt wo ?_ | refine tt wx ?_ | refine tt nil_ptr ?_ | refine tt len_lst ?_ | refine tt len_zsl ?_
  refine Eq.trans (pl_bool (W _ _ _)) ?_
  by_cases h8 : 0 ≤ saf ∧ saf ≤ ((l.length : Nat) : Int)
  rotate_left
  · rw [decide_eq_false h8, if_pos h8]; rfl
  rw [decide_eq_true h8, if_neg (fun h => h h8)]
  rfl
theorem ref_go (d : Nat) (r : Rul) (hl : r.phs.length ≤ 100) (ha : ∀ p ∈ r.phs, p.ps.length ≤ 140737488355328) : ∀ (k i : Nat), i + k = r.phs.length → ∀ f, k < f →
    L10_0 (d + 10) (r.phs.map phA) r.n r.d r.gr r.eps r.st r.age r.lift r.saf f (i : Nat) = some (.int .i64 (bif (r.phs.drop i).any badX then 2 else wrongT r.phs.length r.n r.d r.gr r.eps r.st r.age r.lift r.saf))
  | 0, i, h, f + 1, _ => by
    rw [L10_0, decide_eq_false (by simp; omega), cnd_f, List.drop_of_length_le (by omega), ref_tail, List.length_map]; rfl
  | k + 1, i, h, f + 1, hf => by
    have hi : i < r.phs.length := by omega
    rw [L10_0, decide_eq_true (by simp; omega), cnd_t, decide_eq_true (by omega), cnd_t, show (((i : Nat) : Int)).toNat = i by omega, phs_at hi]
    repeat with_reducible first | refine tt sh_ptr ?_ | refine tt sh_fptr ?_ | refine tt w2 ?_ | refine tt w3 ?_ | refine tt w8 ?_ | refine tt w9 ?_ | refine tt wf ?_ | refine tt wg ?_ | refine tt wh ?_ | refine tt wi ?_ | refine tt wj ?_ | refine tt wk ?_ | refine tt wl ?_ | refine tt wn ?_ | refine tt c_ort ?_ | refine tt c_nt ?_ | refine tt c_nf ?_ | refine tt (cnd_t _ _) ?_ | refine tt (cnd_f _ _) ?_ | refine tt w6 ?_ | refine tt w4 ?_ | refine tt w5 ?_ | refine tt w7 ?_ | refine tt wm ?_ | refine tt wo ?_ | refine tt wx ?_ | refine tt nil_ptr ?_ | refine tt len_lst ?_ | refine tt len_zsl ?_
    refine Eq.trans (pl_bool (s25 d r.phs[i] (ha _ (List.getElem_mem _)))) ?_
    rw [List.drop_eq_getElem_cons hi, List.any_cons]
    change cnd (badX r.phs[i]) _ _ = _
    cases badX r.phs[i]
    · rw [cnd_f, Bool.false_or, show IntKind.wrap .i64 (((i : Nat) : Int) + 1) = ((i + 1 : Nat) : Int) by rw [i64w]; omega]
      exact ref_go d r hl ha k (i + 1) (by omega) f (by omega)
    · rfl
theorem s10 (d : Nat) (r : Rul) (hl : r.phs.length ≤ 100) (ha : ∀ p ∈ r.phs, p.ps.length ≤ 140737488355328) : pcall M (d + 11) 10 [rl r] = some (.int .i64 (wrongX r)) := told (q10 (d + 10) _ _ _ _ _ _ _ _ _) (by
  unfold wrongX
  rw [List.length_map]
  by_cases h1 : r.phs.length < 1
  · rw [decide_eq_true (show ((r.phs.length : Nat) : Int) < 1 by omega), cnd_t, if_pos (.inl h1)]
  rw [decide_eq_false (show ¬ ((r.phs.length : Nat) : Int) < 1 by omega), cnd_f]
  by_cases h2 : r.phs.length > 4
  · rw [decide_eq_true (show ((r.phs.length : Nat) : Int) > 4 by omega), cnd_t, if_pos (.inr h2)]
  rw [decide_eq_false (show ¬ ((r.phs.length : Nat) : Int) > 4 by omega), cnd_f, if_neg (by omega)]
  have := ref_go d r hl ha r.phs.length 0 (by omega) 10000000000000000000 (by omega)
  rw [List.drop_zero] at this
  exact this)
end Go.Proofs.Ytdceaeifcniabaa.AE

namespace Go.Proofs.Ytdceaeifcniabaa.AE
set_option linter.unusedVariables false
set_option linter.unusedSimpArgs false
set_option linter.constructorNameAsVariable false
open Go Go.Proofs.Ytdceaeifcniabaa.Geo
attribute [local irreducible] pcall C0
set_option maxRecDepth 100000
def limX (r : Rul) : Prop := (1 ≤ r.n ∧ r.n ≤ 50) ∧ (1 ≤ r.d ∧ r.d ≤ 50) ∧ (1 ≤ r.gr ∧ r.gr ≤ 50)
instance (r : Rul) : Decidable (limX r) := by unfold limX; infer_instance
theorem limI (d : Nat) (r : Rul) : pcall M (d + 2) 44 [.fptr (rl r) 0] = some (.bool (decide (limX r))) := told (r44 C0 (d + 1) .nilp _ _ _ _ _ _ _ _ _) (by
  refine Eq.trans (pl_bool (s40 d _ _ _)) ?_
  by_cases h1 : 1 ≤ (if r.gr < (if r.d < r.n then r.d else r.n) then r.gr else (if r.d < r.n then r.d else r.n)) ∧ (if r.gr < (if r.d < r.n then r.d else r.n) then r.gr else (if r.d < r.n then r.d else r.n)) ≤ 50
  · rw [decide_eq_true h1, cnd_t]
    refine Eq.trans (pl_bool (s40 d _ _ _)) ?_
    congr 2; rw [decide_eq_decide]; unfold limX; omega
  · rw [decide_eq_false h1, cnd_f, decide_eq_false (by unfold limX; omega)])
theorem s33 (d : Nat) (r : Rul) (hl : r.phs.length ≤ 100) (ha : ∀ p ∈ r.phs, p.ps.length ≤ 140737488355328) : pcall M (d + 17) 33 [rl r] = some (.int .i64 (wrongX r)) := told (r33 C0 (d + 16) _ _ _ _ _ _ _ _ _) (by
  have W := s40 (d + 15)
  have V := s45 (d + 15)
  refine Eq.trans (pl_bool (W _ _ _)) ?_
  unfold wrongX
  rw [List.length_map]
  by_cases h1 : (1 : Int) ≤ ((r.phs.length : Nat) : Int) ∧ ((r.phs.length : Nat) : Int) ≤ 4
  rotate_left
  · rw [decide_eq_false h1, if_pos (by omega)]; rfl
  rw [decide_eq_true h1, if_neg (by omega)]
  repeat with_reducible first | refine tt sh_ptr ?_ | refine tt sh_fptr ?_ | refine tt w2 ?_ | refine tt w3 ?_ | refine tt w8 ?_ | refine tt w9 ?_ | refine tt wf ?_ | refine tt wg ?_ | refine tt wh ?_ | refine tt wi ?_ | refine tt wj ?_ | refine tt wk ?_ | refine tt wl ?_ | refine tt wn ?_ | refine tt c_ort ?_ | refine tt c_nt ?_ | refine tt c_nf ?_ | refine tt (cnd_t _ _) ?_ | refine tt (cnd_f _ _) ?_ | refine tt w6 ?_ | refine tt w4 ?_ | refine tt w5 ?_ | refine tt w7 ?_ | refine tt wm ?_ | refine tt wo ?_ | refine tt wx ?_ | refine tt nil_ptr ?_ | refine tt len_lst ?_ | refine tt len_zsl ?_
  refine Eq.trans (pl_bool (anyI (d + 14) badX r.phs hl (fun p hp => s42 d p (ha p hp)))) ?_
  cases r.phs.any badX
  rotate_left
  · rfl
  rw [cnd_f, cond_false]
  refine Eq.trans (pl_bool (limI (d + 14) r)) ?_
  unfold wrongT
  by_cases h2 : limX r
  rotate_left
  · rw [decide_eq_false h2, if_pos (show ¬ ((1 ≤ r.n ∧ r.n ≤ 50) ∧ (1 ≤ r.d ∧ r.d ≤ 50) ∧ (1 ≤ r.gr ∧ r.gr ≤ 50)) from h2)]; rfl
  rw [decide_eq_true h2, if_neg (fun h => h (show ((1 ≤ r.n ∧ r.n ≤ 50) ∧ (1 ≤ r.d ∧ r.d ≤ 50) ∧ (1 ≤ r.gr ∧ r.gr ≤ 50)) from h2))]
  repeat with_reducible first | refine tt sh_ptr ?_ | refine tt sh_fptr ?_ | refine tt w2 ?_ | refine tt w3 ?_ | refine tt w8 ?_ | refine tt w9 ?_ | refine tt wf ?_ | refine tt wg ?_ | refine tt wh ?_ | refine tt wi ?_ | refine tt wj ?_ | refine tt wk ?_ | refine tt wl ?_ | refine tt wn ?_ | refine tt c_ort ?_ | refine tt c_nt ?_ | refine tt c_nf ?_ | refine tt (cnd_t _ _) ?_ | refine tt (cnd_f _ _) ?_ | refine tt w6 ?_ | refine tt w4 ?_ | refine tt w5 ?_ | refine tt w7 ?_ | refine tt wm ?_ | refine tt wo ?_ | refine tt wx ?_ | refine tt nil_ptr ?_ | refine tt len_lst ?_ | refine tt len_zsl ?_
  refine Eq.trans (pl_bool (V _ _ _)) ?_
  by_cases h4 : 0 ≤ r.eps ∧ r.eps ≤ 1024
  rotate_left
  · rw [decide_eq_false h4, if_pos h4]; rfl
  rw [decide_eq_true h4, if_neg (fun h => h h4)]
  repeat with_reducible first | refine tt sh_ptr ?_ | refine tt sh_fptr ?_ | refine tt w2 ?_ | refine tt w3 ?_ | refine tt w8 ?_ | refine tt w9 ?_ | refine tt wf ?_ | refine tt wg ?_ | refine tt wh ?_ | refine tt wi ?_ | refine tt wj ?_ | refine tt wk ?_ | refine tt wl ?_ | refine tt wn ?_ | refine tt c_ort ?_ | refine tt c_nt ?_ | refine tt c_nf ?_ | refine tt (cnd_t _ _) ?_ | refine tt (cnd_f _ _) ?_ | refine tt w6 ?_ | refine tt w4 ?_ | refine tt w5 ?_ | refine tt w7 ?_ | refine tt wm ?_ | refine tt wo ?_ | refine tt wx ?_ | refine tt nil_ptr ?_ | refine tt len_lst ?_ | refine tt len_zsl ?_
  refine Eq.trans (pl_bool (V _ _ _)) ?_
  by_cases h5 : 1 ≤ r.st ∧ r.st ≤ 65536
  rotate_left
  · rw [decide_eq_false h5, if_pos h5]; rfl
  rw [decide_eq_true h5, if_neg (fun h => h h5)]
  repeat with_reducible first | refine tt sh_ptr ?_ | refine tt sh_fptr ?_ | refine tt w2 ?_ | refine tt w3 ?_ | refine tt w8 ?_ | refine tt w9 ?_ | refine tt wf ?_ | refine tt wg ?_ | refine tt wh ?_ | refine tt wi ?_ | refine tt wj ?_ | refine tt wk ?_ | refine tt wl ?_ | refine tt wn ?_ | refine tt c_ort ?_ | refine tt c_nt ?_ | refine tt c_nf ?_ | refine tt (cnd_t _ _) ?_ | refine tt (cnd_f _ _) ?_ | refine tt w6 ?_ | refine tt w4 ?_ | refine tt w5 ?_ | refine tt w7 ?_ | refine tt wm ?_ | refine tt wo ?_ | refine tt wx ?_ | refine tt nil_ptr ?_ | refine tt len_lst ?_ | refine tt len_zsl ?_
  refine Eq.trans (pl_bool (W _ _ _)) ?_
  by_cases h6 : 1 ≤ r.age ∧ r.age ≤ 50
  rotate_left
  · rw [decide_eq_false h6, if_pos h6]; rfl
  rw [decide_eq_true h6, if_neg (fun h => h h6)]
  repeat with_reducible first | refine tt sh_ptr ?_ | refine tt sh_fptr ?_ | refine tt w2 ?_ | refine tt w3 ?_ | refine tt w8 ?_ | refine tt w9 ?_ | refine tt wf ?_ | refine tt wg ?_ | refine tt wh ?_ | refine tt wi ?_ | refine tt wj ?_ | refine tt wk ?_ | refine tt wl ?_ | refine tt wn ?_ | refine tt c_ort ?_ | refine tt c_nt ?_ | refine tt c_nf ?_ | refine tt (cnd_t _ _) ?_ | refine tt (cnd_f _ _) ?_ | refine tt w6 ?_ | refine tt w4 ?_ | refine tt w5 ?_ | refine tt w7 ?_ | refine tt wm ?_ | refine tt wo ?_ | refine tt wx ?_ | refine tt nil_ptr ?_ | refine tt len_lst ?_ | refine tt len_zsl ?_
  refine Eq.trans (pl_bool (V _ _ _)) ?_
  by_cases h7 : 1 ≤ r.lift ∧ r.lift ≤ 1073741824
  rotate_left
  · rw [decide_eq_false h7, if_pos h7]; rfl
  rw [decide_eq_true h7, if_neg (fun h => h h7)]
  repeat with_reducible first | refine tt sh_ptr ?_ | refine tt sh_fptr ?_ | refine tt w2 ?_ | refine tt w3 ?_ | refine tt w8 ?_ | refine tt w9 ?_ | refine tt wf ?_ | refine tt wg ?_ | refine tt wh ?_ | refine tt wi ?_ | refine tt wj ?_ | refine tt wk ?_ | refine tt wl ?_ | refine tt wn ?_ | refine tt c_ort ?_ | refine tt c_nt ?_ | refine tt c_nf ?_ | refine tt (cnd_t _ _) ?_ | refine tt (cnd_f _ _) ?_ | refine tt w6 ?_ | refine tt w4 ?_ | refine tt w5 ?_ | refine tt w7 ?_ | refine tt wm ?_ | refine tt wo ?_ | refine tt wx ?_ | refine tt nil_ptr ?_ | refine tt len_lst ?_ | refine tt len_zsl ?_
  refine Eq.trans (pl_bool (W _ _ _)) ?_
  by_cases h8 : 0 ≤ r.saf ∧ r.saf ≤ ((r.phs.length : Nat) : Int)
  rotate_left
  · rw [decide_eq_false h8, if_pos h8]; rfl
  rw [decide_eq_true h8, if_neg (fun h => h h8)]
  rfl)
theorem s22 (d : Nat) (r : Rul) (hl : r.phs.length ≤ 100) (ha : ∀ p ∈ r.phs, p.ps.length ≤ 140737488355328) : pcall M (d + 18) 22 [rl r] = some (.bool (wrongX r == 0)) := told (r22 C0 (d + 17) _ _ _ _ _ _ _ _ _) (by
  exact pl_int (s33 d r hl ha))
end Go.Proofs.Ytdceaeifcniabaa.AE

namespace Go.Proofs.Ytdceaeifcniabaa.AE
set_option linter.unusedVariables false
set_option linter.unusedSimpArgs false
set_option linter.constructorNameAsVariable false
open Go Go.Proofs.Ytdceaeifcniabaa.Geo
abbrev Bx := Pt × Pt
abbrev bx (b : Bx) : AV := .agg [.int .i64 b.1.1, .int .i64 b.1.2, .int .i64 b.2.1, .int .i64 b.2.2]
end Go.Proofs.Ytdceaeifcniabaa.AE

namespace Go.Proofs.Ytdceaeifcniabaa.AE
set_option linter.unusedVariables false
set_option linter.unusedSimpArgs false
set_option linter.constructorNameAsVariable false
open Go Go.Proofs.Ytdceaeifcniabaa.Geo
attribute [local irreducible] pcall C0
set_option maxRecDepth 100000
theorem clonePQ (d : Nat) : emptyQ (pcall M (d + 1)) 35 = some (.lst []) := by
  unfold emptyQ
  rw [show pcall M (d + 1) 35 [.zsl true] = some (.lst []) by kernel_rfl, show pcall M (d + 1) 35 [.emp] = some (.lst []) by kernel_rfl]
theorem cloneHQ (d : Nat) : emptyQ (pcall M (d + 1)) 34 = some (.lst []) := by
  unfold emptyQ
  rw [show pcall M (d + 1) 34 [.zsl true] = some (.lst []) by kernel_rfl, show pcall M (d + 1) 34 [.emp] = some (.lst []) by kernel_rfl]
theorem xmeth_ok2 {M : Mod} {U : FuncId → XU} {d n : Nat} {g : FuncId} {args : List AV} {H H' : Heap} {v : AV} (he : M.ext g = none) (hi : M.inl g = true) (hem : emptyR M (pcall M d) g args = none) (h : ∀ K, xmeth C0 M U d n g args H K = K v H') : callB M (pcall M d) (n + 1) true g args H = some (v, H') := by
  classical
  have hk := h fun v' H1 => if v' = v ∧ H1 = H' then some .undef else none
  rw [if_pos ⟨rfl, rfl⟩] at hk
  unfold xmeth at hk
  simp only [callB, he, hi, hem, if_true]
  cases hc : M.code g args.length with
  | none => simp [hc] at hk
  | some fn =>
    simp only [hc] at hk ⊢
    obtain ⟨v', H1, h1, h2⟩ := xrunFn_ok (xcallB_ok M U (pcall M d) n true) (xcallB_ok M U (pcall M d) n false) hk
    split at h2
    · rename_i hh
      obtain ⟨rfl, rfl⟩ := hh
      exact h1
    · cases h2
theorem padH_ok : ∀ (n : Nat) (S : Heap), padOk n (padH n ++ S) = true
  | 0, _ => rfl
  | n + 1, S => by
    change (Nat.beq junk.e.es 0 && !junk.els.isEmpty && padOk n (padH n ++ S)) = true
    rw [padH_ok n S]; rfl
theorem padH_l : ∀ n, (padH n).length = n
  | 0 => rfl
  | n + 1 => by change (padH n).length + 1 = _; rw [padH_l n]
theorem fr_of {g : FuncId} {args : List AV} {d n : Nat} {v : Nat → AV} {S : Nat → Heap} (he : M.ext g = none) (hi : M.inl g = true) (hf : M.fr g = true) (ha : args.all (noId DEPTH) = true)
    (h : ∀ H, callB M (pcall M d) (n + 1) true g args H = some (v H.length, H ++ S H.length)) (H : Heap) : callB M (pcall M d) (n + 1) false g args H = some (v H.length, H ++ S H.length) := by
  have h1 := h H
  have h2 := h (padH H.length)
  simp only [callB, he, hi, if_true] at h1 h2 ⊢
  cases hem : emptyR M (pcall M d) g args with
  | some w => rw [hem] at h1; exact h1
  | none =>
    rw [hem] at h2
    simp only [hf, ha, Bool.and_self] at h2 ⊢
    cases hc : M.code g args.length with
    | none => rw [hc] at h2; cases h2
    | some fn =>
      rw [hc] at h2
      simp only at h2 ⊢
      unfold freshRun
      rw [h2, padH_l]
      simp only [padH_ok]
      rw [List.drop_append_of_le_length (by rw [padH_l]; exact Nat.le_refl _), List.drop_of_length_le (by rw [padH_l]; exact Nat.le_refl _), List.nil_append]
theorem mk_n {H : Heap} {e : ETy} {K : AV → Heap → Ans} : C0.hop H (.mkrow e 0 []) K = K (.slc (H.length + 0) 0 0) (H ++ [some ⟨e, []⟩]) := hop_eq rfl
theorem mk_s {H S : Heap} {e : ETy} {K : AV → Heap → Ans} : C0.hop (H ++ S) (.mkrow e 0 []) K = K (.slc (H.length + S.length) 0 0) (H ++ (S ++ [some ⟨e, []⟩])) := by
  refine (hop_eq (v := .slc (H ++ S).length 0 0) (H' := (H ++ S) ++ [some ⟨e, []⟩]) rfl).trans ?_
  rw [List.length_append, List.append_assoc]
theorem ap_s {H S : Heap} {k : Nat} {e : ETy} {xs : List AV} {K : AV → Heap → Ans} (h : S[k]? = some (some ⟨e, []⟩)) (hx : xs.all (elOk e) = true) (hs : xs.length * e.bytes ≤ 140737488355328) (hs2 : xs.length ≤ 9223372036854775807) :
    C0.hop (H ++ S) (.app e (.v (.slc (H.length + k) 0 0)) (.v (.lst xs))) K = K (.slc (H.length + S.length) 0 xs.length) (H ++ (S.set k none ++ [some ⟨e, xs⟩])) := by
  refine (hop_eq (v := .slc (H ++ S).length 0 xs.length) (H' := (H ++ S).set (H.length + k) none ++ [some ⟨e, xs⟩]) ?_).trans ?_
  · simp only [aop, evO, elsOf, aApp]
    rw [hget_s h]
    simp only
    rw [if_pos ⟨rfl, by simpa using hs, by simpa using hs2, trivial, trivial, hx⟩]
    simp
  · rw [List.length_append, set_s, List.append_assoc]
theorem ix_s {H S : Heap} {k n es : Nat} {b : Blk} {q : Int} {K : AV → Heap → Ans} (h : S[k]? = some (some b)) (h0 : 0 ≤ q) (h1 : q < (n : Int)) (he : b.e.es = es) :
    C0.hop (H ++ S) (.ixAS .any es (.v (.slc (H.length + k) 0 n)) (.v (.int .i64 q))) K = K (.ptr (H.length + k) (0 + q.toNat) 0) (H ++ S) := ix_slc (hget_s h) h0 h1 he
theorem ln_s {H S : Heap} {k n : Nat} {b : Blk} {K : AV → Heap → Ans} (h : S[k]? = some (some b)) : C0.hop (H ++ S) (.bk .lenV [.v (.slc (H.length + k) 0 n)]) K = K (.int .i64 n) (H ++ S) := hop_eq (by simp only [aop, evO, lenOf]; rw [hget_s h])
def arV (L : Nat) (ps : List Pt) : AV := match ps with
  | [] => .lst []
  | p :: l => .slc (L + 1) 0 (p :: l).length
def arS (ps : List Pt) : Heap := match ps with
  | [] => []
  | p :: l => [none, some ⟨E62, (p :: l).map pt⟩]
theorem all_ptE (ps : List Pt) : (ps.map pt).all (elOk E62) = true := by
  rw [List.all_eq_true]; intro x hx; obtain ⟨p, _, rfl⟩ := List.mem_map.mp hx; rfl
theorem all_phE (ps : List Phs) : (ps.map phA).all (elOk E43) = true := by
  rw [List.all_eq_true]; intro x hx; obtain ⟨p, _, rfl⟩ := List.mem_map.mp hx; rfl
theorem cloneI (d n0 : Nat) (ps : List Pt) (hl : ps.length ≤ 1000000) (H : Heap) : callB M (pcall M (d + 1)) (n0 + 9) true 35 [.lst (ps.map pt)] H = some (arV H.length ps, H ++ arS ps) := by
  cases ps with
  | nil =>
    have he : M.ext 35 = none := rfl
    have hi : M.inl 35 = true := rfl
    have hem : emptyR M (pcall M (d + 1)) 35 [.lst (List.map pt [])] = some (.lst []) := by
      have hc : M.cl 35 = true := rfl
      simp only [emptyR, hc]
      change emptyQ (pcall M (d + 1)) 35 = _
      exact clonePQ d
    simp only [callB, he, hi, hem, if_true]
    simp [arV, arS]
  | cons p l =>
    refine xmeth_ok2 (U := unr) (n := n0 + 8) rfl rfl (by rw [emptyR, show M.cl 35 = true from rfl]; rfl) fun K => ?_
    refine (r35 C0 (d + 1) _ n0 _ K).trans ?_
    refine Eq.trans (hop_eq (v := .bool false) (H' := H) (by rfl)) ?_
    refine Eq.trans (pl_bool rfl) ?_
    rw [cnd_f]
    refine Eq.trans mk_n ?_
    refine Eq.trans (ap_s (by rfl) (all_ptE _) (by rw [List.length_map, show (E62).bytes = 16 from rfl]; omega) (by rw [List.length_map]; omega)) ?_
    rw [List.length_map]; rfl
theorem cloneF (d n0 : Nat) (ps : List Pt) (hl : ps.length ≤ 1000000) (H : Heap) : callB M (pcall M (d + 1)) (n0 + 9) false 35 [.lst (ps.map pt)] H = some (arV H.length ps, H ++ arS ps) :=
  fr_of (v := fun L => arV L ps) (S := fun _ => arS ps) rfl rfl rfl rfl (cloneI d n0 ps hl) H
end Go.Proofs.Ytdceaeifcniabaa.AE

namespace Go.Proofs.Ytdceaeifcniabaa.AE
set_option linter.unusedVariables false
set_option linter.unusedSimpArgs false
set_option linter.constructorNameAsVariable false
open Go Go.Proofs.Ytdceaeifcniabaa.Geo
attribute [local irreducible] pcall C0
set_option maxRecDepth 100000
abbrev phX (v : AV) (p : Phs) : AV := .agg [v, .int .i64 p.g, .int .i64 p.v, .int .i64 p.m, .int .i64 p.u]
abbrev rlX (v : AV) (r : Rul) : AV := .agg [v, .int .i64 r.n, .int .i64 r.d, .int .i64 r.gr, .int .i64 r.eps, .int .i64 r.st, .int .i64 r.age, .int .i64 r.lift, .int .i64 r.saf]
def arsC : List Phs → Heap
  | [] => []
  | p :: l => arS p.ps ++ arsC l
def elsC : Nat → List Phs → List AV
  | _, [] => []
  | L, p :: l => phX (arV L p.ps) p :: elsC (L + (arS p.ps).length) l
theorem arsC_app : ∀ a b, arsC (a ++ b) = arsC a ++ arsC b
  | [], b => rfl
  | p :: l, b => by rw [List.cons_append, arsC, arsC, arsC_app l b, List.append_assoc]
theorem elsC_snoc : ∀ (l : List Phs) (L : Nat) (p : Phs), elsC L (l ++ [p]) = elsC L l ++ [phX (arV (L + (arsC l).length) p.ps) p]
  | [], L, p => rfl
  | q :: l, L, p => by
    rw [List.cons_append, elsC, elsC, elsC_snoc l, arsC, List.length_append, List.cons_append, Nat.add_assoc]
theorem elsC_len : ∀ (l : List Phs) (L : Nat), (elsC L l).length = l.length
  | [], L => rfl
  | q :: l, L => by rw [elsC, List.length_cons, elsC_len l, List.length_cons]
theorem arV_sc (L : Nat) (ps : List Pt) : (arV L ps).cells = [arV L ps] ∧ isSc (arV L ps) = true := by cases ps <;> exact ⟨rfl, rfl⟩
def phV (L : Nat) (r : Rul) : AV := match r.phs with
  | [] => .lst []
  | p :: l => .slc (L + 3) 0 (p :: l).length
def cpS (L : Nat) (r : Rul) : Heap := match r.phs with
  | [] => [some ⟨E24, [rlX (.lst []) r]⟩, some ⟨E24, [rlX (.lst []) r]⟩]
  | p :: l => [some ⟨E24, [rlX (.slc (L + 3) 0 (p :: l).length) r]⟩, some ⟨E24, [rlX (.slc (L + 3) 0 (p :: l).length) r]⟩, none, some ⟨E43, elsC (L + 4) (p :: l)⟩] ++ arsC (p :: l)
theorem take_snoc {l : List Phs} {i : Nat} (h : i < l.length) : l.take (i + 1) = l.take i ++ [l[i]] := by rw [List.take_add_one, List.getElem?_eq_getElem h]; rfl
theorem els_at {L i : Nat} {l : List Phs} (h : i < l.length) : (elsC L (l.take i) ++ (l.drop i).map phA)[i]? = some (phA l[i]) := by
  rw [List.getElem?_append_right (by rw [elsC_len, List.length_take]; omega), elsC_len, List.length_take, show i - min i l.length = 0 by omega, List.drop_eq_getElem_cons h]; rfl
theorem els_set {L i : Nat} {l : List Phs} (h : i < l.length) : (elsC L (l.take i) ++ (l.drop i).map phA).set i (phX (arV (L + (arsC (l.take i)).length) l[i].ps) l[i]) = elsC L (l.take (i + 1)) ++ (l.drop (i + 1)).map phA := by
  have e : i = (elsC L (l.take i)).length := by rw [elsC_len, List.length_take]; omega
  rw [List.set_append_right _ _ (by omega), show i - (elsC L (l.take i)).length = 0 by omega, List.drop_eq_getElem_cons h, take_snoc h, elsC_snoc]
  simp only [List.map_cons, List.set_cons_zero, List.append_assoc, List.singleton_append]
theorem put_ar {x y : AV} {p : Phs} (h1 : x.cells = [x]) (h2 : isSc x = true) : putSub 1 (0 + 0) x (phX y p) = some (phX x p) := by
  simp only [putSub]
  rw [if_pos ⟨by simp, by rw [h1]; rfl, by rw [h1]; simp [h2]⟩, h1]; rfl
theorem copy_go (d n0 : Nat) (H : Heap) (K : AV → Heap → Ans) (r : Rul) (hl : r.phs.length ≤ 1000000) (ha : ∀ p ∈ r.phs, p.ps.length ≤ 1000000) (B1 : Blk) (hB1 : ∃ v, B1 = ⟨E24, [rlX v ⟨[], 0, 0, 0, 0, 0, 0, 0, 0⟩]⟩) : ∀ (k i : Nat), i + k = r.phs.length → ∀ f, k < f →
    L23_4 (d + 1) (n0 + 1) K (.ptr (H.length + 0) 0 0) (.ptr (H.length + 1) 0 0) (r.phs.length : Nat) f (i : Nat)
      (H ++ ([some ⟨E24, [rlX (.slc (H.length + 3) 0 r.phs.length) r]⟩, some B1, none, some ⟨E43, elsC (H.length + 4) (r.phs.take i) ++ (r.phs.drop i).map phA⟩] ++ arsC (r.phs.take i))) =
    K (rlX (.slc (H.length + 3) 0 r.phs.length) r) (H ++ ([some ⟨E24, [rlX (.slc (H.length + 3) 0 r.phs.length) r]⟩, some ⟨E24, [rlX (.slc (H.length + 3) 0 r.phs.length) r]⟩, none, some ⟨E43, elsC (H.length + 4) r.phs⟩] ++ arsC r.phs))
  | 0, i, h, f + 1, _ => by
    obtain ⟨bv, rfl⟩ := hB1
    rw [L23_4_s, decide_eq_false (by omega), cnd_f]
    rw [List.take_of_length_le (by omega), List.drop_of_length_le (by omega), List.map_nil, List.append_nil]
    unfold X23_4_0
    refine Eq.trans (ld_s (by rfl) (by rfl) (by rfl)) ?_; refine Eq.trans (pl_agg (by rfl) (by rfl)) ?_; refine Eq.trans (pl_any (by rfl)) ?_; refine Eq.trans (pl_int (by rfl)) ?_; refine Eq.trans (pl_int (by rfl)) ?_; refine Eq.trans (pl_int (by rfl)) ?_; refine Eq.trans (pl_int (by rfl)) ?_; refine Eq.trans (pl_int (by rfl)) ?_; refine Eq.trans (pl_int (by rfl)) ?_; refine Eq.trans (pl_int (by rfl)) ?_; refine Eq.trans (pl_int (by rfl)) ?_; refine Eq.trans (st_s (by rfl) (by rfl) (by rfl)) ?_; refine Eq.trans (ld_s (by rfl) (by rfl) (by rfl)) ?_
    rfl
  | k + 1, i, h, f + 1, hf => by
    have hi : i < r.phs.length := by omega
    have hp := ha _ (List.getElem_mem hi)
    rw [L23_4_s, decide_eq_true (by omega), cnd_t]
    refine Eq.trans sh_ptr ?_; refine Eq.trans (ld_s (by rfl) (by rfl) (by rfl)) ?_; refine Eq.trans sh_ptr ?_; refine Eq.trans (ld_s (by rfl) (by rfl) (by rfl)) ?_
    refine Eq.trans (ix_s (by rfl) (by omega) (by omega) (by rfl)) ?_
    refine Eq.trans sh_ptr ?_
    refine Eq.trans (ld_s (v := .lst (r.phs[i].ps.map pt)) (by rfl) (show (elsC (H.length + 4) (r.phs.take i) ++ (r.phs.drop i).map phA)[0 + ((i : Nat) : Int).toNat]? = some (phA r.phs[i]) by rw [Nat.zero_add, Int.toNat_natCast]; exact els_at hi) (by rfl)) ?_
    refine Eq.trans (cal_eq (cloneF d n0 r.phs[i].ps hp _)) ?_
    refine Eq.trans (pl_any (by rfl)) ?_
    rw [List.append_assoc]
    refine Eq.trans (ix_s (by rfl) (by omega) (by omega) (by rfl)) ?_
    refine Eq.trans sh_ptr ?_
    have hsc := arV_sc (H ++ ([some ⟨E24, [rlX (.slc (H.length + 3) 0 r.phs.length) r]⟩, some B1, none, some ⟨E43, elsC (H.length + 4) (r.phs.take i) ++ (r.phs.drop i).map phA⟩] ++ arsC (r.phs.take i))).length r.phs[i].ps
    refine Eq.trans (st_s (el' := phX _ r.phs[i]) (by rfl) (show (elsC (H.length + 4) (r.phs.take i) ++ (r.phs.drop i).map phA)[0 + ((i : Nat) : Int).toNat]? = some (phA r.phs[i]) by rw [Nat.zero_add, Int.toNat_natCast]; exact els_at hi) (put_ar hsc.1 hsc.2)) ?_
    rw [Nat.zero_add, Int.toNat_natCast]
    rw [show (H ++ ([some ⟨E24, [rlX (.slc (H.length + 3) 0 r.phs.length) r]⟩, some B1, none, some ⟨E43, elsC (H.length + 4) (r.phs.take i) ++ (r.phs.drop i).map phA⟩] ++ arsC (r.phs.take i))).length = H.length + 4 + (arsC (r.phs.take i)).length by simp; omega]
    have ih := copy_go d n0 H K r hl ha B1 hB1 k (i + 1) (by omega) f (by omega)
    rw [← els_set hi, take_snoc hi, arsC_app] at ih
    rw [show IntKind.wrap .i64 (((i : Nat) : Int) + 1) = ((i + 1 : Nat) : Int) by rw [i64w]; omega]
    refine Eq.trans (congrArg _ ?_) ih
    simp [arsC]
theorem copyI (d n0 : Nat) (r : Rul) (hl : r.phs.length ≤ 1000000) (ha : ∀ p ∈ r.phs, p.ps.length ≤ 1000000) (H : Heap) : callB M (pcall M (d + 1)) (n0 + 10) true 23 [rl r] H = some (rlX (phV H.length r) r, H ++ cpS H.length r) := by
  refine xmeth_ok (U := unr) (n := n0 + 9) rfl rfl rfl fun K => ?_
  refine (q23 (d + 1) _ _ _ _ _ _ _ _ _ (n0 + 1) _ K).trans ?_
  refine Eq.trans (bx_n (by rfl)) ?_
  refine Eq.trans al_s ?_; refine Eq.trans sh_ptr ?_; refine Eq.trans (ld_s (by rfl) (by rfl) (by rfl)) ?_
  obtain ⟨phs, n, dd, gr, eps, st, age, lift, saf⟩ := r
  cases phs with
  | nil =>
    refine Eq.trans (pl_bool (n := true) (by rfl)) ?_
    rw [cnd_t]
    refine Eq.trans (pl_same (cloneHQ d)) ?_
    refine Eq.trans sh_ptr ?_; refine Eq.trans (st_s (by rfl) (by rfl) (by rfl)) ?_; refine Eq.trans sh_ptr ?_; refine Eq.trans (ld_s (by rfl) (by rfl) (by rfl)) ?_
    refine Eq.trans len_lst ?_
    refine Eq.trans (pl_int (by rfl)) ?_
    rw [show 10000000000000000000 = (9999999999999999999) + 1 from rfl, L23_0_s, decide_eq_false (by simp), cnd_f]
    unfold X23_0_0
    refine Eq.trans (ld_s (by rfl) (by rfl) (by rfl)) ?_; refine Eq.trans (pl_agg (by rfl) (by rfl)) ?_; refine Eq.trans (pl_any (by rfl)) ?_; refine Eq.trans (pl_int (by rfl)) ?_; refine Eq.trans (pl_int (by rfl)) ?_; refine Eq.trans (pl_int (by rfl)) ?_; refine Eq.trans (pl_int (by rfl)) ?_; refine Eq.trans (pl_int (by rfl)) ?_; refine Eq.trans (pl_int (by rfl)) ?_; refine Eq.trans (pl_int (by rfl)) ?_; refine Eq.trans (pl_int (by rfl)) ?_; refine Eq.trans (st_s (by rfl) (by rfl) (by rfl)) ?_; refine Eq.trans (ld_s (by rfl) (by rfl) (by rfl)) ?_
    rfl
  | cons q l =>
    refine Eq.trans (pl_bool (n := false) (by rfl)) ?_
    rw [cnd_f]
    refine Eq.trans (hop_eq (by rfl)) ?_; refine Eq.trans (pl_bool (by rfl)) ?_
    refine Eq.trans (pl_f (by rfl)) ?_
    refine Eq.trans mk_s ?_
    refine Eq.trans (ap_s (by rfl) (all_phE _) (by change (q :: l).length ≤ _ at hl; rw [List.length_map, show (E43).bytes = 56 from rfl]; change (q :: l).length * 56 ≤ _; omega) (by change (q :: l).length ≤ _ at hl; rw [List.length_map]; change (q :: l).length ≤ _; omega)) ?_
    rw [List.length_map]
    refine Eq.trans sh_ptr ?_; refine Eq.trans (st_s (by rfl) (by rfl) (by rfl)) ?_; refine Eq.trans sh_ptr ?_; refine Eq.trans (ld_s (by rfl) (by rfl) (by rfl)) ?_
    refine Eq.trans (ln_s (by rfl)) ?_
    refine Eq.trans (pl_int (by rfl)) ?_
    have := copy_go d n0 H K ⟨q :: l, n, dd, gr, eps, st, age, lift, saf⟩ hl ha ⟨E24, [(E24).zero]⟩ ⟨.zsl true, rfl⟩ (q :: l).length 0 (by simp) 10000000000000000000 (by change (q :: l).length ≤ _ at hl; omega)
    refine Eq.trans ?_ this
    rfl
end Go.Proofs.Ytdceaeifcniabaa.AE

namespace Go.Proofs.Ytdceaeifcniabaa.AE
set_option linter.unusedVariables false
set_option linter.unusedSimpArgs false
set_option linter.constructorNameAsVariable false
open Go Go.Proofs.Ytdceaeifcniabaa.Geo
attribute [local irreducible] pcall C0
set_option maxRecDepth 100000
/-- A copied row of places, in memory from lo on, ahead of hi. -/
def ArOf (H : Heap) (lo hi : Nat) (av : AV) (ps : List Pt) : Prop := (ps = [] ∧ av = .lst []) ∨ ∃ id, lo ≤ id ∧ id < hi ∧ av = .slc id 0 ps.length ∧ hget H id = some ⟨E62, ps.map pt⟩
/-- Copied phases. -/
def CpOf (H : Heap) (lo hi : Nat) (v : AV) (l : List Phs) : Prop := (l = [] ∧ v = .lst []) ∨ ∃ id els, lo ≤ id ∧ id < hi ∧ v = .slc id 0 l.length ∧ hget H id = some ⟨E43, els⟩ ∧ els.length = l.length ∧
  ∀ (i : Nat) (p : Phs), l[i]? = some p → ∃ av, els[i]? = some (phX av p) ∧ ArOf H (id + 1) hi av p.ps
theorem ar_mono {H H' : Heap} {lo lo' hi hi' : Nat} {av : AV} {ps : List Pt} (h : ArOf H lo hi av ps) (h1 : lo' ≤ lo) (h2 : hi ≤ hi') (hk : ∀ id b, lo ≤ id → id < hi → hget H id = some b → hget H' id = some b) : ArOf H' lo' hi' av ps := by
  rcases h with h | ⟨id, a, b, c, d⟩
  · exact .inl h
  · exact .inr ⟨id, by omega, by omega, c, hk _ _ a b d⟩
theorem cp_mono {H H' : Heap} {lo lo' hi hi' : Nat} {v : AV} {l : List Phs} (h : CpOf H lo hi v l) (h1 : lo' ≤ lo) (h2 : hi ≤ hi') (hk : ∀ id b, lo ≤ id → id < hi → hget H id = some b → hget H' id = some b) : CpOf H' lo' hi' v l := by
  rcases h with h | ⟨id, els, a, b, c, d, e, f⟩
  · exact .inl h
  · refine .inr ⟨id, els, by omega, by omega, c, hk _ _ a b d, e, fun i p hp => ?_⟩
    obtain ⟨av, g1, g2⟩ := f i p hp
    exact ⟨av, g1, ar_mono g2 (Nat.le_refl _) h2 fun id' b' x y z => hk id' b' (by omega) y z⟩
theorem els_all : ∀ (l : List Phs) (pre : Heap) (i : Nat) (p : Phs), l[i]? = some p → ∃ av, (elsC pre.length l)[i]? = some (phX av p) ∧ ArOf (pre ++ arsC l) pre.length (pre ++ arsC l).length av p.ps
  | [], _, _, _, h => by simp at h
  | q :: l, pre, 0, p, h => by
    simp only [List.getElem?_cons_zero, Option.some.injEq] at h
    subst h
    refine ⟨arV pre.length q.ps, rfl, ?_⟩
    cases hq : q.ps with
    | nil => exact .inl ⟨rfl, rfl⟩
    | cons a b =>
      refine .inr ⟨pre.length + 1, by omega, ?_, rfl, ?_⟩
      · rw [arsC, hq]; simp [arS]
      · rw [arsC, hq]; exact hget_s rfl
  | q :: l, pre, i + 1, p, h => by
    simp only [List.getElem?_cons_succ] at h
    obtain ⟨av, h1, h2⟩ := els_all l (pre ++ arS q.ps) i p h
    refine ⟨av, ?_, ?_⟩
    · rw [elsC, List.getElem?_cons_succ, ← h1, List.length_append]
    · rw [arsC, ← List.append_assoc]
      exact ar_mono h2 (by simp) (Nat.le_refl _) fun _ _ _ _ x => x
theorem cp_copy (H : Heap) (r : Rul) : CpOf (H ++ cpS H.length r) H.length (H ++ cpS H.length r).length (phV H.length r) r.phs := by
  obtain ⟨phs, n, dd, gr, eps, st, age, lift, saf⟩ := r
  cases phs with
  | nil => exact .inl ⟨rfl, rfl⟩
  | cons q l =>
    refine .inr ⟨H.length + 3, elsC (H.length + 4) (q :: l), by omega, by simp [cpS], rfl, hget_s rfl, elsC_len _ _, fun i p hp => ?_⟩
    have := els_all (q :: l) (H ++ [some ⟨E24, [rlX (.slc (H.length + 3) 0 (q :: l).length) ⟨q :: l, n, dd, gr, eps, st, age, lift, saf⟩]⟩, some ⟨E24, [rlX (.slc (H.length + 3) 0 (q :: l).length) ⟨q :: l, n, dd, gr, eps, st, age, lift, saf⟩]⟩, none, some ⟨E43, elsC (H.length + 4) (q :: l)⟩]) i p hp
    rw [List.append_assoc] at this
    obtain ⟨av, h1, h2⟩ := this
    refine ⟨av, ?_, ar_mono h2 (by simp) (Nat.le_refl _) fun _ _ _ _ x => x⟩
    rw [← h1]; simp
theorem al_st {G : Heap} {e : ETy} {n : Nat} {x : AV} {K : AV → AV → Heap → Ans} (h : putSub n 0 x e.zero = some x) : (C0.hop G (.alloc e) fun p h => C0.hop h (.store n (.v p) (.v x)) fun u h' => K p u h') = K (.ptr G.length 0 0) .undef (G ++ [some ⟨e, [x]⟩]) := by
  refine Eq.trans (hop_eq rfl) ?_
  refine Eq.trans (st_ptr hget_new rfl h) ?_
  rw [List.set_append_right _ _ (Nat.le_refl _)]
  simp
theorem len_cp {H : Heap} {lo hi : Nat} {v : AV} {l : List Phs} {K : AV → Heap → Ans} (h : CpOf H lo hi v l) : C0.hop H (.bk .lenV [.v v]) K = K (.int .i64 l.length) H := by
  rcases h with ⟨rfl, rfl⟩ | ⟨id, els, _, _, rfl, h, _⟩
  · exact len_lst
  · exact hop_eq (by simp only [aop, evO, lenOf]; rw [h])
end Go.Proofs.Ytdceaeifcniabaa.AE

namespace Go.Proofs.Ytdceaeifcniabaa.AE
set_option linter.unusedVariables false
set_option linter.unusedSimpArgs false
set_option linter.constructorNameAsVariable false
open Go
theorem gr_eq {H Z : Heap} {K : Nat → Heap → Ans} : C0.grow H Z K = K H.length (H ++ Z) := rfl
theorem gr_nil {H : Heap} {K : Nat → Heap → Ans} : C0.grow H [] K = K H.length H := by
  rw [gr_eq, List.append_nil]
theorem keep_ok {A B : Heap} {l : List AV} {K : Ans} (h : ∀ v ∈ l, ∀ id ∈ idsOf v, A[id]? = B[id]?) : C0.keep A B l K = K := by
  change (match keepL A B l with
    | true => K
    | false => none) = K
  have : keepL A B l = true := by
    rw [keepL, List.all_eq_true]
    intro v hv
    rw [List.all_eq_true]
    intro id hi
    exact keepB_of (h v hv id hi)
  rw [this]
theorem keep_1 {A B : Heap} {id i j : Nat} {K : Ans} (h : A[id]? = B[id]?) : C0.keep A B [.ptr id i j] K = K := keep_ok fun v hv id' hi => by
  simp only [List.mem_singleton] at hv
  subst hv
  simp only [idsOf, List.mem_singleton] at hi
  subst hi; exact h
theorem hget_some {H : Heap} {id : Nat} {b : Blk} (h : hget H id = some b) : H[id]? = some (some b) := (hget_lt h).1
theorem keep_g {A B : Heap} {id i j : Nat} {b : Blk} {K : Ans} (h : hget A id = some b) (h' : hget B id = some b) : C0.keep A B [.ptr id i j] K = K := keep_1 (by rw [hget_some h, hget_some h'])
theorem fin_bl {H : Heap} {b : Bool} : C0.fin H (.bool b) = some (.bool b) := by rw [C0_fin]; rfl
end Go.Proofs.Ytdceaeifcniabaa.AE

namespace Go.Proofs.Ytdceaeifcniabaa.AE
set_option linter.unusedVariables false
set_option linter.unusedSimpArgs false
set_option linter.constructorNameAsVariable false
open Go
set_option maxRecDepth 100000
set_option maxHeartbeats 0
/-- apogee/phase.New -/
theorem r9 (C : Cb) (d : Nat) (a0 : AV) (a1 a2 a3 a4 a5 a6 a7 a8 : Int) (n0 : Nat) (H0 : Heap) (K0 : AV → Heap → Ans) : xmeth C M unr d (n0 + 8) 9 [(.agg [a0, (iz a1), (iz a2), (iz a3), (iz a4), (iz a5), (iz a6), (iz a7), (iz a8)])] H0 K0 =
 C.hop H0 (.box E24 (.v (.agg [a0, (iz a1), (iz a2), (iz a3), (iz a4), (iz a5), (iz a6), (iz a7), (iz a8)]))) fun v0 h1 =>
 C.hop h1 (.load true 9 (.v v0)) fun v2 h3 =>
 C.agg 9 (some v2) fun l4 =>
 C.any l4[0]? fun v5 =>
 C.int .i64 l4[1]? fun x6 =>
 C.int .i64 l4[2]? fun x7 =>
 C.int .i64 l4[3]? fun x8 =>
 C.int .i64 l4[4]? fun x9 =>
 C.int .i64 l4[5]? fun x10 =>
 C.int .i64 l4[6]? fun x11 =>
 C.int .i64 l4[7]? fun x12 =>
 C.int .i64 l4[8]? fun x13 =>
 C.snp h3 [(.agg [v5, (iz x6), (iz x7), (iz x8), (iz x9), (iz x10), (iz x11), (iz x12), (iz x13)])] fun l14 b15 =>
 C.bool (pcall M d 22 l14) fun b16 =>
 cnd (b15 || true)
 (cnd (!b16)
 (K0 .nilp h3)
 (C.hop h3 (.load true 9 (.v v0)) fun v17 h18 =>
 C.agg 9 (some v17) fun l19 =>
 C.any l19[0]? fun v20 =>
 C.int .i64 l19[1]? fun x21 =>
 C.int .i64 l19[2]? fun x22 =>
 C.int .i64 l19[3]? fun x23 =>
 C.int .i64 l19[4]? fun x24 =>
 C.int .i64 l19[5]? fun x25 =>
 C.int .i64 l19[6]? fun x26 =>
 C.int .i64 l19[7]? fun x27 =>
 C.int .i64 l19[8]? fun x28 =>
 C.cal M (pcall M d) (n0 + 8) true 23 [(.agg [v20, (iz x21), (iz x22), (iz x23), (iz x24), (iz x25), (iz x26), (iz x27), (iz x28)])] h18 fun v29 h30 =>
 C.agg 9 (some v29) fun l31 =>
 C.any l31[0]? fun v32 =>
 C.int .i64 l31[1]? fun x33 =>
 C.int .i64 l31[2]? fun x34 =>
 C.int .i64 l31[3]? fun x35 =>
 C.int .i64 l31[4]? fun x36 =>
 C.int .i64 l31[5]? fun x37 =>
 C.int .i64 l31[6]? fun x38 =>
 C.int .i64 l31[7]? fun x39 =>
 C.int .i64 l31[8]? fun x40 =>
 C.cal M (pcall M d) (n0 + 8) true 24 [(iz 1000000)] h30 fun v41 h42 =>
 C.any (some v41) fun v43 =>
 C.hop h42 (.build [(.zsl true), (iz 0), (iz 0), (iz 0), (iz 0), (iz 0), (iz 0), (iz 0), (iz 0), (iz 0), .nilp] [(0, 9, (.v (.agg [v32, (iz x33), (iz x34), (iz x35), (iz x36), (iz x37), (iz x38), (iz x39), (iz x40)]))), (10, 1, (.v v43))]) fun v44 h45 =>
 C.agg 11 (some v44) fun l46 =>
 C.any l46[0]? fun v47 =>
 C.int .i64 l46[1]? fun x48 =>
 C.int .i64 l46[2]? fun x49 =>
 C.int .i64 l46[3]? fun x50 =>
 C.int .i64 l46[4]? fun x51 =>
 C.int .i64 l46[5]? fun x52 =>
 C.int .i64 l46[6]? fun x53 =>
 C.int .i64 l46[7]? fun x54 =>
 C.int .i64 l46[8]? fun x55 =>
 C.int .i64 l46[9]? fun x56 =>
 C.any l46[10]? fun v57 =>
 C.hop h45 (.box E54 (.v (.agg [v47, (iz x48), (iz x49), (iz x50), (iz x51), (iz x52), (iz x53), (iz x54), (iz x55), (iz x56), v57]))) fun v58 h59 =>
 K0 v58 h59))
 (none) := by kernel_rfl
/-- (*apogee/phase.Machine).Wish -/
theorem r11 (C : Cb) (d : Nat) (a0 : AV) (a1 : Int) (a2 : Bool) (n0 : Nat) (H0 : Heap) (K0 : AV → Heap → Ans) : xmeth C M unr d (n0 + 8) 11 [a0, (iz a1), (.bool a2)] H0 K0 =
 C.cal M (pcall M d) (n0 + 8) true 20 [a0] H0 fun v0 h1 =>
 C.agg 5 (some v0) fun l2 =>
 C.any l2[0]? fun v3 =>
 C.int .i64 l2[1]? fun x4 =>
 C.int .i64 l2[2]? fun x5 =>
 C.int .i64 l2[3]? fun x6 =>
 C.int .i64 l2[4]? fun x7 =>
 C.hop h1 (.alloc E43) fun v8 h9 =>
 C.hop h9 (.store 5 (.v v8) (.v (.agg [v3, (iz x4), (iz x5), (iz x6), (iz x7)]))) fun v10 h11 =>
 C.grow h11 [] fun n12 h13 =>
 cnd a2
 (C.cal M (pcall M d) (n0 + 8) true 18 [a0] h13 fun v14 h15 =>
 C.bool (some v14) fun b16 =>
 cnd (!b16)
 (C.cal M (pcall M d) (n0 + 8) true 17 [a0] h15 fun v17 h18 =>
 C.int .i64 (some v17) fun x19 =>
 C.hop h18 (.fldA 3 (.v v8)) fun v20 h21 =>
 C.hop h21 (.load false 1 (.v v20)) fun v22 h23 =>
 C.int .i64 (some v22) fun x24 =>
 C.keep h15 h18 [v20] <|
 cnd (decide (x19 ≥ x24))
 (C.hop h23 (.fldA 4 (.v v8)) fun v25 h26 =>
 C.hop h26 (.load false 1 (.v v25)) fun v27 h28 =>
 C.int .i64 (some v27) fun x29 =>
 K0 (.bool (decide (a1 ≥ x29))) h28)
 (K0 bf h23))
 (K0 bf h15))
 (K0 bf h13) := by kernel_rfl
/-- (*apogee/phase.Machine).Cycle -/
theorem r13 (C : Cb) (d : Nat) (a0 : AV) (a1 a2 : Bool) (n0 : Nat) (H0 : Heap) (K0 : AV → Heap → Ans) : xmeth C M unr d (n0 + 8) 13 [a0, (.bool a1), (.bool a2)] H0 K0 =
 C.hop H0 (.eqv false 1 [] (.v a0) (.v .nilp)) fun v0 h1 =>
 C.bool (some v0) fun b2 =>
 cnd b2
 (K0 bf h1)
 (cnd (!a1)
 (C.hop h1 (.nilck (.v a0)) fun v3 h4 =>
 C.hop h4 (.fldA 10 (.v v3)) fun v5 h6 =>
 C.hop h6 (.load false 1 (.v v5)) fun v7 h8 =>
 C.cal M (pcall M d) (n0 + 8) true 27 [v7] h8 fun v9 h10 =>
 C.int .i64 (some v9) fun x11 =>
 K0 bf h10)
 (cnd (!a2)
 (C.hop h1 (.nilck (.v a0)) fun v12 h13 =>
 C.hop h13 (.fldA 10 (.v v12)) fun v14 h15 =>
 C.hop h15 (.load false 1 (.v v14)) fun v16 h17 =>
 C.cal M (pcall M d) (n0 + 8) true 27 [v16] h17 fun v18 h19 =>
 C.int .i64 (some v18) fun x20 =>
 K0 bf h19)
 (C.cal M (pcall M d) (n0 + 8) true 18 [a0] h1 fun v21 h22 =>
 C.bool (some v21) fun b23 =>
 cnd b23
 (C.hop h22 (.nilck (.v a0)) fun v24 h25 =>
 C.hop h25 (.fldA 10 (.v v24)) fun v26 h27 =>
 C.hop h27 (.load false 1 (.v v26)) fun v28 h29 =>
 C.cal M (pcall M d) (n0 + 8) true 27 [v28] h29 fun v30 h31 =>
 C.int .i64 (some v30) fun x32 =>
 K0 bf h31)
 (C.hop h22 (.nilck (.v a0)) fun v33 h34 =>
 C.hop h34 (.fldA 9 (.v v33)) fun v35 h36 =>
 C.hop h36 (.load false 1 (.v v35)) fun v37 h38 =>
 C.int .i64 (some v37) fun x39 =>
 C.hop h38 (.nilck (.v a0)) fun v40 h41 =>
 C.hop h41 (.fldA 9 (.v v40)) fun v42 h43 =>
 C.hop h43 (.store 1 (.v v42) (.v (iz (IntKind.wrap .i64 (x39 + 1))))) fun v44 h45 =>
 C.hop h45 (.nilck (.v a0)) fun v46 h47 =>
 C.hop h47 (.fldA 10 (.v v46)) fun v48 h49 =>
 C.hop h49 (.load false 1 (.v v48)) fun v50 h51 =>
 C.cal M (pcall M d) (n0 + 8) true 28 [v50] h51 fun v52 h53 =>
 C.tup 0 (some v52) fun l54 =>
 K0 bt h53)))) := by kernel_rfl
/-- (*apogee/phase.Machine).Set -/
theorem r15 (C : Cb) (d : Nat) (a0 : AV) (a1 a2 : Int) (n0 : Nat) (H0 : Heap) (K0 : AV → Heap → Ans) : xmeth C M unr d (n0 + 8) 15 [a0, (iz a1), (iz a2)] H0 K0 =
 C.hop H0 (.eqv false 1 [] (.v a0) (.v .nilp)) fun v0 h1 =>
 C.bool (some v0) fun b2 =>
 cnd b2
 (K0 bf h1)
 (cnd (decide (a1 < 0))
 (K0 bf h1)
 (C.hop h1 (.nilck (.v a0)) fun v3 h4 =>
 C.hop h4 (.fldA 0 (.v v3)) fun v5 h6 =>
 C.hop h6 (.fldA 0 (.v v5)) fun v7 h8 =>
 C.hop h8 (.load false 1 (.v v7)) fun v9 h10 =>
 C.hop h10 (.bk .lenV [(.v v9)]) fun v11 h12 =>
 C.int .i64 (some v11) fun x13 =>
 cnd (decide (a1 ≥ x13))
 (K0 bf h12)
 (cnd (decide (a2 < 0))
 (K0 bf h12)
 (cnd (decide (a2 > 1000000))
 (K0 bf h12)
 (C.hop h12 (.nilck (.v a0)) fun v14 h15 =>
 C.hop h15 (.fldA 9 (.v v14)) fun v16 h17 =>
 C.hop h17 (.store 1 (.v v16) (.v (iz a1))) fun v18 h19 =>
 C.hop h19 (.nilck (.v a0)) fun v20 h21 =>
 C.hop h21 (.fldA 10 (.v v20)) fun v22 h23 =>
 C.hop h23 (.load false 1 (.v v22)) fun v24 h25 =>
 C.cal M (pcall M d) (n0 + 8) true 29 [v24, (iz a2)] h25 fun v26 h27 =>
 C.tup 0 (some v26) fun l28 =>
 K0 bt h27))))) := by kernel_rfl
/-- (*apogee/phase.Machine).Phase -/
theorem r16 (C : Cb) (d : Nat) (a0 : AV) (n0 : Nat) (H0 : Heap) (K0 : AV → Heap → Ans) : xmeth C M unr d (n0 + 8) 16 [a0] H0 K0 =
 C.hop H0 (.eqv false 1 [] (.v a0) (.v .nilp)) fun v0 h1 =>
 C.bool (some v0) fun b2 =>
 cnd b2
 (K0 (iz 0) h1)
 (C.hop h1 (.nilck (.v a0)) fun v3 h4 =>
 C.hop h4 (.fldA 9 (.v v3)) fun v5 h6 =>
 C.hop h6 (.load false 1 (.v v5)) fun v7 h8 =>
 C.int .i64 (some v7) fun x9 =>
 K0 (iz x9) h8) := by kernel_rfl
/-- (*apogee/phase.Machine).In -/
theorem r17 (C : Cb) (d : Nat) (a0 : AV) (n0 : Nat) (H0 : Heap) (K0 : AV → Heap → Ans) : xmeth C M unr d (n0 + 8) 17 [a0] H0 K0 =
 C.hop H0 (.eqv false 1 [] (.v a0) (.v .nilp)) fun v0 h1 =>
 C.bool (some v0) fun b2 =>
 cnd b2
 (K0 (iz 0) h1)
 (C.hop h1 (.nilck (.v a0)) fun v3 h4 =>
 C.hop h4 (.fldA 10 (.v v3)) fun v5 h6 =>
 C.hop h6 (.load false 1 (.v v5)) fun v7 h8 =>
 C.cal M (pcall M d) (n0 + 8) true 30 [v7] h8 fun v9 h10 =>
 C.int .i64 (some v9) fun x11 =>
 K0 (iz x11) h10) := by kernel_rfl
/-- (*apogee/phase.Machine).Last -/
theorem r18 (C : Cb) (d : Nat) (a0 : AV) (n0 : Nat) (H0 : Heap) (K0 : AV → Heap → Ans) : xmeth C M unr d (n0 + 8) 18 [a0] H0 K0 =
 C.hop H0 (.eqv false 1 [] (.v a0) (.v .nilp)) fun v0 h1 =>
 C.bool (some v0) fun b2 =>
 cnd b2
 (K0 bt h1)
 (C.hop h1 (.nilck (.v a0)) fun v3 h4 =>
 C.hop h4 (.fldA 9 (.v v3)) fun v5 h6 =>
 C.hop h6 (.load false 1 (.v v5)) fun v7 h8 =>
 C.int .i64 (some v7) fun x9 =>
 C.hop h8 (.nilck (.v a0)) fun v10 h11 =>
 C.hop h11 (.fldA 0 (.v v10)) fun v12 h13 =>
 C.hop h13 (.fldA 0 (.v v12)) fun v14 h15 =>
 C.hop h15 (.load false 1 (.v v14)) fun v16 h17 =>
 C.hop h17 (.bk .lenV [(.v v16)]) fun v18 h19 =>
 C.int .i64 (some v18) fun x20 =>
 K0 (.bool ((IntKind.wrap .i64 (x9 + 1)) == x20)) h19) := by kernel_rfl
/-- (*apogee/phase.Machine).Now -/
theorem r20 (C : Cb) (d : Nat) (a0 : AV) (n0 : Nat) (H0 : Heap) (K0 : AV → Heap → Ans) : xmeth C M unr d (n0 + 8) 20 [a0] H0 K0 =
 C.hop H0 (.alloc E43) fun v0 h1 =>
 C.hop h1 (.eqv false 1 [] (.v a0) (.v .nilp)) fun v2 h3 =>
 C.bool (some v2) fun b4 =>
 cnd b4
 (C.hop h3 (.store 5 (.v v0) (.v (.agg [(.zsl true), (iz 0), (iz 0), (iz 0), (iz 0)]))) fun v5 h6 =>
 C.hop h6 (.load true 5 (.v v0)) fun v7 h8 =>
 K0 v7 h6)
 (C.grow h3 [some ⟨E43, [(.agg [(.zsl true), (iz 0), (iz 0), (iz 0), (iz 0)])]⟩] fun n9 h10 =>
 C.hop h10 (.nilck (.v a0)) fun v11 h12 =>
 C.hop h12 (.fldA 0 (.v v11)) fun v13 h14 =>
 C.hop h14 (.load true 9 (.v v13)) fun v15 h16 =>
 C.agg 9 (some v15) fun l17 =>
 C.any l17[0]? fun v18 =>
 C.int .i64 l17[1]? fun x19 =>
 C.int .i64 l17[2]? fun x20 =>
 C.int .i64 l17[3]? fun x21 =>
 C.int .i64 l17[4]? fun x22 =>
 C.int .i64 l17[5]? fun x23 =>
 C.int .i64 l17[6]? fun x24 =>
 C.int .i64 l17[7]? fun x25 =>
 C.int .i64 l17[8]? fun x26 =>
 C.hop h16 (.nilck (.v a0)) fun v27 h28 =>
 C.hop h28 (.fldA 9 (.v v27)) fun v29 h30 =>
 C.hop h30 (.load false 1 (.v v29)) fun v31 h32 =>
 C.int .i64 (some v31) fun x33 =>
 C.cal M (pcall M d) (n0 + 8) true 32 [(.agg [v18, (iz x19), (iz x20), (iz x21), (iz x22), (iz x23), (iz x24), (iz x25), (iz x26)]), (iz x33)] h32 fun v34 h35 =>
 C.tup 2 (some v34) fun l36 =>
 C.agg 5 l36[0]? fun l37 =>
 C.any l37[0]? fun v38 =>
 C.int .i64 l37[1]? fun x39 =>
 C.int .i64 l37[2]? fun x40 =>
 C.int .i64 l37[3]? fun x41 =>
 C.int .i64 l37[4]? fun x42 =>
 C.bool l36[1]? fun b43 =>
 C.keep h32 h35 [(.ptr (n9 + 0) 0 0)] <|
 C.hop h35 (.store 5 (.v (.ptr (n9 + 0) 0 0)) (.v (.agg [v38, (iz x39), (iz x40), (iz x41), (iz x42)]))) fun v44 h45 =>
 C.hop h45 (.load true 5 (.v (.ptr (n9 + 0) 0 0))) fun v46 h47 =>
 C.agg 5 (some v46) fun l48 =>
 C.any l48[0]? fun v49 =>
 C.int .i64 l48[1]? fun x50 =>
 C.int .i64 l48[2]? fun x51 =>
 C.int .i64 l48[3]? fun x52 =>
 C.int .i64 l48[4]? fun x53 =>
 C.hop h47 (.store 5 (.v v0) (.v (.agg [v49, (iz x50), (iz x51), (iz x52), (iz x53)]))) fun v54 h55 =>
 C.hop h55 (.load true 5 (.v v0)) fun v56 h57 =>
 K0 v56 h55) := by kernel_rfl
/-- apogee/count.New -/
theorem r24 (C : Cb) (d : Nat) (a0 : Int) (n0 : Nat) (H0 : Heap) (K0 : AV → Heap → Ans) : xmeth C M unr d (n0 + 8) 24 [(iz a0)] H0 K0 =
 C.hop H0 (.box E71 (.v (.agg [(iz 0), (iz (if ((1000000 : Int) < (if ((0 : Int) > a0) then 0 else a0)) then 1000000 else (if ((0 : Int) > a0) then 0 else a0)))]))) fun v0 h1 =>
 K0 v0 h1 := by kernel_rfl
/-- (*apogee/count.Counter).Up -/
theorem r27 (C : Cb) (d : Nat) (a0 : AV) (n0 : Nat) (H0 : Heap) (K0 : AV → Heap → Ans) : xmeth C M unr d (n0 + 8) 27 [a0] H0 K0 =
 C.cal M (pcall M d) (n0 + 8) true 37 [a0, (iz 1)] H0 fun v0 h1 =>
 C.int .i64 (some v0) fun x2 =>
 K0 (iz x2) h1 := by kernel_rfl
/-- (*apogee/count.Counter).Reset -/
theorem r28 (C : Cb) (d : Nat) (a0 : AV) (n0 : Nat) (H0 : Heap) (K0 : AV → Heap → Ans) : xmeth C M unr d (n0 + 8) 28 [a0] H0 K0 =
 C.cal M (pcall M d) (n0 + 8) true 29 [a0, (iz 0)] H0 fun v0 h1 =>
 C.tup 0 (some v0) fun l2 =>
 K0 tz h1 := by kernel_rfl
/-- (*apogee/count.Counter).Set -/
theorem r29 (C : Cb) (d : Nat) (a0 : AV) (a1 : Int) (n0 : Nat) (H0 : Heap) (K0 : AV → Heap → Ans) : xmeth C M unr d (n0 + 8) 29 [a0, (iz a1)] H0 K0 =
 C.hop H0 (.eqv true 1 [] (.v a0) (.v .nilp)) fun v0 h1 =>
 C.bool (some v0) fun b2 =>
 cnd b2
 (C.hop h1 (.nilck (.v a0)) fun v3 h4 =>
 C.hop h4 (.fldA 0 (.v v3)) fun v5 h6 =>
 C.hop h6 (.nilck (.v a0)) fun v7 h8 =>
 C.hop h8 (.fldA 1 (.v v7)) fun v9 h10 =>
 C.hop h10 (.load false 1 (.v v9)) fun v11 h12 =>
 C.int .i64 (some v11) fun x13 =>
 C.hop h12 (.nilck (.v v5)) fun v14 h15 =>
 C.hop h15 (.fldA 0 (.v v14)) fun v16 h17 =>
 C.hop h17 (.store 1 (.v v16) (.v (iz (if (x13 < (if ((0 : Int) > a1) then 0 else a1)) then x13 else (if ((0 : Int) > a1) then 0 else a1))))) fun v18 h19 =>
 K0 tz h19)
 (K0 tz h1) := by kernel_rfl
/-- (*apogee/count.Counter).Value -/
theorem r30 (C : Cb) (d : Nat) (a0 : AV) (n0 : Nat) (H0 : Heap) (K0 : AV → Heap → Ans) : xmeth C M unr d (n0 + 8) 30 [a0] H0 K0 =
 C.hop H0 (.eqv false 1 [] (.v a0) (.v .nilp)) fun v0 h1 =>
 C.bool (some v0) fun b2 =>
 cnd b2
 (K0 (iz 0) h1)
 (C.hop h1 (.nilck (.v a0)) fun v3 h4 =>
 C.hop h4 (.fldA 0 (.v v3)) fun v5 h6 =>
 C.hop h6 (.nilck (.v v5)) fun v7 h8 =>
 C.hop h8 (.fldA 0 (.v v7)) fun v9 h10 =>
 C.hop h10 (.load false 1 (.v v9)) fun v11 h12 =>
 C.int .i64 (some v11) fun x13 =>
 K0 (iz x13) h12) := by kernel_rfl
def r37R0 (C : Cb) (d : Nat) (a0 : AV) (a1 : Int) (K0 : AV → Heap → Ans) : St → (Ex → St → Ans) → Ans := fun s3 k4 =>
 cnd ((List.length s3.env) == 31)
 (C.same s3.env[0]? a0 <|
 C.same s3.env[1]? (iz a1) <|
 C.same s3.env[2]? tz <|
 C.same s3.env[3]? tz <|
 C.int .i64 s3.env[4]? fun x6 =>
 C.any s3.env[5]? fun v7 =>
 C.any s3.env[6]? fun v8 =>
 C.same s3.env[7]? a0 <|
 C.same s3.env[8]? bf <|
 C.any s3.env[9]? fun v9 =>
 C.any s3.env[10]? fun v10 =>
 C.any s3.env[11]? fun v11 =>
 C.any s3.env[12]? fun v12 =>
 C.any s3.env[13]? fun v13 =>
 C.any s3.env[14]? fun v14 =>
 C.any s3.env[15]? fun v15 =>
 C.any s3.env[16]? fun v16 =>
 C.any s3.env[17]? fun v17 =>
 C.any s3.env[18]? fun v18 =>
 C.any s3.env[19]? fun v19 =>
 C.any s3.env[20]? fun v20 =>
 C.any s3.env[21]? fun v21 =>
 C.any s3.env[22]? fun v22 =>
 C.any s3.env[23]? fun v23 =>
 C.any s3.env[24]? fun v24 =>
 C.any s3.env[25]? fun v25 =>
 C.any s3.env[26]? fun v26 =>
 C.any s3.env[27]? fun v27 =>
 C.any s3.env[28]? fun v28 =>
 C.any s3.env[29]? fun v29 =>
 C.any s3.env[30]? fun v30 =>
 C.hop (St.H s3) (.nilck (.v a0)) fun v31 h32 =>
 C.hop h32 (.fldA 0 (.v v31)) fun v33 h34 =>
 C.hop h34 (.nilck (.v v33)) fun v35 h36 =>
 C.hop h36 (.fldA 0 (.v v35)) fun v37 h38 =>
 C.hop h38 (.load false 1 (.v v37)) fun v39 h40 =>
 C.int .i64 (some v39) fun x41 =>
 C.hop h40 (.nilck (.v a0)) fun v42 h43 =>
 C.hop h43 (.fldA 1 (.v v42)) fun v44 h45 =>
 C.hop h45 (.load false 1 (.v v44)) fun v46 h47 =>
 C.int .i64 (some v46) fun x48 =>
 C.hop h47 (.nilck (.v a0)) fun v49 h50 =>
 C.hop h50 (.fldA 0 (.v v49)) fun v51 h52 =>
 C.hop h52 (.nilck (.v v51)) fun v53 h54 =>
 C.hop h54 (.fldA 0 (.v v53)) fun v55 h56 =>
 C.hop h56 (.load false 1 (.v v55)) fun v57 h58 =>
 C.int .i64 (some v57) fun x59 =>
 cnd (x59 == x41)
 (C.hop h58 (.store 1 (.v v55) (.v (iz (IntKind.wrap .i64 (x41 + (if ((IntKind.wrap .i64 (x48 - x41)) < (if ((0 : Int) > a1) then 0 else a1)) then (IntKind.wrap .i64 (x48 - x41)) else (if ((0 : Int) > a1) then 0 else a1))))))) fun v60 h61 =>
 k4 .ret ⟨[a0, (iz a1), tz, tz, (iz (IntKind.wrap .i64 (x41 + (if ((IntKind.wrap .i64 (x48 - x41)) < (if ((0 : Int) > a1) then 0 else a1)) then (IntKind.wrap .i64 (x48 - x41)) else (if ((0 : Int) > a1) then 0 else a1))))), (iz x41), (iz (IntKind.wrap .i64 (x41 + (if ((IntKind.wrap .i64 (x48 - x41)) < (if ((0 : Int) > a1) then 0 else a1)) then (IntKind.wrap .i64 (x48 - x41)) else (if ((0 : Int) > a1) then 0 else a1))))), a0, bf, a0, v31, v33, (iz x41), (iz x41), (iz a1), (iz (if ((0 : Int) > a1) then 0 else a1)), a0, v42, v44, (iz x48), (iz x41), (iz (IntKind.wrap .i64 (x48 - x41))), (iz (if ((IntKind.wrap .i64 (x48 - x41)) < (if ((0 : Int) > a1) then 0 else a1)) then (IntKind.wrap .i64 (x48 - x41)) else (if ((0 : Int) > a1) then 0 else a1))), (iz (IntKind.wrap .i64 (x41 + (if ((IntKind.wrap .i64 (x48 - x41)) < (if ((0 : Int) > a1) then 0 else a1)) then (IntKind.wrap .i64 (x48 - x41)) else (if ((0 : Int) > a1) then 0 else a1))))), a0, v49, v51, (iz x41), (iz (IntKind.wrap .i64 (x41 + (if ((IntKind.wrap .i64 (x48 - x41)) < (if ((0 : Int) > a1) then 0 else a1)) then (IntKind.wrap .i64 (x48 - x41)) else (if ((0 : Int) > a1) then 0 else a1))))), bt, (iz (IntKind.wrap .i64 (x41 + (if ((IntKind.wrap .i64 (x48 - x41)) < (if ((0 : Int) > a1) then 0 else a1)) then (IntKind.wrap .i64 (x48 - x41)) else (if ((0 : Int) > a1) then 0 else a1)))))], h61⟩)
 (C.hop h58 (.nilck (.v .nilp)) fun v62 h63 =>
 k4 .normal ⟨[a0, (iz a1), tz, tz, (iz x6), (iz x41), (iz (IntKind.wrap .i64 (x41 + (if ((IntKind.wrap .i64 (x48 - x41)) < (if ((0 : Int) > a1) then 0 else a1)) then (IntKind.wrap .i64 (x48 - x41)) else (if ((0 : Int) > a1) then 0 else a1))))), a0, bf, a0, v31, v33, (iz x41), (iz x41), (iz a1), (iz (if ((0 : Int) > a1) then 0 else a1)), a0, v42, v44, (iz x48), (iz x41), (iz (IntKind.wrap .i64 (x48 - x41))), (iz (if ((IntKind.wrap .i64 (x48 - x41)) < (if ((0 : Int) > a1) then 0 else a1)) then (IntKind.wrap .i64 (x48 - x41)) else (if ((0 : Int) > a1) then 0 else a1))), (iz (IntKind.wrap .i64 (x41 + (if ((IntKind.wrap .i64 (x48 - x41)) < (if ((0 : Int) > a1) then 0 else a1)) then (IntKind.wrap .i64 (x48 - x41)) else (if ((0 : Int) > a1) then 0 else a1))))), a0, v49, v51, (iz x41), (iz (IntKind.wrap .i64 (x41 + (if ((IntKind.wrap .i64 (x48 - x41)) < (if ((0 : Int) > a1) then 0 else a1)) then (IntKind.wrap .i64 (x48 - x41)) else (if ((0 : Int) > a1) then 0 else a1))))), bf, v30], h63⟩))
 (none)
def r37E0 (C : Cb) (d : Nat) (a0 : AV) (a1 : Int) (K0 : AV → Heap → Ans) : St → Ans := fun s5 =>
 cnd ((List.length s5.env) == 31)
 (C.same s5.env[0]? a0 <|
 C.same s5.env[1]? (iz a1) <|
 C.same s5.env[2]? tz <|
 C.same s5.env[3]? tz <|
 C.int .i64 s5.env[4]? fun x64 =>
 C.int .i64 s5.env[5]? fun x65 =>
 C.int .i64 s5.env[6]? fun x66 =>
 C.same s5.env[7]? a0 <|
 C.same s5.env[8]? bf <|
 C.any s5.env[9]? fun v67 =>
 C.any s5.env[10]? fun v68 =>
 C.any s5.env[11]? fun v69 =>
 C.int .i64 s5.env[12]? fun x70 =>
 C.int .i64 s5.env[13]? fun x71 =>
 C.int .i64 s5.env[14]? fun x72 =>
 C.int .i64 s5.env[15]? fun x73 =>
 C.any s5.env[16]? fun v74 =>
 C.any s5.env[17]? fun v75 =>
 C.any s5.env[18]? fun v76 =>
 C.int .i64 s5.env[19]? fun x77 =>
 C.int .i64 s5.env[20]? fun x78 =>
 C.int .i64 s5.env[21]? fun x79 =>
 C.int .i64 s5.env[22]? fun x80 =>
 C.int .i64 s5.env[23]? fun x81 =>
 C.any s5.env[24]? fun v82 =>
 C.any s5.env[25]? fun v83 =>
 C.any s5.env[26]? fun v84 =>
 C.int .i64 s5.env[27]? fun x85 =>
 C.int .i64 s5.env[28]? fun x86 =>
 C.bool s5.env[29]? fun b87 =>
 C.int .i64 s5.env[30]? fun x88 =>
 K0 (iz x64) (St.H s5))
 (none)
/-- (*apogee/count.Counter).Add -/
theorem r37 (C : Cb) (d : Nat) (a0 : AV) (a1 : Int) (n0 : Nat) (H0 : Heap) (K0 : AV → Heap → Ans) : xmeth C M unr d (n0 + 8) 37 [a0, (iz a1)] H0 K0 =
 C.hop H0 (.eqv false 1 [] (.v a0) (.v .nilp)) fun v0 h1 =>
 C.bool (some v0) fun b2 =>
 cnd b2
 (K0 (iz 0) h1)
 (C.iter (r37R0 C d a0 a1 K0) 10000000000000000000 ⟨[a0, (iz a1), tz, tz, (iz 0), tz, tz, a0, bf, tz, tz, tz, tz, tz, tz, tz, tz, tz, tz, tz, tz, tz, tz, tz, tz, tz, tz, tz, tz, tz, tz], h1⟩ [] [] (r37E0 C d a0 a1 K0)) := by kernel_rfl
end Go.Proofs.Ytdceaeifcniabaa.AE

namespace Go.Proofs.Ytdceaeifcniabaa.AE
set_option linter.unusedVariables false
set_option linter.unusedSimpArgs false
set_option linter.constructorNameAsVariable false
open Go Go.Proofs.Ytdceaeifcniabaa.Geo
attribute [local irreducible] pcall C0 callB
set_option maxRecDepth 100000
/-- All that was there is there. -/
def Ext (H H' : Heap) : Prop := ∀ id b, hget H id = some b → hget H' id = some b
theorem Ext.refl (H : Heap) : Ext H H := fun _ _ h => h
theorem Ext.trans {A B C : Heap} (h : Ext A B) (k : Ext B C) : Ext A C := fun id b x => k id b (h id b x)
theorem Ext.app (H l : Heap) : Ext H (H ++ l) := fun _ _ h => hget_app h
/-- All that was there is there, but two blocks. -/
def Ext2 (a b : Nat) (H H' : Heap) : Prop := ∀ id x, id ≠ a → id ≠ b → hget H id = some x → hget H' id = some x
theorem Ext.two {H H' : Heap} (h : Ext H H') (a b : Nat) : Ext2 a b H H' := fun id x _ _ y => h id x y
theorem Ext2.trans {a b : Nat} {A B C : Heap} (h : Ext2 a b A B) (k : Ext2 a b B C) : Ext2 a b A C := fun id x h1 h2 y => k id x h1 h2 (h id x h1 h2 y)
theorem nil_f {H : Heap} {id i j : Nat} {K : AV → Heap → Ans} : C0.hop H (.eqv false 1 [] (.v (.ptr id i j)) (.v .nilp)) K = K (.bool false) H := hop_eq rfl
theorem nil_tf {H : Heap} {id i j : Nat} {K : AV → Heap → Ans} : C0.hop H (.eqv true 1 [] (.v (.ptr id i j)) (.v .nilp)) K = K (.bool true) H := hop_eq rfl
def Cnt (H : Heap) (id : Nat) (c : Int) : Prop := hget H id = some ⟨E71, [.agg [.int .i64 c, .int .i64 1000000]]⟩
theorem cnt_new (d n0 : Nat) (H : Heap) : callB M (pcall M d) (n0 + 9) true 24 [.int .i64 1000000] H = some (.ptr H.length 0 0, H ++ [some ⟨E71, [.agg [.int .i64 0, .int .i64 1000000]]⟩]) := by
  refine xmeth_ok (U := unr) (n := n0 + 8) rfl rfl rfl fun K => ?_
  refine (r24 C0 d _ n0 _ K).trans ?_
  refine Eq.trans (bx_n (by rfl)) ?_
  rfl
theorem cnt_value (d n0 : Nat) {H : Heap} {id : Nat} {c : Int} (h : Cnt H id c) : callB M (pcall M d) (n0 + 9) true 30 [.ptr id 0 0] H = some (.int .i64 c, H) := by
  refine xmeth_ok (U := unr) (n := n0 + 8) rfl rfl rfl fun K => ?_
  refine (r30 C0 d _ n0 _ K).trans ?_
  refine Eq.trans nil_f ?_
  refine Eq.trans (pl_bool (by rfl)) ?_
  refine Eq.trans (pl_f rfl) ?_
  refine Eq.trans nil_ptr ?_
  refine Eq.trans sh_ptr ?_
  refine Eq.trans nil_ptr ?_
  refine Eq.trans sh_ptr ?_
  refine Eq.trans (ld_ptr h rfl rfl) ?_
  exact pl_int rfl
def clampC (n : Int) : Int := if 1000000 < (if 0 > n then 0 else n) then 1000000 else (if 0 > n then 0 else n)
theorem cnt_set (d n0 : Nat) {H : Heap} {id : Nat} {c n : Int} (h : Cnt H id c) : ∃ H', callB M (pcall M d) (n0 + 9) true 29 [.ptr id 0 0, .int .i64 n] H = some (.tup [], H') ∧ Cnt H' id (clampC n) ∧ ∀ id' b, id' ≠ id → hget H id' = some b → hget H' id' = some b := by
  refine ⟨H.set id (some ⟨E71, [.agg [.int .i64 (clampC n), .int .i64 1000000]]⟩), xmeth_ok (U := unr) (n := n0 + 8) rfl rfl rfl fun K => ?_, hget_set (hg_lt h), fun id' b h1 h2 => by rw [hget_set_ne (Ne.symm h1)]; exact h2⟩
  refine (r29 C0 d _ _ n0 _ K).trans ?_
  refine Eq.trans nil_tf ?_
  refine Eq.trans (pl_bool (by rfl)) ?_
  refine Eq.trans (pl_len rfl) ?_
  refine Eq.trans nil_ptr ?_
  refine Eq.trans sh_ptr ?_
  refine Eq.trans nil_ptr ?_
  refine Eq.trans sh_ptr ?_
  refine Eq.trans (ld_ptr h rfl rfl) ?_
  refine Eq.trans (pl_int (by rfl)) ?_
  refine Eq.trans nil_ptr ?_
  refine Eq.trans sh_ptr ?_
  refine Eq.trans (st_ptr h rfl rfl) ?_
  rfl
end Go.Proofs.Ytdceaeifcniabaa.AE

namespace Go.Proofs.Ytdceaeifcniabaa.AE
set_option linter.unusedVariables false
set_option linter.unusedSimpArgs false
set_option linter.constructorNameAsVariable false
open Go
set_option maxRecDepth 100000
set_option maxHeartbeats 0
noncomputable def E37_0 (d : Nat) (a0 : AV) (a1 : Int) (K0 : AV → Heap → Ans) (x64 : Int) (H : Heap) : Ans :=
  K0 (iz x64) H
theorem E37_0_ok (d : Nat) (a0 : AV) (a1 : Int) (K0 : AV → Heap → Ans)   (x64 x65 x66 : Int) (v67 v68 v69 : AV) (x70 x71 x72 x73 : Int) (v74 v75 v76 : AV) (x77 x78 x79 x80 x81 : Int) (v82 v83 v84 : AV) (x85 x86 : Int) (b87 : Bool) (x88 : Int) (H : Heap) : r37E0 C0 d a0 a1 K0 ⟨[a0, (iz a1), tz, tz, (iz x64), (iz x65), (iz x66), a0, bf, v67, v68, v69, (iz x70), (iz x71), (iz x72), (iz x73), v74, v75, v76, (iz x77), (iz x78), (iz x79), (iz x80), (iz x81), v82, v83, v84, (iz x85), (iz x86), (.bool b87), (iz x88)], H⟩ = E37_0 d a0 a1 K0 x64 H := by
  unfold r37E0; refine Eq.trans (pl_len (by rfl)) ?_; (iterate 4 (refine yt yS ?_)); (iterate 3 (refine yt yI ?_)); (iterate 2 (refine yt yS ?_)); (iterate 3 (refine yt yA ?_)); (iterate 4 (refine yt yI ?_)); (iterate 3 (refine yt yA ?_)); (iterate 5 (refine yt yI ?_)); (iterate 3 (refine yt yA ?_)); (iterate 2 (refine yt yI ?_)); refine yt yB ?_; refine yt yI ?_
  rfl
noncomputable def L37_0 (d : Nat) (a0 : AV) (a1 : Int) (K0 : AV → Heap → Ans) : Nat → Heap → Ans
  | 0, _ => none
  | n + 1, H =>
  C0.hop H (.nilck (.v a0)) fun v31 h32 =>
   C0.hop h32 (.fldA 0 (.v v31)) fun v33 h34 =>
   C0.hop h34 (.nilck (.v v33)) fun v35 h36 =>
   C0.hop h36 (.fldA 0 (.v v35)) fun v37 h38 =>
   C0.hop h38 (.load false 1 (.v v37)) fun v39 h40 =>
   C0.int .i64 (some v39) fun x41 =>
   C0.hop h40 (.nilck (.v a0)) fun v42 h43 =>
   C0.hop h43 (.fldA 1 (.v v42)) fun v44 h45 =>
   C0.hop h45 (.load false 1 (.v v44)) fun v46 h47 =>
   C0.int .i64 (some v46) fun x48 =>
   C0.hop h47 (.nilck (.v a0)) fun v49 h50 =>
   C0.hop h50 (.fldA 0 (.v v49)) fun v51 h52 =>
   C0.hop h52 (.nilck (.v v51)) fun v53 h54 =>
   C0.hop h54 (.fldA 0 (.v v53)) fun v55 h56 =>
   C0.hop h56 (.load false 1 (.v v55)) fun v57 h58 =>
   C0.int .i64 (some v57) fun x59 =>
   cnd (x59 == x41)
   (C0.hop h58 (.store 1 (.v v55) (.v (iz (IntKind.wrap .i64 (x41 + (if ((IntKind.wrap .i64 (x48 - x41)) < (if ((0 : Int) > a1) then 0 else a1)) then (IntKind.wrap .i64 (x48 - x41)) else (if ((0 : Int) > a1) then 0 else a1))))))) fun v60 h61 =>
   E37_0 d a0 a1 K0 (IntKind.wrap .i64 (x41 + (if ((IntKind.wrap .i64 (x48 - x41)) < (if ((0 : Int) > a1) then 0 else a1)) then (IntKind.wrap .i64 (x48 - x41)) else (if ((0 : Int) > a1) then 0 else a1)))) h61)
   (C0.hop h58 (.nilck (.v .nilp)) fun v62 h63 =>
   L37_0 d a0 a1 K0 n h63)
theorem L37_0_s (d : Nat) (a0 : AV) (a1 : Int) (K0 : AV → Heap → Ans) (n : Nat) (H : Heap) : L37_0 d a0 a1 K0 (n + 1) H = (C0.hop H (.nilck (.v a0)) fun v31 h32 =>
   C0.hop h32 (.fldA 0 (.v v31)) fun v33 h34 =>
   C0.hop h34 (.nilck (.v v33)) fun v35 h36 =>
   C0.hop h36 (.fldA 0 (.v v35)) fun v37 h38 =>
   C0.hop h38 (.load false 1 (.v v37)) fun v39 h40 =>
   C0.int .i64 (some v39) fun x41 =>
   C0.hop h40 (.nilck (.v a0)) fun v42 h43 =>
   C0.hop h43 (.fldA 1 (.v v42)) fun v44 h45 =>
   C0.hop h45 (.load false 1 (.v v44)) fun v46 h47 =>
   C0.int .i64 (some v46) fun x48 =>
   C0.hop h47 (.nilck (.v a0)) fun v49 h50 =>
   C0.hop h50 (.fldA 0 (.v v49)) fun v51 h52 =>
   C0.hop h52 (.nilck (.v v51)) fun v53 h54 =>
   C0.hop h54 (.fldA 0 (.v v53)) fun v55 h56 =>
   C0.hop h56 (.load false 1 (.v v55)) fun v57 h58 =>
   C0.int .i64 (some v57) fun x59 =>
   cnd (x59 == x41)
   (C0.hop h58 (.store 1 (.v v55) (.v (iz (IntKind.wrap .i64 (x41 + (if ((IntKind.wrap .i64 (x48 - x41)) < (if ((0 : Int) > a1) then 0 else a1)) then (IntKind.wrap .i64 (x48 - x41)) else (if ((0 : Int) > a1) then 0 else a1))))))) fun v60 h61 =>
   E37_0 d a0 a1 K0 (IntKind.wrap .i64 (x41 + (if ((IntKind.wrap .i64 (x48 - x41)) < (if ((0 : Int) > a1) then 0 else a1)) then (IntKind.wrap .i64 (x48 - x41)) else (if ((0 : Int) > a1) then 0 else a1)))) h61)
   (C0.hop h58 (.nilck (.v .nilp)) fun v62 h63 =>
   L37_0 d a0 a1 K0 n h63)) := by kernel_rfl
theorem it37_0 (d : Nat) (a0 : AV) (a1 : Int) (K0 : AV → Heap → Ans)   : ∀ (n : Nat) (x6 : Int) (v7 v8 v9 v10 v11 v12 v13 v14 v15 v16 v17 v18 v19 v20 v21 v22 v23 v24 v25 v26 v27 v28 v29 v30 : AV) (H : Heap), C0.iter (r37R0 C0 d a0 a1 K0) n ⟨[a0, (iz a1), tz, tz, (iz x6), v7, v8, a0, bf, v9, v10, v11, v12, v13, v14, v15, v16, v17, v18, v19, v20, v21, v22, v23, v24, v25, v26, v27, v28, v29, v30], H⟩ [] [] (r37E0 C0 d a0 a1 K0) = L37_0 d a0 a1 K0 n H := by
  generalize hR : r37R0 C0 d a0 a1 K0 = R
  intro n
  induction n with
  | zero => intros; rfl
  | succ n ih =>
    intro x6 v7 v8 v9 v10 v11 v12 v13 v14 v15 v16 v17 v18 v19 v20 v21 v22 v23 v24 v25 v26 v27 v28 v29 v30 H
    simp only [it_ret] at ih
    rw [it_ret, xiter_s]
    refine Eq.trans (congrFun (congrFun hR.symm _) _) ?_
    unfold r37R0
    refine Eq.trans (pl_len (by rfl)) ?_; (iterate 4 (refine yt yS ?_)); refine yt yI ?_; (iterate 2 (refine yt yA ?_)); (iterate 2 (refine yt yS ?_)); (iterate 22 (refine yt yA ?_))
    simp only [kIter_n, kIter_x, kIter_r, kOut_x, kOut_r, xgo_hit, xgo_miss, ih, E37_0_ok d a0 a1 K0  ]
    exact (L37_0_s d a0 a1 K0 n H).symm
/-- (*apogee/count.Counter).Add -/
theorem q37 (d : Nat) (a0 : AV) (a1 : Int) (n0 : Nat) (H0 : Heap) (K0 : AV → Heap → Ans) : xmeth C0 M unr d (n0 + 8) 37 [a0, (iz a1)] H0 K0 =
  C0.hop H0 (.eqv false 1 [] (.v a0) (.v .nilp)) fun v0 h1 =>
  C0.bool (some v0) fun b2 =>
  cnd b2
   (K0 (iz 0) h1)
   (L37_0 d a0 a1 K0 10000000000000000000 h1) := (r37 C0 d a0 a1 n0 H0 K0).trans (by simp only [it37_0])
end Go.Proofs.Ytdceaeifcniabaa.AE

namespace Go.Proofs.Ytdceaeifcniabaa.AE
set_option linter.unusedVariables false
set_option linter.unusedSimpArgs false
set_option linter.constructorNameAsVariable false
open Go Go.Proofs.Ytdceaeifcniabaa.Geo
attribute [local irreducible] pcall C0 callB
set_option maxRecDepth 100000
theorem cnt_up (d n0 : Nat) {H : Heap} {id : Nat} {c : Int} (h : Cnt H id c) (hc : 0 ≤ c ∧ c ≤ 1000000) : ∃ H', callB M (pcall M d) (n0 + 10) true 27 [.ptr id 0 0] H = some (.int .i64 (if 1000000 < c + 1 then 1000000 else c + 1), H') ∧ Cnt H' id (if 1000000 < c + 1 then 1000000 else c + 1) ∧ ∀ id' b, id' ≠ id → hget H id' = some b → hget H' id' = some b := by
  have hadd : ∃ H', callB M (pcall M d) (n0 + 9) true 37 [.ptr id 0 0, .int .i64 1] H = some (.int .i64 (if 1000000 < c + 1 then 1000000 else c + 1), H') ∧ Cnt H' id (if 1000000 < c + 1 then 1000000 else c + 1) ∧ ∀ id' b, id' ≠ id → hget H id' = some b → hget H' id' = some b := by
    refine ⟨H.set id (some ⟨E71, [.agg [.int .i64 (if 1000000 < c + 1 then 1000000 else c + 1), .int .i64 1000000]]⟩), xmeth_ok (U := unr) (n := n0 + 8) rfl rfl rfl fun K => ?_, hget_set (hg_lt h), fun id' b h1 h2 => by rw [hget_set_ne (Ne.symm h1)]; exact h2⟩
    refine (q37 d _ _ n0 _ K).trans ?_
    refine Eq.trans nil_f ?_
    refine Eq.trans (pl_bool (by rfl)) ?_
    refine Eq.trans (pl_f rfl) ?_
    rw [show 10000000000000000000 = (9999999999999999999) + 1 from rfl, L37_0_s]
    refine Eq.trans nil_ptr ?_
    refine Eq.trans sh_ptr ?_
    refine Eq.trans nil_ptr ?_
    refine Eq.trans sh_ptr ?_
    refine Eq.trans (ld_ptr h rfl rfl) ?_
    refine Eq.trans (pl_int (by rfl)) ?_
    refine Eq.trans nil_ptr ?_
    refine Eq.trans sh_ptr ?_
    refine Eq.trans (ld_ptr h rfl rfl) ?_
    refine Eq.trans (pl_int (by rfl)) ?_
    refine Eq.trans nil_ptr ?_
    refine Eq.trans sh_ptr ?_
    refine Eq.trans nil_ptr ?_
    refine Eq.trans sh_ptr ?_
    refine Eq.trans (ld_ptr h rfl rfl) ?_
    refine Eq.trans (pl_int (by rfl)) ?_
    rw [beq_self_eq_true, cnd_t]
    have e : IntKind.wrap .i64 (c + (if (IntKind.wrap .i64 (1000000 - c)) < (if ((0 : Int) > 1) then 0 else 1) then (IntKind.wrap .i64 (1000000 - c)) else (if ((0 : Int) > 1) then 0 else 1))) = (if 1000000 < c + 1 then 1000000 else c + 1) := by
      rw [i64_small (n := 1000000 - c) (by omega) (by omega)]
      rw [if_neg (show ¬ (0 : Int) > 1 by decide)]
      split <;> split <;> rw [i64_small (by omega) (by omega)] <;> omega
    rw [e]
    refine Eq.trans (st_ptr h rfl rfl) ?_
    rfl
  obtain ⟨H', h1, h2, h3⟩ := hadd
  refine ⟨H', xmeth_ok (U := unr) (n := n0 + 9) rfl rfl rfl fun K => ?_, h2, h3⟩
  refine (r27 C0 d _ (n0 + 1) _ K).trans ?_
  refine Eq.trans (cal_eq h1) ?_
  exact pl_int rfl
theorem cnt_reset (d n0 : Nat) {H : Heap} {id : Nat} {c : Int} (h : Cnt H id c) : ∃ H', callB M (pcall M d) (n0 + 10) true 28 [.ptr id 0 0] H = some (.tup [], H') ∧ Cnt H' id 0 ∧ ∀ id' b, id' ≠ id → hget H id' = some b → hget H' id' = some b := by
  obtain ⟨H', h1, h2, h3⟩ := cnt_set d n0 (n := 0) h
  refine ⟨H', xmeth_ok (U := unr) (n := n0 + 9) rfl rfl rfl fun K => ?_, h2, h3⟩
  refine (r28 C0 d _ (n0 + 1) _ K).trans ?_
  refine Eq.trans (cal_eq h1) ?_
  exact pl_tup rfl rfl
/-! The machine -/
structure Mach (H : Heap) (id cid lo hi : Nat) (v : AV) (r : Rul) (ph : Nat) (c : Int) : Prop where
  m : hget H id = some ⟨E54, [.agg [v, .int .i64 r.n, .int .i64 r.d, .int .i64 r.gr, .int .i64 r.eps, .int .i64 r.st, .int .i64 r.age, .int .i64 r.lift, .int .i64 r.saf, .int .i64 (ph : Int), .ptr cid 0 0]]⟩
  k : Cnt H cid c
  cp : CpOf H lo hi v r.phs
  ne : id ≠ cid
  h1 : hi ≤ id
  h2 : hi ≤ cid
  p : ph < r.phs.length
  c0 : 0 ≤ c ∧ c ≤ 1000000
  len : r.phs.length ≤ 100
theorem mach_ext {H H' : Heap} {id cid lo hi : Nat} {v : AV} {r : Rul} {ph : Nat} {c : Int} (h : Mach H id cid lo hi v r ph c) (e : Ext H H') : Mach H' id cid lo hi v r ph c :=
  ⟨e _ _ h.m, e _ _ h.k, cp_mono h.cp (Nat.le_refl _) (Nat.le_refl _) fun _ _ _ _ x => e _ _ x, h.ne, h.h1, h.h2, h.p, h.c0, h.len⟩
theorem mach_keep {H H' : Heap} {id cid lo hi a b : Nat} {v : AV} {r : Rul} {ph : Nat} {c : Int} (h : Mach H id cid lo hi v r ph c) (e : Ext2 a b H H') (ha : hi ≤ a ∧ a ≠ id ∧ a ≠ cid) (hb : hi ≤ b ∧ b ≠ id ∧ b ≠ cid) : Mach H' id cid lo hi v r ph c :=
  ⟨e _ _ (Ne.symm ha.2.1) (Ne.symm hb.2.1) h.m, e _ _ (Ne.symm ha.2.2) (Ne.symm hb.2.2) h.k, cp_mono h.cp (Nat.le_refl _) (Nat.le_refl _) fun _ _ _ _ x => e _ _ (by omega) (by omega) x, h.ne, h.h1, h.h2, h.p, h.c0, h.len⟩
section
variable {H : Heap} {id cid lo hi : Nat} {v : AV} {r : Rul} {ph : Nat} {c : Int}
theorem m_phase (d n0 : Nat) (h : Mach H id cid lo hi v r ph c) : callB M (pcall M d) (n0 + 9) true 16 [.ptr id 0 0] H = some (.int .i64 (ph : Int), H) := by
  refine xmeth_ok (U := unr) (n := n0 + 8) rfl rfl rfl fun K => ?_
  refine (r16 C0 d _ n0 _ K).trans ?_
  refine Eq.trans nil_f ?_
  refine Eq.trans (pl_bool (by rfl)) ?_
  refine Eq.trans (pl_f rfl) ?_
  refine Eq.trans nil_ptr ?_
  refine Eq.trans sh_ptr ?_
  refine Eq.trans (ld_ptr h.m rfl rfl) ?_
  exact pl_int rfl
theorem m_in (d n0 : Nat) (h : Mach H id cid lo hi v r ph c) : callB M (pcall M d) (n0 + 10) true 17 [.ptr id 0 0] H = some (.int .i64 c, H) := by
  refine xmeth_ok (U := unr) (n := n0 + 9) rfl rfl rfl fun K => ?_
  refine (r17 C0 d _ (n0 + 1) _ K).trans ?_
  refine Eq.trans nil_f ?_
  refine Eq.trans (pl_bool (by rfl)) ?_
  refine Eq.trans (pl_f rfl) ?_
  refine Eq.trans nil_ptr ?_
  refine Eq.trans sh_ptr ?_
  refine Eq.trans (ld_ptr h.m rfl rfl) ?_
  refine Eq.trans (cal_eq (cnt_value d n0 h.k)) ?_
  exact pl_int rfl
theorem m_last (d n0 : Nat) (h : Mach H id cid lo hi v r ph c) : callB M (pcall M d) (n0 + 9) true 18 [.ptr id 0 0] H = some (.bool (decide (ph + 1 = r.phs.length)), H) := by
  refine xmeth_ok (U := unr) (n := n0 + 8) rfl rfl rfl fun K => ?_
  refine (r18 C0 d _ n0 _ K).trans ?_
  refine Eq.trans nil_f ?_
  refine Eq.trans (pl_bool (by rfl)) ?_
  refine Eq.trans (pl_f rfl) ?_
  refine Eq.trans nil_ptr ?_
  refine Eq.trans sh_ptr ?_
  refine Eq.trans (ld_ptr h.m rfl rfl) ?_
  refine Eq.trans (pl_int (by rfl)) ?_
  refine Eq.trans nil_ptr ?_
  refine Eq.trans sh_ptr ?_
  refine Eq.trans sh_ptr ?_
  refine Eq.trans (ld_ptr (v := v) h.m rfl rfl) ?_
  refine Eq.trans (len_cp h.cp) ?_
  refine Eq.trans (pl_int (by rfl)) ?_
  have := h.p
  have := h.len
  rw [i64_small (by omega) (by omega)]
  congr 2
  rw [Bool.eq_iff_iff]
  simp only [beq_iff_eq, decide_eq_true_eq]
  omega
end
end Go.Proofs.Ytdceaeifcniabaa.AE

namespace Go.Proofs.Ytdceaeifcniabaa.AE
set_option linter.unusedVariables false
set_option linter.unusedSimpArgs false
set_option linter.constructorNameAsVariable false
open Go Go.Proofs.Ytdceaeifcniabaa.Geo
attribute [local irreducible] pcall C0 callB
set_option maxRecDepth 100000
theorem put5 {x y : AV} {p q : Phs} (h : isSc x = true) : putSub 5 0 (phX x p) (phX y q) = some (phX x p) := by
  have h1 : (AV.cells (phX x p)).all isSc = true := by
    change ([x, AV.int .i64 p.g, AV.int .i64 p.v, AV.int .i64 p.m, AV.int .i64 p.u].all isSc) = true
    rw [List.all_cons, h]; rfl
  simp only [putSub]
  rw [if_pos ⟨by simp, rfl, h1⟩]; rfl
/-- A row of own memory, copied. -/
theorem cloneS (d n0 : Nat) {H : Heap} {lo hi : Nat} {av : AV} {ps : List Pt} (h : ArOf H lo hi av ps) (h0 : ps ≠ []) (hl : ps.length ≤ 1000000) : ∃ av' H', callB M (pcall M d) (n0 + 9) true 35 [av] H = some (av', H') ∧ Ext H H' ∧ ArOf H' H.length H'.length av' ps ∧ av'.cells = [av'] ∧ isSc av' = true := by
  rcases h with ⟨h, _⟩ | ⟨id, a, b, rfl, hg⟩
  · exact absurd h h0
  obtain ⟨n, hn⟩ : ∃ n, ps.length = n + 1 := ⟨ps.length - 1, by have := List.length_pos_iff.mpr h0; omega⟩
  refine ⟨.slc (H.length + 1) 0 ps.length, H ++ [none, some ⟨E62, ps.map pt⟩], xmeth_ok2 (U := unr) (n := n0 + 8) rfl rfl (by rw [emptyR, show M.cl 35 = true from rfl]; rfl) fun K => ?_, Ext.app _ _, .inr ⟨H.length + 1, by omega, by simp, rfl, hget_s rfl⟩, rfl, rfl⟩
  refine (r35 C0 d _ n0 _ K).trans ?_
  refine Eq.trans (hop_eq (v := .bool false) (H' := H) (by rw [hn]; rfl)) ?_
  refine Eq.trans (pl_bool rfl) ?_
  rw [cnd_f]
  refine Eq.trans mk_n ?_
  have hb : (E62).bytes = 16 := rfl
  refine Eq.trans (hop_eq (v := .slc (H.length + 1) 0 ps.length) (H' := H ++ [none, some ⟨E62, ps.map pt⟩]) ?_) rfl
  have e1 : elsOf (H ++ [some ⟨E62, []⟩]) (.slc id 0 ps.length) = some (ps.map pt) := by
    simp only [elsOf]
    rw [hget_app hg]
    simp only
    rw [if_pos (by rw [List.length_map]; omega), List.drop_zero, List.take_of_length_le (by rw [List.length_map]; exact Nat.le_refl _)]
  simp only [aop, evO]
  rw [e1]
  simp only [aApp]
  rw [hget_s (k := 0) rfl]
  simp only
  rw [if_pos ⟨rfl, by rw [List.length_map, hb]; omega, by rw [List.length_map]; omega, trivial, trivial, all_ptE _⟩]
  rw [List.length_append, List.length_map, List.set_append_right _ _ (by omega)]
  simp
section
variable {H : Heap} {lo hi : Nat} {v : AV} {r : Rul} {ph : Nat}
theorem phase_own (d n0 : Nat) (h : CpOf H lo hi v r.phs) (hp : ph < r.phs.length) (hl : r.phs.length ≤ 100) (h0 : (r.phs[ph]).ps ≠ []) (hs : (r.phs[ph]).ps.length ≤ 1000000) : ∃ av H', callB M (pcall M d) (n0 + 10) true 32 [rlX v r, .int .i64 (ph : Int)] H = some (.tup [phX av r.phs[ph], .bool true], H') ∧ Ext H H' ∧ ArOf H' H.length H'.length av (r.phs[ph]).ps ∧ av.cells = [av] ∧ isSc av = true := by
  have hv : elOk E24 (rlX v r) = true := by rcases h with ⟨_, h⟩ | ⟨id, els, _, _, h, _⟩ <;> rw [h] <;> rfl
  rcases h with ⟨h, _⟩ | ⟨id, els, q1, q2, q3, q4, q5, q6⟩
  · rw [h] at hp; exact absurd hp (Nat.not_lt_zero _)
  have hq : r.phs[ph]? = some r.phs[ph] := List.getElem?_eq_getElem hp
  obtain ⟨av, g1, g2⟩ := q6 ph _ hq
  generalize r.phs[ph] = p at *
  subst q3
  have avs : av.cells = [av] ∧ isSc av = true := by rcases g2 with ⟨_, h⟩ | ⟨id', _, _, h, _⟩ <;> rw [h] <;> exact ⟨rfl, rfl⟩
  -- the memory ahead of the copying
  have hA : ∀ (X : Heap), Ext H (H ++ X) := fun X => Ext.app H X
  let S : Heap := [some ⟨E24, [rlX (.slc id 0 r.phs.length) r]⟩, some ⟨E43, [phX av p]⟩]
  have g2' : ArOf (H ++ S) (id + 1) hi av p.ps := ar_mono g2 (Nat.le_refl _) (Nat.le_refl _) fun _ _ _ _ x => hget_app x
  obtain ⟨av', H1, c1, c2, c3, c4, c5⟩ := cloneS d n0 g2' h0 hs
  have hv1 : hget H1 (H.length + 1) = some ⟨E43, [phX av p]⟩ := c2 _ _ (hget_s rfl)
  have hlen : (H ++ S).length = H.length + 2 := by simp [S]
  refine ⟨av', H1.set (H.length + 1) (some ⟨E43, [phX av' p]⟩), xmeth_ok (U := unr) (n := n0 + 9) rfl rfl rfl fun K => ?_, ?_, ?_, c4, c5⟩
  · refine (r32 C0 d _ _ _ _ _ _ _ _ _ _ (n0 + 1) _ K).trans ?_
    refine Eq.trans (bx_n hv) ?_
    refine Eq.trans al_s ?_
    rw [decide_eq_false (by omega), cnd_f]
    refine Eq.trans sh_ptr ?_
    refine Eq.trans (ld_s (v := .slc id 0 r.phs.length) rfl rfl rfl) ?_
    refine Eq.trans (hop_eq (v := .int .i64 (r.phs.length : Nat)) (by simp only [aop, evO, lenOf]; rw [hget_app q4])) ?_
    refine Eq.trans (pl_int (by rfl)) ?_
    rw [decide_eq_false (by omega), cnd_f]
    refine Eq.trans sh_ptr ?_
    refine Eq.trans (ld_s (v := .slc id 0 r.phs.length) rfl rfl rfl) ?_
    refine Eq.trans (ix_slc (hget_app q4) (by omega) (by omega) rfl) ?_
    refine Eq.trans (ld_ptr (v := phX av p) (hget_app q4) (by rw [show 0 + ((ph : Nat) : Int).toNat = ph by omega]; exact g1) rfl) ?_
    refine Eq.trans (pl_agg (by rfl) (by rfl)) ?_; refine Eq.trans (pl_any (by rfl)) ?_; refine Eq.trans (pl_int (by rfl)) ?_; refine Eq.trans (pl_int (by rfl)) ?_; refine Eq.trans (pl_int (by rfl)) ?_; refine Eq.trans (pl_int (by rfl)) ?_
    refine Eq.trans (st_s rfl rfl (show putSub 5 0 (phX av p) (E43).zero = some (phX av p) by rcases g2 with ⟨_, h⟩ | ⟨id', _, _, h, _⟩ <;> rw [h] <;> rfl)) ?_
    refine Eq.trans sh_ptr ?_
    refine Eq.trans (ld_s (v := av) rfl rfl rfl) ?_
    refine Eq.trans (cal_eq c1) ?_
    refine Eq.trans (pl_any (by rfl)) ?_
    refine Eq.trans sh_ptr ?_
    refine Eq.trans (st_ptr (el' := phX av' p) hv1 rfl (put_ar c4 c5)) ?_
    have hv2 : hget (H1.set (H.length + 1) (some ⟨E43, [phX av' p]⟩)) (H.length + 1) = some ⟨E43, [phX av' p]⟩ := hget_set (hg_lt hv1)
    refine Eq.trans (ld_ptr hv2 rfl rfl) ?_
    refine Eq.trans (pl_agg (by rfl) (by rfl)) ?_; refine Eq.trans (pl_any (by rfl)) ?_; refine Eq.trans (pl_int (by rfl)) ?_; refine Eq.trans (pl_int (by rfl)) ?_; refine Eq.trans (pl_int (by rfl)) ?_; refine Eq.trans (pl_int (by rfl)) ?_
    refine Eq.trans (st_ptr (el' := phX av' p) hv2 rfl (put5 c5)) ?_
    refine Eq.trans (ld_ptr (v := phX av' p) (hget_set (by simp [hg_lt hv1])) rfl rfl) ?_
    change K _ ((H1.set (H.length + 1) (some ⟨E43, [phX av' p]⟩)).set (H.length + 1) (some ⟨E43, [phX av' p]⟩)) = _
    rw [List.set_set]
  · intro i b hb
    have := hg_lt hb
    rw [hget_set_ne (by omega)]
    exact c2 _ _ (hget_app hb)
  · rw [List.length_set]
    exact ar_mono c3 (by omega) (Nat.le_refl _) fun i b x _ hb => by rw [hget_set_ne (by omega)]; exact hb
theorem m_now (d n0 : Nat) {id cid : Nat} {c : Int} (h : Mach H id cid lo hi v r ph c) (h0 : (r.phs[ph]'h.p).ps ≠ []) (hs : (r.phs[ph]'h.p).ps.length ≤ 1000000) : ∃ av H', callB M (pcall M d) (n0 + 11) true 20 [.ptr id 0 0] H = some (phX av (r.phs[ph]'h.p), H') ∧ Ext H H' ∧ ArOf H' H.length H'.length av (r.phs[ph]'h.p).ps ∧ av.cells = [av] ∧ isSc av = true := by
  let S : Heap := [some ⟨E43, [(E43).zero]⟩]
  have hc : CpOf ((H ++ S) ++ S) lo hi v r.phs := cp_mono h.cp (Nat.le_refl _) (Nat.le_refl _) fun _ _ _ _ x => hget_app (hget_app x)
  obtain ⟨av, H1, c1, c2, c3, c4, c5⟩ := phase_own d n0 hc h.p h.len h0 hs
  have hm : ∀ X : Heap, hget ((H ++ S) ++ X) id = _ := fun X => hget_app (hget_app h.m)
  generalize hpp : r.phs[ph]'h.p = p at *
  have e1 : hget H1 (H.length + 0) = some ⟨E43, [(E43).zero]⟩ := c2 _ _ (hget_app (hget_s rfl))
  have e2 : hget H1 ((H ++ S).length + 0) = some ⟨E43, [(E43).zero]⟩ := c2 _ _ (hget_s rfl)
  have lS : (H ++ S).length = H.length + 1 := by simp [S]
  let H2 := H1.set ((H ++ S).length + 0) (some ⟨E43, [phX av p]⟩)
  let H3 := H2.set (H.length + 0) (some ⟨E43, [phX av p]⟩)
  have k2 : hget H2 ((H ++ S).length + 0) = some ⟨E43, [phX av p]⟩ := hget_set (hg_lt e2)
  have k1 : hget H2 (H.length + 0) = some ⟨E43, [(E43).zero]⟩ := by rw [hget_set_ne (by omega)]; exact e1
  refine ⟨av, H3, xmeth_ok (U := unr) (n := n0 + 10) rfl rfl rfl fun K => ?_, ?_, ?_, c4, c5⟩
  · refine (r20 C0 d _ (n0 + 2) _ K).trans ?_
    refine Eq.trans al_n ?_
    refine Eq.trans nil_f ?_
    refine Eq.trans (pl_bool (by rfl)) ?_
    refine Eq.trans (pl_f rfl) ?_
    refine Eq.trans gr_eq ?_
    refine Eq.trans nil_ptr ?_
    refine Eq.trans sh_ptr ?_
    refine Eq.trans (ld_ptr (v := rlX v r) (hm S) rfl rfl) ?_
    refine Eq.trans (pl_agg (by rfl) (by rfl)) ?_; refine Eq.trans (pl_any (by rfl)) ?_; refine Eq.trans (pl_int (by rfl)) ?_; refine Eq.trans (pl_int (by rfl)) ?_; refine Eq.trans (pl_int (by rfl)) ?_; refine Eq.trans (pl_int (by rfl)) ?_; refine Eq.trans (pl_int (by rfl)) ?_; refine Eq.trans (pl_int (by rfl)) ?_; refine Eq.trans (pl_int (by rfl)) ?_; refine Eq.trans (pl_int (by rfl)) ?_
    refine Eq.trans nil_ptr ?_
    refine Eq.trans sh_ptr ?_
    refine Eq.trans (ld_ptr (v := .int .i64 (ph : Int)) (hm S) rfl rfl) ?_
    refine Eq.trans (pl_int (by rfl)) ?_
    refine Eq.trans (cal_eq c1) ?_
    refine Eq.trans (pl_tup (by rfl) (by rfl)) ?_; refine Eq.trans (pl_agg (by rfl) (by rfl)) ?_; refine Eq.trans (pl_any (by rfl)) ?_; refine Eq.trans (pl_int (by rfl)) ?_; refine Eq.trans (pl_int (by rfl)) ?_; refine Eq.trans (pl_int (by rfl)) ?_; refine Eq.trans (pl_int (by rfl)) ?_; refine Eq.trans (pl_bool (by rfl)) ?_
    refine Eq.trans (keep_g (hget_s rfl) e2) ?_
    refine Eq.trans (st_ptr (el' := phX av p) e2 rfl (put5 (y := .zsl true) (q := ⟨[], 0, 0, 0, 0⟩) c5)) ?_
    refine Eq.trans (ld_ptr (v := phX av p) k2 rfl rfl) ?_
    refine Eq.trans (pl_agg (by rfl) (by rfl)) ?_; refine Eq.trans (pl_any (by rfl)) ?_; refine Eq.trans (pl_int (by rfl)) ?_; refine Eq.trans (pl_int (by rfl)) ?_; refine Eq.trans (pl_int (by rfl)) ?_; refine Eq.trans (pl_int (by rfl)) ?_
    refine Eq.trans (st_ptr (el' := phX av p) k1 rfl (put5 (y := .zsl true) (q := ⟨[], 0, 0, 0, 0⟩) c5)) ?_
    refine Eq.trans (ld_ptr (v := phX av p) (hget_set (hg_lt k1)) rfl rfl) ?_
    rfl
  · intro i b hb
    have := hg_lt hb
    rw [hget_set_ne (by omega), hget_set_ne (by omega)]
    exact c2 _ _ (hget_app (hget_app hb))
  · have hl3 : H3.length = H1.length := by simp [H3, H2]
    rw [hl3]
    exact ar_mono c3 (by simp) (Nat.le_refl _) fun i b x _ hb => by
      simp only [List.length_append] at x
      have : S.length = 1 := rfl
      rw [hget_set_ne (by omega), hget_set_ne (by omega)]; exact hb
end
end Go.Proofs.Ytdceaeifcniabaa.AE

namespace Go.Proofs.Ytdceaeifcniabaa.AE
set_option linter.unusedVariables false
set_option linter.unusedSimpArgs false
set_option linter.constructorNameAsVariable false
open Go Go.Proofs.Ytdceaeifcniabaa.Geo
attribute [local irreducible] pcall C0 callB
set_option maxRecDepth 100000
theorem al_stA {G : Heap} {e : ETy} {n : Nat} {x : AV} {K : AV → Heap → Ans} (h : putSub n 0 x e.zero = some x) : (C0.hop G (.alloc e) fun p h => C0.hop h (.store n (.v p) (.v x)) fun u h' => K p h') = K (.ptr G.length 0 0) (G ++ [some ⟨e, [x]⟩]) := al_st (K := fun p _ h => K p h) h
/-- May the next phase begin? -/
def wishX (r : Rul) (ph : Nat) (hp : ph < r.phs.length) (c h : Int) (known : Bool) : Bool := known && (!decide (ph + 1 = r.phs.length) && (decide (c ≥ (r.phs[ph]).m) && decide (h ≥ (r.phs[ph]).u)))
section
variable {H : Heap} {lo hi id cid : Nat} {v : AV} {r : Rul} {ph : Nat} {c : Int}
theorem m_wish (d n0 : Nat) (hgt : Int) (known : Bool) (h : Mach H id cid lo hi v r ph c) (h0 : (r.phs[ph]'h.p).ps ≠ []) (hs : (r.phs[ph]'h.p).ps.length ≤ 1000000) : ∃ H', callB M (pcall M d) (n0 + 12) true 11 [.ptr id 0 0, .int .i64 hgt, .bool known] H = some (.bool (wishX r ph h.p c hgt known), H') ∧ Ext H H' := by
  obtain ⟨av, H1, c1, c2, c3, c4, c5⟩ := m_now d n0 h h0 hs
  generalize hpp : r.phs[ph]'h.p = p at *
  let H2 := H1 ++ [some ⟨E43, [phX av p]⟩]
  have e2 : Ext H H2 := c2.trans (Ext.app _ _)
  have hm := mach_ext h e2
  have hv : hget H2 H1.length = some ⟨E43, [phX av p]⟩ := hget_new
  refine ⟨H2, xmeth_ok (U := unr) (n := n0 + 11) rfl rfl rfl fun K => ?_, e2⟩
  refine (r11 C0 d _ _ _ (n0 + 3) _ K).trans ?_
  refine Eq.trans (cal_eq c1) ?_
  refine Eq.trans (pl_agg (by rfl) (by rfl)) ?_; refine Eq.trans (pl_any (by rfl)) ?_; refine Eq.trans (pl_int (by rfl)) ?_; refine Eq.trans (pl_int (by rfl)) ?_; refine Eq.trans (pl_int (by rfl)) ?_; refine Eq.trans (pl_int (by rfl)) ?_
  refine Eq.trans (al_stA (put5 (y := .zsl true) (q := ⟨[], 0, 0, 0, 0⟩) c5)) ?_
  refine Eq.trans gr_nil ?_
  unfold wishX
  rw [hpp]
  cases known
  · rfl
  rw [cnd_t, Bool.true_and]
  refine Eq.trans (cal_eq (m_last d (n0 + 2) hm)) ?_
  refine Eq.trans (pl_bool (by rfl)) ?_
  cases hla : decide (ph + 1 = r.phs.length)
  rotate_left
  · rfl
  refine Eq.trans (pl_len rfl) ?_
  refine Eq.trans (cal_eq (m_in d (n0 + 1) hm)) ?_
  refine Eq.trans (pl_int (by rfl)) ?_
  refine Eq.trans sh_ptr ?_
  refine Eq.trans (ld_ptr (v := .int .i64 p.m) hv rfl rfl) ?_
  refine Eq.trans (pl_int (by rfl)) ?_
  refine Eq.trans (keep_1 rfl) ?_
  cases hcm : decide (c ≥ p.m)
  · rfl
  rw [cnd_t]
  refine Eq.trans sh_ptr ?_
  refine Eq.trans (ld_ptr (v := .int .i64 p.u) hv rfl rfl) ?_
  refine Eq.trans (pl_int (by rfl)) ?_
  rfl
/-- What a cycle comes to. -/
def stepP (r : Rul) (ph : Nat) (c : Int) (a b : Bool) : Bool × Nat × Int := bif a && (b && !decide (ph + 1 = r.phs.length)) then (true, ph + 1, 0) else (false, ph, if 1000000 < c + 1 then 1000000 else c + 1)
theorem m_cycle (d n0 : Nat) (a b : Bool) (h : Mach H id cid lo hi v r ph c) : ∃ H', callB M (pcall M d) (n0 + 11) true 13 [.ptr id 0 0, .bool a, .bool b] H = some (.bool (stepP r ph c a b).1, H') ∧ Mach H' id cid lo hi v r (stepP r ph c a b).2.1 (stepP r ph c a b).2.2 ∧ Ext2 id cid H H' := by
  obtain ⟨H1, u1, u2, u3⟩ := cnt_up d n0 h.k h.c0
  have mU : Mach H1 id cid lo hi v r ph (if 1000000 < c + 1 then 1000000 else c + 1) := by
    have := h.c0
    exact ⟨u3 _ _ h.ne h.m, u2, cp_mono h.cp (Nat.le_refl _) (Nat.le_refl _) fun i b x y z => u3 _ _ (by have := h.h2; omega) z, h.ne, h.h1, h.h2, h.p, by split <;> omega, h.len⟩
  have eU : Ext2 id cid H H1 := fun i x _ h2 y => u3 i x h2 y
  have up : ∀ K : AV → Heap → Ans, (C0.hop H (.nilck (.v (.ptr id 0 0))) fun v3 h4 =>
      C0.hop h4 (.fldA 10 (.v v3)) fun v5 h6 =>
      C0.hop h6 (.load false 1 (.v v5)) fun v7 h8 =>
      C0.cal M (pcall M d) (n0 + 10) true 27 [v7] h8 fun v9 h10 =>
      C0.int .i64 (some v9) fun x11 => K (.bool false) h10) = K (.bool false) H1 := by
    intro K
    refine Eq.trans nil_ptr ?_
    refine Eq.trans sh_ptr ?_
    refine Eq.trans (ld_ptr (v := .ptr cid 0 0) h.m rfl rfl) ?_
    refine Eq.trans (cal_eq u1) ?_
    exact pl_int rfl
  have stay : stepP r ph c a b = (false, ph, if 1000000 < c + 1 then 1000000 else c + 1) → (∀ K : AV → Heap → Ans, xmeth C0 M unr d (n0 + 10) 13 [.ptr id 0 0, .bool a, .bool b] H K = K (.bool false) H1) → ∃ H', callB M (pcall M d) (n0 + 11) true 13 [.ptr id 0 0, .bool a, .bool b] H = some (.bool (stepP r ph c a b).1, H') ∧ Mach H' id cid lo hi v r (stepP r ph c a b).2.1 (stepP r ph c a b).2.2 ∧ Ext2 id cid H H' := by
    intro e k
    rw [e]
    exact ⟨H1, xmeth_ok (U := unr) (n := n0 + 10) rfl rfl rfl k, mU, eU⟩
  cases a
  · refine stay rfl fun K => ?_
    refine (r13 C0 d _ _ _ (n0 + 2) _ K).trans ?_
    refine Eq.trans nil_f ?_
    refine Eq.trans (pl_bool (by rfl)) ?_
    refine Eq.trans (pl_f rfl) ?_
    refine Eq.trans (pl_len rfl) ?_
    exact up K
  cases b
  · refine stay rfl fun K => ?_
    refine (r13 C0 d _ _ _ (n0 + 2) _ K).trans ?_
    refine Eq.trans nil_f ?_
    refine Eq.trans (pl_bool (by rfl)) ?_
    refine Eq.trans (pl_f rfl) ?_
    refine Eq.trans (pl_f rfl) ?_
    refine Eq.trans (pl_len rfl) ?_
    exact up K
  by_cases hla : ph + 1 = r.phs.length
  · refine stay (by unfold stepP; rw [decide_eq_true hla]; rfl) fun K => ?_
    refine (r13 C0 d _ _ _ (n0 + 2) _ K).trans ?_
    refine Eq.trans nil_f ?_
    refine Eq.trans (pl_bool (by rfl)) ?_
    refine Eq.trans (pl_f rfl) ?_
    refine Eq.trans (pl_f rfl) ?_
    refine Eq.trans (pl_f rfl) ?_
    refine Eq.trans (cal_eq (m_last d (n0 + 1) h)) ?_
    refine Eq.trans (pl_bool (by rfl)) ?_
    refine Eq.trans (pl_len (decide_eq_true hla)) ?_
    exact up K
  have hp := h.p
  have hl := h.len
  let MB : Blk := ⟨E54, [.agg [v, .int .i64 r.n, .int .i64 r.d, .int .i64 r.gr, .int .i64 r.eps, .int .i64 r.st, .int .i64 r.age, .int .i64 r.lift, .int .i64 r.saf, .int .i64 ((ph + 1 : Nat) : Int), .ptr cid 0 0]]⟩
  let H2 := H.set id (some MB)
  have hm2 : hget H2 id = some MB := hget_set (hg_lt h.m)
  have hk2 : Cnt H2 cid c := by unfold Cnt; rw [hget_set_ne h.ne]; exact h.k
  obtain ⟨H3, w1, w2, w3⟩ := cnt_reset d n0 hk2
  have e : stepP r ph c true true = (true, ph + 1, 0) := by unfold stepP; rw [decide_eq_false hla]; rfl
  rw [e]
  refine ⟨H3, xmeth_ok (U := unr) (n := n0 + 10) rfl rfl rfl fun K => ?_, ⟨w3 _ _ h.ne hm2, w2, cp_mono h.cp (Nat.le_refl _) (Nat.le_refl _) fun i b x y z => w3 _ _ (by have := h.h2; omega) (by rw [hget_set_ne (by have := h.h1; omega)]; exact z), h.ne, h.h1, h.h2, by simp only; omega, by simp, h.len⟩, fun i x h1 h2 y => w3 i x h2 (by rw [hget_set_ne (Ne.symm h1)]; exact y)⟩
  refine (r13 C0 d _ _ _ (n0 + 2) _ K).trans ?_
  refine Eq.trans nil_f ?_
  refine Eq.trans (pl_bool (by rfl)) ?_
  refine Eq.trans (pl_f rfl) ?_
  refine Eq.trans (pl_f rfl) ?_
  refine Eq.trans (pl_f rfl) ?_
  refine Eq.trans (cal_eq (m_last d (n0 + 1) h)) ?_
  refine Eq.trans (pl_bool (by rfl)) ?_
  refine Eq.trans (pl_f (decide_eq_false hla)) ?_
  refine Eq.trans nil_ptr ?_
  refine Eq.trans sh_ptr ?_
  refine Eq.trans (ld_ptr (v := .int .i64 (ph : Int)) h.m rfl rfl) ?_
  refine Eq.trans (pl_int (by rfl)) ?_
  refine Eq.trans nil_ptr ?_
  refine Eq.trans sh_ptr ?_
  rw [show IntKind.wrap .i64 (((ph : Nat) : Int) + 1) = ((ph + 1 : Nat) : Int) by rw [i64w]; omega]
  refine Eq.trans (st_ptr h.m rfl rfl) ?_
  refine Eq.trans nil_ptr ?_
  refine Eq.trans sh_ptr ?_
  refine Eq.trans (ld_ptr (v := .ptr cid 0 0) hm2 rfl rfl) ?_
  refine Eq.trans (cal_eq w1) ?_
  exact pl_tup rfl rfl
theorem m_set (d n0 : Nat) (p i : Int) (h : Mach H id cid lo hi v r ph c) : ∃ H', callB M (pcall M d) (n0 + 10) true 15 [.ptr id 0 0, .int .i64 p, .int .i64 i] H = some (.bool (decide ((0 ≤ p ∧ p < (r.phs.length : Nat)) ∧ 0 ≤ i ∧ i ≤ 1000000)), H') ∧ Ext2 id cid H H' ∧
    (if (0 ≤ p ∧ p < (r.phs.length : Nat)) ∧ 0 ≤ i ∧ i ≤ 1000000 then Mach H' id cid lo hi v r p.toNat i else Mach H' id cid lo hi v r ph c) := by
  by_cases hok : (0 ≤ p ∧ p < (r.phs.length : Nat)) ∧ 0 ≤ i ∧ i ≤ 1000000
  rotate_left
  · refine ⟨H, xmeth_ok (U := unr) (n := n0 + 9) rfl rfl rfl fun K => ?_, (Ext.refl H).two _ _, by rw [if_neg hok]; exact h⟩
    refine (r15 C0 d _ _ _ (n0 + 1) _ K).trans ?_
    rw [decide_eq_false hok]
    refine Eq.trans nil_f ?_
    refine Eq.trans (pl_bool (by rfl)) ?_
    refine Eq.trans (pl_f rfl) ?_
    by_cases h1 : p < 0
    · rw [decide_eq_true h1]; rfl
    rw [decide_eq_false h1, cnd_f]
    refine Eq.trans nil_ptr ?_
    refine Eq.trans sh_ptr ?_
    refine Eq.trans sh_ptr ?_
    refine Eq.trans (ld_ptr (v := v) h.m rfl rfl) ?_
    refine Eq.trans (len_cp h.cp) ?_
    refine Eq.trans (pl_int (by rfl)) ?_
    by_cases h2 : p ≥ (r.phs.length : Nat)
    · rw [decide_eq_true h2]; rfl
    rw [decide_eq_false h2, cnd_f]
    by_cases h3 : i < 0
    · rw [decide_eq_true h3]; rfl
    rw [decide_eq_false h3, cnd_f, decide_eq_true (by omega)]; rfl
  obtain ⟨q, rfl⟩ : ∃ q : Nat, p = (q : Nat) := ⟨p.toNat, by omega⟩
  let MB : Blk := ⟨E54, [.agg [v, .int .i64 r.n, .int .i64 r.d, .int .i64 r.gr, .int .i64 r.eps, .int .i64 r.st, .int .i64 r.age, .int .i64 r.lift, .int .i64 r.saf, .int .i64 ((q : Nat) : Int), .ptr cid 0 0]]⟩
  let H2 := H.set id (some MB)
  have hm2 : hget H2 id = some MB := hget_set (hg_lt h.m)
  have hk2 : Cnt H2 cid c := by unfold Cnt; rw [hget_set_ne h.ne]; exact h.k
  obtain ⟨H3, w1, w2, w3⟩ := cnt_set d n0 (n := i) hk2
  have ec : clampC i = i := by unfold clampC; rw [if_neg (show ¬ (0 : Int) > i by omega), if_neg (by omega)]
  rw [ec] at w2
  refine ⟨H3, xmeth_ok (U := unr) (n := n0 + 9) rfl rfl rfl fun K => ?_, fun i x h1 h2 y => w3 i x h2 (by rw [hget_set_ne (Ne.symm h1)]; exact y), ?_⟩
  · refine (r15 C0 d _ _ _ (n0 + 1) _ K).trans ?_
    rw [decide_eq_true hok]
    refine Eq.trans nil_f ?_
    refine Eq.trans (pl_bool (by rfl)) ?_
    refine Eq.trans (pl_f rfl) ?_
    rw [decide_eq_false (by omega), cnd_f]
    refine Eq.trans nil_ptr ?_
    refine Eq.trans sh_ptr ?_
    refine Eq.trans sh_ptr ?_
    refine Eq.trans (ld_ptr (v := v) h.m rfl rfl) ?_
    refine Eq.trans (len_cp h.cp) ?_
    refine Eq.trans (pl_int (by rfl)) ?_
    rw [decide_eq_false (by omega), cnd_f, decide_eq_false (by omega), cnd_f, decide_eq_false (by omega), cnd_f]
    refine Eq.trans nil_ptr ?_
    refine Eq.trans sh_ptr ?_
    refine Eq.trans (st_ptr h.m rfl rfl) ?_
    refine Eq.trans nil_ptr ?_
    refine Eq.trans sh_ptr ?_
    refine Eq.trans (ld_ptr (v := .ptr cid 0 0) hm2 rfl rfl) ?_
    refine Eq.trans (cal_eq w1) ?_
    exact pl_tup rfl rfl
  · rw [if_pos hok]
    exact ⟨w3 _ _ h.ne hm2, w2, cp_mono h.cp (Nat.le_refl _) (Nat.le_refl _) fun i b x y z => w3 _ _ (by have := h.h2; omega) (by rw [hget_set_ne (by have := h.h1; omega)]; exact z), h.ne, h.h1, h.h2, by omega, by omega, h.len⟩
end
end Go.Proofs.Ytdceaeifcniabaa.AE

namespace Go.Proofs.Ytdceaeifcniabaa.AE
set_option linter.unusedVariables false
set_option linter.unusedSimpArgs false
set_option linter.constructorNameAsVariable false
open Go Go.Proofs.Ytdceaeifcniabaa.Geo
attribute [local irreducible] pcall C0 callB
set_option maxRecDepth 100000
theorem or_t1 (b : Bool) : (b || true) = true := by cases b <;> rfl
theorem build_m {H : Heap} {x : AV} {r : Rul} {q : Nat} (h : x = .lst [] ∨ ∃ i n, x = .slc i 0 n) : aop noCall (evO []) H (.build [(.zsl true), (.int .i64 0), (.int .i64 0), (.int .i64 0), (.int .i64 0), (.int .i64 0), (.int .i64 0), (.int .i64 0), (.int .i64 0), (.int .i64 0), .nilp] [(0, 9, .v (rlX x r)), (10, 1, .v (.ptr q 0 0))]) =
    some (.agg [x, .int .i64 r.n, .int .i64 r.d, .int .i64 r.gr, .int .i64 r.eps, .int .i64 r.st, .int .i64 r.age, .int .i64 r.lift, .int .i64 r.saf, .int .i64 ((0 : Nat) : Int), .ptr q 0 0], H) := by
  rcases h with rfl | ⟨i, n, rfl⟩ <;> rfl
theorem el_m {x : AV} {r : Rul} {q : Nat} (h : x = .lst [] ∨ ∃ i n, x = .slc i 0 n) : elOk E54 (.agg [x, .int .i64 r.n, .int .i64 r.d, .int .i64 r.gr, .int .i64 r.eps, .int .i64 r.st, .int .i64 r.age, .int .i64 r.lift, .int .i64 r.saf, .int .i64 ((0 : Nat) : Int), .ptr q 0 0]) = true := by
  rcases h with rfl | ⟨i, n, rfl⟩ <;> rfl
theorem new_ok (r : Rul) (H : Heap) (hl : r.phs.length ≤ 100) (ha : ∀ p ∈ r.phs, p.ps.length ≤ 1000000) (hp : 0 < r.phs.length) (hw : wrongX r = 0) : ∃ id cid lo hi v H', callB M (pcall M 40) 12 true 9 [rl r] H = some (.ptr id 0 0, H') ∧ Ext H H' ∧ Mach H' id cid lo hi v r 0 0 ∧ H.length < lo ∧ H.length < id ∧ H.length < cid := by
  let H1 := H ++ [some ⟨E24, [rl r]⟩]
  have hc := cp_copy H1 r
  let H2 := H1 ++ cpS H1.length r
  let CB : Blk := ⟨E71, [.agg [.int .i64 0, .int .i64 1000000]]⟩
  let H3 := H2 ++ [some CB]
  let MB : AV := .agg [phV H1.length r, .int .i64 r.n, .int .i64 r.d, .int .i64 r.gr, .int .i64 r.eps, .int .i64 r.st, .int .i64 r.age, .int .i64 r.lift, .int .i64 r.saf, .int .i64 ((0 : Nat) : Int), .ptr H2.length 0 0]
  let H4 := H3 ++ [some ⟨E54, [MB]⟩]
  have hv : phV H1.length r = .lst [] ∨ ∃ i n, phV H1.length r = .slc i 0 n := by
    rcases hc with ⟨_, h⟩ | ⟨id, els, _, _, h, _⟩
    · exact .inl h
    · exact .inr ⟨_, _, h⟩
  have l1 : H1.length = H.length + 1 := by simp [H1]
  have l2 : H2.length = H1.length + (cpS H1.length r).length := by simp [H2]
  have l3 : H3.length = H2.length + 1 := by simp [H3]
  refine ⟨H3.length, H2.length, H1.length, H2.length, phV H1.length r, H4, xmeth_ok (U := unr) (n := 11) rfl rfl rfl fun K => ?_, (((Ext.app _ _).trans (Ext.app _ _)).trans (Ext.app _ _)).trans (Ext.app _ _), ⟨hget_new, hget_app hget_new, ?_, by omega, by omega, Nat.le_refl _, hp, by decide, hl⟩, by omega, by omega, by omega⟩
  · refine (r9 C0 40 _ _ _ _ _ _ _ _ _ 3 _ K).trans ?_
    refine Eq.trans (bx_n (by rfl)) ?_
    refine Eq.trans (ld_s (v := rl r) rfl rfl rfl) ?_
    refine Eq.trans (pl_agg (by rfl) (by rfl)) ?_; refine Eq.trans (pl_any (by rfl)) ?_; refine Eq.trans (pl_int (by rfl)) ?_; refine Eq.trans (pl_int (by rfl)) ?_; refine Eq.trans (pl_int (by rfl)) ?_; refine Eq.trans (pl_int (by rfl)) ?_; refine Eq.trans (pl_int (by rfl)) ?_; refine Eq.trans (pl_int (by rfl)) ?_; refine Eq.trans (pl_int (by rfl)) ?_; refine Eq.trans (pl_int (by rfl)) ?_
    refine Eq.trans (snp_free (by rfl)) ?_
    refine Eq.trans (pl_bool (s22 22 r hl (fun p hp => by have := ha p hp; omega))) ?_
    rw [or_t1, cnd_t, beq_iff_eq.mpr hw]
    refine Eq.trans (pl_f rfl) ?_
    refine Eq.trans (ld_s (v := rl r) rfl rfl rfl) ?_
    refine Eq.trans (pl_agg (by rfl) (by rfl)) ?_; refine Eq.trans (pl_any (by rfl)) ?_; refine Eq.trans (pl_int (by rfl)) ?_; refine Eq.trans (pl_int (by rfl)) ?_; refine Eq.trans (pl_int (by rfl)) ?_; refine Eq.trans (pl_int (by rfl)) ?_; refine Eq.trans (pl_int (by rfl)) ?_; refine Eq.trans (pl_int (by rfl)) ?_; refine Eq.trans (pl_int (by rfl)) ?_; refine Eq.trans (pl_int (by rfl)) ?_
    refine Eq.trans (cal_eq (copyI 39 1 r (by omega) ha H1)) ?_
    refine Eq.trans (pl_agg (by rfl) (by rfl)) ?_; refine Eq.trans (pl_any (by rfl)) ?_; refine Eq.trans (pl_int (by rfl)) ?_; refine Eq.trans (pl_int (by rfl)) ?_; refine Eq.trans (pl_int (by rfl)) ?_; refine Eq.trans (pl_int (by rfl)) ?_; refine Eq.trans (pl_int (by rfl)) ?_; refine Eq.trans (pl_int (by rfl)) ?_; refine Eq.trans (pl_int (by rfl)) ?_; refine Eq.trans (pl_int (by rfl)) ?_
    refine Eq.trans (cal_eq (cnt_new 40 2 H2)) ?_
    refine Eq.trans (pl_any (by rfl)) ?_
    refine Eq.trans (hop_eq (v := MB) (H' := H3) (build_m hv)) ?_
    refine Eq.trans (pl_agg (by rfl) (by rfl)) ?_; refine Eq.trans (pl_any (by rfl)) ?_; refine Eq.trans (pl_int (by rfl)) ?_; refine Eq.trans (pl_int (by rfl)) ?_; refine Eq.trans (pl_int (by rfl)) ?_; refine Eq.trans (pl_int (by rfl)) ?_; refine Eq.trans (pl_int (by rfl)) ?_; refine Eq.trans (pl_int (by rfl)) ?_; refine Eq.trans (pl_int (by rfl)) ?_; refine Eq.trans (pl_int (by rfl)) ?_; refine Eq.trans (pl_int (by rfl)) ?_; refine Eq.trans (pl_any (by rfl)) ?_
    refine Eq.trans (hop_eq (v := .ptr H3.length 0 0) (H' := H4) ?_) rfl
    have : elOk E54 MB = true := el_m hv
    simp only [aop, evO]
    exact if_pos this
  · exact cp_mono hc (Nat.le_refl _) (Nat.le_refl _) fun _ _ _ _ x => hget_app (hget_app x)
theorem wrong_ph {r : Rul} (h : wrongX r = 0) : (1 ≤ r.phs.length ∧ r.phs.length ≤ 4) ∧ ∀ p ∈ r.phs, p.ps ≠ [] := by
  unfold wrongX at h
  split at h
  · omega
  · rename_i h1
    refine ⟨by omega, fun p hp he => ?_⟩
    cases hb : r.phs.any badX
    · rw [List.any_eq_false] at hb
      have := hb p hp
      unfold badX at this
      simp only [Bool.not_eq_true', decide_eq_false_iff_not, Decidable.not_not] at this
      have := this.1
      rw [he] at this
      cases this
    · rw [hb, cond_true] at h; omega
end Go.Proofs.Ytdceaeifcniabaa.AE

namespace Go.Proofs.Ytdceaeifcniabaa.AE
set_option linter.unusedVariables false
set_option linter.unusedSimpArgs false
set_option linter.constructorNameAsVariable false
open Go

noncomputable section
variable {α : Type}
def foN (m : Nat) (K : Nat → α) : α := Nat.rec (motive := fun _ => α) (K 0) (fun p _ => K (Nat.succ p)) m
theorem foN_eq (m : Nat) (K : Nat → α) : foN m K = K m := by cases m <;> rfl
def foI (n : Int) (K : Int → α) : α := match n with
  | .ofNat m => foN m fun m => K (.ofNat m)
  | .negSucc m => foN m fun m => K (.negSucc m)
theorem foI_eq (n : Int) (K : Int → α) : foI n K = K n := by cases n <;> simp only [foI, foN_eq]
def foB (b : Bool) (K : Bool → α) : α := match b with
  | true => K true
  | false => K false
theorem foB_eq (b : Bool) (K : Bool → α) : foB b K = K b := by cases b <;> rfl
def foY (b : UInt8) (K : UInt8 → α) : α := foN b.toNat fun n => K (UInt8.ofNat n)
theorem foY_eq (b : UInt8) (K : UInt8 → α) : foY b K = K b := by unfold foY; rw [foN_eq]; congr 1; simp
/-- A list's elements, one by one. -/
def foL {β : Type} (f : β → (β → α) → α) : List β → (List β → α) → α
  | [], K => K []
  | x :: l, K => f x fun x => foL f l fun l => K (x :: l)
theorem foL_eq {β : Type} {f : β → (β → α) → α} (h : ∀ x K, f x K = K x) : ∀ (l : List β) (K : List β → α), foL f l K = K l
  | [], K => rfl
  | x :: l, K => by simp only [foL, h, foL_eq h l]
def foS {β : Type} : List β → (List β → α) → α
  | [], K => K []
  | x :: l, K => foS l fun l => K (x :: l)
theorem foS_eq {β : Type} : ∀ (l : List β) (K : List β → α), foS l K = K l
  | [], K => rfl
  | x :: l, K => by simp only [foS, foS_eq l]
def foV : Nat → AV → (AV → α) → α
  | 0, v, K => K v
  | d + 1, v, K => match v with
    | .int k n => foI n fun n => K (.int k n)
    | .bool b => foB b fun b => K (.bool b)
    | .str s => foL foY s fun s => K (.str s)
    | .zsl b => foB b fun b => K (.zsl b)
    | .ptr a b c => foN a fun a => foN b fun b => foN c fun c => K (.ptr a b c)
    | .slc a b c => foN a fun a => foN b fun b => foN c fun c => K (.slc a b c)
    | .lst l => foL (foV d) l fun l => K (.lst l)
    | .fptr v j => foV d v fun v => foN j fun j => K (.fptr v j)
    | .agg l => foL (foV d) l fun l => K (.agg l)
    | .tup l => foL (foV d) l fun l => K (.tup l)
    | .fn g a b => foN g fun g => foL (foV d) a fun a => foL (foV d) b fun b => K (.fn g a b)
    | v => K v
theorem foV_eq : ∀ (d : Nat) (v : AV) (K : AV → α), foV d v K = K v
  | 0, v, K => rfl
  | d + 1, v, K => by
    have ih : ∀ (v : AV) (K : AV → α), foV d v K = K v := foV_eq d
    cases v <;> simp only [foV, foI_eq, foB_eq, foN_eq, foL_eq foY_eq, foL_eq ih, ih]
def foBlk (b : Option Blk) (K : Option Blk → α) : α := match b with
  | none => K none
  | some ⟨e, els⟩ => foL (foV 2) els fun els => K (some ⟨e, els⟩)
theorem foBlk_eq (b : Option Blk) (K : Option Blk → α) : foBlk b K = K b := by
  match b with
  | none => rfl
  | some ⟨e, els⟩ => simp only [foBlk, foL_eq (foV_eq 2)]
def foH (H : Heap) (K : Heap → α) : α := foL foBlk H K
theorem foH_eq (H : Heap) (K : Heap → α) : foH H K = K H := foL_eq foBlk_eq H K

/-- Operations that may change memory. -/
def wrH : IOp → Bool
  | .box .. | .alloc .. | .mkrow .. | .store .. | .s2b .. | .mkslice .. | .app .. => true
  | _ => false
def foW (o : IOp) (H : Heap) (K : Heap → α) : α := match wrH o with
  | true => foH H K
  | false => K H
theorem foW_eq (o : IOp) (H : Heap) (K : Heap → α) : foW o H K = K H := by unfold foW; cases wrH o <;> simp only [foH_eq]

/-- How deep a value is told after an operation. -/
def depV : IOp → Nat
  | .call .. => 2
  | _ => 1
/-- A list with another element. -/
def foP : List AV → Nat → AV → (List AV → α) → α
  | [], _, _, K => K []
  | x :: l, 0, v, K => K (v :: l)
  | x :: l, n + 1, v, K => foP l n v fun l => K (x :: l)
theorem foP_eq : ∀ (l : List AV) (n : Nat) (v : AV) (K : List AV → α), foP l n v K = K (l.set n v)
  | [], n, v, K => by cases n <;> rfl
  | x :: l, 0, v, K => rfl
  | x :: l, n + 1, v, K => by simp only [foP, foP_eq l, List.set_cons_succ]
def foO (env : List AV) (d : Option Nat) (v : AV) (K : List AV → α) : α := match d with
  | some d => foP env d v K
  | none => K env
theorem foO_eq (env : List AV) (d : Option Nat) (v : AV) (K : List AV → α) : foO env d v K = K (put env d v) := by cases d <;> simp only [foO, put, foP_eq]
def runOpsF (call : CallF) : List IOper → List AV → Heap → Option St
  | [], env, H => some ⟨env, H⟩
  | o :: l, env, H => match want env o.guard with
    | some true => match aop call (evO env) H o.op with
      | some (v, H) => foV (depV o.op) v fun v => foW o.op H fun H => foO env o.dst v fun env => runOpsF call l env H
      | none => none
    | some false => foO env o.dst (.tup []) fun env => runOpsF call l env H
    | none => none
theorem runOpsF_eq (call : CallF) : ∀ (l : List IOper) (env : List AV) (H : Heap), runOpsF call l env H = runOps call l ⟨env, H⟩
  | [], env, H => rfl
  | o :: l, env, H => by
    simp only [runOpsF, runOps, foV_eq, foW_eq, foO_eq, runOpsF_eq call l] <;> rfl
def runOpsDF (call callP : CallF) : List (IOper × List Nat) → Nat → List (Nat × Nat) → List AV → Heap → Option St
  | [], _, _, env, H => some ⟨env, H⟩
  | (o, chk) :: l, i, log, env, H => match want env o.guard with
    | some true =>
      foS (touch (evO env) H o.op) fun tc =>
      if log.all (fun p => !(chk.contains p.1) || !(tc.contains p.2)) then
        match aop (bif isFull chk then call else callP) (evO env) H o.op with
        | some (v, H) => foV (depV o.op) v fun v => foW o.op H fun H => foO env o.dst v fun env => foN i fun i => foS (log ++ tc.map fun id => (i, id)) fun log => runOpsDF call callP l (i + 1) log env H
        | none => none
      else none
    | some false => foO env o.dst (.tup []) fun env => runOpsDF call callP l (i + 1) log env H
    | none => none
theorem runOpsDF_eq (call callP : CallF) : ∀ (l : List (IOper × List Nat)) (i : Nat) (log : List (Nat × Nat)) (env : List AV) (H : Heap), runOpsDF call callP l i log env H = runOpsD call callP l i log ⟨env, H⟩
  | [], _, _, env, H => rfl
  | (o, chk) :: l, i, log, env, H => by
    simp only [runOpsDF, runOpsD, foV_eq, foW_eq, foS_eq, foO_eq, foN_eq, runOpsDF_eq call callP l] <;> rfl
def runOpsSF (call : CallF) (base : Nat) : List SOp → Nat → List LogE → List AV → Heap → Option St
  | [], _, _, env, H => some ⟨env, H⟩
  | o :: l, i, log, env, H => match want env o.op.guard with
    | some true => match stepS call base o ⟨env, H⟩ with
      | some (v, H') => foV (depV o.op.op) v fun v => foW o.op.op H' fun H' => match (log.all fun e => !(o.chk.contains e.idx) || logC e o (evO env) H H') && o.kp.all fun j => keepB H H' (base + j) with
        | true => foO env o.op.dst v fun env' => foN i fun i => runOpsSF call base l (i + 1) (entS i o (evO env) H H' :: log) env' H'
        | false => none
      | none => none
    | some false => foO env o.op.dst (.tup []) fun env => runOpsSF call base l (i + 1) log env H
    | none => none
theorem runOpsSF_eq (call : CallF) (base : Nat) : ∀ (l : List SOp) (i : Nat) (log : List LogE) (env : List AV) (H : Heap), runOpsSF call base l i log env H = runOpsS call base l i log ⟨env, H⟩
  | [], _, _, env, H => rfl
  | o :: l, i, log, env, H => by
    simp only [runOpsSF, runOpsS, foV_eq, foW_eq, foS_eq, foO_eq, foN_eq, runOpsSF_eq call base l] <;> rfl
def execF (call callP : CallF) (fu : Nat) : IC → St → Option (Ex × St)
  | .skip, s => some (.normal, s)
  | .regD ops, s => match s with
    | ⟨env, H⟩ => match runOpsDF call callP ops 0 [] env H with
      | some s' => some (.normal, s')
      | none => none
  | .regS ops, s => match s with
    | ⟨env, H⟩ => foN H.length fun n => foS (H ++ preH ops) fun H => match runOpsSF call n ops 0 [] env H with
      | some s' => some (.normal, s')
      | none => none
  | .reg ops, s => match s with
    | ⟨env, H⟩ => match runOpsF call ops env H with
      | some s' => some (.normal, s')
      | none => none
  | .seq a b, s => match execF call callP fu a s with
    | some (.normal, s') => execF call callP fu b s'
    | r => r
  | .cond c a b, s => match evO s.env c with
    | .bool t => bif t then execF call callP fu a s else execF call callP fu b s
    | _ => none
  | .block id a, s => match execF call callP fu a s with
    | some (.exit i, s') => if i = id then some (.normal, s') else some (.exit i, s')
    | r => r
  | .loop a, s => iter (execF call callP fu a) fu s
  | .exit id, s => some (.exit id, s)
  | .ret, s => some (.ret, s)
theorem execF_eq (call callP : CallF) (fu : Nat) : ∀ c, execF call callP fu c = exec call callP fu c
  | .skip => by funext s; rfl
  | .regD ops => by funext ⟨env, H⟩; simp only [execF, exec, runOpsDF_eq] <;> rfl
  | .regS ops => by funext ⟨env, H⟩; simp only [execF, exec, foN_eq, foS_eq, runOpsSF_eq] <;> rfl
  | .reg ops => by funext ⟨env, H⟩; simp only [execF, exec, runOpsF_eq] <;> rfl
  | .seq a b => by funext s; simp only [execF, exec, execF_eq call callP fu a, execF_eq call callP fu b] <;> rfl
  | .cond c a b => by funext s; simp only [execF, exec, execF_eq call callP fu a, execF_eq call callP fu b] <;> rfl
  | .block id a => by funext s; simp only [execF, exec, execF_eq call callP fu a] <;> rfl
  | .loop a => by funext s; simp only [execF, exec, execF_eq call callP fu a]
  | .exit id => by funext s; rfl
  | .ret => by funext s; rfl
def runFnF (call callP : CallF) (fu : Nat) (fn : AFn) (args : List AV) (H : Heap) : Option (AV × Heap) :=
  foL (foV 12) args fun args => foS (args ++ List.replicate (fn.ntmps - args.length) (.tup [])) fun env => match execF call callP fu fn.body ⟨env, H⟩ with
  | some (.normal, s) | some (.ret, s) => match resAll s fn.results with
    | some vs => some (packRes vs, s.H)
    | none => none
  | _ => none
theorem runFnF_eq : runFnF = runFn := by
  funext call callP fu fn args H
  simp only [runFnF, runFn, foL_eq (foV_eq 12), foS_eq, execF_eq] <;> rfl
def freshF (rf : List AV → Heap → Option (AV × Heap)) (args : List AV) (H : Heap) : Option (AV × Heap) :=
  match rf args (padH H.length) with
  | some (v, H1) => match padOk H.length H1 with
    | true => some (v, H ++ H1.drop H.length)
    | false => none
  | none => none
def callBF (M : Mod) (pc : FuncId → List AV → Option AV) : Nat → Bool → CallF
  | 0, _ => callZ M pc
  | n + 1, b => fun g args H =>
    match M.ext g with
    | some e => extCall e g args H
    | none => if M.inl g then (match emptyR M pc g args with
      | some v => some (v, H)
      | none => match b with
        | true => match M.code g args.length with
          | some fn => runFnF (callBF M pc n true) (callBF M pc n false) M.fu fn args H
          | none => none
        | false => match M.fr g && args.all (noId DEPTH) with
          | true => match M.code g args.length with
            | some fn => freshF (runFnF (callBF M pc n true) (callBF M pc n false) M.fu fn) args H
            | none => none
          | false => pureCall pc g args H) else pureCall pc g args H
theorem callBF_eq (M : Mod) (pc : FuncId → List AV → Option AV) : ∀ n b, callBF M pc n b = callB M pc n b
  | 0, _ => rfl
  | n + 1, b => by funext g args H; simp only [callBF, callB, callBF_eq M pc n, runFnF_eq] <;> rfl
def pcallF (M : Mod) : Nat → FuncId → List AV → Option AV
  | 0 => fun _ _ => none
  | d + 1 => fun g args => match M.code g args.length with
    | none => none
    | some fn => match runFnF (callBF M (pcallF M d) IDEPTH true) (callBF M (pcallF M d) IDEPTH false) M.fu fn args [] with
      | some (v, H') => foV 12 (snap DEPTH H' v) some
      | none => none
theorem pcallF_eq (M : Mod) : ∀ d, pcallF M d = pcall M d
  | 0 => rfl
  | d + 1 => by funext g args; simp only [pcallF, pcall, pcallF_eq M d, runFnF_eq, callBF_eq, foV_eq] <;> rfl
theorem ran {M : Mod} {d : Nat} {g : FuncId} {args : List AV} {r : AV} (h : pcallF M d g args = some r) : pcall M d g args = some r := by rw [← pcallF_eq]; exact h
end
end Go.Proofs.Ytdceaeifcniabaa.AE

namespace Go.Proofs.Ytdceaeifcniabaa.AE
open Go
set_option maxRecDepth 100000
theorem awake : pcall M 40 7 [] = some (.bool true) := ran (by kernel_rfl)
end Go.Proofs.Ytdceaeifcniabaa.AE

namespace Go.Proofs.Ytdceaeifcniabaa.AE
set_option linter.unusedVariables false
set_option linter.unusedSimpArgs false
set_option linter.constructorNameAsVariable false
open Go
set_option maxRecDepth 100000
set_option maxHeartbeats 0
def r5R0 (C : Cb) (d : Nat) (a0 : List AV) (a1 a2 a3 a4 a5 a6 a7 a8 : Int) (a9 : List AV) (v0 : AV) (b2 : Bool) (v7 : AV) (x8 x9 x10 x11 x12 x13 x14 x15 : Int) (b18 : Bool) (v23 : AV) (x24 x25 x26 x27 x28 x29 x30 x31 x34 x38 : Int) (v45 : AV) (x46 x47 x48 x49 x50 x51 x52 x53 : Int) (v56 v60 : AV) (x61 x62 x63 x64 x65 x66 x67 x68 : Int) (v71 v72 v74 : AV) (x78 : Int) (b81 : Bool) (x84 : Int) : St → (Ex → St → Ans) → Ans := fun s85 k86 =>
 cnd ((List.length s85.env) == 85)
 (C.same s85.env[0]? (.agg [(.lst a0), (iz a1), (iz a2), (iz a3), (iz a4), (iz a5), (iz a6), (iz a7), (iz a8)]) <|
 C.same s85.env[1]? (.lst a9) <|
 C.same s85.env[2]? v0 <|
 C.same s85.env[3]? tz <|
 C.bool s85.env[4]? fun b88 =>
 C.same s85.env[5]? v56 <|
 C.same s85.env[6]? v71 <|
 C.same s85.env[7]? tz <|
 C.any s85.env[8]? fun v89 =>
 C.same s85.env[9]? (.bool b2) <|
 C.same s85.env[10]? (.bool (!b2)) <|
 C.same s85.env[11]? bf <|
 C.same s85.env[12]? (.agg [v7, (iz x8), (iz x9), (iz x10), (iz x11), (iz x12), (iz x13), (iz x14), (iz x15)]) <|
 C.same s85.env[13]? (.bool b18) <|
 C.same s85.env[14]? (.bool (!b18)) <|
 C.same s85.env[15]? (.bool (!b18)) <|
 C.same s85.env[16]? bf <|
 C.same s85.env[17]? (.agg [v23, (iz x24), (iz x25), (iz x26), (iz x27), (iz x28), (iz x29), (iz x30), (iz x31)]) <|
 C.same s85.env[18]? (iz x34) <|
 C.same s85.env[19]? (.bool (x34 != 0)) <|
 C.same s85.env[20]? (.bool (x34 != 0)) <|
 C.same s85.env[21]? bf <|
 C.same s85.env[22]? (.lst a9) <|
 C.same s85.env[23]? (iz x38) <|
 C.same s85.env[24]? (.bool (decide (x38 > 200))) <|
 C.same s85.env[25]? bf <|
 C.same s85.env[26]? tz <|
 C.same s85.env[27]? (.agg [v45, (iz x46), (iz x47), (iz x48), (iz x49), (iz x50), (iz x51), (iz x52), (iz x53)]) <|
 C.same s85.env[28]? v56 <|
 C.same s85.env[29]? (.agg [v60, (iz x61), (iz x62), (iz x63), (iz x64), (iz x65), (iz x66), (iz x67), (iz x68)]) <|
 C.same s85.env[30]? v71 <|
 C.same s85.env[31]? v71 <|
 C.same s85.env[32]? v72 <|
 C.same s85.env[33]? v74 <|
 C.same s85.env[34]? (iz x78) <|
 C.same s85.env[35]? (iz (IntKind.wrap .i64 (x78 - 1))) <|
 C.same s85.env[36]? (.bool b81) <|
 C.same s85.env[37]? bf <|
 C.same s85.env[38]? (.lst a9) <|
 C.same s85.env[39]? (iz x84) <|
 C.int .i64 s85.env[40]? fun x90 =>
 C.any s85.env[41]? fun v91 =>
 C.any s85.env[42]? fun v92 =>
 C.any s85.env[43]? fun v93 =>
 C.any s85.env[44]? fun v94 =>
 C.any s85.env[45]? fun v95 =>
 C.any s85.env[46]? fun v96 =>
 C.any s85.env[47]? fun v97 =>
 C.any s85.env[48]? fun v98 =>
 C.any s85.env[49]? fun v99 =>
 C.any s85.env[50]? fun v100 =>
 C.any s85.env[51]? fun v101 =>
 C.any s85.env[52]? fun v102 =>
 C.any s85.env[53]? fun v103 =>
 C.any s85.env[54]? fun v104 =>
 C.any s85.env[55]? fun v105 =>
 C.any s85.env[56]? fun v106 =>
 C.any s85.env[57]? fun v107 =>
 C.any s85.env[58]? fun v108 =>
 C.any s85.env[59]? fun v109 =>
 C.any s85.env[60]? fun v110 =>
 C.any s85.env[61]? fun v111 =>
 C.any s85.env[62]? fun v112 =>
 C.any s85.env[63]? fun v113 =>
 C.any s85.env[64]? fun v114 =>
 C.any s85.env[65]? fun v115 =>
 C.any s85.env[66]? fun v116 =>
 C.any s85.env[67]? fun v117 =>
 C.any s85.env[68]? fun v118 =>
 C.any s85.env[69]? fun v119 =>
 C.any s85.env[70]? fun v120 =>
 C.any s85.env[71]? fun v121 =>
 C.same s85.env[72]? tz <|
 C.same s85.env[73]? tz <|
 C.same s85.env[74]? tz <|
 C.same s85.env[75]? tz <|
 C.same s85.env[76]? tz <|
 C.same s85.env[77]? tz <|
 C.same s85.env[78]? tz <|
 C.same s85.env[79]? tz <|
 C.same s85.env[80]? tz <|
 C.same s85.env[81]? tz <|
 C.same s85.env[82]? tz <|
 C.same s85.env[83]? tz <|
 C.same s85.env[84]? tz <|
 cnd (decide (x90 < x84))
 (C.hop (St.H s85) (.ixAS .any 1 (.v (.lst a9)) (.v (iz x90))) fun v122 h123 =>
 C.hop h123 (.load false 1 (.v v122)) fun v124 h125 =>
 C.bool (some v124) fun b126 =>
 C.grow h125 [] fun n127 h128 =>
 C.cal M (pcall M d) 12 true 13 [v56, (.bool b126), (.bool (!b126))] h128 fun v129 h130 =>
 C.bool (some v129) fun b131 =>
 cnd b131
 (k86 .ret ⟨[(.agg [(.lst a0), (iz a1), (iz a2), (iz a3), (iz a4), (iz a5), (iz a6), (iz a7), (iz a8)]), (.lst a9), v0, tz, bf, v56, v71, tz, (.bool b126), (.bool b2), (.bool (!b2)), bf, (.agg [v7, (iz x8), (iz x9), (iz x10), (iz x11), (iz x12), (iz x13), (iz x14), (iz x15)]), (.bool b18), (.bool (!b18)), (.bool (!b18)), bf, (.agg [v23, (iz x24), (iz x25), (iz x26), (iz x27), (iz x28), (iz x29), (iz x30), (iz x31)]), (iz x34), (.bool (x34 != 0)), (.bool (x34 != 0)), bf, (.lst a9), (iz x38), (.bool (decide (x38 > 200))), bf, tz, (.agg [v45, (iz x46), (iz x47), (iz x48), (iz x49), (iz x50), (iz x51), (iz x52), (iz x53)]), v56, (.agg [v60, (iz x61), (iz x62), (iz x63), (iz x64), (iz x65), (iz x66), (iz x67), (iz x68)]), v71, v71, v72, v74, (iz x78), (iz (IntKind.wrap .i64 (x78 - 1))), (.bool b81), bf, (.lst a9), (iz x84), (iz x90), bt, v122, (.bool b126), v56, (.bool b126), (.bool b126), (.bool (!b126)), (.bool b131), bt, tz, tz, tz, bt, bt, tz, tz, bt, bt, tz, tz, tz, tz, tz, tz, tz, bt, bt, tz, tz, bt, v121, tz, tz, tz, tz, tz, tz, tz, tz, tz, tz, tz, tz, tz], h130⟩)
 (C.cal M (pcall M d) 12 true 16 [v56] h130 fun v132 h133 =>
 C.int .i64 (some v132) fun x134 =>
 cnd (x134 != 0)
 (k86 .ret ⟨[(.agg [(.lst a0), (iz a1), (iz a2), (iz a3), (iz a4), (iz a5), (iz a6), (iz a7), (iz a8)]), (.lst a9), v0, tz, bf, v56, v71, tz, (.bool b126), (.bool b2), (.bool (!b2)), bf, (.agg [v7, (iz x8), (iz x9), (iz x10), (iz x11), (iz x12), (iz x13), (iz x14), (iz x15)]), (.bool b18), (.bool (!b18)), (.bool (!b18)), bf, (.agg [v23, (iz x24), (iz x25), (iz x26), (iz x27), (iz x28), (iz x29), (iz x30), (iz x31)]), (iz x34), (.bool (x34 != 0)), (.bool (x34 != 0)), bf, (.lst a9), (iz x38), (.bool (decide (x38 > 200))), bf, tz, (.agg [v45, (iz x46), (iz x47), (iz x48), (iz x49), (iz x50), (iz x51), (iz x52), (iz x53)]), v56, (.agg [v60, (iz x61), (iz x62), (iz x63), (iz x64), (iz x65), (iz x66), (iz x67), (iz x68)]), v71, v71, v72, v74, (iz x78), (iz (IntKind.wrap .i64 (x78 - 1))), (.bool b81), bf, (.lst a9), (iz x84), (iz x90), bt, v122, (.bool b126), v56, (.bool b126), (.bool b126), (.bool (!b126)), (.bool b131), bf, v56, (iz x134), (.bool (x134 != 0)), (.bool (x134 != 0)), bt, tz, tz, bt, bt, tz, tz, tz, tz, tz, tz, tz, bt, bt, tz, tz, bt, v121, tz, tz, tz, tz, tz, tz, tz, tz, tz, tz, tz, tz, tz], h133⟩)
 (C.cal M (pcall M d) 12 true 13 [v71, bt, bt] h133 fun v135 h136 =>
 C.bool (some v135) fun b137 =>
 cnd b137
 (k86 .ret ⟨[(.agg [(.lst a0), (iz a1), (iz a2), (iz a3), (iz a4), (iz a5), (iz a6), (iz a7), (iz a8)]), (.lst a9), v0, tz, bf, v56, v71, tz, (.bool b126), (.bool b2), (.bool (!b2)), bf, (.agg [v7, (iz x8), (iz x9), (iz x10), (iz x11), (iz x12), (iz x13), (iz x14), (iz x15)]), (.bool b18), (.bool (!b18)), (.bool (!b18)), bf, (.agg [v23, (iz x24), (iz x25), (iz x26), (iz x27), (iz x28), (iz x29), (iz x30), (iz x31)]), (iz x34), (.bool (x34 != 0)), (.bool (x34 != 0)), bf, (.lst a9), (iz x38), (.bool (decide (x38 > 200))), bf, tz, (.agg [v45, (iz x46), (iz x47), (iz x48), (iz x49), (iz x50), (iz x51), (iz x52), (iz x53)]), v56, (.agg [v60, (iz x61), (iz x62), (iz x63), (iz x64), (iz x65), (iz x66), (iz x67), (iz x68)]), v71, v71, v72, v74, (iz x78), (iz (IntKind.wrap .i64 (x78 - 1))), (.bool b81), bf, (.lst a9), (iz x84), (iz x90), bt, v122, (.bool b126), v56, (.bool b126), (.bool b126), (.bool (!b126)), (.bool b131), bf, v56, (iz x134), (.bool (x134 != 0)), (.bool (x134 != 0)), bf, v71, (.bool b137), (.bool b137), bt, tz, tz, tz, tz, tz, tz, tz, bt, bt, tz, tz, bt, v121, tz, tz, tz, tz, tz, tz, tz, tz, tz, tz, tz, tz, tz], h136⟩)
 (C.cal M (pcall M d) 12 true 16 [v71] h136 fun v138 h139 =>
 C.int .i64 (some v138) fun x140 =>
 C.hop h139 (.fldA 0 (.v v0)) fun v141 h142 =>
 C.hop h142 (.load false 1 (.v v141)) fun v143 h144 =>
 C.keep h136 h139 [v141] <|
 C.hop h144 (.bk .lenV [(.v v143)]) fun v145 h146 =>
 C.int .i64 (some v145) fun x147 =>
 C.keep h136 h139 [v143] <|
 cnd (x140 != (IntKind.wrap .i64 (x147 - 1)))
 (k86 .ret ⟨[(.agg [(.lst a0), (iz a1), (iz a2), (iz a3), (iz a4), (iz a5), (iz a6), (iz a7), (iz a8)]), (.lst a9), v0, tz, bf, v56, v71, tz, (.bool b126), (.bool b2), (.bool (!b2)), bf, (.agg [v7, (iz x8), (iz x9), (iz x10), (iz x11), (iz x12), (iz x13), (iz x14), (iz x15)]), (.bool b18), (.bool (!b18)), (.bool (!b18)), bf, (.agg [v23, (iz x24), (iz x25), (iz x26), (iz x27), (iz x28), (iz x29), (iz x30), (iz x31)]), (iz x34), (.bool (x34 != 0)), (.bool (x34 != 0)), bf, (.lst a9), (iz x38), (.bool (decide (x38 > 200))), bf, tz, (.agg [v45, (iz x46), (iz x47), (iz x48), (iz x49), (iz x50), (iz x51), (iz x52), (iz x53)]), v56, (.agg [v60, (iz x61), (iz x62), (iz x63), (iz x64), (iz x65), (iz x66), (iz x67), (iz x68)]), v71, v71, v72, v74, (iz x78), (iz (IntKind.wrap .i64 (x78 - 1))), (.bool b81), bf, (.lst a9), (iz x84), (iz x90), bt, v122, (.bool b126), v56, (.bool b126), (.bool b126), (.bool (!b126)), (.bool b131), bf, v56, (iz x134), (.bool (x134 != 0)), (.bool (x134 != 0)), bf, v71, (.bool b137), (.bool b137), bf, v71, (iz x140), v141, v143, (iz x147), (iz (IntKind.wrap .i64 (x147 - 1))), (.bool (x140 != (IntKind.wrap .i64 (x147 - 1)))), (.bool (x140 != (IntKind.wrap .i64 (x147 - 1)))), bt, tz, tz, bt, v121, tz, tz, tz, tz, tz, tz, tz, tz, tz, tz, tz, tz, tz], h146⟩)
 (C.cal M (pcall M d) 12 true 11 [v71, (iz 1099511627776), bt] h146 fun v148 h149 =>
 C.bool (some v148) fun b150 =>
 cnd b150
 (k86 .ret ⟨[(.agg [(.lst a0), (iz a1), (iz a2), (iz a3), (iz a4), (iz a5), (iz a6), (iz a7), (iz a8)]), (.lst a9), v0, tz, bf, v56, v71, tz, (.bool b126), (.bool b2), (.bool (!b2)), bf, (.agg [v7, (iz x8), (iz x9), (iz x10), (iz x11), (iz x12), (iz x13), (iz x14), (iz x15)]), (.bool b18), (.bool (!b18)), (.bool (!b18)), bf, (.agg [v23, (iz x24), (iz x25), (iz x26), (iz x27), (iz x28), (iz x29), (iz x30), (iz x31)]), (iz x34), (.bool (x34 != 0)), (.bool (x34 != 0)), bf, (.lst a9), (iz x38), (.bool (decide (x38 > 200))), bf, tz, (.agg [v45, (iz x46), (iz x47), (iz x48), (iz x49), (iz x50), (iz x51), (iz x52), (iz x53)]), v56, (.agg [v60, (iz x61), (iz x62), (iz x63), (iz x64), (iz x65), (iz x66), (iz x67), (iz x68)]), v71, v71, v72, v74, (iz x78), (iz (IntKind.wrap .i64 (x78 - 1))), (.bool b81), bf, (.lst a9), (iz x84), (iz x90), bt, v122, (.bool b126), v56, (.bool b126), (.bool b126), (.bool (!b126)), (.bool b131), bf, v56, (iz x134), (.bool (x134 != 0)), (.bool (x134 != 0)), bf, v71, (.bool b137), (.bool b137), bf, v71, (iz x140), v141, v143, (iz x147), (iz (IntKind.wrap .i64 (x147 - 1))), (.bool (x140 != (IntKind.wrap .i64 (x147 - 1)))), (.bool (x140 != (IntKind.wrap .i64 (x147 - 1)))), bf, v71, (.bool b150), bt, v121, tz, tz, tz, tz, tz, tz, tz, tz, tz, tz, tz, tz, tz], h149⟩)
 (k86 .normal ⟨[(.agg [(.lst a0), (iz a1), (iz a2), (iz a3), (iz a4), (iz a5), (iz a6), (iz a7), (iz a8)]), (.lst a9), v0, tz, (.bool b88), v56, v71, tz, (.bool b126), (.bool b2), (.bool (!b2)), bf, (.agg [v7, (iz x8), (iz x9), (iz x10), (iz x11), (iz x12), (iz x13), (iz x14), (iz x15)]), (.bool b18), (.bool (!b18)), (.bool (!b18)), bf, (.agg [v23, (iz x24), (iz x25), (iz x26), (iz x27), (iz x28), (iz x29), (iz x30), (iz x31)]), (iz x34), (.bool (x34 != 0)), (.bool (x34 != 0)), bf, (.lst a9), (iz x38), (.bool (decide (x38 > 200))), bf, tz, (.agg [v45, (iz x46), (iz x47), (iz x48), (iz x49), (iz x50), (iz x51), (iz x52), (iz x53)]), v56, (.agg [v60, (iz x61), (iz x62), (iz x63), (iz x64), (iz x65), (iz x66), (iz x67), (iz x68)]), v71, v71, v72, v74, (iz x78), (iz (IntKind.wrap .i64 (x78 - 1))), (.bool b81), bf, (.lst a9), (iz x84), (iz (IntKind.wrap .i64 (x90 + 1))), bt, v122, (.bool b126), v56, (.bool b126), (.bool b126), (.bool (!b126)), (.bool b131), bf, v56, (iz x134), (.bool (x134 != 0)), (.bool (x134 != 0)), bf, v71, (.bool b137), (.bool b137), bf, v71, (iz x140), v141, v143, (iz x147), (iz (IntKind.wrap .i64 (x147 - 1))), (.bool (x140 != (IntKind.wrap .i64 (x147 - 1)))), (.bool (x140 != (IntKind.wrap .i64 (x147 - 1)))), bf, v71, (.bool b150), bf, (iz (IntKind.wrap .i64 (x90 + 1))), tz, tz, tz, tz, tz, tz, tz, tz, tz, tz, tz, tz, tz], h149⟩))))))
 (k86 (.exit 0) ⟨[(.agg [(.lst a0), (iz a1), (iz a2), (iz a3), (iz a4), (iz a5), (iz a6), (iz a7), (iz a8)]), (.lst a9), v0, tz, (.bool b88), v56, v71, tz, v89, (.bool b2), (.bool (!b2)), bf, (.agg [v7, (iz x8), (iz x9), (iz x10), (iz x11), (iz x12), (iz x13), (iz x14), (iz x15)]), (.bool b18), (.bool (!b18)), (.bool (!b18)), bf, (.agg [v23, (iz x24), (iz x25), (iz x26), (iz x27), (iz x28), (iz x29), (iz x30), (iz x31)]), (iz x34), (.bool (x34 != 0)), (.bool (x34 != 0)), bf, (.lst a9), (iz x38), (.bool (decide (x38 > 200))), bf, tz, (.agg [v45, (iz x46), (iz x47), (iz x48), (iz x49), (iz x50), (iz x51), (iz x52), (iz x53)]), v56, (.agg [v60, (iz x61), (iz x62), (iz x63), (iz x64), (iz x65), (iz x66), (iz x67), (iz x68)]), v71, v71, v72, v74, (iz x78), (iz (IntKind.wrap .i64 (x78 - 1))), (.bool b81), bf, (.lst a9), (iz x84), (iz x90), bf, v92, v93, v94, v95, v96, v97, v98, v99, v100, v101, v102, v103, v104, v105, v106, v107, v108, v109, v110, v111, v112, v113, v114, v115, v116, v117, v118, v119, v120, v121, tz, tz, tz, tz, tz, tz, tz, tz, tz, tz, tz, tz, tz], (St.H s85)⟩))
 (none)
def r5X0_0 (C : Cb) (d : Nat) (a0 : List AV) (a1 a2 a3 a4 a5 a6 a7 a8 : Int) (a9 : List AV) (v0 : AV) (b2 : Bool) (v7 : AV) (x8 x9 x10 x11 x12 x13 x14 x15 : Int) (b18 : Bool) (v23 : AV) (x24 x25 x26 x27 x28 x29 x30 x31 x34 x38 : Int) (v45 : AV) (x46 x47 x48 x49 x50 x51 x52 x53 : Int) (v56 v60 : AV) (x61 x62 x63 x64 x65 x66 x67 x68 : Int) (v71 v72 v74 : AV) (x78 : Int) (b81 : Bool) (x84 : Int) : St → Ans := fun s151 =>
 cnd ((List.length s151.env) == 85)
 (C.same s151.env[0]? (.agg [(.lst a0), (iz a1), (iz a2), (iz a3), (iz a4), (iz a5), (iz a6), (iz a7), (iz a8)]) <|
 C.same s151.env[1]? (.lst a9) <|
 C.same s151.env[2]? v0 <|
 C.same s151.env[3]? tz <|
 C.bool s151.env[4]? fun b152 =>
 C.same s151.env[5]? v56 <|
 C.same s151.env[6]? v71 <|
 C.same s151.env[7]? tz <|
 C.any s151.env[8]? fun v153 =>
 C.same s151.env[9]? (.bool b2) <|
 C.same s151.env[10]? (.bool (!b2)) <|
 C.same s151.env[11]? bf <|
 C.same s151.env[12]? (.agg [v7, (iz x8), (iz x9), (iz x10), (iz x11), (iz x12), (iz x13), (iz x14), (iz x15)]) <|
 C.same s151.env[13]? (.bool b18) <|
 C.same s151.env[14]? (.bool (!b18)) <|
 C.same s151.env[15]? (.bool (!b18)) <|
 C.same s151.env[16]? bf <|
 C.same s151.env[17]? (.agg [v23, (iz x24), (iz x25), (iz x26), (iz x27), (iz x28), (iz x29), (iz x30), (iz x31)]) <|
 C.same s151.env[18]? (iz x34) <|
 C.same s151.env[19]? (.bool (x34 != 0)) <|
 C.same s151.env[20]? (.bool (x34 != 0)) <|
 C.same s151.env[21]? bf <|
 C.same s151.env[22]? (.lst a9) <|
 C.same s151.env[23]? (iz x38) <|
 C.same s151.env[24]? (.bool (decide (x38 > 200))) <|
 C.same s151.env[25]? bf <|
 C.same s151.env[26]? tz <|
 C.same s151.env[27]? (.agg [v45, (iz x46), (iz x47), (iz x48), (iz x49), (iz x50), (iz x51), (iz x52), (iz x53)]) <|
 C.same s151.env[28]? v56 <|
 C.same s151.env[29]? (.agg [v60, (iz x61), (iz x62), (iz x63), (iz x64), (iz x65), (iz x66), (iz x67), (iz x68)]) <|
 C.same s151.env[30]? v71 <|
 C.same s151.env[31]? v71 <|
 C.same s151.env[32]? v72 <|
 C.same s151.env[33]? v74 <|
 C.same s151.env[34]? (iz x78) <|
 C.same s151.env[35]? (iz (IntKind.wrap .i64 (x78 - 1))) <|
 C.same s151.env[36]? (.bool b81) <|
 C.same s151.env[37]? bf <|
 C.same s151.env[38]? (.lst a9) <|
 C.same s151.env[39]? (iz x84) <|
 C.int .i64 s151.env[40]? fun x154 =>
 C.any s151.env[41]? fun v155 =>
 C.any s151.env[42]? fun v156 =>
 C.any s151.env[43]? fun v157 =>
 C.any s151.env[44]? fun v158 =>
 C.any s151.env[45]? fun v159 =>
 C.any s151.env[46]? fun v160 =>
 C.any s151.env[47]? fun v161 =>
 C.any s151.env[48]? fun v162 =>
 C.any s151.env[49]? fun v163 =>
 C.any s151.env[50]? fun v164 =>
 C.any s151.env[51]? fun v165 =>
 C.any s151.env[52]? fun v166 =>
 C.any s151.env[53]? fun v167 =>
 C.any s151.env[54]? fun v168 =>
 C.any s151.env[55]? fun v169 =>
 C.any s151.env[56]? fun v170 =>
 C.any s151.env[57]? fun v171 =>
 C.any s151.env[58]? fun v172 =>
 C.any s151.env[59]? fun v173 =>
 C.any s151.env[60]? fun v174 =>
 C.any s151.env[61]? fun v175 =>
 C.any s151.env[62]? fun v176 =>
 C.any s151.env[63]? fun v177 =>
 C.any s151.env[64]? fun v178 =>
 C.any s151.env[65]? fun v179 =>
 C.any s151.env[66]? fun v180 =>
 C.any s151.env[67]? fun v181 =>
 C.any s151.env[68]? fun v182 =>
 C.any s151.env[69]? fun v183 =>
 C.any s151.env[70]? fun v184 =>
 C.any s151.env[71]? fun v185 =>
 C.same s151.env[72]? tz <|
 C.same s151.env[73]? tz <|
 C.same s151.env[74]? tz <|
 C.same s151.env[75]? tz <|
 C.same s151.env[76]? tz <|
 C.same s151.env[77]? tz <|
 C.same s151.env[78]? tz <|
 C.same s151.env[79]? tz <|
 C.same s151.env[80]? tz <|
 C.same s151.env[81]? tz <|
 C.same s151.env[82]? tz <|
 C.same s151.env[83]? tz <|
 C.same s151.env[84]? tz <|
 C.cal M (pcall M d) 12 true 17 [v56] (St.H s151) fun v186 h187 =>
 C.int .i64 (some v186) fun x188 =>
 C.hop h187 (.bk .lenV [(.v (.lst a9))]) fun v189 h190 =>
 C.int .i64 (some v189) fun x191 =>
 cnd (x188 == x191)
 (C.cal M (pcall M d) 12 true 17 [v71] h190 fun v192 h193 =>
 C.int .i64 (some v192) fun x194 =>
 C.hop h193 (.bk .lenV [(.v (.lst a9))]) fun v195 h196 =>
 C.int .i64 (some v195) fun x197 =>
 C.fin h196 (.bool (x194 == (IntKind.wrap .i64 (x197 + 5)))))
 (C.fin h190 bf))
 (none)
def r5E0 (C : Cb) (d : Nat) (a0 : List AV) (a1 a2 a3 a4 a5 a6 a7 a8 : Int) (a9 : List AV) (v0 : AV) (b2 : Bool) (v7 : AV) (x8 x9 x10 x11 x12 x13 x14 x15 : Int) (b18 : Bool) (v23 : AV) (x24 x25 x26 x27 x28 x29 x30 x31 x34 x38 : Int) (v45 : AV) (x46 x47 x48 x49 x50 x51 x52 x53 : Int) (v56 v60 : AV) (x61 x62 x63 x64 x65 x66 x67 x68 : Int) (v71 v72 v74 : AV) (x78 : Int) (b81 : Bool) (x84 : Int) : St → Ans := fun s87 =>
 cnd ((List.length s87.env) == 85)
 (C.same s87.env[0]? (.agg [(.lst a0), (iz a1), (iz a2), (iz a3), (iz a4), (iz a5), (iz a6), (iz a7), (iz a8)]) <|
 C.same s87.env[1]? (.lst a9) <|
 C.same s87.env[2]? v0 <|
 C.same s87.env[3]? tz <|
 C.bool s87.env[4]? fun b198 =>
 C.same s87.env[5]? v56 <|
 C.same s87.env[6]? v71 <|
 C.same s87.env[7]? tz <|
 C.bool s87.env[8]? fun b199 =>
 C.same s87.env[9]? (.bool b2) <|
 C.same s87.env[10]? (.bool (!b2)) <|
 C.same s87.env[11]? bf <|
 C.same s87.env[12]? (.agg [v7, (iz x8), (iz x9), (iz x10), (iz x11), (iz x12), (iz x13), (iz x14), (iz x15)]) <|
 C.same s87.env[13]? (.bool b18) <|
 C.same s87.env[14]? (.bool (!b18)) <|
 C.same s87.env[15]? (.bool (!b18)) <|
 C.same s87.env[16]? bf <|
 C.same s87.env[17]? (.agg [v23, (iz x24), (iz x25), (iz x26), (iz x27), (iz x28), (iz x29), (iz x30), (iz x31)]) <|
 C.same s87.env[18]? (iz x34) <|
 C.same s87.env[19]? (.bool (x34 != 0)) <|
 C.same s87.env[20]? (.bool (x34 != 0)) <|
 C.same s87.env[21]? bf <|
 C.same s87.env[22]? (.lst a9) <|
 C.same s87.env[23]? (iz x38) <|
 C.same s87.env[24]? (.bool (decide (x38 > 200))) <|
 C.same s87.env[25]? bf <|
 C.same s87.env[26]? tz <|
 C.same s87.env[27]? (.agg [v45, (iz x46), (iz x47), (iz x48), (iz x49), (iz x50), (iz x51), (iz x52), (iz x53)]) <|
 C.same s87.env[28]? v56 <|
 C.same s87.env[29]? (.agg [v60, (iz x61), (iz x62), (iz x63), (iz x64), (iz x65), (iz x66), (iz x67), (iz x68)]) <|
 C.same s87.env[30]? v71 <|
 C.same s87.env[31]? v71 <|
 C.same s87.env[32]? v72 <|
 C.same s87.env[33]? v74 <|
 C.same s87.env[34]? (iz x78) <|
 C.same s87.env[35]? (iz (IntKind.wrap .i64 (x78 - 1))) <|
 C.same s87.env[36]? (.bool b81) <|
 C.same s87.env[37]? bf <|
 C.same s87.env[38]? (.lst a9) <|
 C.same s87.env[39]? (iz x84) <|
 C.int .i64 s87.env[40]? fun x200 =>
 C.any s87.env[41]? fun v201 =>
 C.any s87.env[42]? fun v202 =>
 C.bool s87.env[43]? fun b203 =>
 C.any s87.env[44]? fun v204 =>
 C.bool s87.env[45]? fun b205 =>
 C.bool s87.env[46]? fun b206 =>
 C.bool s87.env[47]? fun b207 =>
 C.bool s87.env[48]? fun b208 =>
 C.bool s87.env[49]? fun b209 =>
 C.any s87.env[50]? fun v210 =>
 C.any s87.env[51]? fun v211 =>
 C.any s87.env[52]? fun v212 =>
 C.bool s87.env[53]? fun b213 =>
 C.bool s87.env[54]? fun b214 =>
 C.any s87.env[55]? fun v215 =>
 C.any s87.env[56]? fun v216 =>
 C.bool s87.env[57]? fun b217 =>
 C.bool s87.env[58]? fun b218 =>
 C.any s87.env[59]? fun v219 =>
 C.any s87.env[60]? fun v220 =>
 C.any s87.env[61]? fun v221 =>
 C.any s87.env[62]? fun v222 =>
 C.any s87.env[63]? fun v223 =>
 C.any s87.env[64]? fun v224 =>
 C.any s87.env[65]? fun v225 =>
 C.bool s87.env[66]? fun b226 =>
 C.bool s87.env[67]? fun b227 =>
 C.any s87.env[68]? fun v228 =>
 C.any s87.env[69]? fun v229 =>
 C.bool s87.env[70]? fun b230 =>
 C.any s87.env[71]? fun v231 =>
 C.same s87.env[72]? tz <|
 C.same s87.env[73]? tz <|
 C.same s87.env[74]? tz <|
 C.same s87.env[75]? tz <|
 C.same s87.env[76]? tz <|
 C.same s87.env[77]? tz <|
 C.same s87.env[78]? tz <|
 C.same s87.env[79]? tz <|
 C.same s87.env[80]? tz <|
 C.same s87.env[81]? tz <|
 C.same s87.env[82]? tz <|
 C.same s87.env[83]? tz <|
 C.same s87.env[84]? tz <|
 C.fin (St.H s87) (.bool b198))
 (none)
/-- apogee/apogeelaw21.PhaseBoth -/
theorem r5 (C : Cb) (d : Nat) (a0 : List AV) (a1 a2 a3 a4 a5 a6 a7 a8 : Int) (a9 : List AV) : xcall C M unr d 5 [(.agg [(.lst a0), (iz a1), (iz a2), (iz a3), (iz a4), (iz a5), (iz a6), (iz a7), (iz a8)]), (.lst a9)] =
 C.hop [] (.box E24 (.v (.agg [(.lst a0), (iz a1), (iz a2), (iz a3), (iz a4), (iz a5), (iz a6), (iz a7), (iz a8)]))) fun v0 h1 =>
 C.bool (pcall M d 7 []) fun b2 =>
 cnd (!b2)
 (C.bool (pcall M d 7 []) fun b3 =>
 C.fin h1 (.bool b3))
 (C.hop h1 (.load true 9 (.v v0)) fun v4 h5 =>
 C.agg 9 (some v4) fun l6 =>
 C.any l6[0]? fun v7 =>
 C.int .i64 l6[1]? fun x8 =>
 C.int .i64 l6[2]? fun x9 =>
 C.int .i64 l6[3]? fun x10 =>
 C.int .i64 l6[4]? fun x11 =>
 C.int .i64 l6[5]? fun x12 =>
 C.int .i64 l6[6]? fun x13 =>
 C.int .i64 l6[7]? fun x14 =>
 C.int .i64 l6[8]? fun x15 =>
 C.snp h5 [(.agg [v7, (iz x8), (iz x9), (iz x10), (iz x11), (iz x12), (iz x13), (iz x14), (iz x15)])] fun l16 b17 =>
 C.bool (pcall M d 8 l16) fun b18 =>
 cnd (b17 || true)
 (cnd (!b18)
 (C.bool (pcall M d 7 []) fun b19 =>
 C.fin h5 (.bool b19))
 (C.hop h5 (.load true 9 (.v v0)) fun v20 h21 =>
 C.agg 9 (some v20) fun l22 =>
 C.any l22[0]? fun v23 =>
 C.int .i64 l22[1]? fun x24 =>
 C.int .i64 l22[2]? fun x25 =>
 C.int .i64 l22[3]? fun x26 =>
 C.int .i64 l22[4]? fun x27 =>
 C.int .i64 l22[5]? fun x28 =>
 C.int .i64 l22[6]? fun x29 =>
 C.int .i64 l22[7]? fun x30 =>
 C.int .i64 l22[8]? fun x31 =>
 C.snp h21 [(.agg [v23, (iz x24), (iz x25), (iz x26), (iz x27), (iz x28), (iz x29), (iz x30), (iz x31)])] fun l32 b33 =>
 C.int .i64 (pcall M d 10 l32) fun x34 =>
 cnd (b33 || true)
 (cnd (x34 != 0)
 (C.bool (pcall M d 7 []) fun b35 =>
 C.fin h21 (.bool b35))
 (C.hop h21 (.bk .lenV [(.v (.lst a9))]) fun v36 h37 =>
 C.int .i64 (some v36) fun x38 =>
 cnd (decide (x38 > 200))
 (C.bool (pcall M d 7 []) fun b39 =>
 C.fin h37 (.bool b39))
 (C.grow h37 [] fun n40 h41 =>
 C.hop h41 (.load true 9 (.v v0)) fun v42 h43 =>
 C.agg 9 (some v42) fun l44 =>
 C.any l44[0]? fun v45 =>
 C.int .i64 l44[1]? fun x46 =>
 C.int .i64 l44[2]? fun x47 =>
 C.int .i64 l44[3]? fun x48 =>
 C.int .i64 l44[4]? fun x49 =>
 C.int .i64 l44[5]? fun x50 =>
 C.int .i64 l44[6]? fun x51 =>
 C.int .i64 l44[7]? fun x52 =>
 C.int .i64 l44[8]? fun x53 =>
 C.cal M (pcall M d) 12 true 9 [(.agg [v45, (iz x46), (iz x47), (iz x48), (iz x49), (iz x50), (iz x51), (iz x52), (iz x53)])] h43 fun v54 h55 =>
 C.any (some v54) fun v56 =>
 C.hop h55 (.load true 9 (.v v0)) fun v57 h58 =>
 C.agg 9 (some v57) fun l59 =>
 C.any l59[0]? fun v60 =>
 C.int .i64 l59[1]? fun x61 =>
 C.int .i64 l59[2]? fun x62 =>
 C.int .i64 l59[3]? fun x63 =>
 C.int .i64 l59[4]? fun x64 =>
 C.int .i64 l59[5]? fun x65 =>
 C.int .i64 l59[6]? fun x66 =>
 C.int .i64 l59[7]? fun x67 =>
 C.int .i64 l59[8]? fun x68 =>
 C.keep h43 h55 [v0] <|
 C.cal M (pcall M d) 12 true 9 [(.agg [v60, (iz x61), (iz x62), (iz x63), (iz x64), (iz x65), (iz x66), (iz x67), (iz x68)])] h58 fun v69 h70 =>
 C.any (some v69) fun v71 =>
 C.hop h70 (.fldA 0 (.v v0)) fun v72 h73 =>
 C.hop h73 (.load false 1 (.v v72)) fun v74 h75 =>
 C.hop h75 (.bk .lenV [(.v v74)]) fun v76 h77 =>
 C.int .i64 (some v76) fun x78 =>
 C.cal M (pcall M d) 12 true 15 [v71, (iz (IntKind.wrap .i64 (x78 - 1))), (iz 5)] h77 fun v79 h80 =>
 C.bool (some v79) fun b81 =>
 cnd (!b81)
 (C.fin h80 bf)
 (C.hop h80 (.bk .lenV [(.v (.lst a9))]) fun v82 h83 =>
 C.int .i64 (some v82) fun x84 =>
 C.iter (r5R0 C d a0 a1 a2 a3 a4 a5 a6 a7 a8 a9 v0 b2 v7 x8 x9 x10 x11 x12 x13 x14 x15 b18 v23 x24 x25 x26 x27 x28 x29 x30 x31 x34 x38 v45 x46 x47 x48 x49 x50 x51 x52 x53 v56 v60 x61 x62 x63 x64 x65 x66 x67 x68 v71 v72 v74 x78 b81 x84) 10000000000000000000 ⟨[(.agg [(.lst a0), (iz a1), (iz a2), (iz a3), (iz a4), (iz a5), (iz a6), (iz a7), (iz a8)]), (.lst a9), v0, tz, bf, v56, v71, tz, tz, (.bool b2), (.bool (!b2)), bf, (.agg [v7, (iz x8), (iz x9), (iz x10), (iz x11), (iz x12), (iz x13), (iz x14), (iz x15)]), (.bool b18), (.bool (!b18)), (.bool (!b18)), bf, (.agg [v23, (iz x24), (iz x25), (iz x26), (iz x27), (iz x28), (iz x29), (iz x30), (iz x31)]), (iz x34), (.bool (x34 != 0)), (.bool (x34 != 0)), bf, (.lst a9), (iz x38), (.bool (decide (x38 > 200))), bf, tz, (.agg [v45, (iz x46), (iz x47), (iz x48), (iz x49), (iz x50), (iz x51), (iz x52), (iz x53)]), v56, (.agg [v60, (iz x61), (iz x62), (iz x63), (iz x64), (iz x65), (iz x66), (iz x67), (iz x68)]), v71, v71, v72, v74, (iz x78), (iz (IntKind.wrap .i64 (x78 - 1))), (.bool b81), bf, (.lst a9), (iz x84), (iz 0), tz, tz, tz, tz, tz, tz, tz, tz, tz, tz, tz, tz, tz, tz, tz, tz, tz, tz, tz, tz, tz, tz, tz, tz, tz, tz, tz, tz, tz, tz, tz, tz, tz, tz, tz, tz, tz, tz, tz, tz, tz, tz, tz, tz], h83⟩ [0] [r5X0_0 C d a0 a1 a2 a3 a4 a5 a6 a7 a8 a9 v0 b2 v7 x8 x9 x10 x11 x12 x13 x14 x15 b18 v23 x24 x25 x26 x27 x28 x29 x30 x31 x34 x38 v45 x46 x47 x48 x49 x50 x51 x52 x53 v56 v60 x61 x62 x63 x64 x65 x66 x67 x68 v71 v72 v74 x78 b81 x84] (r5E0 C d a0 a1 a2 a3 a4 a5 a6 a7 a8 a9 v0 b2 v7 x8 x9 x10 x11 x12 x13 x14 x15 b18 v23 x24 x25 x26 x27 x28 x29 x30 x31 x34 x38 v45 x46 x47 x48 x49 x50 x51 x52 x53 v56 v60 x61 x62 x63 x64 x65 x66 x67 x68 v71 v72 v74 x78 b81 x84)))))
 (none)))
 (none)) := by kernel_rfl
end Go.Proofs.Ytdceaeifcniabaa.AE

namespace Go.Proofs.Ytdceaeifcniabaa.AE
set_option linter.unusedVariables false
set_option linter.unusedSimpArgs false
set_option linter.constructorNameAsVariable false
open Go
set_option maxRecDepth 100000
set_option maxHeartbeats 0
noncomputable def X5_0_0 (d : Nat) (a9 : List AV) (v0 v56 v71 : AV) (x84 : Int) (H : Heap) : Ans :=
  C0.cal M (pcall M d) 12 true 17 [v56] H fun v186 h187 =>
   C0.int .i64 (some v186) fun x188 =>
   C0.hop h187 (.bk .lenV [(.v (.lst a9))]) fun v189 h190 =>
   C0.int .i64 (some v189) fun x191 =>
   cnd (x188 == x191)
   (C0.cal M (pcall M d) 12 true 17 [v71] h190 fun v192 h193 =>
   C0.int .i64 (some v192) fun x194 =>
   C0.hop h193 (.bk .lenV [(.v (.lst a9))]) fun v195 h196 =>
   C0.int .i64 (some v195) fun x197 =>
   C0.fin h196 (.bool (x194 == (IntKind.wrap .i64 (x197 + 5)))))
   (C0.fin h190 bf)
theorem X5_0_0_ok (d : Nat) (a0 : List AV) (a1 a2 a3 a4 a5 a6 a7 a8 : Int) (a9 : List AV) (v0 : AV) (b2 : Bool) (v7 : AV) (x8 x9 x10 x11 x12 x13 x14 x15 : Int) (b18 : Bool) (v23 : AV) (x24 x25 x26 x27 x28 x29 x30 x31 x34 x38 : Int) (v45 : AV) (x46 x47 x48 x49 x50 x51 x52 x53 : Int) (v56 v60 : AV) (x61 x62 x63 x64 x65 x66 x67 x68 : Int) (v71 v72 v74 : AV) (x78 : Int) (b81 : Bool) (x84 : Int) (b152 : Bool) (v153 : AV) (x154 : Int) (v155 v156 v157 v158 v159 v160 v161 v162 v163 v164 v165 v166 v167 v168 v169 v170 v171 v172 v173 v174 v175 v176 v177 v178 v179 v180 v181 v182 v183 v184 v185 : AV) (H : Heap) : r5X0_0 C0 d a0 a1 a2 a3 a4 a5 a6 a7 a8 a9 v0 b2 v7 x8 x9 x10 x11 x12 x13 x14 x15 b18 v23 x24 x25 x26 x27 x28 x29 x30 x31 x34 x38 v45 x46 x47 x48 x49 x50 x51 x52 x53 v56 v60 x61 x62 x63 x64 x65 x66 x67 x68 v71 v72 v74 x78 b81 x84 ⟨[(.agg [(.lst a0), (iz a1), (iz a2), (iz a3), (iz a4), (iz a5), (iz a6), (iz a7), (iz a8)]), (.lst a9), v0, tz, (.bool b152), v56, v71, tz, v153, (.bool b2), (.bool (!b2)), bf, (.agg [v7, (iz x8), (iz x9), (iz x10), (iz x11), (iz x12), (iz x13), (iz x14), (iz x15)]), (.bool b18), (.bool (!b18)), (.bool (!b18)), bf, (.agg [v23, (iz x24), (iz x25), (iz x26), (iz x27), (iz x28), (iz x29), (iz x30), (iz x31)]), (iz x34), (.bool (x34 != 0)), (.bool (x34 != 0)), bf, (.lst a9), (iz x38), (.bool (decide (x38 > 200))), bf, tz, (.agg [v45, (iz x46), (iz x47), (iz x48), (iz x49), (iz x50), (iz x51), (iz x52), (iz x53)]), v56, (.agg [v60, (iz x61), (iz x62), (iz x63), (iz x64), (iz x65), (iz x66), (iz x67), (iz x68)]), v71, v71, v72, v74, (iz x78), (iz (IntKind.wrap .i64 (x78 - 1))), (.bool b81), bf, (.lst a9), (iz x84), (iz x154), v155, v156, v157, v158, v159, v160, v161, v162, v163, v164, v165, v166, v167, v168, v169, v170, v171, v172, v173, v174, v175, v176, v177, v178, v179, v180, v181, v182, v183, v184, v185, tz, tz, tz, tz, tz, tz, tz, tz, tz, tz, tz, tz, tz], H⟩ = X5_0_0 d a9 v0 v56 v71 x84 H := by
  unfold r5X0_0; refine Eq.trans (pl_len (by rfl)) ?_; (iterate 4 (refine yt yS ?_)); refine yt yB ?_; (iterate 3 (refine yt yS ?_)); refine yt yA ?_; (iterate 31 (refine yt yS ?_)); refine yt yI ?_; (iterate 31 (refine yt yA ?_)); (iterate 13 (refine yt yS ?_))
  rfl
noncomputable def E5_0 (d : Nat) (a9 : List AV) (v0 v56 v71 : AV) (x84 : Int) (b198 : Bool) (H : Heap) : Ans :=
  C0.fin H (.bool b198)
theorem E5_0_ok (d : Nat) (a0 : List AV) (a1 a2 a3 a4 a5 a6 a7 a8 : Int) (a9 : List AV) (v0 : AV) (b2 : Bool) (v7 : AV) (x8 x9 x10 x11 x12 x13 x14 x15 : Int) (b18 : Bool) (v23 : AV) (x24 x25 x26 x27 x28 x29 x30 x31 x34 x38 : Int) (v45 : AV) (x46 x47 x48 x49 x50 x51 x52 x53 : Int) (v56 v60 : AV) (x61 x62 x63 x64 x65 x66 x67 x68 : Int) (v71 v72 v74 : AV) (x78 : Int) (b81 : Bool) (x84 : Int) (b198 b199 : Bool) (x200 : Int) (v201 v202 : AV) (b203 : Bool) (v204 : AV) (b205 b206 b207 b208 b209 : Bool) (v210 v211 v212 : AV) (b213 b214 : Bool) (v215 v216 : AV) (b217 b218 : Bool) (v219 v220 v221 v222 v223 v224 v225 : AV) (b226 b227 : Bool) (v228 v229 : AV) (b230 : Bool) (v231 : AV) (H : Heap) : r5E0 C0 d a0 a1 a2 a3 a4 a5 a6 a7 a8 a9 v0 b2 v7 x8 x9 x10 x11 x12 x13 x14 x15 b18 v23 x24 x25 x26 x27 x28 x29 x30 x31 x34 x38 v45 x46 x47 x48 x49 x50 x51 x52 x53 v56 v60 x61 x62 x63 x64 x65 x66 x67 x68 v71 v72 v74 x78 b81 x84 ⟨[(.agg [(.lst a0), (iz a1), (iz a2), (iz a3), (iz a4), (iz a5), (iz a6), (iz a7), (iz a8)]), (.lst a9), v0, tz, (.bool b198), v56, v71, tz, (.bool b199), (.bool b2), (.bool (!b2)), bf, (.agg [v7, (iz x8), (iz x9), (iz x10), (iz x11), (iz x12), (iz x13), (iz x14), (iz x15)]), (.bool b18), (.bool (!b18)), (.bool (!b18)), bf, (.agg [v23, (iz x24), (iz x25), (iz x26), (iz x27), (iz x28), (iz x29), (iz x30), (iz x31)]), (iz x34), (.bool (x34 != 0)), (.bool (x34 != 0)), bf, (.lst a9), (iz x38), (.bool (decide (x38 > 200))), bf, tz, (.agg [v45, (iz x46), (iz x47), (iz x48), (iz x49), (iz x50), (iz x51), (iz x52), (iz x53)]), v56, (.agg [v60, (iz x61), (iz x62), (iz x63), (iz x64), (iz x65), (iz x66), (iz x67), (iz x68)]), v71, v71, v72, v74, (iz x78), (iz (IntKind.wrap .i64 (x78 - 1))), (.bool b81), bf, (.lst a9), (iz x84), (iz x200), v201, v202, (.bool b203), v204, (.bool b205), (.bool b206), (.bool b207), (.bool b208), (.bool b209), v210, v211, v212, (.bool b213), (.bool b214), v215, v216, (.bool b217), (.bool b218), v219, v220, v221, v222, v223, v224, v225, (.bool b226), (.bool b227), v228, v229, (.bool b230), v231, tz, tz, tz, tz, tz, tz, tz, tz, tz, tz, tz, tz, tz], H⟩ = E5_0 d a9 v0 v56 v71 x84 b198 H := by
  unfold r5E0; refine Eq.trans (pl_len (by rfl)) ?_; (iterate 4 (refine yt yS ?_)); refine yt yB ?_; (iterate 3 (refine yt yS ?_)); refine yt yB ?_; (iterate 31 (refine yt yS ?_)); refine yt yI ?_; (iterate 2 (refine yt yA ?_)); refine yt yB ?_; refine yt yA ?_; (iterate 5 (refine yt yB ?_)); (iterate 3 (refine yt yA ?_)); (iterate 2 (refine yt yB ?_)); (iterate 2 (refine yt yA ?_)); (iterate 2 (refine yt yB ?_)); (iterate 7 (refine yt yA ?_)); (iterate 2 (refine yt yB ?_)); (iterate 2 (refine yt yA ?_)); refine yt yB ?_; refine yt yA ?_; (iterate 13 (refine yt yS ?_))
  rfl
noncomputable def L5_0 (d : Nat) (a9 : List AV) (v0 v56 v71 : AV) (x84 : Int) : Nat → Int → Heap → Ans
  | 0, _, _ => none
  | n + 1, x90, H =>
  cnd (decide (x90 < x84))
   (C0.hop H (.ixAS .any 1 (.v (.lst a9)) (.v (iz x90))) fun v122 h123 =>
   C0.hop h123 (.load false 1 (.v v122)) fun v124 h125 =>
   C0.bool (some v124) fun b126 =>
   C0.grow h125 [] fun n127 h128 =>
   C0.cal M (pcall M d) 12 true 13 [v56, (.bool b126), (.bool (!b126))] h128 fun v129 h130 =>
   C0.bool (some v129) fun b131 =>
   cnd b131
   (E5_0 d a9 v0 v56 v71 x84 false h130)
   (C0.cal M (pcall M d) 12 true 16 [v56] h130 fun v132 h133 =>
   C0.int .i64 (some v132) fun x134 =>
   cnd (x134 != 0)
   (E5_0 d a9 v0 v56 v71 x84 false h133)
   (C0.cal M (pcall M d) 12 true 13 [v71, bt, bt] h133 fun v135 h136 =>
   C0.bool (some v135) fun b137 =>
   cnd b137
   (E5_0 d a9 v0 v56 v71 x84 false h136)
   (C0.cal M (pcall M d) 12 true 16 [v71] h136 fun v138 h139 =>
   C0.int .i64 (some v138) fun x140 =>
   C0.hop h139 (.fldA 0 (.v v0)) fun v141 h142 =>
   C0.hop h142 (.load false 1 (.v v141)) fun v143 h144 =>
   C0.keep h136 h139 [v141] <|
   C0.hop h144 (.bk .lenV [(.v v143)]) fun v145 h146 =>
   C0.int .i64 (some v145) fun x147 =>
   C0.keep h136 h139 [v143] <|
   cnd (x140 != (IntKind.wrap .i64 (x147 - 1)))
   (E5_0 d a9 v0 v56 v71 x84 false h146)
   (C0.cal M (pcall M d) 12 true 11 [v71, (iz 1099511627776), bt] h146 fun v148 h149 =>
   C0.bool (some v148) fun b150 =>
   cnd b150
   (E5_0 d a9 v0 v56 v71 x84 false h149)
   (L5_0 d a9 v0 v56 v71 x84 n (IntKind.wrap .i64 (x90 + 1)) h149))))))
   (X5_0_0 d a9 v0 v56 v71 x84 H)
theorem L5_0_s (d : Nat) (a9 : List AV) (v0 v56 v71 : AV) (x84 : Int) (n : Nat) (x90 : Int) (H : Heap) : L5_0 d a9 v0 v56 v71 x84 (n + 1) x90 H = (cnd (decide (x90 < x84))
   (C0.hop H (.ixAS .any 1 (.v (.lst a9)) (.v (iz x90))) fun v122 h123 =>
   C0.hop h123 (.load false 1 (.v v122)) fun v124 h125 =>
   C0.bool (some v124) fun b126 =>
   C0.grow h125 [] fun n127 h128 =>
   C0.cal M (pcall M d) 12 true 13 [v56, (.bool b126), (.bool (!b126))] h128 fun v129 h130 =>
   C0.bool (some v129) fun b131 =>
   cnd b131
   (E5_0 d a9 v0 v56 v71 x84 false h130)
   (C0.cal M (pcall M d) 12 true 16 [v56] h130 fun v132 h133 =>
   C0.int .i64 (some v132) fun x134 =>
   cnd (x134 != 0)
   (E5_0 d a9 v0 v56 v71 x84 false h133)
   (C0.cal M (pcall M d) 12 true 13 [v71, bt, bt] h133 fun v135 h136 =>
   C0.bool (some v135) fun b137 =>
   cnd b137
   (E5_0 d a9 v0 v56 v71 x84 false h136)
   (C0.cal M (pcall M d) 12 true 16 [v71] h136 fun v138 h139 =>
   C0.int .i64 (some v138) fun x140 =>
   C0.hop h139 (.fldA 0 (.v v0)) fun v141 h142 =>
   C0.hop h142 (.load false 1 (.v v141)) fun v143 h144 =>
   C0.keep h136 h139 [v141] <|
   C0.hop h144 (.bk .lenV [(.v v143)]) fun v145 h146 =>
   C0.int .i64 (some v145) fun x147 =>
   C0.keep h136 h139 [v143] <|
   cnd (x140 != (IntKind.wrap .i64 (x147 - 1)))
   (E5_0 d a9 v0 v56 v71 x84 false h146)
   (C0.cal M (pcall M d) 12 true 11 [v71, (iz 1099511627776), bt] h146 fun v148 h149 =>
   C0.bool (some v148) fun b150 =>
   cnd b150
   (E5_0 d a9 v0 v56 v71 x84 false h149)
   (L5_0 d a9 v0 v56 v71 x84 n (IntKind.wrap .i64 (x90 + 1)) h149))))))
   (X5_0_0 d a9 v0 v56 v71 x84 H)) := by kernel_rfl
theorem it5_0 (d : Nat) (a0 : List AV) (a1 a2 a3 a4 a5 a6 a7 a8 : Int) (a9 : List AV) (v0 : AV) (b2 : Bool) (v7 : AV) (x8 x9 x10 x11 x12 x13 x14 x15 : Int) (b18 : Bool) (v23 : AV) (x24 x25 x26 x27 x28 x29 x30 x31 x34 x38 : Int) (v45 : AV) (x46 x47 x48 x49 x50 x51 x52 x53 : Int) (v56 v60 : AV) (x61 x62 x63 x64 x65 x66 x67 x68 : Int) (v71 v72 v74 : AV) (x78 : Int) (b81 : Bool) (x84 : Int)   : ∀ (n : Nat) (b88 : Bool) (v89 : AV) (x90 : Int) (v91 v92 v93 v94 v95 v96 v97 v98 v99 v100 v101 v102 v103 v104 v105 v106 v107 v108 v109 v110 v111 v112 v113 v114 v115 v116 v117 v118 v119 v120 v121 : AV) (H : Heap), C0.iter (r5R0 C0 d a0 a1 a2 a3 a4 a5 a6 a7 a8 a9 v0 b2 v7 x8 x9 x10 x11 x12 x13 x14 x15 b18 v23 x24 x25 x26 x27 x28 x29 x30 x31 x34 x38 v45 x46 x47 x48 x49 x50 x51 x52 x53 v56 v60 x61 x62 x63 x64 x65 x66 x67 x68 v71 v72 v74 x78 b81 x84) n ⟨[(.agg [(.lst a0), (iz a1), (iz a2), (iz a3), (iz a4), (iz a5), (iz a6), (iz a7), (iz a8)]), (.lst a9), v0, tz, (.bool b88), v56, v71, tz, v89, (.bool b2), (.bool (!b2)), bf, (.agg [v7, (iz x8), (iz x9), (iz x10), (iz x11), (iz x12), (iz x13), (iz x14), (iz x15)]), (.bool b18), (.bool (!b18)), (.bool (!b18)), bf, (.agg [v23, (iz x24), (iz x25), (iz x26), (iz x27), (iz x28), (iz x29), (iz x30), (iz x31)]), (iz x34), (.bool (x34 != 0)), (.bool (x34 != 0)), bf, (.lst a9), (iz x38), (.bool (decide (x38 > 200))), bf, tz, (.agg [v45, (iz x46), (iz x47), (iz x48), (iz x49), (iz x50), (iz x51), (iz x52), (iz x53)]), v56, (.agg [v60, (iz x61), (iz x62), (iz x63), (iz x64), (iz x65), (iz x66), (iz x67), (iz x68)]), v71, v71, v72, v74, (iz x78), (iz (IntKind.wrap .i64 (x78 - 1))), (.bool b81), bf, (.lst a9), (iz x84), (iz x90), v91, v92, v93, v94, v95, v96, v97, v98, v99, v100, v101, v102, v103, v104, v105, v106, v107, v108, v109, v110, v111, v112, v113, v114, v115, v116, v117, v118, v119, v120, v121, tz, tz, tz, tz, tz, tz, tz, tz, tz, tz, tz, tz, tz], H⟩ [0] [r5X0_0 C0 d a0 a1 a2 a3 a4 a5 a6 a7 a8 a9 v0 b2 v7 x8 x9 x10 x11 x12 x13 x14 x15 b18 v23 x24 x25 x26 x27 x28 x29 x30 x31 x34 x38 v45 x46 x47 x48 x49 x50 x51 x52 x53 v56 v60 x61 x62 x63 x64 x65 x66 x67 x68 v71 v72 v74 x78 b81 x84] (r5E0 C0 d a0 a1 a2 a3 a4 a5 a6 a7 a8 a9 v0 b2 v7 x8 x9 x10 x11 x12 x13 x14 x15 b18 v23 x24 x25 x26 x27 x28 x29 x30 x31 x34 x38 v45 x46 x47 x48 x49 x50 x51 x52 x53 v56 v60 x61 x62 x63 x64 x65 x66 x67 x68 v71 v72 v74 x78 b81 x84) = L5_0 d a9 v0 v56 v71 x84 n x90 H := by
  generalize hR : r5R0 C0 d a0 a1 a2 a3 a4 a5 a6 a7 a8 a9 v0 b2 v7 x8 x9 x10 x11 x12 x13 x14 x15 b18 v23 x24 x25 x26 x27 x28 x29 x30 x31 x34 x38 v45 x46 x47 x48 x49 x50 x51 x52 x53 v56 v60 x61 x62 x63 x64 x65 x66 x67 x68 v71 v72 v74 x78 b81 x84 = R
  intro n
  induction n with
  | zero => intros; rfl
  | succ n ih =>
    intro b88 v89 x90 v91 v92 v93 v94 v95 v96 v97 v98 v99 v100 v101 v102 v103 v104 v105 v106 v107 v108 v109 v110 v111 v112 v113 v114 v115 v116 v117 v118 v119 v120 v121 H
    simp only [it_ret] at ih
    rw [it_ret, xiter_s]
    refine Eq.trans (congrFun (congrFun hR.symm _) _) ?_
    unfold r5R0
    refine Eq.trans (pl_len (by rfl)) ?_; (iterate 4 (refine yt yS ?_)); refine yt yB ?_; (iterate 3 (refine yt yS ?_)); refine yt yA ?_; (iterate 31 (refine yt yS ?_)); refine yt yI ?_; (iterate 31 (refine yt yA ?_)); (iterate 13 (refine yt yS ?_))
    simp only [kIter_n, kIter_x, kIter_r, kOut_x, kOut_r, xgo_hit, xgo_miss, ih, X5_0_0_ok d a0 a1 a2 a3 a4 a5 a6 a7 a8 a9 v0 b2 v7 x8 x9 x10 x11 x12 x13 x14 x15 b18 v23 x24 x25 x26 x27 x28 x29 x30 x31 x34 x38 v45 x46 x47 x48 x49 x50 x51 x52 x53 v56 v60 x61 x62 x63 x64 x65 x66 x67 x68 v71 v72 v74 x78 b81 x84  , E5_0_ok d a0 a1 a2 a3 a4 a5 a6 a7 a8 a9 v0 b2 v7 x8 x9 x10 x11 x12 x13 x14 x15 b18 v23 x24 x25 x26 x27 x28 x29 x30 x31 x34 x38 v45 x46 x47 x48 x49 x50 x51 x52 x53 v56 v60 x61 x62 x63 x64 x65 x66 x67 x68 v71 v72 v74 x78 b81 x84  ]
    exact (L5_0_s d a9 v0 v56 v71 x84 n x90 H).symm
/-- apogee/apogeelaw21.PhaseBoth -/
theorem q5 (d : Nat) (a0 : List AV) (a1 a2 a3 a4 a5 a6 a7 a8 : Int) (a9 : List AV) : xcall C0 M unr d 5 [(.agg [(.lst a0), (iz a1), (iz a2), (iz a3), (iz a4), (iz a5), (iz a6), (iz a7), (iz a8)]), (.lst a9)] =
  C0.hop [] (.box E24 (.v (.agg [(.lst a0), (iz a1), (iz a2), (iz a3), (iz a4), (iz a5), (iz a6), (iz a7), (iz a8)]))) fun v0 h1 =>
  C0.bool (pcall M d 7 []) fun b2 =>
  cnd (!b2)
   (C0.bool (pcall M d 7 []) fun b3 =>
   C0.fin h1 (.bool b3))
   (C0.hop h1 (.load true 9 (.v v0)) fun v4 h5 =>
   C0.agg 9 (some v4) fun l6 =>
   C0.any l6[0]? fun v7 =>
   C0.int .i64 l6[1]? fun x8 =>
   C0.int .i64 l6[2]? fun x9 =>
   C0.int .i64 l6[3]? fun x10 =>
   C0.int .i64 l6[4]? fun x11 =>
   C0.int .i64 l6[5]? fun x12 =>
   C0.int .i64 l6[6]? fun x13 =>
   C0.int .i64 l6[7]? fun x14 =>
   C0.int .i64 l6[8]? fun x15 =>
   C0.snp h5 [(.agg [v7, (iz x8), (iz x9), (iz x10), (iz x11), (iz x12), (iz x13), (iz x14), (iz x15)])] fun l16 b17 =>
   C0.bool (pcall M d 8 l16) fun b18 =>
   cnd (b17 || true)
   (cnd (!b18)
   (C0.bool (pcall M d 7 []) fun b19 =>
   C0.fin h5 (.bool b19))
   (C0.hop h5 (.load true 9 (.v v0)) fun v20 h21 =>
   C0.agg 9 (some v20) fun l22 =>
   C0.any l22[0]? fun v23 =>
   C0.int .i64 l22[1]? fun x24 =>
   C0.int .i64 l22[2]? fun x25 =>
   C0.int .i64 l22[3]? fun x26 =>
   C0.int .i64 l22[4]? fun x27 =>
   C0.int .i64 l22[5]? fun x28 =>
   C0.int .i64 l22[6]? fun x29 =>
   C0.int .i64 l22[7]? fun x30 =>
   C0.int .i64 l22[8]? fun x31 =>
   C0.snp h21 [(.agg [v23, (iz x24), (iz x25), (iz x26), (iz x27), (iz x28), (iz x29), (iz x30), (iz x31)])] fun l32 b33 =>
   C0.int .i64 (pcall M d 10 l32) fun x34 =>
   cnd (b33 || true)
   (cnd (x34 != 0)
   (C0.bool (pcall M d 7 []) fun b35 =>
   C0.fin h21 (.bool b35))
   (C0.hop h21 (.bk .lenV [(.v (.lst a9))]) fun v36 h37 =>
   C0.int .i64 (some v36) fun x38 =>
   cnd (decide (x38 > 200))
   (C0.bool (pcall M d 7 []) fun b39 =>
   C0.fin h37 (.bool b39))
   (C0.grow h37 [] fun n40 h41 =>
   C0.hop h41 (.load true 9 (.v v0)) fun v42 h43 =>
   C0.agg 9 (some v42) fun l44 =>
   C0.any l44[0]? fun v45 =>
   C0.int .i64 l44[1]? fun x46 =>
   C0.int .i64 l44[2]? fun x47 =>
   C0.int .i64 l44[3]? fun x48 =>
   C0.int .i64 l44[4]? fun x49 =>
   C0.int .i64 l44[5]? fun x50 =>
   C0.int .i64 l44[6]? fun x51 =>
   C0.int .i64 l44[7]? fun x52 =>
   C0.int .i64 l44[8]? fun x53 =>
   C0.cal M (pcall M d) 12 true 9 [(.agg [v45, (iz x46), (iz x47), (iz x48), (iz x49), (iz x50), (iz x51), (iz x52), (iz x53)])] h43 fun v54 h55 =>
   C0.any (some v54) fun v56 =>
   C0.hop h55 (.load true 9 (.v v0)) fun v57 h58 =>
   C0.agg 9 (some v57) fun l59 =>
   C0.any l59[0]? fun v60 =>
   C0.int .i64 l59[1]? fun x61 =>
   C0.int .i64 l59[2]? fun x62 =>
   C0.int .i64 l59[3]? fun x63 =>
   C0.int .i64 l59[4]? fun x64 =>
   C0.int .i64 l59[5]? fun x65 =>
   C0.int .i64 l59[6]? fun x66 =>
   C0.int .i64 l59[7]? fun x67 =>
   C0.int .i64 l59[8]? fun x68 =>
   C0.keep h43 h55 [v0] <|
   C0.cal M (pcall M d) 12 true 9 [(.agg [v60, (iz x61), (iz x62), (iz x63), (iz x64), (iz x65), (iz x66), (iz x67), (iz x68)])] h58 fun v69 h70 =>
   C0.any (some v69) fun v71 =>
   C0.hop h70 (.fldA 0 (.v v0)) fun v72 h73 =>
   C0.hop h73 (.load false 1 (.v v72)) fun v74 h75 =>
   C0.hop h75 (.bk .lenV [(.v v74)]) fun v76 h77 =>
   C0.int .i64 (some v76) fun x78 =>
   C0.cal M (pcall M d) 12 true 15 [v71, (iz (IntKind.wrap .i64 (x78 - 1))), (iz 5)] h77 fun v79 h80 =>
   C0.bool (some v79) fun b81 =>
   cnd (!b81)
   (C0.fin h80 bf)
   (C0.hop h80 (.bk .lenV [(.v (.lst a9))]) fun v82 h83 =>
   C0.int .i64 (some v82) fun x84 =>
   L5_0 d a9 v0 v56 v71 x84 10000000000000000000 0 h83))))
   (none)))
   (none)) := (r5 C0 d a0 a1 a2 a3 a4 a5 a6 a7 a8 a9).trans (by simp only [it5_0])
end Go.Proofs.Ytdceaeifcniabaa.AE

namespace Go.Proofs.Ytdceaeifcniabaa.AE
set_option linter.unusedVariables false
set_option linter.unusedSimpArgs false
set_option linter.constructorNameAsVariable false
open Go Go.Proofs.Ytdceaeifcniabaa.Geo
set_option maxRecDepth 100000
attribute [local irreducible] pcall C0 callB
theorem mach_keep2 {H H' : Heap} {id cid lo hi a b : Nat} {v : AV} {r : Rul} {ph : Nat} {c : Int} (h : Mach H id cid lo hi v r ph c) (e : Ext2 a b H H') (ha : (a < lo ∨ hi ≤ a) ∧ a ≠ id ∧ a ≠ cid) (hb : (b < lo ∨ hi ≤ b) ∧ b ≠ id ∧ b ≠ cid) : Mach H' id cid lo hi v r ph c :=
  ⟨e _ _ (Ne.symm ha.2.1) (Ne.symm hb.2.1) h.m, e _ _ (Ne.symm ha.2.2) (Ne.symm hb.2.2) h.k, cp_mono h.cp (Nat.le_refl _) (Nat.le_refl _) fun _ _ _ _ x => e _ _ (by omega) (by omega) x, h.ne, h.h1, h.h2, h.p, h.c0, h.len⟩
theorem both_go (r : Rul) (l : List Bool) (hl : l.length ≤ 200) (hps : ∀ p ∈ r.phs, p.ps ≠ [] ∧ p.ps.length ≤ 1000000) (ia ca la ha ib cb lb hb : Nat) (va vb : AV) (h0 : 0 < ia ∧ 0 < ca ∧ 0 < ib ∧ 0 < cb) (hlb : ia < lb ∧ ca < lb) (hib : ia < ib ∧ ca < ib ∧ ia < cb ∧ ca < cb) : ∀ (k i : Nat), i + k = l.length → ∀ f, k < f → ∀ (H : Heap), hget H 0 = some ⟨E24, [rl r]⟩ → Mach H ia ca la ha va r 0 ((i : Nat) : Int) → Mach H ib cb lb hb vb r (r.phs.length - 1) ((i + 5 : Nat) : Int) →
    L5_0 40 (l.map AV.bool) (.ptr 0 0 0) (.ptr ia 0 0) (.ptr ib 0 0) (l.length : Nat) f (i : Nat) H = some (.bool true)
  | 0, i, h, f + 1, _, H, _, ma, mb => by
    rw [L5_0_s, decide_eq_false (by omega), cnd_f]
    unfold X5_0_0
    refine Eq.trans (cal_eq (m_in 40 2 ma)) ?_
    refine Eq.trans (pl_int (by rfl)) ?_
    refine Eq.trans len_lst ?_
    refine Eq.trans (pl_int (by rfl)) ?_
    rw [List.length_map, show i = l.length by omega, beq_self_eq_true, cnd_t]
    refine Eq.trans (cal_eq (m_in 40 2 mb)) ?_
    refine Eq.trans (pl_int (by rfl)) ?_
    refine Eq.trans len_lst ?_
    refine Eq.trans (pl_int (by rfl)) ?_
    rw [List.length_map, i64_small (by omega) (by omega), show (((i + 5 : Nat) : Int) == ((l.length : Nat) : Int) + 5) = true by rw [beq_iff_eq]; omega]
    exact fin_bl
  | k + 1, i, h, f + 1, hf, H, hz, ma, mb => by
    have hi' : i < l.length := by omega
    have hw : IntKind.wrap .i64 (((i : Nat) : Int) + 1) = ((i + 1 : Nat) : Int) := by rw [i64w]; omega
    have hp := mb.p
    have hln := mb.len
    have hw2 : IntKind.wrap .i64 (((r.phs.length : Nat) : Int) - 1) = ((r.phs.length - 1 : Nat) : Int) := by rw [i64w]; omega
    rw [L5_0_s, decide_eq_true (by omega), cnd_t]
    refine Eq.trans (ix_lst (x := .bool l[i]) (by omega) (by rw [show (((i : Nat) : Int)).toNat = i by omega, List.getElem?_map, List.getElem?_eq_getElem hi']; rfl) rfl) ?_
    refine Eq.trans (ld_fptr (v := .bool l[i]) rfl) ?_
    refine Eq.trans (pl_bool (by rfl)) ?_
    generalize l[i] = b
    refine Eq.trans gr_nil ?_
    obtain ⟨H1, y1, m1, x1⟩ := m_cycle 40 1 b (!b) ma
    have e1 : stepP r 0 ((i : Nat) : Int) b (!b) = (false, 0, ((i + 1 : Nat) : Int)) := by
      unfold stepP
      have : (b && (!b && !decide (0 + 1 = r.phs.length))) = false := by cases b <;> rfl
      rw [this, cond_false, if_neg (by omega)]; rfl
    rw [e1] at y1 m1
    have b1 := mach_keep2 mb x1 ⟨.inl hlb.1, by omega, by omega⟩ ⟨.inl hlb.2, by omega, by omega⟩
    have z1 := x1 _ _ (by omega) (by omega) hz
    obtain ⟨H2, y2, m2, x2⟩ := m_cycle 40 1 true true b1
    have e2 : stepP r (r.phs.length - 1) ((i + 5 : Nat) : Int) true true = (false, r.phs.length - 1, ((i + 1 + 5 : Nat) : Int)) := by
      unfold stepP
      rw [decide_eq_true (show r.phs.length - 1 + 1 = r.phs.length by omega)]
      change (false, r.phs.length - 1, if (1000000 : Int) < ((i + 5 : Nat) : Int) + 1 then (1000000 : Int) else ((i + 5 : Nat) : Int) + 1) = _
      rw [if_neg (by omega), show ((i + 5 : Nat) : Int) + 1 = ((i + 1 + 5 : Nat) : Int) by omega]
    rw [e2] at y2 m2
    have hha := ma.h1
    have hha2 := ma.h2
    have a2 := mach_keep2 m1 x2 ⟨.inr (by omega), by omega, by omega⟩ ⟨.inr (by omega), by omega, by omega⟩
    have z2 := x2 _ _ (by omega) (by omega) z1
    obtain ⟨p1, p2⟩ := hps _ (List.getElem_mem m2.p)
    obtain ⟨H3, w1, x3⟩ := m_wish 40 0 1099511627776 true m2 p1 p2
    have ew : wishX r (r.phs.length - 1) m2.p ((i + 1 + 5 : Nat) : Int) 1099511627776 true = false := by
      unfold wishX
      rw [decide_eq_true (show r.phs.length - 1 + 1 = r.phs.length by omega)]; rfl
    rw [ew] at w1
    refine Eq.trans (cal_eq y1) ?_
    refine Eq.trans (pl_bool (by rfl)) ?_
    refine Eq.trans (pl_f rfl) ?_
    refine Eq.trans (cal_eq (m_phase 40 3 m1)) ?_
    refine Eq.trans (pl_int (by rfl)) ?_
    refine Eq.trans (pl_f rfl) ?_
    refine Eq.trans (cal_eq y2) ?_
    refine Eq.trans (pl_bool (by rfl)) ?_
    refine Eq.trans (pl_f rfl) ?_
    refine Eq.trans (cal_eq (m_phase 40 3 m2)) ?_
    refine Eq.trans (pl_int (by rfl)) ?_
    refine Eq.trans sh_ptr ?_
    refine Eq.trans (ld_ptr (v := .lst (r.phs.map phA)) z2 rfl rfl) ?_
    refine Eq.trans (keep_1 rfl) ?_
    refine Eq.trans len_lst ?_
    refine Eq.trans (pl_int (by rfl)) ?_
    refine Eq.trans (keep_ok fun v hv id hi => by
      simp only [List.mem_singleton] at hv
      subst hv; cases hi) ?_
    rw [List.length_map, hw2]
    refine Eq.trans (pl_f (by simp)) ?_
    refine Eq.trans (cal_eq w1) ?_
    refine Eq.trans (pl_bool (by rfl)) ?_
    refine Eq.trans (pl_f rfl) ?_
    rw [hw]
    exact both_go r l hl hps ia ca la ha ib cb lb hb va vb h0 hlb hib k (i + 1) (by omega) f (by omega) H3 (x3 _ _ z2) (mach_ext a2 x3) (mach_ext m2 x3)
theorem both_law (r : Rul) (l : List Bool) (hl : r.phs.length ≤ 9223372036854775807) : pcall M 41 5 [rl r, .lst (l.map AV.bool)] = some (.bool true) := told (q5 40 _ _ _ _ _ _ _ _ _ _) (by
  let Z : Heap := [some ⟨E24, [rl r]⟩]
  have hz : hget Z 0 = some ⟨E24, [rl r]⟩ := rfl
  refine Eq.trans (hop_eq (v := .ptr 0 0 0) (H' := Z) (by rfl)) ?_
  refine Eq.trans (pl_bool awake) ?_
  refine Eq.trans (pl_f (by rfl)) ?_
  refine Eq.trans (ld_ptr (v := rl r) hz rfl rfl) ?_
  refine Eq.trans (pl_agg (by rfl) (by rfl)) ?_; refine Eq.trans (pl_any (by rfl)) ?_; refine Eq.trans (pl_int (by rfl)) ?_; refine Eq.trans (pl_int (by rfl)) ?_; refine Eq.trans (pl_int (by rfl)) ?_; refine Eq.trans (pl_int (by rfl)) ?_; refine Eq.trans (pl_int (by rfl)) ?_; refine Eq.trans (pl_int (by rfl)) ?_; refine Eq.trans (pl_int (by rfl)) ?_; refine Eq.trans (pl_int (by rfl)) ?_
  refine Eq.trans (snp_free (by rfl)) ?_
  refine Eq.trans (pl_bool (s8 39 r hl)) ?_
  refine Eq.trans (pl_len (by rfl)) ?_
  by_cases hf : fewX r.phs = true
  rotate_left
  · refine Eq.trans (pl_len (by rw [Bool.eq_false_iff.mpr hf]; rfl)) ?_
    refine Eq.trans (pl_bool awake) ?_
    exact fin_bl
  refine Eq.trans (pl_f (by rw [hf]; rfl)) ?_
  obtain ⟨f1, f2⟩ := few_t hf
  have ha : ∀ p ∈ r.phs, p.ps.length ≤ 140737488355328 := fun p hp => by have := f1 p hp; omega
  have ha6 : ∀ p ∈ r.phs, p.ps.length ≤ 1000000 := fun p hp => by have := f1 p hp; omega
  refine Eq.trans (ld_ptr (v := rl r) hz rfl rfl) ?_
  refine Eq.trans (pl_agg (by rfl) (by rfl)) ?_; refine Eq.trans (pl_any (by rfl)) ?_; refine Eq.trans (pl_int (by rfl)) ?_; refine Eq.trans (pl_int (by rfl)) ?_; refine Eq.trans (pl_int (by rfl)) ?_; refine Eq.trans (pl_int (by rfl)) ?_; refine Eq.trans (pl_int (by rfl)) ?_; refine Eq.trans (pl_int (by rfl)) ?_; refine Eq.trans (pl_int (by rfl)) ?_; refine Eq.trans (pl_int (by rfl)) ?_
  refine Eq.trans (snp_free (by rfl)) ?_
  refine Eq.trans (pl_int (s10 29 r (by omega) ha)) ?_
  refine Eq.trans (pl_len (by rfl)) ?_
  by_cases hw : wrongX r = 0
  rotate_left
  · refine Eq.trans (pl_len (by simpa using hw)) ?_
    refine Eq.trans (pl_bool awake) ?_
    exact fin_bl
  refine Eq.trans (pl_f (by simp [hw])) ?_
  refine Eq.trans len_lst ?_
  refine Eq.trans (pl_int (by rfl)) ?_
  rw [List.length_map]
  by_cases hn : l.length ≤ 200
  rotate_left
  · rw [decide_eq_true (by omega), cnd_t]
    refine Eq.trans (pl_bool awake) ?_
    exact fin_bl
  rw [decide_eq_false (by omega), cnd_f]
  refine Eq.trans gr_nil ?_
  refine Eq.trans (ld_ptr (v := rl r) hz rfl rfl) ?_
  refine Eq.trans (pl_agg (by rfl) (by rfl)) ?_; refine Eq.trans (pl_any (by rfl)) ?_; refine Eq.trans (pl_int (by rfl)) ?_; refine Eq.trans (pl_int (by rfl)) ?_; refine Eq.trans (pl_int (by rfl)) ?_; refine Eq.trans (pl_int (by rfl)) ?_; refine Eq.trans (pl_int (by rfl)) ?_; refine Eq.trans (pl_int (by rfl)) ?_; refine Eq.trans (pl_int (by rfl)) ?_; refine Eq.trans (pl_int (by rfl)) ?_
  obtain ⟨w1, w2⟩ := wrong_ph hw
  obtain ⟨ia, ca, la, ha', va, H1, a1, a2, a3, a4, a5, a6⟩ := new_ok r Z (by omega) ha6 (by omega) hw
  obtain ⟨ib, cb, lb, hb', vb, H2, b1, b2, b3, b4, b5, b6⟩ := new_ok r H1 (by omega) ha6 (by omega) hw
  have z1 := a2 _ _ hz
  have z2 := b2 _ _ z1
  have ai := hg_lt a3.m
  have ac := hg_lt a3.k
  refine Eq.trans (cal_eq a1) ?_
  refine Eq.trans (pl_any (by rfl)) ?_
  refine Eq.trans (ld_ptr (v := rl r) z1 rfl rfl) ?_
  refine Eq.trans (pl_agg (by rfl) (by rfl)) ?_; refine Eq.trans (pl_any (by rfl)) ?_; refine Eq.trans (pl_int (by rfl)) ?_; refine Eq.trans (pl_int (by rfl)) ?_; refine Eq.trans (pl_int (by rfl)) ?_; refine Eq.trans (pl_int (by rfl)) ?_; refine Eq.trans (pl_int (by rfl)) ?_; refine Eq.trans (pl_int (by rfl)) ?_; refine Eq.trans (pl_int (by rfl)) ?_; refine Eq.trans (pl_int (by rfl)) ?_
  refine Eq.trans (keep_g hz z1) ?_
  refine Eq.trans (cal_eq b1) ?_
  refine Eq.trans (pl_any (by rfl)) ?_
  refine Eq.trans sh_ptr ?_
  refine Eq.trans (ld_ptr (v := .lst (r.phs.map phA)) z2 rfl rfl) ?_
  refine Eq.trans len_lst ?_
  refine Eq.trans (pl_int (by rfl)) ?_
  rw [List.length_map, show IntKind.wrap .i64 (((r.phs.length : Nat) : Int) - 1) = ((r.phs.length - 1 : Nat) : Int) by rw [i64w]; omega]
  obtain ⟨H3, s1, s2, s3⟩ := m_set 40 2 ((r.phs.length - 1 : Nat) : Int) 5 b3
  rw [if_pos (by omega)] at s3
  rw [decide_eq_true (by omega)] at s1
  refine Eq.trans (cal_eq s1) ?_
  refine Eq.trans (pl_bool (by rfl)) ?_
  refine Eq.trans (pl_f rfl) ?_
  refine Eq.trans len_lst ?_
  refine Eq.trans (pl_int (by rfl)) ?_
  rw [List.length_map]
  have aa := mach_ext a3 b2
  have h1 := a3.h1
  have h2 := a3.h2
  exact both_go r l hn (fun p hp => ⟨w2 p hp, ha6 p hp⟩) ia ca la ha' ib cb lb hb' va vb (by omega) (by omega) (by omega) l.length 0 (by omega) 10000000000000000000 (by omega) H3 (s2 _ _ (by omega) (by omega) z2) (mach_keep2 aa s2 ⟨.inr (by omega), by omega, by omega⟩ ⟨.inr (by omega), by omega, by omega⟩) s3)
theorem rows_bool : ∀ l : List AV, (∀ x ∈ l, ∃ cs, cs = [x] ∧ CTall [CT.b] cs) → ∃ ps : List Bool, l = ps.map AV.bool
  | [], _ => ⟨[], rfl⟩
  | x :: l, h => by
    obtain ⟨ps, rfl⟩ := rows_bool l fun y hy => h y (List.mem_cons_of_mem _ hy)
    obtain ⟨_, e, _, _, rfl, ⟨b, rfl⟩, rfl⟩ := h x (List.mem_cons_self ..)
    injection e with e _
    subst e
    exact ⟨b :: ps, rfl⟩
theorem law_PhaseBoth (a0 : AV) (a1 : AV) (w0 : TyOK true [(.sl true [(.sl true [(.i .i64), (.i .i64)]), (.i .i64), (.i .i64), (.i .i64), (.i .i64)]), (.i .i64), (.i .i64), (.i .i64), (.i .i64), (.i .i64), (.i .i64), (.i .i64), (.i .i64)] a0) (w1 : TyOK false [(.sl false [.b])] a1) :
    pcall M 41 5 [a0, a1] = some (.bool true) := by
  obtain ⟨r, rfl, hl⟩ := ty_rul w0
  obtain ⟨_, rfl, _, _, e, ⟨l, rfl, hl', hx⟩, rfl⟩ := w1
  obtain ⟨bs, rfl⟩ := rows_bool l hx
  injection e with e _
  subst e
  exact both_law r bs hl
end Go.Proofs.Ytdceaeifcniabaa.AE

namespace Go.Proofs.Ytdceaeifcniabaa.AE
set_option linter.unusedVariables false
set_option linter.unusedSimpArgs false
set_option linter.constructorNameAsVariable false
open Go Go.RowKit

theorem frl_nil {w : World} {bad : Nat → Prop} : ∀ (i : Nat) (c : AV) (u : Value), ([] : List AV)[i]? = some c → ([] : List Value)[i]? = some u → FRep w bad c u := fun _ _ _ h => by cases h
theorem frl_cons {w : World} {bad : Nat → Prop} {c0 : AV} {u0 : Value} {cs : List AV} {us : List Value} (h0 : FRep w bad c0 u0) (h : ∀ (i : Nat) (c : AV) (u : Value), cs[i]? = some c → us[i]? = some u → FRep w bad c u) :
    ∀ (i : Nat) (c : AV) (u : Value), (c0 :: cs)[i]? = some c → (u0 :: us)[i]? = some u → FRep w bad c u
  | 0, c, u, hc, hu => by cases hc; cases hu; exact h0
  | i + 1, c, u, hc, hu => h i c u hc hu
theorem law_calls {d : Nat} {g : FuncId} {args : List AV} {vs : List Value} (h : pcall M d g args = some (.bool true)) (W : World) (hl : args.length = vs.length)
    (hr : ∀ (i : Nat) (c : AV) (u : Value), args[i]? = some c → vs[i]? = some u → FRep W (fun _ => False) c u) (hc : (cFn Try.prog g).isSome = true := by kernel_rfl) : Calls Try.prog g vs.toArray W fun e W' => e = .returned (.bool true) ∧ Below W.heap.size W W' := by
  obtain ⟨fn, hfn⟩ := Option.isSome_iff_exists.mp hc
  rcases pcall_law modOK d g args _ h W (fun _ => False) vs (fun _ h => h.elim) hl hr with ⟨cv, w', h1, _⟩ | ⟨_, h2⟩
  · rw [enter_run hfn] at h1; cases h1
  · refine h2.mono ?_
    rintro e W' ⟨cv, rfl, hf, hb⟩
    cases hf
    exact ⟨rfl, hb⟩
theorem str_size {w : World} {bad : Nat → Prop} {b : List UInt8} {s : ByteArray} (h : FRep w bad (.str b) (.string s)) : s.data.toList.length = b.length := by
  cases h
  rfl
end Go.Proofs.Ytdceaeifcniabaa.AE
